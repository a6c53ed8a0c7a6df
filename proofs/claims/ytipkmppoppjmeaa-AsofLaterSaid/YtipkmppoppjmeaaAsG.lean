/- SameInts, SameTexts, Has; the chapter's example. -/
import Derived.Test.YtipkmppoppjmeaaAsF
namespace Go.Proofs.Ytipkmppoppjmeaa
set_option maxRecDepth 8000
open Go.RowKit Go.Maps
/-- Ints in memory. -/
abbrev Is (L : List Int) : List (Array Value) := V1 (L.map (Value.int .i64))
theorem Is_len (L : List Int) : (Is L).length = L.length := by unfold Is; rw [V1_len, List.length_map]
theorem Is.made1 (b : Nat) (x : Int) : SlAt 1 (.slice (some ⟨b, 0, none⟩) 1 1) (Is [x]) [(b, rowsOf [#[.int .i64 x]])] := SlAt.made b (Is [x]) (V1_size _)
theorem Is.made2 (b : Nat) (x y : Int) : SlAt 1 (.slice (some ⟨b, 0, none⟩) 2 2) (Is [x, y]) [(b, rowsOf [#[.int .i64 x], #[.int .i64 y]])] := SlAt.made b (Is [x, y]) (V1_size _)
theorem Vs.made2 (b : Nat) (x y : List UInt8) : SlAt 1 (.slice (some ⟨b, 0, none⟩) 2 2) (Vs [x, y]) [(b, rowsOf [#[encStr x], #[encStr y]])] := SlAt.made b (Vs [x, y]) (V1_size _)
theorem RdS.cell1 {w : World} {A : Option Addr} {n cap : Nat} {vs : List Value} (h : RdS 1 w (.slice A n cap) (V1 vs)) {i : Nat} {v : Value} (hi : vs[i]? = some v) : ∃ b off, A = some ⟨b, off, none⟩ ∧ w.cell? ⟨b, off + i, none⟩ = some v := by
  obtain ⟨b, off, cs, cap', e, hb, hc⟩ := h.get (k := i) (c := #[v]) (by unfold V1; rw [List.getElem?_map, hi]; rfl)
  injection e with e1 e2 e3
  refine ⟨b, off, e1, ?_⟩
  have := hc 0 (by decide)
  rw [Nat.mul_one, Nat.add_zero] at this
  rw [hb.cell, this]; rfl
theorem RdS.cellI {w : World} {A : Option Addr} {n cap : Nat} {L : List Int} (h : RdS 1 w (.slice A n cap) (Is L)) {i : Nat} {x : Int} (hi : L[i]? = some x) : ∃ b off, A = some ⟨b, off, none⟩ ∧ w.cell? ⟨b, off + i, none⟩ = some (.int .i64 x) :=
  RdS.cell1 h (by rw [List.getElem?_map, hi]; rfl)
theorem RdS.cellS {w : World} {A : Option Addr} {n cap : Nat} {L : List (List UInt8)} (h : RdS 1 w (.slice A n cap) (Vs L)) {i : Nat} {x : List UInt8} (hi : L[i]? = some x) : ∃ b off, A = some ⟨b, off, none⟩ ∧ w.cell? ⟨b, off + i, none⟩ = some (encStr x) :=
  RdS.cell1 h (by rw [List.getElem?_map, hi]; rfl)
theorem take_step {α : Type} {L M : List α} {i : Nat} {x : α} (h1 : L[i]? = some x) (h2 : M[i]? = some x) (h : L.take i = M.take i) : L.take (i + 1) = M.take (i + 1) := by
  rw [List.take_add_one, List.take_add_one, h1, h2, h]
theorem ne_at {α : Type} {L M : List α} {i : Nat} {x y : α} (h1 : L[i]? = some x) (h2 : M[i]? = some y) (h : x ≠ y) : L ≠ M := by
  rintro rfl; rw [h1] at h2; injection h2 with h2; exact h h2
set_option maxHeartbeats 4000000 in
theorem sameInts_any (va vb : Value) (L M : List Int) (w : World) (hL : RdS 1 w va (Is L)) (hM : RdS 1 w vb (Is M)) (h1 : L.length ≤ 4611686018427387904) (_h2 : M.length ≤ 4611686018427387904) (r : Bool) (hr : Hid (r = decide (L = M))) :
    Calls Try.prog 18 #[va, vb] w fun e w' => e = .returned (.bool r) ∧ Below w.heap.size w w' := by
  have HM := Mem.start w
  obtain ⟨A, cap, rfl⟩ := hL.form1
  obtain ⟨B, cap2, rfl⟩ := hM.form1
  have HL := Lib.hid hL
  have HN := Lib.hid hM
  clear hL hM
  rw [Is_len] at HL HN ⊢
  rw [Is_len]
  by_cases hl : L.length = M.length
  · rw [← hl] at HN ⊢
    have g1 : ((L.length : Int) != (L.length : Int)) = false := by simp
    go_enter Try.func18, Try.ntmps18
    go_wp2_with fail
    go_loopw [5] (fun iv wr => ∃ (i : Nat), iv = .int .i64 (i : Nat) ∧ i ≤ L.length ∧ Hid (L.take i = M.take i) ∧ Mem w [] [] wr) (fun iv _ => L.length - (intOf iv).toNat)
    case atStart => exact ⟨0, rfl, by omega, Lib.hid (by simp), HM⟩
    case round =>
      clear HM
      obtain ⟨i, rfl, hi, HT, HM⟩ := hrel
      by_cases hlt : i < L.length
      · obtain ⟨x, hx⟩ : ∃ x, L[i]? = some x := ⟨_, List.getElem?_eq_getElem hlt⟩
        obtain ⟨y, hy⟩ : ∃ y, M[i]? = some y := ⟨_, List.getElem?_eq_getElem (by omega)⟩
        obtain ⟨b, off, rfl, c1⟩ := (HL.out.below HM.low).cellI hx
        obtain ⟨b2, off2, rfl, c2⟩ := (HN.out.below HM.low).cellI hy
        have hlt1 : (i : Int) < L.length := by omega
        by_cases hxy : x = y
        · subst hxy
          have HT2 := Lib.hid (take_step hx hy HT.out)
          have g2 : (x != x) = false := by simp
          clear hx hy
          go_wp2_with fail
          go_quiet (fail)
          go_wp2_with fail
          go_roundw
          case rel => exact ⟨i + 1, by go_num, by omega, HT2, HM.drewN _⟩
          case measure => simp [intOf]; omega
        · obtain rfl : r = false := by rw [hr.out]; exact decide_eq_false (ne_at hx hy hxy)
          have g2 : (x != y) = true := by simpa using hxy
          clear hx hy hxy
          go_wp2_with fail
          go_quiet (fail)
          go_wp2_with fail
          go_ret
          exact ⟨rfl, (HM.drewN _).low⟩
      · obtain rfl : i = L.length := by omega
        obtain rfl : r = true := by
          have h := HT.out
          rw [List.take_length, hl, List.take_length] at h
          rw [hr.out]; exact decide_eq_true h
        go_wp2_with fail
        go_ret
        exact ⟨rfl, HM.low⟩
  · obtain rfl : r = false := by rw [hr.out]; exact decide_eq_false (fun h => hl (by rw [h]))
    have g1 : ((L.length : Int) != (M.length : Int)) = true := by simp; omega
    go_enter Try.func18, Try.ntmps18
    go_wp2_with fail
    go_ret
    exact ⟨rfl, HM.low⟩
set_option maxHeartbeats 4000000 in
theorem sameTexts_any (va vb : Value) (L M : List (List UInt8)) (w : World) (hL : RdS 1 w va (Vs L)) (hM : RdS 1 w vb (Vs M)) (h1 : L.length ≤ 4611686018427387904) (_h2 : M.length ≤ 4611686018427387904) (r : Bool) (hr : Hid (r = decide (L = M))) :
    Calls Try.prog 19 #[va, vb] w fun e w' => e = .returned (.bool r) ∧ Below w.heap.size w w' := by
  have HM := Mem.start w
  obtain ⟨A, cap, rfl⟩ := hL.form1
  obtain ⟨B, cap2, rfl⟩ := hM.form1
  have HL := Lib.hid hL
  have HN := Lib.hid hM
  clear hL hM
  rw [Vs_len] at HL HN ⊢
  rw [Vs_len]
  by_cases hl : L.length = M.length
  · rw [← hl] at HN ⊢
    have g1 : ((L.length : Int) != (L.length : Int)) = false := by simp
    go_enter Try.func19, Try.ntmps19
    go_wp2_with fail
    go_loopw [5] (fun iv wr => ∃ (i : Nat), iv = .int .i64 (i : Nat) ∧ i ≤ L.length ∧ Hid (L.take i = M.take i) ∧ Mem w [] [] wr) (fun iv _ => L.length - (intOf iv).toNat)
    case atStart => exact ⟨0, rfl, by omega, Lib.hid (by simp), HM⟩
    case round =>
      clear HM
      obtain ⟨i, rfl, hi, HT, HM⟩ := hrel
      by_cases hlt : i < L.length
      · obtain ⟨x, hx⟩ : ∃ x, L[i]? = some x := ⟨_, List.getElem?_eq_getElem hlt⟩
        obtain ⟨y, hy⟩ : ∃ y, M[i]? = some y := ⟨_, List.getElem?_eq_getElem (by omega)⟩
        obtain ⟨b, off, rfl, c1⟩ := (HL.out.below HM.low).cellS hx
        obtain ⟨b2, off2, rfl, c2⟩ := (HN.out.below HM.low).cellS hy
        obtain ⟨s, hs⟩ : ∃ s : ByteArray, s = ⟨x.toArray⟩ := ⟨_, rfl⟩
        obtain ⟨t, ht⟩ : ∃ t : ByteArray, t = ⟨y.toArray⟩ := ⟨_, rfl⟩
        have es : encStr x = .string s := by rw [hs]
        have et : encStr y = .string t := by rw [ht]
        rw [es] at c1
        rw [et] at c2
        have hlt1 : (i : Int) < L.length := by omega
        by_cases hxy : x = y
        · subst hxy
          obtain rfl : s = t := by rw [hs, ht]
          have HT2 := Lib.hid (take_step hx hy HT.out)
          have g2 := bytes_eq s
          clear hx hy es et hs ht
          go_wp2_with fail
          go_quiet (fail)
          go_wp2_with fail
          go_roundw
          case rel => exact ⟨i + 1, by go_num, by omega, HT2, HM.drewN _⟩
          case measure => simp [intOf]; omega
        · obtain rfl : r = false := by rw [hr.out]; exact decide_eq_false (ne_at hx hy hxy)
          have g2 := bytes_ne (x := s) (y := t) (fun e => hxy (by
            have e2 : s.data.toList = t.data.toList := by rw [e]
            rw [hs, ht] at e2; simpa using e2))
          clear hx hy hxy es et hs ht
          go_wp2_with fail
          go_quiet (fail)
          go_wp2_with fail
          go_ret
          exact ⟨rfl, (HM.drewN _).low⟩
      · obtain rfl : i = L.length := by omega
        obtain rfl : r = true := by
          have h := HT.out
          rw [List.take_length, hl, List.take_length] at h
          rw [hr.out]; exact decide_eq_true h
        go_wp2_with fail
        go_ret
        exact ⟨rfl, HM.low⟩
  · obtain rfl : r = false := by rw [hr.out]; exact decide_eq_false (fun h => hl (by rw [h]))
    have g1 : ((L.length : Int) != (M.length : Int)) = true := by simp; omega
    go_enter Try.func19, Try.ntmps19
    go_wp2_with fail
    go_ret
    exact ⟨rfl, HM.low⟩
set_option maxHeartbeats 4000000 in
theorem has_any (va : Value) (L : List (List UInt8)) (s : ByteArray) (w : World) (hL : RdS 1 w va (Vs L)) (h1 : L.length ≤ 4611686018427387904) (r : Bool) (hr : Hid (r = decide (s.data.toList ∈ L))) :
    Calls Try.prog 25 #[va, .string s] w fun e w' => e = .returned (.bool r) ∧ Below w.heap.size w w' := by
  have HM := Mem.start w
  obtain ⟨A, cap, rfl⟩ := hL.form1
  have HL := Lib.hid hL
  clear hL
  rw [Vs_len] at HL ⊢
  go_enter Try.func25, Try.ntmps25
  go_wp2_with fail
  go_loopw [5] (fun iv wr => ∃ (i : Nat), iv = .int .i64 (i : Nat) ∧ i ≤ L.length ∧ Hid (s.data.toList ∉ L.take i) ∧ Mem w [] [] wr) (fun iv _ => L.length - (intOf iv).toNat)
  case atStart => exact ⟨0, rfl, by omega, Lib.hid (by simp), HM⟩
  case round =>
    clear HM
    obtain ⟨i, rfl, hi, HT, HM⟩ := hrel
    by_cases hlt : i < L.length
    · obtain ⟨x, hx⟩ : ∃ x, L[i]? = some x := ⟨_, List.getElem?_eq_getElem hlt⟩
      obtain ⟨b, off, cs, rfl, HB, l0⟩ := HL.out.at1 (i := i) (v := encStr x) (by rw [List.getElem?_map, hx]; rfl) (T := 9) (by kernel_rfl)
      obtain ⟨t, ht⟩ : ∃ t : ByteArray, t = ⟨x.toArray⟩ := ⟨_, rfl⟩
      have htd : t.data.toList = x := by rw [ht]
      have es : encStr x = .string t := by rw [ht]
      rw [es] at l0
      have hlt1 : (i : Int) < L.length := by omega
      by_cases hxy : t = s
      · subst hxy
        obtain rfl : r = true := by rw [hr.out]; exact decide_eq_true (by rw [htd]; exact List.mem_of_getElem? hx)
        have g2 := bytes_eq t
        clear hx es ht htd
        go_wp2_with (first | fail | (first | ((with_reducible refine g_ld ?_); refine a_ld HM ?_) | ((with_reducible refine g_st ?_); refine a_st HM ?_; clear HM; intro w1 HM) | ((with_reducible refine g_al ?_); refine a_al HM ?_; clear HM; intro bk w1 HM) | ((with_reducible refine g_bx ?_); refine a_bx HM ?_; clear HM; intro bk w1 HM) | ((with_reducible refine g_bld ?_); refine a_bld ?_)))
        go_ret
        exact ⟨rfl, HM.low⟩
      · have HT2 : Hid (s.data.toList ∉ L.take (i + 1)) := Lib.hid (by
          rw [List.take_add_one, hx]
          intro h
          rcases List.mem_append.1 h with h | h
          · exact HT.out h
          · simp at h; exact hxy (As.key_inj (by rw [htd, h])))
        have g2 := bytes_ne hxy
        clear hx es ht htd hxy
        go_wp2_with (first | fail | (first | ((with_reducible refine g_ld ?_); refine a_ld HM ?_) | ((with_reducible refine g_st ?_); refine a_st HM ?_; clear HM; intro w1 HM) | ((with_reducible refine g_al ?_); refine a_al HM ?_; clear HM; intro bk w1 HM) | ((with_reducible refine g_bx ?_); refine a_bx HM ?_; clear HM; intro bk w1 HM) | ((with_reducible refine g_bld ?_); refine a_bld ?_)))
        go_roundw
        case rel => exact ⟨i + 1, by go_num, by omega, HT2, HM⟩
        case measure => simp [intOf]; omega
    · obtain rfl : i = L.length := by omega
      obtain rfl : r = false := by
        have h := HT.out
        rw [List.take_length] at h
        rw [hr.out]; exact decide_eq_false h
      go_wp2_with fail
      go_ret
      exact ⟨rfl, HM.low⟩
end Go.Proofs.Ytipkmppoppjmeaa
