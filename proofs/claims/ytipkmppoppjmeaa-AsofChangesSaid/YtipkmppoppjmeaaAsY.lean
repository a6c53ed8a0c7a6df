/- The law AsofChanges: plain, and walked. -/
import Derived.Test.YtipkmppoppjmeaaAsW
namespace Go.Proofs.Ytipkmppoppjmeaa
set_option maxRecDepth 8000
open Go.RowKit Go.Maps
namespace As
theorem chg_self (M : List Mk) (a : Int) : ∀ n, chg M a a n = []
  | 0 => rfl
  | n + 1 => by
    rw [chg]
    split
    · rw [if_pos rfl]; exact chg_self M a n
    · exact chg_self M a n
theorem chg_comm (M : List Mk) (a b : Int) : ∀ n, chg M a b n = chg M b a n
  | 0 => rfl
  | n + 1 => by
    rw [chg, chg, chg_comm M a b n]
    split
    · rename_i m hm
      by_cases e : enc (cnt M a M.length m.key) = enc (cnt M b M.length m.key)
      · rw [if_pos e, if_pos e.symm]
      · rw [if_neg e, if_neg (fun h => e h.symm)]
    · rfl
theorem chg_mid {M : List Mk} {a b c : Int} {x : List UInt8} (h : x ∈ chg M a c M.length) : x ∈ chg M a b M.length ∨ x ∈ chg M b c M.length := by
  rw [← As.mk_data x] at h ⊢
  rw [chg_all] at h ⊢
  rw [chg_all]
  by_cases e : cnt M a M.length ⟨x.toArray⟩ = cnt M b M.length ⟨x.toArray⟩
  · exact .inr (fun h2 => h (e.trans h2))
  · exact .inl e
theorem chg_lt {M : List Mk} {a b : Int} {i j : Nat} {x y : List UInt8} (hij : i < j) (hx : (chg M a b M.length)[i]? = some x) (hy : (chg M a b M.length)[j]? = some y) : x < y := by
  obtain ⟨hi, rfl⟩ := List.getElem?_eq_some_iff.1 hx
  obtain ⟨hj, rfl⟩ := List.getElem?_eq_some_iff.1 hy
  exact List.pairwise_iff_getElem.1 (chg_sorted M a b M.length) i j hi hj hij
theorem chgR_ok {M : List Mk} {a b : Int} (h : As.ok M = true) : (chg M a b M.length, (0 : Int)) = chgR M a b := by unfold chgR; rw [if_pos h]
end As
theorem RdS.cellS2 {w : World} {b off n cap : Nat} {L : List (List UInt8)} (h : RdS 1 w (.slice (some ⟨b, off, none⟩) n cap) (Vs L)) {i : Nat} {x : List UInt8} (hi : L[i]? = some x) : w.cell? ⟨b, off + i, none⟩ = some (.string ⟨x.toArray⟩) := by
  obtain ⟨b3, off3, e3, c2⟩ := h.cellS hi
  injection e3 with e3
  injection e3 with e3 e4 e5
  subst e3 e4
  exact c2
set_option maxHeartbeats 4000000 in
theorem has_same (va : Value) (L : List (List UInt8)) (s : ByteArray) (w : World) (hL : RdS 1 w va (Vs L)) (h1 : L.length ≤ 4611686018427387904) (r : Bool) (hr : Hid (r = decide (s.data.toList ∈ L))) :
    Calls Try.prog 25 #[va, .string s] w fun e w' => e = .returned (.bool r) ∧ w' = w := by
  obtain ⟨A, cap, rfl⟩ := hL.form1
  have HL := Lib.hid hL
  clear hL
  rw [Vs_len] at HL ⊢
  go_enter Try.func25, Try.ntmps25
  go_wp2_with fail
  go_loopw [5] (fun iv wr => ∃ (i : Nat), iv = .int .i64 (i : Nat) ∧ i ≤ L.length ∧ Hid (s.data.toList ∉ L.take i) ∧ wr = w) (fun iv _ => L.length - (intOf iv).toNat)
  case atStart => exact ⟨0, rfl, by omega, Lib.hid (by simp), rfl⟩
  case round =>
    obtain ⟨i, rfl, hi, HT, rfl⟩ := hrel
    by_cases hlt : i < L.length
    · obtain ⟨x, hx⟩ : ∃ x, L[i]? = some x := ⟨_, List.getElem?_eq_getElem hlt⟩
      obtain ⟨b, off, rfl, l0⟩ := HL.out.cellS hx
      obtain ⟨t, ht⟩ : ∃ t : ByteArray, t = ⟨x.toArray⟩ := ⟨_, rfl⟩
      have htd : t.data.toList = x := by rw [ht]
      have es : encStr x = .string t := by rw [ht]
      rw [es] at l0
      have hlt1 : (i : Int) < L.length := by omega
      by_cases hxy : t = s
      · subst hxy
        obtain rfl : r = true := by rw [hr.out]; exact decide_eq_true (by rw [htd]; exact List.mem_of_getElem? hx)
        have g2 := bytes_eq t
        clear hx es ht htd
        go_wp2_with fail
        go_ret
        exact ⟨rfl, rfl⟩
      · have HT2 : Hid (s.data.toList ∉ L.take (i + 1)) := Lib.hid (by
          rw [List.take_add_one, hx]
          intro h
          rcases List.mem_append.1 h with h | h
          · exact HT.out h
          · simp at h; exact hxy (As.key_inj (by rw [htd, h])))
        have g2 := bytes_ne hxy
        clear hx es ht htd hxy
        go_wp2_with fail
        go_roundw
        case rel => exact ⟨i + 1, by go_num, by omega, HT2, trivial⟩
        case measure => simp [intOf]; omega
    · obtain rfl : i = L.length := by omega
      obtain rfl : r = false := by
        have h := HT.out
        rw [List.take_length] at h
        rw [hr.out]; exact decide_eq_false h
      go_wp2_with fail
      go_ret
      exact ⟨rfl, rfl⟩
theorem has_q {va : Value} {L : List (List UInt8)} {s : ByteArray} {w : World} {n : Nat} {r : Bool} (hL : Hid (RdS 1 w va (Vs L))) (h1 : L.length ≤ 4611686018427387904) (hr : Hid (r = decide (s.data.toList ∈ L))) :
    Calls Try.prog 25 #[va, .string s] (w.drewN n) fun e w'' => e = .returned (.bool r) ∧ ∃ m, w'' = w.drewN m :=
  Calls.quiet_of_same (n := n) (has_same va L s (w.drewN n) (show RdS 1 w va (Vs L) from hL.out) h1 r hr)
set_option maxHeartbeats 8000000 in
theorem changes_any (A : Option Addr) (xs : List Int) (c0 : Nat) (W : World) (hI : IntsAt W A xs) (hxl : xs.length ≤ 9223372036854775807) :
    Calls Try.prog 7 #[.slice A xs.length c0] W fun e w' => e = .returned (.bool true) ∧ Below W.heap.size W w' := by
  have HM := Mem.start W
  have HI := Lib.hid hI
  clear hI
  go_enter Try.func7, Try.ntmps7
  go_upto_region 2 with (first | fail | (first | ((with_reducible refine g_ld ?_); refine a_ld HM ?_) | ((with_reducible refine g_st ?_); refine a_st HM ?_; clear HM; intro w1 HM) | ((with_reducible refine g_al ?_); refine a_al HM ?_; clear HM; intro bk w1 HM) | ((with_reducible refine g_bx ?_); refine a_bx HM ?_; clear HM; intro bk w1 HM) | ((with_reducible refine g_bld ?_); refine a_bld ?_)))
  obtain ⟨tb, rfl⟩ := HM.nm0
  have HC : Hid (TapeC W 0 #[.slice A xs.length c0, .int .i64 0]) := ⟨A, xs, c0, 0, rfl, by omega, by omega, HI.out, hxl⟩
  have H0 : Hid (Below W.heap.size W W) := Below.refl _ _
  have hle : ∀ b ∈ ([] : List Nat), W.heap.size ≤ b := by simp
  go_wp2_with (first | fail | (first | ((with_reducible refine g_ld ?_); refine a_ld HM ?_) | ((with_reducible refine g_st ?_); refine a_st HM ?_; clear HM; intro w1 HM) | ((with_reducible refine g_al ?_); refine a_al HM ?_; clear HM; intro bk w1 HM) | ((with_reducible refine g_bx ?_); refine a_bx HM ?_; clear HM; intro bk w1 HM) | ((with_reducible refine g_bld ?_); refine a_bld ?_)))
  refine (marks_any W tb 0 _ (HM.tp (by ((repeat (first | exact Look.here | refine Look.there ?_)); done)) HC.out H0.out hle) (by omega)).mono ?_
  rintro e9 w2 ⟨sv, M, n, B, c1, rfl, HMD, hMl, HS, hc1, HM1⟩
  replace HM := HM.joinT (by (repeat (first | exact At.here | apply At.there))) HM1
  replace HC := Lib.hid hc1.out
  clear HM1 hc1
  replace HM : Mem W [] ((tb, c1) :: B) w2 := HM.swapA
  go_wp2_with fail
  (refine (range_any W tb _ (0) (30) _ (HM.tp (by ((repeat (first | exact Look.here | refine Look.there ?_)); done)) HC.out H0.out hle) (by omega) (by omega) (by omega) (by omega)).mono ?_; rintro e9 w2 ⟨a, rfl, ha0, ha1, ⟨c1, hb1, hc1, -, -⟩, hg⟩; replace HM := HM.put (c' := c1) (by (repeat (first | exact At.here | apply At.there))) hb1 (Only.of_grown hg); clear hg hb1; replace HC := Lib.hid hc1; clear hc1)
  go_wp2_with fail
  (refine (range_any W tb _ (0) (30) _ (HM.tp (by ((repeat (first | exact Look.here | refine Look.there ?_)); done)) HC.out H0.out hle) (by omega) (by omega) (by omega) (by omega)).mono ?_; rintro e9 w2 ⟨b, rfl, hb0, hb1, ⟨c1, hb1, hc1, -, -⟩, hg⟩; replace HM := HM.put (c' := c1) (by (repeat (first | exact At.here | apply At.there))) hb1 (Only.of_grown hg); clear hg hb1; replace HC := Lib.hid hc1; clear hc1)
  go_wp2_with fail
  (refine (range_any W tb _ (0) (30) _ (HM.tp (by ((repeat (first | exact Look.here | refine Look.there ?_)); done)) HC.out H0.out hle) (by omega) (by omega) (by omega) (by omega)).mono ?_; rintro e9 w2 ⟨c, rfl, hc0, hc1, ⟨c1, hb1, hc1, -, -⟩, hg⟩; replace HM := HM.put (c' := c1) (by (repeat (first | exact At.here | apply At.there))) hb1 (Only.of_grown hg); clear hg hb1; replace HC := Lib.hid hc1; clear hc1)
  replace HM := HM.tail
  have hok := HMD.out.ok hMl
  obtain ⟨P, hP⟩ : ∃ P, P = As.chg M a b M.length := ⟨_, rfl⟩
  obtain ⟨Q, hQ⟩ : ∃ P, P = As.chg M b c M.length := ⟨_, rfl⟩
  obtain ⟨R, hR⟩ : ∃ P, P = As.chg M a c M.length := ⟨_, rfl⟩
  have X0 : Hid (([], (0 : Int)) = As.chgR M a a) := Lib.hid (by rw [← As.chgR_ok hok, As.chg_self])
  have X1 : Hid ((P, (0 : Int)) = As.chgR M a b) := Lib.hid (by rw [hP]; exact As.chgR_ok hok)
  have X2 : Hid ((P, (0 : Int)) = As.chgR M b a) := Lib.hid (by rw [hP, As.chg_comm]; exact As.chgR_ok hok)
  have X3 : Hid ((Q, (0 : Int)) = As.chgR M b c) := Lib.hid (by rw [hQ]; exact As.chgR_ok hok)
  have X4 : Hid ((R, (0 : Int)) = As.chgR M a c) := Lib.hid (by rw [hR]; exact As.chgR_ok hok)
  have lP : P.length ≤ 4611686018427387904 := by rw [hP]; have := As.chg_len M a b M.length; omega
  have lQ : Q.length ≤ 4611686018427387904 := by rw [hQ]; have := As.chg_len M b c M.length; omega
  have lR : R.length ≤ 4611686018427387904 := by rw [hR]; have := As.chg_len M a c M.length; omega
  have HMID : Hid (∀ x ∈ R, x ∈ P ∨ x ∈ Q) := Lib.hid (fun x hx => by rw [hR] at hx; rw [hP, hQ]; exact As.chg_mid hx)
  have HLT : Hid (∀ i x y, R[i]? = some x → R[i + 1]? = some y → x < y) := Lib.hid (fun i x y hx hy => by rw [hR] at hx hy; exact As.chg_lt (by omega) hx hy)
  clear hP hQ hR hok
  go_wp2_with (first | (go_at_call 13; (with_reducible refine (changed_any _ M a a _ (HS.out.readMk HM (by intro p hp; (repeat (first | exact hp | exact List.mem_append_left _ hp | exact (List.mem_singleton.1 hp) ▸ List.mem_cons_self | apply List.mem_append_right | apply List.mem_cons_of_mem)); done) (by omega)) _ _ X0).mono ?_); rintro e9 w2 ⟨s0, B0, rfl, HS0, HM1⟩; replace HM := HM.join HM1; clear HM1) | (first | ((with_reducible refine g_ld ?_); refine a_ld HM ?_) | ((with_reducible refine g_st ?_); refine a_st HM ?_; clear HM; intro w1 HM) | ((with_reducible refine g_al ?_); refine a_al HM ?_; clear HM; intro bk w1 HM) | ((with_reducible refine g_bx ?_); refine a_bx HM ?_; clear HM; intro bk w1 HM) | ((with_reducible refine g_bld ?_); refine a_bld ?_)))
  obtain ⟨A0, cap0, rfl⟩ := (HS0.out.rd HM (by intro p hp; (repeat (first | exact hp | exact List.mem_append_left _ hp | exact (List.mem_singleton.1 hp) ▸ List.mem_cons_self | apply List.mem_append_right | apply List.mem_cons_of_mem)); done)).form1
  rw [Vs_len] at HS0 ⊢
  go_upto_region 12 with (first | first
    | (go_at_call 13; (with_reducible refine (changed_any _ M a b _ (HS.out.readMk HM (by intro p hp; (repeat (first | exact hp | exact List.mem_append_left _ hp | exact (List.mem_singleton.1 hp) ▸ List.mem_cons_self | apply List.mem_append_right | apply List.mem_cons_of_mem)); done) (by omega)) _ _ X1).mono ?_); rintro e9 w2 ⟨s1, B1, rfl, HS1, HM1⟩; replace HM := HM.join HM1; clear HM1)
    | (go_at_call 13; (with_reducible refine (changed_any _ M b a _ (HS.out.readMk HM (by intro p hp; (repeat (first | exact hp | exact List.mem_append_left _ hp | exact (List.mem_singleton.1 hp) ▸ List.mem_cons_self | apply List.mem_append_right | apply List.mem_cons_of_mem)); done) (by omega)) _ _ X2).mono ?_); rintro e9 w2 ⟨s2, B2, rfl, HS2, HM1⟩; replace HM := HM.join HM1; clear HM1)
    | (go_at_call 13; (with_reducible refine (changed_any _ M b c _ (HS.out.readMk HM (by intro p hp; (repeat (first | exact hp | exact List.mem_append_left _ hp | exact (List.mem_singleton.1 hp) ▸ List.mem_cons_self | apply List.mem_append_right | apply List.mem_cons_of_mem)); done) (by omega)) _ _ X3).mono ?_); rintro e9 w2 ⟨s3, B3, rfl, HS3, HM1⟩; replace HM := HM.join HM1; clear HM1)
    | (go_at_call 13; (with_reducible refine (changed_any _ M a c _ (HS.out.readMk HM (by intro p hp; (repeat (first | exact hp | exact List.mem_append_left _ hp | exact (List.mem_singleton.1 hp) ▸ List.mem_cons_self | apply List.mem_append_right | apply List.mem_cons_of_mem)); done) (by omega)) _ _ X4).mono ?_); rintro e9 w2 ⟨s4, B4, rfl, HS4, HM1⟩; replace HM := HM.join HM1; clear HM1)
    | (go_at_call 19; ((with_reducible refine (sameTexts_any _ _ P P _ (HS1.out.rd HM (by intro p hp; (repeat (first | exact hp | exact List.mem_append_left _ hp | exact (List.mem_singleton.1 hp) ▸ List.mem_cons_self | apply List.mem_append_right | apply List.mem_cons_of_mem)); done)) (HS2.out.rd HM (by intro p hp; (repeat (first | exact hp | exact List.mem_append_left _ hp | exact (List.mem_singleton.1 hp) ▸ List.mem_cons_self | apply List.mem_append_right | apply List.mem_cons_of_mem)); done)) lP lP true (Lib.hid (decide_eq_true rfl).symm)).mono ?_); rintro e9 w2 ⟨rfl, hL⟩; replace HM := HM.call hL; clear hL)) | (first | ((with_reducible refine g_ld ?_); refine a_ld HM ?_) | ((with_reducible refine g_st ?_); refine a_st HM ?_; clear HM; intro w1 HM) | ((with_reducible refine g_al ?_); refine a_al HM ?_; clear HM; intro bk w1 HM) | ((with_reducible refine g_bx ?_); refine a_bx HM ?_; clear HM; intro bk w1 HM) | ((with_reducible refine g_bld ?_); refine a_bld ?_)))
  obtain ⟨A4, cap4, rfl⟩ := (HS4.out.rd HM (by intro p hp; (repeat (first | exact hp | exact List.mem_append_left _ hp | exact (List.mem_singleton.1 hp) ▸ List.mem_cons_self | apply List.mem_append_right | apply List.mem_cons_of_mem)); done)).form1
  rw [Vs_len] at HS4 ⊢
  go_wp2_with fail
  go_loopw [18] (fun iv wr => ∃ (i : Nat), iv = .int .i64 (i : Nat) ∧ i ≤ R.length ∧ Mem W [] (B4 ++ (B3 ++ (B2 ++ (B1 ++ (B0 ++ B))))) wr) (fun iv _ => R.length - (intOf iv).toNat)
  case atStart => exact ⟨0, rfl, by omega, HM⟩
  case round =>
    clear HM
    obtain ⟨i, rfl, hi, HM⟩ := hrel
    by_cases hlt : i < R.length
    · obtain ⟨x, hx⟩ : ∃ x, R[i]? = some x := ⟨_, List.getElem?_eq_getElem hlt⟩
      have hxR := List.mem_of_getElem? hx
      obtain ⟨s, hs⟩ : ∃ s : ByteArray, s = ⟨x.toArray⟩ := ⟨_, rfl⟩
      have hsd : s.data.toList = x := by rw [hs]
      obtain ⟨b4, off4, rfl, c4⟩ := (HS4.out.rd HM (by intro p hp; (repeat (first | exact hp | exact List.mem_append_left _ hp | exact (List.mem_singleton.1 hp) ▸ List.mem_cons_self | apply List.mem_append_right | apply List.mem_cons_of_mem)); done)).cellS hx
      have es : encStr x = .string s := by rw [hs]
      rw [es] at c4
      have hlt1 : (i : Int) < R.length := by omega
      clear hs es
      have Q1 := Lib.hid (HS1.out.rd HM (by intro p hp; (repeat (first | exact hp | exact List.mem_append_left _ hp | exact (List.mem_singleton.1 hp) ▸ List.mem_cons_self | apply List.mem_append_right | apply List.mem_cons_of_mem)); done))
      have Q3 := Lib.hid (HS3.out.rd HM (by intro p hp; (repeat (first | exact hp | exact List.mem_append_left _ hp | exact (List.mem_singleton.1 hp) ▸ List.mem_cons_self | apply List.mem_append_right | apply List.mem_cons_of_mem)); done))
      by_cases hi0 : 0 < i
      · obtain ⟨y, hy⟩ : ∃ y, R[i - 1]? = some y := ⟨_, List.getElem?_eq_getElem (by omega)⟩
        have hyx := HLT.out (i - 1) y x hy (by rw [Nat.sub_add_cancel (by omega)]; exact hx)
        have c5 := (HS4.out.rd HM (by intro p hp; (repeat (first | exact hp | exact List.mem_append_left _ hp | exact (List.mem_singleton.1 hp) ▸ List.mem_cons_self | apply List.mem_append_right | apply List.mem_cons_of_mem)); done)).cellS2 hy
        obtain ⟨t, ht⟩ : ∃ t : ByteArray, t = ⟨y.toArray⟩ := ⟨_, rfl⟩
        rw [← ht] at c5
        have htd : t.data.toList = y := by rw [ht]
        have g6 : Op.bytesLess t.toList s.toList = true := by rw [bytes_less, htd, hsd]; exact decide_eq_true hyx
        have hi1 : ((i : Int) - 1).toNat = i - 1 := by omega
        have hi2 : (0 : Int) ≤ (i : Int) - 1 := by omega
        have hi3 : (i : Int) - 1 < R.length := by omega
        have g4 : decide ((0 : Int) < i) = true := decide_eq_true (by omega)
        have n4 : decide (0 < i) = true := decide_eq_true (by omega)
        clear hx hy hyx ht htd
        by_cases hp : x ∈ P
        · have HR1 : Hid (true = decide (s.data.toList ∈ P)) := Lib.hid (by rw [hsd]; exact (decide_eq_true hp).symm)
          clear hp hxR hsd
          go_wp2_with fail
          go_quiet (with_reducible exact has_q Q1 lP HR1)
          go_wp2_with fail
          go_roundw
          case rel => exact ⟨i + 1, by go_num, by omega, HM.drewN _⟩
          case measure => simp [intOf]; omega
        · have HR1 : Hid (false = decide (s.data.toList ∈ P)) := Lib.hid (by rw [hsd]; exact (decide_eq_false hp).symm)
          have HR2 : Hid (true = decide (s.data.toList ∈ Q)) := Lib.hid (by rw [hsd]; exact (decide_eq_true ((HMID.out x hxR).resolve_left hp)).symm)
          clear hp hxR hsd
          go_wp2_with fail
          go_quiet (first | (with_reducible exact has_q Q1 lP HR1) | (with_reducible exact has_q Q3 lQ HR2))
          go_wp2_with fail
          go_roundw
          case rel => exact ⟨i + 1, by go_num, by omega, HM.drewN _⟩
          case measure => simp [intOf]; omega
      · have g4 : decide ((0 : Int) < i) = false := decide_eq_false (by omega)
        have n4 : decide (0 < i) = false := decide_eq_false (by omega)
        clear hx
        by_cases hp : x ∈ P
        · have HR1 : Hid (true = decide (s.data.toList ∈ P)) := Lib.hid (by rw [hsd]; exact (decide_eq_true hp).symm)
          clear hp hxR hsd
          go_wp2_with fail
          go_quiet (with_reducible exact has_q Q1 lP HR1)
          go_wp2_with fail
          go_roundw
          case rel => exact ⟨i + 1, by go_num, by omega, HM.drewN _⟩
          case measure => simp [intOf]; omega
        · have HR1 : Hid (false = decide (s.data.toList ∈ P)) := Lib.hid (by rw [hsd]; exact (decide_eq_false hp).symm)
          have HR2 : Hid (true = decide (s.data.toList ∈ Q)) := Lib.hid (by rw [hsd]; exact (decide_eq_true ((HMID.out x hxR).resolve_left hp)).symm)
          clear hp hxR hsd
          go_wp2_with fail
          go_quiet (first | (with_reducible exact has_q Q1 lP HR1) | (with_reducible exact has_q Q3 lQ HR2))
          go_wp2_with fail
          go_roundw
          case rel => exact ⟨i + 1, by go_num, by omega, HM.drewN _⟩
          case measure => simp [intOf]; omega
    · go_wp2_with (first | (go_at_call 15; ((with_reducible refine (known_any _).mono ?_); rintro e9 w2 ⟨rfl, hL⟩; replace HM := HM.call hL; clear hL)) | (first | ((with_reducible refine g_ld ?_); refine a_ld HM ?_) | ((with_reducible refine g_st ?_); refine a_st HM ?_; clear HM; intro w1 HM) | ((with_reducible refine g_al ?_); refine a_al HM ?_; clear HM; intro bk w1 HM) | ((with_reducible refine g_bx ?_); refine a_bx HM ?_; clear HM; intro bk w1 HM) | ((with_reducible refine g_bld ?_); refine a_bld ?_)))
      go_ret
      exact ⟨rfl, HM.low⟩
end Go.Proofs.Ytipkmppoppjmeaa
