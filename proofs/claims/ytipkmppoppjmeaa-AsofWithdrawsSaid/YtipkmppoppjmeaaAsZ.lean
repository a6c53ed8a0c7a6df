/- The law AsofWithdraws: plain, and walked. -/
import Derived.Test.YtipkmppoppjmeaaAsW
namespace Go.Proofs.Ytipkmppoppjmeaa
set_option maxRecDepth 8000
open Go.RowKit Go.Maps
namespace As
theorem ok_of {M : List Mk} (hl : M.length ≤ 4096) (h : ∀ m ∈ M, 0 < m.kn ∧ m.kn ≤ 2147483647 ∧ m.key.size ≠ 0 ∧ m.key.size ≤ 64) (hp : M.Pairwise (fun a b => a.kn < b.kn)) : As.ok M = true := by
  unfold As.ok
  rw [decide_eq_true hl, okFrom_of M 0 h hp]
  rfl
theorem last_pre {M N : List Mk} {k : Int} {s : ByteArray} : ∀ {n : Nat}, n ≤ M.length → last (M ++ N) k s n = last M k s n
  | 0, _ => rfl
  | n + 1, h => by
    rw [last, last, List.getElem?_append_left (by omega), last_pre (by omega)]
theorem cnt_pre {M N : List Mk} {k : Int} {s : ByteArray} {n : Nat} (h : n ≤ M.length) : cnt (M ++ N) k n s = cnt M k n s := by
  unfold cnt
  rw [last_pre h]
  cases hl : last M k s n with
  | none => rfl
  | some i => simp only []; rw [List.getElem?_append_left (by have := (last_some hl).1; omega)]
theorem nil_of {l : List (List UInt8)} (h : ∀ x, x ∉ l) : l = [] := by
  cases l with
  | nil => rfl
  | cons a r => exact absurd List.mem_cons_self (h a)
theorem one_of {l : List (List UInt8)} {a : List UInt8} (hs : l.Pairwise (· < ·)) (h : ∀ x, x ∈ l ↔ x = a) : l = [a] := by
  match l with
  | [] => exact absurd ((h a).2 rfl) (by simp)
  | [b] => rw [(h b).1 (by simp)]
  | b :: c :: r =>
    have e1 := (h b).1 (by simp)
    have e2 := (h c).1 (by simp)
    have := (List.pairwise_cons.1 hs).1 c (by simp)
    rw [e1, e2] at this
    exact absurd this (lt_irrefl a)
theorem exists_key (x : List UInt8) : ∃ s : ByteArray, s.data.toList = x := ⟨⟨x.toArray⟩, rfl⟩
/-- A void record takes the key out, one behind it brings it back, other keys stay. -/
theorem withdraws {M : List Mk} {n : Int} (h : Made M n) (hl : M.length ≤ 12) {key : ByteArray} (hk : key.size ≠ 0 ∧ key.size ≤ 64) :
    As.ok (M ++ [(⟨key, 60, true⟩ : Mk)]) = true ∧ As.ok ((M ++ [(⟨key, 60, true⟩ : Mk)]) ++ [(⟨key, 61, false⟩ : Mk)]) = true ∧
    cnt (M ++ [(⟨key, 60, true⟩ : Mk)]) 60 (M ++ [(⟨key, 60, true⟩ : Mk)]).length key = none ∧
    cnt ((M ++ [(⟨key, 60, true⟩ : Mk)]) ++ [(⟨key, 61, false⟩ : Mk)]) 61 ((M ++ [(⟨key, 60, true⟩ : Mk)]) ++ [(⟨key, 61, false⟩ : Mk)]).length key = some (M.length + 1) ∧
    chg (M ++ [(⟨key, 60, true⟩ : Mk)]) 59 60 (M ++ [(⟨key, 60, true⟩ : Mk)]).length = if (cnt M 60 M.length key).isSome then [key.data.toList] else [] := by
  have hn := h.n1
  have hb : ∀ m ∈ M, 0 < m.kn ∧ m.kn ≤ 48 ∧ m.key.size ≠ 0 ∧ m.key.size ≤ 64 := fun m hm => by
    have h2 := h.lo m hm
    obtain ⟨h3, h4⟩ := keys_size (h.keys m hm)
    exact ⟨h2.1, by omega, h3, h4⟩
  have hpN : (M ++ [(⟨key, 60, true⟩ : Mk)]).Pairwise (fun a b => a.kn < b.kn) := List.pairwise_append.2 ⟨h.inc, by simp, fun a ha b hb2 => by
    rw [List.mem_singleton.1 hb2]
    have := hb a ha
    show a.kn < 60
    omega⟩
  have hbN : ∀ m ∈ M ++ [(⟨key, 60, true⟩ : Mk)], 0 < m.kn ∧ m.kn ≤ 60 ∧ m.key.size ≠ 0 ∧ m.key.size ≤ 64 := fun m hm => by
    rcases List.mem_append.1 hm with hm | hm
    · have := hb m hm; exact ⟨this.1, by omega, this.2.2⟩
    · rw [List.mem_singleton.1 hm]; exact ⟨by show (0 : Int) < 60; omega, by show (60 : Int) ≤ 60; omega, hk.1, hk.2⟩
  have hNl : (M ++ [(⟨key, 60, true⟩ : Mk)]).length = M.length + 1 := by simp
  have hNm : (M ++ [(⟨key, 60, true⟩ : Mk)])[M.length]? = some ⟨key, 60, true⟩ := by simp
  have hN2l : ((M ++ [(⟨key, 60, true⟩ : Mk)]) ++ [(⟨key, 61, false⟩ : Mk)]).length = M.length + 2 := by simp
  have hN2m : ((M ++ [(⟨key, 60, true⟩ : Mk)]) ++ [(⟨key, 61, false⟩ : Mk)])[M.length + 1]? = some ⟨key, 61, false⟩ := by
    rw [List.getElem?_append_right (by omega), hNl]; simp
  have c60 : ∀ s, cnt (M ++ [(⟨key, 60, true⟩ : Mk)]) 60 (M ++ [(⟨key, 60, true⟩ : Mk)]).length s = if key = s then none else cnt M 60 M.length s := fun s => by
    rw [hNl, cnt_step hNm (by show (60 : Int) ≤ 60; omega), cnt_pre (Nat.le_refl _)]
    simp
  have c59 : ∀ s, cnt (M ++ [(⟨key, 60, true⟩ : Mk)]) 59 (M ++ [(⟨key, 60, true⟩ : Mk)]).length s = cnt M 60 M.length s := fun s => by
    rw [cnt_stop (n := M.length) (fun j m hj hm => by
      have hj2 := (List.getElem?_eq_some_iff.1 hm).1
      obtain rfl : j = M.length := by omega
      rw [hNm] at hm; injection hm with hm; rw [← hm]; show (59 : Int) < 60; omega) (by omega), cnt_pre (Nat.le_refl _)]
    exact cnt_all fun j m hj hm => by
      have := hb m (List.mem_of_getElem? hm)
      exact ⟨by omega, by omega⟩
  refine ⟨ok_of (by omega) (fun m hm => by have := hbN m hm; exact ⟨this.1, by omega, this.2.2⟩) hpN, ok_of (by omega) (fun m hm => ?_) (List.pairwise_append.2 ⟨hpN, by simp, fun a ha b hb2 => ?_⟩), ?_, ?_, ?_⟩
  · rcases List.mem_append.1 hm with hm | hm
    · have := hbN m hm; exact ⟨this.1, by omega, this.2.2⟩
    · rw [List.mem_singleton.1 hm]; exact ⟨by show (0 : Int) < 61; omega, by show (61 : Int) ≤ 2147483647; omega, hk.1, hk.2⟩
  · rw [List.mem_singleton.1 hb2]
    have := hbN a ha
    show a.kn < 61
    omega
  · rw [c60, if_pos rfl]
  · rw [hN2l, cnt_step hN2m (by show (61 : Int) ≤ 61; omega), if_pos rfl]; rfl
  · have hmem : ∀ s : ByteArray, s.data.toList ∈ chg (M ++ [(⟨key, 60, true⟩ : Mk)]) 59 60 (M ++ [(⟨key, 60, true⟩ : Mk)]).length ↔ (key = s ∧ cnt M 60 M.length s ≠ none) := fun s => by
      rw [chg_all, c59, c60]
      by_cases e : key = s
      · simp [e]
      · simp [e]
    cases hc : cnt M 60 M.length key with
    | none =>
      refine nil_of fun x hx => ?_
      obtain ⟨s, rfl⟩ := exists_key x
      obtain ⟨rfl, h2⟩ := (hmem s).1 hx
      exact h2 hc
    | some i =>
      refine one_of (chg_sorted _ _ _ _) fun x => ?_
      obtain ⟨s, rfl⟩ := exists_key x
      rw [hmem]
      constructor
      · rintro ⟨rfl, _⟩; rfl
      · intro e
        obtain rfl : s = key := key_inj e
        exact ⟨rfl, by rw [hc]; simp⟩
theorem findR_none {M : List Mk} {k : Int} {s : ByteArray} (h : As.ok M = true) (hc : cnt M k M.length s = none) : (0, false, (0 : Int)) = findR M k s := by unfold findR; rw [if_pos h, hc]; rfl
theorem findR_some {M : List Mk} {k : Int} {s : ByteArray} {x : Nat} (h : As.ok M = true) (hc : cnt M k M.length s = some x) : (x, true, (0 : Int)) = findR M k s := by unfold findR; rw [if_pos h, hc]; rfl
theorem chgR_of {M : List Mk} {a b : Int} {l : List (List UInt8)} (h : As.ok M = true) (hc : chg M a b M.length = l) : (l, (0 : Int)) = chgR M a b := by unfold chgR; rw [if_pos h, hc]
end As
theorem enc_key (s : ByteArray) : encStr s.data.toList = .string s := by
  show Value.string ⟨s.data.toList.toArray⟩ = _
  rw [Array.toArray_toList]
set_option maxHeartbeats 8000000 in
theorem withdraws_any (A : Option Addr) (xs : List Int) (c0 : Nat) (W : World) (hI : IntsAt W A xs) (hxl : xs.length ≤ 9223372036854775807) :
    Calls Try.prog 8 #[.slice A xs.length c0] W fun e w' => e = .returned (.bool true) ∧ Below W.heap.size W w' := by
  have HM := Mem.start W
  have HI := Lib.hid hI
  have hel := el_mark
  clear hI
  go_enter Try.func8, Try.ntmps8
  go_upto_region 2 with (first | fail | (first | ((with_reducible refine g_ld ?_); refine a_ld HM ?_) | ((with_reducible refine g_st ?_); refine a_st HM ?_; clear HM; intro w1 HM) | ((with_reducible refine g_al ?_); refine a_al HM ?_; clear HM; intro bk w1 HM) | ((with_reducible refine g_bx ?_); refine a_bx HM ?_; clear HM; intro bk w1 HM) | ((with_reducible refine g_bld ?_); refine a_bld ?_)))
  obtain ⟨tb, rfl⟩ := HM.nm0
  have HC : Hid (TapeC W 0 #[.slice A xs.length c0, .int .i64 0]) := ⟨A, xs, c0, 0, rfl, by omega, by omega, HI.out, hxl⟩
  have H0 : Hid (Below W.heap.size W W) := Below.refl _ _
  have hle : ∀ b ∈ ([] : List Nat), W.heap.size ≤ b := by simp
  go_wp2_with (first | fail | (first | ((with_reducible refine g_ld ?_); refine a_ld HM ?_) | ((with_reducible refine g_st ?_); refine a_st HM ?_; clear HM; intro w1 HM) | ((with_reducible refine g_al ?_); refine a_al HM ?_; clear HM; intro bk w1 HM) | ((with_reducible refine g_bx ?_); refine a_bx HM ?_; clear HM; intro bk w1 HM) | ((with_reducible refine g_bld ?_); refine a_bld ?_)))
  refine (marks_any W tb 0 _ (HM.tp (by ((repeat (first | exact Look.here | refine Look.there ?_)); done)) HC.out H0.out hle) (by omega)).mono ?_
  rintro e9 w2 ⟨sv, M, n, B, c1, rfl, HMD, hMl, HS, hc1, HM1⟩
  replace HM := HM.joinT (by (repeat (first | exact At.here | apply At.there))) HM1
  replace HC := Lib.hid hc1.out
  clear HM1 hc1
  replace HM : Mem W [] ((tb, c1) :: B) w2 := HM.swapA
  obtain ⟨sA, scap, rfl⟩ := HS.out.marks
  go_wp2_with fail
  (refine (one_new (tb := tb) (W := W) HM (by ((repeat (first | exact Look.here | refine Look.there ?_)); done)) HC.out H0.out (by first | exact hle | simpa using hle) [{ data := #[97] }, { data := #[98] }, { data := #[110, 101, 119] }] _ (by omega) (by simp) (by simp)).mono ?_; rintro e9 w2 ⟨key, c1, rfl, hs, hc1, hb1, hg⟩; replace HM := HM.put (c' := c1) (by (repeat (first | exact At.here | apply At.there))) hb1 hg; clear hg hb1; replace HC := Lib.hid hc1; clear hc1)
  replace HM := HM.tail
  have hk : key.size ≠ 0 ∧ key.size ≤ 64 := by
    simp only [List.mem_cons, List.not_mem_nil, or_false] at hs
    rcases hs with rfl | rfl | rfl <;> exact ⟨by decide, by decide⟩
  have hks : key.size ≤ maxLen := len_small (by omega)
  obtain ⟨hN, hN2, f1, f2, f3⟩ := As.withdraws HMD.out hMl hk
  have hokM := HMD.out.ok hMl
  obtain ⟨N, hNd⟩ : ∃ N, N = M ++ [(⟨key, 60, true⟩ : As.Mk)] := ⟨_, rfl⟩
  have hNl : N.length = M.length + 1 := by rw [hNd]; simp
  rw [← hNd] at hN hN2 f1 f2 f3
  obtain ⟨N2, hN2d⟩ : ∃ N2, N2 = N ++ [(⟨key, 61, false⟩ : As.Mk)] := ⟨_, rfl⟩
  have hN2l : N2.length = M.length + 2 := by rw [hN2d]; simp [hNl]
  rw [← hN2d] at hN2 f2
  have X1 := Lib.hid (As.findR_none hN f1)
  have X2 := Lib.hid (As.findR_some hN2 f2)
  have X3 := Lib.hid (As.chgR_of hN f3)
  have EN : Hid (([] ++ M.map As.c) ++ [As.c ⟨key, 60, true⟩] = N.map As.c) := Lib.hid (by rw [hNd]; simp)
  have EN2 : Hid (([] ++ N.map As.c) ++ [As.c ⟨key, 61, false⟩] = N2.map As.c) := Lib.hid (by rw [hN2d]; simp)
  clear hs hk hN hN2 f1 f2 f3 hNd hN2d
  have hcap0 : (([] : List (Array Value)).length + (M.map As.c).length) * (32 + 1) ≤ 140737488355328 := by simp; omega
  have hcap1 : (([] ++ M.map As.c).length + [As.c ⟨key, 60, true⟩].length) * (32 + 1) ≤ 140737488355328 := by simp; omega
  have hcap2 : (([] : List (Array Value)).length + (N.map As.c).length) * (32 + 1) ≤ 140737488355328 := by simp; omega
  have hcap3 : (([] ++ N.map As.c).length + [As.c ⟨key, 61, false⟩].length) * (32 + 1) ≤ 140737488355328 := by simp; omega
  go_upto_region 6 with (first | first
    | ((with_reducible refine g_bs0 ?_); refine a_bs0 HM ?_; clear HM; intro b0 w1 HM)
    | ((with_reducible refine g_bs1 ?_); refine a_bs1 (c0 := As.c ⟨key, 60, true⟩) HM ?_; clear HM; intro bx w1 HM)
    | ((with_reducible refine g_app ?_); refine a_app (m := M.map As.c) (F := fun X => X ++ B) HM (SlAt.made0 b0) (HS.out.rd HM (by intro p hp; (repeat (first | exact hp | exact List.mem_append_left _ hp | exact (List.mem_singleton.1 hp) ▸ List.mem_cons_self | apply List.mem_append_right | apply List.mem_cons_of_mem)); done)) ?_ (As.c_one M) (hlen := hcap0); clear HM; intro s1 B1 w1 HS1 HM)
    | ((with_reducible refine g_app ?_); refine a_app (m := [As.c ⟨key, 60, true⟩]) (F := fun X => X ++ B) HM HS1 ((SlAt.made1 bx rfl).rd HM (by simp)) ?_ (As.c_one [⟨key, 60, true⟩]) (hlen := hcap1); clear HM; intro s2 B2 w1 HS2 HM) | (first | ((with_reducible refine g_ld ?_); refine a_ld HM ?_) | ((with_reducible refine g_st ?_); refine a_st HM ?_; clear HM; intro w1 HM) | ((with_reducible refine g_al ?_); refine a_al HM ?_; clear HM; intro bk w1 HM) | ((with_reducible refine g_bx ?_); refine a_bx HM ?_; clear HM; intro bk w1 HM) | ((with_reducible refine g_bld ?_); refine a_bld ?_)))
  have HSN : Hid (SlAt 3 s2 (N.map As.c) B2) := Lib.hid (by rw [← EN.out]; exact HS2)
  clear HS1 HS2 EN hcap0 hcap1
  go_upto_region 7 with (first | first
    | ((with_reducible refine g_bs0 ?_); refine a_bs0 HM ?_; clear HM; intro b0 w1 HM)
    | ((with_reducible refine g_bs1 ?_); refine a_bs1 (c0 := As.c ⟨key, 61, false⟩) HM ?_; clear HM; intro bx w1 HM)
    | ((with_reducible refine g_app ?_); refine a_app (m := N.map As.c) (F := fun X => X ++ (B2 ++ B)) HM (SlAt.made0 b0) (HSN.out.rd HM (by intro p hp; (repeat (first | exact hp | exact List.mem_append_left _ hp | exact (List.mem_singleton.1 hp) ▸ List.mem_cons_self | apply List.mem_append_right | apply List.mem_cons_of_mem)); done)) ?_ (As.c_one N) (hlen := hcap2); clear HM; intro s3 B3 w1 HS3 HM)
    | ((with_reducible refine g_app ?_); refine a_app (m := [As.c ⟨key, 61, false⟩]) (F := fun X => X ++ (B2 ++ B)) HM HS3 ((SlAt.made1 bx rfl).rd HM (by simp)) ?_ (As.c_one [⟨key, 61, false⟩]) (hlen := hcap3); clear HM; intro s4 B4 w1 HS4 HM) | (first | ((with_reducible refine g_ld ?_); refine a_ld HM ?_) | ((with_reducible refine g_st ?_); refine a_st HM ?_; clear HM; intro w1 HM) | ((with_reducible refine g_al ?_); refine a_al HM ?_; clear HM; intro bk w1 HM) | ((with_reducible refine g_bx ?_); refine a_bx HM ?_; clear HM; intro bk w1 HM) | ((with_reducible refine g_bld ?_); refine a_bld ?_)))
  have HSN2 : Hid (SlAt 3 s4 (N2.map As.c) B4) := Lib.hid (by rw [← EN2.out]; exact HS4)
  clear HS3 HS4 EN2 hcap2 hcap3
  cases hw : As.cnt M 60 M.length key with
  | none =>
    rw [hw] at X3
    replace X3 : Hid (([], (0 : Int)) = As.chgR N 59 60) := X3
    have X4 := Lib.hid (As.findR_none hokM hw)
    clear hw hokM
    go_wp2_with (first | first
      | (go_at_call 11; ((with_reducible refine (find_any _ N _ _ _ (HSN.out.readMk HM (by intro p hp; (repeat (first | exact hp | exact List.mem_append_left _ hp | exact (List.mem_singleton.1 hp) ▸ List.mem_cons_self | apply List.mem_append_right | apply List.mem_cons_of_mem)); done) (by omega)) hks _ _ _ X1).mono ?_); rintro e9 w2 ⟨rfl, hL⟩; replace HM := HM.call hL; clear hL))
      | (go_at_call 11; ((with_reducible refine (find_any _ N2 _ _ _ (HSN2.out.readMk HM (by intro p hp; (repeat (first | exact hp | exact List.mem_append_left _ hp | exact (List.mem_singleton.1 hp) ▸ List.mem_cons_self | apply List.mem_append_right | apply List.mem_cons_of_mem)); done) (by omega)) hks _ _ _ X2).mono ?_); rintro e9 w2 ⟨rfl, hL⟩; replace HM := HM.call hL; clear hL))
      | (go_at_call 11; ((with_reducible refine (find_any _ M _ _ _ (HS.out.readMk HM (by intro p hp; (repeat (first | exact hp | exact List.mem_append_left _ hp | exact (List.mem_singleton.1 hp) ▸ List.mem_cons_self | apply List.mem_append_right | apply List.mem_cons_of_mem)); done) (by omega)) hks _ _ _ X4).mono ?_); rintro e9 w2 ⟨rfl, hL⟩; replace HM := HM.call hL; clear hL))
      | (go_at_call 13; (with_reducible refine (changed_any _ N _ _ _ (HSN.out.readMk HM (by intro p hp; (repeat (first | exact hp | exact List.mem_append_left _ hp | exact (List.mem_singleton.1 hp) ▸ List.mem_cons_self | apply List.mem_append_right | apply List.mem_cons_of_mem)); done) (by omega)) _ _ X3).mono ?_); rintro e9 w2 ⟨s5, B5, rfl, HS5, HM1⟩; replace HM := HM.join HM1; clear HM1; obtain ⟨a5, cap5, rfl⟩ := (HS5.out.rd HM (by intro p hp; (repeat (first | exact hp | exact List.mem_append_left _ hp | exact (List.mem_singleton.1 hp) ▸ List.mem_cons_self | apply List.mem_append_right | apply List.mem_cons_of_mem)); done)).form1; have HR5 := Lib.hid (HS5.out.rd HM (by intro p hp; (repeat (first | exact hp | exact List.mem_append_left _ hp | exact (List.mem_singleton.1 hp) ▸ List.mem_cons_self | apply List.mem_append_right | apply List.mem_cons_of_mem)); done)); clear HS5; rw [Vs_len] at HR5 ⊢)
      | (go_at_call 15; ((with_reducible refine (known_any _).mono ?_); rintro e9 w2 ⟨rfl, hL⟩; replace HM := HM.call hL; clear hL)) | (first | ((with_reducible refine g_ld ?_); refine a_ld HM ?_) | ((with_reducible refine g_st ?_); refine a_st HM ?_; clear HM; intro w1 HM) | ((with_reducible refine g_al ?_); refine a_al HM ?_; clear HM; intro bk w1 HM) | ((with_reducible refine g_bx ?_); refine a_bx HM ?_; clear HM; intro bk w1 HM) | ((with_reducible refine g_bld ?_); refine a_bld ?_)))
    go_ret
    exact ⟨rfl, HM.low⟩
  | some x =>
    rw [hw] at X3
    replace X3 : Hid (([key.data.toList], (0 : Int)) = As.chgR N 59 60) := X3
    have X4 := Lib.hid (As.findR_some hokM hw)
    have g9 := bytes_eq key
    clear hw hokM
    go_wp2_with (first | first
      | (go_at_call 11; ((with_reducible refine (find_any _ N _ _ _ (HSN.out.readMk HM (by intro p hp; (repeat (first | exact hp | exact List.mem_append_left _ hp | exact (List.mem_singleton.1 hp) ▸ List.mem_cons_self | apply List.mem_append_right | apply List.mem_cons_of_mem)); done) (by omega)) hks _ _ _ X1).mono ?_); rintro e9 w2 ⟨rfl, hL⟩; replace HM := HM.call hL; clear hL))
      | (go_at_call 11; ((with_reducible refine (find_any _ N2 _ _ _ (HSN2.out.readMk HM (by intro p hp; (repeat (first | exact hp | exact List.mem_append_left _ hp | exact (List.mem_singleton.1 hp) ▸ List.mem_cons_self | apply List.mem_append_right | apply List.mem_cons_of_mem)); done) (by omega)) hks _ _ _ X2).mono ?_); rintro e9 w2 ⟨rfl, hL⟩; replace HM := HM.call hL; clear hL))
      | (go_at_call 11; ((with_reducible refine (find_any _ M _ _ _ (HS.out.readMk HM (by intro p hp; (repeat (first | exact hp | exact List.mem_append_left _ hp | exact (List.mem_singleton.1 hp) ▸ List.mem_cons_self | apply List.mem_append_right | apply List.mem_cons_of_mem)); done) (by omega)) hks _ _ _ X4).mono ?_); rintro e9 w2 ⟨rfl, hL⟩; replace HM := HM.call hL; replace c5 := cell_low hL c5; clear hL))
      | (go_at_call 13; (with_reducible refine (changed_any _ N _ _ _ (HSN.out.readMk HM (by intro p hp; (repeat (first | exact hp | exact List.mem_append_left _ hp | exact (List.mem_singleton.1 hp) ▸ List.mem_cons_self | apply List.mem_append_right | apply List.mem_cons_of_mem)); done) (by omega)) _ _ X3).mono ?_); rintro e9 w2 ⟨s5, B5, rfl, HS5, HM1⟩; replace HM := HM.join HM1; clear HM1; obtain ⟨a5, cap5, rfl⟩ := (HS5.out.rd HM (by intro p hp; (repeat (first | exact hp | exact List.mem_append_left _ hp | exact (List.mem_singleton.1 hp) ▸ List.mem_cons_self | apply List.mem_append_right | apply List.mem_cons_of_mem)); done)).form1; obtain ⟨b5, off5, rfl, c5⟩ := (HS5.out.rd HM (by intro p hp; (repeat (first | exact hp | exact List.mem_append_left _ hp | exact (List.mem_singleton.1 hp) ▸ List.mem_cons_self | apply List.mem_append_right | apply List.mem_cons_of_mem)); done)).cellS (i := 0) (x := key.data.toList) rfl; rw [enc_key, Nat.add_zero] at c5; clear HS5; rw [Vs_len])
      | (go_at_call 15; ((with_reducible refine (known_any _).mono ?_); rintro e9 w2 ⟨rfl, hL⟩; replace HM := HM.call hL; replace c5 := cell_low hL c5; clear hL)) | (first | ((with_reducible refine g_ld ?_); refine a_ld HM ?_) | ((with_reducible refine g_st ?_); refine a_st HM ?_; clear HM; intro w1 HM) | ((with_reducible refine g_al ?_); refine a_al HM ?_; clear HM; intro bk w1 HM) | ((with_reducible refine g_bx ?_); refine a_bx HM ?_; clear HM; intro bk w1 HM) | ((with_reducible refine g_bld ?_); refine a_bld ?_)))
    go_ret
    exact ⟨rfl, HM.low⟩
end Go.Proofs.Ytipkmppoppjmeaa
