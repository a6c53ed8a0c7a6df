/- The law AsofLater: plain, and walked. -/
import Derived.Test.YtipkmppoppjmeaaAsT
namespace Go.Proofs.Ytipkmppoppjmeaa
set_option maxRecDepth 8000
open Go.RowKit Go.Maps
namespace As
theorem last_take {M : List Mk} {k : Int} {s : ByteArray} {q : Nat} : ∀ {n : Nat}, n ≤ q → last (M.take q) k s n = last M k s n
  | 0, _ => rfl
  | n + 1, h => by
    rw [last, last, List.getElem?_take_of_lt (by omega), last_take (by omega)]
theorem cnt_take {M : List Mk} {k : Int} {s : ByteArray} {q n : Nat} (h : n ≤ q) : cnt (M.take q) k n s = cnt M k n s := by
  unfold cnt
  rw [last_take h]
  cases hl : last M k s n with
  | none => rfl
  | some i => simp only []; rw [List.getElem?_take_of_lt (by have := (last_some hl).1; omega)]
theorem last_all {M : List Mk} {k k2 : Int} {s : ByteArray} : ∀ {n : Nat}, (∀ j m, j < n → M[j]? = some m → m.kn ≤ k ∧ m.kn ≤ k2) → last M k s n = last M k2 s n
  | 0, _ => rfl
  | n + 1, h => by
    rw [last, last, last_all (fun j m hj => h j m (by omega))]
    cases hm : M[n]? with
    | none => rfl
    | some m =>
      have := h n m (by omega) hm
      simp [this.1, this.2]
theorem cnt_all {M : List Mk} {k k2 : Int} {s : ByteArray} {n : Nat} (h : ∀ j m, j < n → M[j]? = some m → m.kn ≤ k ∧ m.kn ≤ k2) : cnt M k n s = cnt M k2 n s := by
  unfold cnt
  rw [last_all h]
theorem vis_ext {M N : List Mk} {k k2 : Int} (h : ∀ s, cnt M k M.length s = cnt N k2 N.length s) : vis M k = vis N k2 := by
  have hp : (vis M k).Perm (vis N k2) := (List.perm_ext_iff_of_nodup ((vis_sorted M k).imp (fun h => by omega)) ((vis_sorted N k2).imp (fun h => by omega))).2 (fun x => by
    rw [mem_vis, mem_vis]
    exact exists_congr fun s => by rw [h s])
  exact List.Perm.eq_of_pairwise (le := fun a b => a < b) (fun a b _ _ h1 h2 => by omega) (vis_sorted M k) (vis_sorted N k2) hp
theorem Made.at_ {M : List Mk} {n : Int} (h : Made M n) {i j : Nat} {a b : Mk} (hij : i < j) (ha : M[i]? = some a) (hb : M[j]? = some b) : a.kn < b.kn := by
  obtain ⟨hi, rfl⟩ := List.getElem?_eq_some_iff.1 ha
  obtain ⟨hj, rfl⟩ := List.getElem?_eq_some_iff.1 hb
  exact List.pairwise_iff_getElem.1 h.inc i j hi hj hij
theorem Made.take {M : List Mk} {n : Int} (h : Made M n) (hl : M.length ≤ 12) (q : Nat) : As.ok (M.take q) = true := by
  have h1 := h.n1
  have hlq : (M.take q).length ≤ 12 := by rw [List.length_take]; omega
  unfold As.ok
  rw [decide_eq_true (by omega), okFrom_of (M.take q) 0 (fun m hm => by
    have hm := List.mem_of_mem_take hm
    have h2 := h.lo m hm
    obtain ⟨h3, h4⟩ := keys_size (h.keys m hm)
    exact ⟨h2.1, by omega, h3, h4⟩) (h.inc.sublist (List.take_sublist _ _))]
  rfl
/-- The number of the last of the first q marks. -/
def upto (M : List Mk) (q : Nat) : Int := if 0 < q then ((M[q - 1]?).map Mk.kn).getD 0 else 0
theorem later {M : List Mk} {n : Int} (h : Made M n) (hl : M.length ≤ 12) {q : Nat} (hq : q ≤ M.length) : vis M (upto M q) = vis (M.take q) (upto M q) ∧ vis M (upto M q) = vis (M.take q) 2147483647 := by
  have hn := h.n1
  have hlo : ∀ j m, j < q → M[j]? = some m → m.kn ≤ upto M q := by
    intro j m hj hm
    unfold upto
    rw [if_pos (by omega)]
    by_cases e : j = q - 1
    · subst e; rw [hm]; exact Int.le_refl _
    · rw [List.getElem?_eq_getElem (show q - 1 < M.length by omega)]
      have := h.at_ (show j < q - 1 by omega) hm (List.getElem?_eq_getElem (show q - 1 < M.length by omega))
      simp; omega
  have hhi : ∀ j m, q ≤ j → M[j]? = some m → upto M q < m.kn := by
    intro j m hj hm
    unfold upto
    by_cases e : 0 < q
    · rw [if_pos e, List.getElem?_eq_getElem (show q - 1 < M.length by omega)]
      exact h.at_ (show q - 1 < j by omega) (List.getElem?_eq_getElem (show q - 1 < M.length by omega)) hm
    · rw [if_neg e]; exact (h.lo m (List.mem_of_getElem? hm)).1
  have hlq : (M.take q).length = q := by rw [List.length_take]; omega
  have e1 : ∀ s, cnt M (upto M q) M.length s = cnt M (upto M q) q s := fun s => cnt_stop hhi hq s
  refine ⟨vis_ext fun s => ?_, vis_ext fun s => ?_⟩
  · rw [e1, hlq, cnt_take (Nat.le_refl _)]
  · rw [e1, hlq, cnt_take (Nat.le_refl _)]
    exact cnt_all fun j m hj hm => ⟨hlo j m hj hm, by
      have := h.lo m (List.mem_of_getElem? hm); omega⟩
theorem visR_ok {M : List Mk} {k : Int} (h : As.ok M = true) : ((vis M k).map (fun i : Nat => (i : Int)), (0 : Int)) = visR M k := by unfold visR; rw [if_pos h]
theorem vis_len (M : List Mk) (k : Int) : (vis M k).length ≤ M.length := by
  unfold vis
  exact Nat.le_trans (List.length_filter_le _ _) (by rw [List.length_range]; omega)
end As
theorem As.take_rd {w : World} {s s1 : Value} {M : List As.Mk} {q : Nat} (h : Hid (∀ w' : World, RdS 3 w' s (M.map As.c) → RdS 3 w' s1 ((M.map As.c).take q))) (hr : RdS 3 w s (M.map As.c)) (hl : M.length ≤ 12) : As.Rd w s1 (M.take q) := by
  have h1 := h.out w hr
  rw [← List.map_take] at h1
  exact ⟨h1, by rw [List.length_take]; omega⟩
set_option maxHeartbeats 4000000 in
theorem later_any (A : Option Addr) (xs : List Int) (c0 : Nat) (W : World) (hI : IntsAt W A xs) (hxl : xs.length ≤ 9223372036854775807) :
    Calls Try.prog 5 #[.slice A xs.length c0] W fun e w' => e = .returned (.bool true) ∧ Below W.heap.size W w' := by
  have HM := Mem.start W
  have HI := Lib.hid hI
  have hel := el_mark
  clear hI
  go_enter Try.func5, Try.ntmps5
  go_upto_region 2 with (first | fail | (first | ((with_reducible refine g_ld ?_); refine a_ld HM ?_) | ((with_reducible refine g_st ?_); refine a_st HM ?_; clear HM; intro w1 HM) | ((with_reducible refine g_al ?_); refine a_al HM ?_; clear HM; intro bk w1 HM) | ((with_reducible refine g_bx ?_); refine a_bx HM ?_; clear HM; intro bk w1 HM) | ((with_reducible refine g_bld ?_); refine a_bld ?_)))
  obtain ⟨tb, rfl⟩ := HM.nm0
  have HC : Hid (TapeC W 0 #[.slice A xs.length c0, .int .i64 0]) := ⟨A, xs, c0, 0, rfl, by omega, by omega, HI.out, hxl⟩
  have H0 : Hid (Below W.heap.size W W) := Below.refl _ _
  have hle : ∀ b ∈ ([] : List Nat), W.heap.size ≤ b := by simp
  go_wp2_with (first | fail | (first | ((with_reducible refine g_ld ?_); refine a_ld HM ?_) | ((with_reducible refine g_st ?_); refine a_st HM ?_; clear HM; intro w1 HM) | ((with_reducible refine g_al ?_); refine a_al HM ?_; clear HM; intro bk w1 HM) | ((with_reducible refine g_bx ?_); refine a_bx HM ?_; clear HM; intro bk w1 HM) | ((with_reducible refine g_bld ?_); refine a_bld ?_)))
  refine (marks_any W tb 0 _ (HM.tp (by ((repeat (first | exact Look.here | refine Look.there ?_)); done)) HC.out H0.out hle) (by omega)).mono ?_
  rintro e9 w2 ⟨sv, M, n, B, c1, rfl, HMD, hMl, HS, hc1, HM1⟩
  replace HM := HM.joinT (by (repeat (first | exact At.here | apply At.there))) HM1
  replace HC := Lib.hid hc1.out
  clear HM1 hc1
  replace HM : Mem W [] ((tb, c1) :: B) w2 := HM.swapA
  obtain ⟨sA, scap, rfl⟩ := HS.out.marks
  go_wp2_with fail
  (refine (next_any W tb _ _ _ (HM.tp (by ((repeat (first | exact Look.here | refine Look.there ?_)); done)) HC.out H0.out hle) (by omega) (by omega) (by omega)).mono ?_; rintro e9 w2 ⟨v, rfl, h0v, h1v, ⟨c1, hb1, hc1, -, -⟩, hg⟩; replace HM := HM.put (c' := c1) (by (repeat (first | exact At.here | apply At.there))) hb1 (Only.of_grown hg); clear hg hb1; replace HC := Lib.hid hc1; clear hc1)
  obtain ⟨q, rfl⟩ : ∃ q : Nat, v = q := ⟨v.toNat, by omega⟩
  have hq : q ≤ M.length := by omega
  have HRD := HS.out.rd HM (by intro p hp; (repeat (first | exact hp | exact List.mem_append_left _ hp | exact (List.mem_singleton.1 hp) ▸ List.mem_cons_self | apply List.mem_append_right | apply List.mem_cons_of_mem)); done)
  obtain ⟨s1, HR1, HD1⟩ := run_take HRD hel (k := q) (by simpa using hq)
  replace HR1 := Lib.hid HR1
  replace HD1 := Lib.hid HD1
  have hlat := As.later HMD.out hMl hq
  obtain ⟨k, hk⟩ : ∃ k, k = As.upto M q := ⟨_, rfl⟩
  obtain ⟨Z, hZ⟩ : ∃ Z, Z = (As.vis M k).map (fun i : Nat => (i : Int)) := ⟨_, rfl⟩
  have V1 : Hid ((Z, (0 : Int)) = As.visR M k) := Lib.hid (by rw [hZ]; exact As.visR_ok (HMD.out.ok hMl))
  have V2 : Hid ((Z, (0 : Int)) = As.visR (M.take q) k) := Lib.hid (by rw [hZ, hk, hlat.1]; exact As.visR_ok (HMD.out.take hMl q))
  have V3 : Hid ((Z, (0 : Int)) = As.visR (M.take q) 2147483647) := Lib.hid (by rw [hZ, hk, hlat.2]; exact As.visR_ok (HMD.out.take hMl q))
  have lz : Z.length ≤ 4611686018427387904 := by rw [hZ, List.length_map]; have := As.vis_len M k; omega
  clear hZ hlat HRD
  by_cases h0 : q = 0
  · subst h0
    obtain rfl : k = 0 := hk
    clear h0v h1v
    go_wp2_with (first | first
      | (go_at_call 9; (with_reducible refine (visible_any _ M _ _ (HS.out.readMk HM (by intro p hp; (repeat (first | exact hp | exact List.mem_append_left _ hp | exact (List.mem_singleton.1 hp) ▸ List.mem_cons_self | apply List.mem_append_right | apply List.mem_cons_of_mem)); done) (by omega)) _ _ V1).mono ?_); rintro e9 w2 ⟨sa, Ba, rfl, HSa, HM1⟩; replace HM := HM.join HM1; clear HM1)
      | (go_at_call 9; (with_reducible refine (visible_any _ (M.take 0) 0 _ (As.take_rd HD1 (HS.out.rd HM (by intro p hp; (repeat (first | exact hp | exact List.mem_append_left _ hp | exact (List.mem_singleton.1 hp) ▸ List.mem_cons_self | apply List.mem_append_right | apply List.mem_cons_of_mem)); done)) hMl) _ _ V2).mono ?_); rintro e9 w2 ⟨sb, Bb, rfl, HSb, HM1⟩; replace HM := HM.join HM1; clear HM1)
      | (go_at_call 9; (with_reducible refine (visible_any _ (M.take 0) _ _ (As.take_rd HD1 (HS.out.rd HM (by intro p hp; (repeat (first | exact hp | exact List.mem_append_left _ hp | exact (List.mem_singleton.1 hp) ▸ List.mem_cons_self | apply List.mem_append_right | apply List.mem_cons_of_mem)); done)) hMl) _ _ V3).mono ?_); rintro e9 w2 ⟨sc, Bc, rfl, HSc, HM1⟩; replace HM := HM.join HM1; clear HM1)
      | (go_at_call 15; ((with_reducible refine (known_any _).mono ?_); rintro e9 w2 ⟨rfl, hL⟩; replace HM := HM.call hL; clear hL))
      | (go_at_call 18; ((with_reducible refine (sameInts_any _ _ Z Z _ (HSa.out.rd HM (by intro p hp; (repeat (first | exact hp | exact List.mem_append_left _ hp | exact (List.mem_singleton.1 hp) ▸ List.mem_cons_self | apply List.mem_append_right | apply List.mem_cons_of_mem)); done)) (HSb.out.rd HM (by intro p hp; (repeat (first | exact hp | exact List.mem_append_left _ hp | exact (List.mem_singleton.1 hp) ▸ List.mem_cons_self | apply List.mem_append_right | apply List.mem_cons_of_mem)); done)) lz lz true (Lib.hid (decide_eq_true rfl).symm)).mono ?_); rintro e9 w2 ⟨rfl, hL⟩; replace HM := HM.call hL; clear hL))
      | (go_at_call 18; ((with_reducible refine (sameInts_any _ _ Z Z _ (HSa.out.rd HM (by intro p hp; (repeat (first | exact hp | exact List.mem_append_left _ hp | exact (List.mem_singleton.1 hp) ▸ List.mem_cons_self | apply List.mem_append_right | apply List.mem_cons_of_mem)); done)) (HSc.out.rd HM (by intro p hp; (repeat (first | exact hp | exact List.mem_append_left _ hp | exact (List.mem_singleton.1 hp) ▸ List.mem_cons_self | apply List.mem_append_right | apply List.mem_cons_of_mem)); done)) lz lz true (Lib.hid (decide_eq_true rfl).symm)).mono ?_); rintro e9 w2 ⟨rfl, hL⟩; replace HM := HM.call hL; clear hL))
      | ((with_reducible refine g_sl ?_); refine a_sl (v := s1) ?_ (fun w => by simpa [Act.eval] using HR1.out w)) | (first | ((with_reducible refine g_ld ?_); refine a_ld HM ?_) | ((with_reducible refine g_st ?_); refine a_st HM ?_; clear HM; intro w1 HM) | ((with_reducible refine g_al ?_); refine a_al HM ?_; clear HM; intro bk w1 HM) | ((with_reducible refine g_bx ?_); refine a_bx HM ?_; clear HM; intro bk w1 HM) | ((with_reducible refine g_bld ?_); refine a_bld ?_)))
    go_ret
    exact ⟨rfl, HM.low⟩
  · obtain ⟨i, rfl⟩ : ∃ i, q = i + 1 := ⟨q - 1, by omega⟩
    obtain ⟨m, hm⟩ : ∃ m, M[i]? = some m := ⟨_, List.getElem?_eq_getElem (by omega)⟩
    obtain rfl : k = m.kn := by rw [hk]; unfold As.upto; rw [if_pos (by omega), Nat.add_sub_cancel, hm]; rfl
    have hne : M.map As.c ≠ [] := by intro e; simp at e; subst e; simp at *
    obtain ⟨b, sp, e1, e2, hsz3⟩ := SlAt.inv HS.out hne
    injection e1 with e1 e3 e4
    subst e1 e2
    clear e3 e4
    have l0 : LA 3 (rowsOf (M.map As.c ++ sp)) (i * 3 + 1) (.int .i64 m.kn) := la_rowone (n := 3) (a := 1) (by kernel_rfl) hsz3 (by rw [List.getElem?_append_left (by simp; omega), List.getElem?_map, hm]; rfl) (by omega) rfl
    have hlt1 : (i : Int) < M.length := by omega
    clear hk hm hne hsz3 h0 h0v h1v
    go_wp2_with (first | first
      | (go_at_call 9; (with_reducible refine (visible_any _ M _ _ (HS.out.readMk HM (by intro p hp; (repeat (first | exact hp | exact List.mem_append_left _ hp | exact (List.mem_singleton.1 hp) ▸ List.mem_cons_self | apply List.mem_append_right | apply List.mem_cons_of_mem)); done) (by omega)) _ _ V1).mono ?_); rintro e9 w2 ⟨sa, Ba, rfl, HSa, HM1⟩; replace HM := HM.join HM1; clear HM1)
      | (go_at_call 9; (with_reducible refine (visible_any _ (M.take (i + 1)) m.kn _ (As.take_rd HD1 (HS.out.rd HM (by intro p hp; (repeat (first | exact hp | exact List.mem_append_left _ hp | exact (List.mem_singleton.1 hp) ▸ List.mem_cons_self | apply List.mem_append_right | apply List.mem_cons_of_mem)); done)) hMl) _ _ V2).mono ?_); rintro e9 w2 ⟨sb, Bb, rfl, HSb, HM1⟩; replace HM := HM.join HM1; clear HM1)
      | (go_at_call 9; (with_reducible refine (visible_any _ (M.take (i + 1)) _ _ (As.take_rd HD1 (HS.out.rd HM (by intro p hp; (repeat (first | exact hp | exact List.mem_append_left _ hp | exact (List.mem_singleton.1 hp) ▸ List.mem_cons_self | apply List.mem_append_right | apply List.mem_cons_of_mem)); done)) hMl) _ _ V3).mono ?_); rintro e9 w2 ⟨sc, Bc, rfl, HSc, HM1⟩; replace HM := HM.join HM1; clear HM1)
      | (go_at_call 15; ((with_reducible refine (known_any _).mono ?_); rintro e9 w2 ⟨rfl, hL⟩; replace HM := HM.call hL; clear hL))
      | (go_at_call 18; ((with_reducible refine (sameInts_any _ _ Z Z _ (HSa.out.rd HM (by intro p hp; (repeat (first | exact hp | exact List.mem_append_left _ hp | exact (List.mem_singleton.1 hp) ▸ List.mem_cons_self | apply List.mem_append_right | apply List.mem_cons_of_mem)); done)) (HSb.out.rd HM (by intro p hp; (repeat (first | exact hp | exact List.mem_append_left _ hp | exact (List.mem_singleton.1 hp) ▸ List.mem_cons_self | apply List.mem_append_right | apply List.mem_cons_of_mem)); done)) lz lz true (Lib.hid (decide_eq_true rfl).symm)).mono ?_); rintro e9 w2 ⟨rfl, hL⟩; replace HM := HM.call hL; clear hL))
      | (go_at_call 18; ((with_reducible refine (sameInts_any _ _ Z Z _ (HSa.out.rd HM (by intro p hp; (repeat (first | exact hp | exact List.mem_append_left _ hp | exact (List.mem_singleton.1 hp) ▸ List.mem_cons_self | apply List.mem_append_right | apply List.mem_cons_of_mem)); done)) (HSc.out.rd HM (by intro p hp; (repeat (first | exact hp | exact List.mem_append_left _ hp | exact (List.mem_singleton.1 hp) ▸ List.mem_cons_self | apply List.mem_append_right | apply List.mem_cons_of_mem)); done)) lz lz true (Lib.hid (decide_eq_true rfl).symm)).mono ?_); rintro e9 w2 ⟨rfl, hL⟩; replace HM := HM.call hL; clear hL))
      | ((with_reducible refine g_sl ?_); refine a_sl (v := s1) ?_ (fun w => by simpa [Act.eval] using HR1.out w)) | (first | ((with_reducible refine g_ld ?_); refine a_ld HM ?_) | ((with_reducible refine g_st ?_); refine a_st HM ?_; clear HM; intro w1 HM) | ((with_reducible refine g_al ?_); refine a_al HM ?_; clear HM; intro bk w1 HM) | ((with_reducible refine g_bx ?_); refine a_bx HM ?_; clear HM; intro bk w1 HM) | ((with_reducible refine g_bld ?_); refine a_bld ?_)))
    go_ret
    exact ⟨rfl, HM.low⟩
end Go.Proofs.Ytipkmppoppjmeaa
