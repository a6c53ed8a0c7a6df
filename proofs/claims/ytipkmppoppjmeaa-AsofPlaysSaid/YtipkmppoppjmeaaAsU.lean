/- The law AsofPlays, walked. -/
import Derived.Test.YtipkmppoppjmeaaAsT
namespace Go.Proofs.Ytipkmppoppjmeaa
set_option maxRecDepth 8000
open Go.RowKit Go.Maps
/-- A mark of a made list is changed. -/
theorem As.set_row {M : List As.Mk} {sp : List (Array Value)} {i : Nat} {m : As.Mk} (hi : i < M.length) : rowsOf ((M.map As.c ++ sp).set i (As.c m)) = rowsOf ((M.set i m).map As.c ++ sp) := by
  rw [List.set_append_left _ _ (by simpa using hi), List.map_set]
theorem As.row_at {M : List As.Mk} {b : Nat} {sp : List (Array Value)} (h : ∀ c ∈ M.map As.c ++ sp, c.size = 3) (i : Nat) (m : As.Mk) {n cap : Nat} (hn : n = M.length) (hc : cap = M.length + sp.length) : SlAt 3 (.slice (some ⟨b, 0, none⟩) n cap) ((M.set i m).map As.c) [(b, rowsOf ((M.set i m).map As.c ++ sp))] := by
  have := SlAt.row (n := 3) b ((M.set i m).map As.c) sp (by
    intro c hc
    rcases List.mem_append.1 hc with hc | hc
    · exact As.c_size _ c hc
    · exact h c (List.mem_append_right _ hc))
  rw [List.length_map, List.length_set] at this
  subst hn hc
  exact this
section
variable {M : List As.Mk} {sp : List (Array Value)} {i : Nat} {m : As.Mk}
theorem As.row_get (hm : M[i]? = some m) : (M.map As.c ++ sp)[i]? = some (As.c m) := by
  have hi := (List.getElem?_eq_some_iff.1 hm).1
  rw [List.getElem?_append_left (by simpa using hi), List.getElem?_map, hm]; rfl
theorem As.sa_kn (h : ∀ c ∈ M.map As.c ++ sp, c.size = 3) (hm : M[i]? = some m) (x : Int) : SA 3 (rowsOf (M.map As.c ++ sp)) (i * 3 + 1) (.int .i64 x) (rowsOf ((M.set i ⟨m.key, x, m.vd⟩).map As.c ++ sp)) := by
  rw [← As.set_row (List.getElem?_eq_some_iff.1 hm).1]
  exact sa_rowone (n := 3) (a := 1) (by kernel_rfl) h (As.row_get hm) (by omega) rfl
theorem As.sa_vd (h : ∀ c ∈ M.map As.c ++ sp, c.size = 3) (hm : M[i]? = some m) (x : Bool) : SA 4 (rowsOf (M.map As.c ++ sp)) (i * 3 + 2) (.bool x) (rowsOf ((M.set i ⟨m.key, m.kn, x⟩).map As.c ++ sp)) := by
  rw [← As.set_row (List.getElem?_eq_some_iff.1 hm).1]
  exact sa_rowone (n := 3) (a := 2) (by kernel_rfl) h (As.row_get hm) (by omega) rfl
theorem As.sa_key (h : ∀ c ∈ M.map As.c ++ sp, c.size = 3) (hm : M[i]? = some m) (x : ByteArray) : SA 9 (rowsOf (M.map As.c ++ sp)) (i * 3) (.string x) (rowsOf ((M.set i ⟨x, m.kn, m.vd⟩).map As.c ++ sp)) := by
  rw [← As.set_row (List.getElem?_eq_some_iff.1 hm).1]
  exact sa_rowone (n := 3) (a := 0) (by kernel_rfl) h (As.row_get hm) (by omega) rfl
end
set_option maxHeartbeats 4000000 in
theorem plays_any (A : Option Addr) (xs : List Int) (c0 : Nat) (W : World) (hI : IntsAt W A xs) (hxl : xs.length ≤ 9223372036854775807) :
    Calls Try.prog 4 #[.slice A xs.length c0] W fun e w' => e = .returned (.bool true) ∧ Below W.heap.size W w' := by
  have HM := Mem.start W
  have HI := Lib.hid hI
  clear hI
  go_enter Try.func4, Try.ntmps4
  go_upto_region 2 with (first | fail | (first | ((with_reducible refine g_ld ?_); refine a_ld HM ?_) | ((with_reducible refine g_st ?_); refine a_st HM ?_; clear HM; intro w1 HM) | ((with_reducible refine g_al ?_); refine a_al HM ?_; clear HM; intro bk w1 HM) | ((with_reducible refine g_bx ?_); refine a_bx HM ?_; clear HM; intro bk w1 HM) | ((with_reducible refine g_bld ?_); refine a_bld ?_)))
  obtain ⟨tb, rfl⟩ := HM.nm0
  have HC : Hid (TapeC W 0 #[.slice A xs.length c0, .int .i64 0]) := ⟨A, xs, c0, 0, rfl, by omega, by omega, HI.out, hxl⟩
  have H0 : Hid (Below W.heap.size W W) := Below.refl _ _
  have hle : ∀ b ∈ ([] : List Nat), W.heap.size ≤ b := by simp
  go_wp2_with (first | fail | (first | ((with_reducible refine g_ld ?_); refine a_ld HM ?_) | ((with_reducible refine g_st ?_); refine a_st HM ?_; clear HM; intro w1 HM) | ((with_reducible refine g_al ?_); refine a_al HM ?_; clear HM; intro bk w1 HM) | ((with_reducible refine g_bx ?_); refine a_bx HM ?_; clear HM; intro bk w1 HM) | ((with_reducible refine g_bld ?_); refine a_bld ?_)))
  refine (marks_any W tb 0 _ (HM.tp (by ((repeat (first | exact Look.here | refine Look.there ?_)); done)) HC.out H0.out hle) (by omega)).mono ?_
  rintro e9 w2 ⟨sv, M, n, B, c1, rfl, HMD, hMl, HS, hc1, HM1⟩
  replace HM := HM.joinT (by (repeat (first | exact At.here | apply At.there))) HM1
  replace HC := Lib.hid hc1.out
  clear HM1 hc1
  replace HM : Mem W [] ((tb, c1) :: B) w2 := HM.swapA
  obtain ⟨sA, scap, rfl⟩ := HS.out.marks
  go_wp2_with fail
  (refine (range_any W tb _ (-1) (30) _ (HM.tp (by ((repeat (first | exact Look.here | refine Look.there ?_)); done)) HC.out H0.out hle) (by omega) (by omega) (by omega) (by omega)).mono ?_; rintro e9 w2 ⟨k, rfl, hk0, hk1, ⟨c1, hb1, hc1, -, -⟩, hg⟩; replace HM := HM.put (c' := c1) (by (repeat (first | exact At.here | apply At.there))) hb1 (Only.of_grown hg); clear hg hb1; replace HC := Lib.hid hc1; clear hc1)
  go_wp2_with fail
  (refine (range_any W tb _ (-1) (30) _ (HM.tp (by ((repeat (first | exact Look.here | refine Look.there ?_)); done)) HC.out H0.out hle) (by omega) (by omega) (by omega) (by omega)).mono ?_; rintro e9 w2 ⟨k2, rfl, hk2, hk3, ⟨c1, hb1, hc1, -, -⟩, hg⟩; replace HM := HM.put (c' := c1) (by (repeat (first | exact At.here | apply At.there))) hb1 (Only.of_grown hg); clear hg hb1; replace HC := Lib.hid hc1; clear hc1)
  go_wp2_with fail
  (refine (one_new (tb := tb) (W := W) HM (by ((repeat (first | exact Look.here | refine Look.there ?_)); done)) HC.out H0.out (by first | exact hle | simpa using hle) [{ data := #[97] }, { data := #[98] }, { data := #[99] }, { data := #[] }] _ (by omega) (by simp) (by simp)).mono ?_; rintro e9 w2 ⟨s, c1, rfl, hs, hc1, hb1, hg⟩; replace HM := HM.put (c' := c1) (by (repeat (first | exact At.here | apply At.there))) hb1 hg; clear hg hb1; replace HC := Lib.hid hc1; clear hc1)
  have hsz : s.size ≤ maxLen := by
    simp only [List.mem_cons, List.not_mem_nil, or_false] at hs
    rcases hs with rfl | rfl | rfl | rfl <;> decide
  clear hs
  go_wp2_with (first | (go_at_call 3; ((with_reducible refine (exact_any _ M _ _ s _ (HS.out.readMk HM (by intro p hp; (repeat (first | exact hp | exact List.mem_append_left _ hp | exact (List.mem_singleton.1 hp) ▸ List.mem_cons_self | apply List.mem_append_right | apply List.mem_cons_of_mem)); done) (by omega)) hsz).mono ?_); rintro e9 w2 ⟨rfl, hL⟩; replace HM := HM.call hL; clear hL)) | (first | ((with_reducible refine g_ld ?_); refine a_ld HM ?_) | ((with_reducible refine g_st ?_); refine a_st HM ?_; clear HM; intro w1 HM) | ((with_reducible refine g_al ?_); refine a_al HM ?_; clear HM; intro bk w1 HM) | ((with_reducible refine g_bx ?_); refine a_bx HM ?_; clear HM; intro bk w1 HM) | ((with_reducible refine g_bld ?_); refine a_bld ?_)))
  · have hne : M.map As.c ≠ [] := by intro e; simp at e; subst e; simp at *
    obtain ⟨b, sp, e1, e2, hsz3⟩ := SlAt.inv HS.out hne
    injection e1 with e1 e3 e4
    subst e1 e2
    clear e3
    rw [List.length_map] at e4
    (refine (next_any W tb _ _ _ (HM.tp (by ((repeat (first | exact Look.here | refine Look.there ?_)); done)) HC.out H0.out hle) (by omega) (by omega) (by omega)).mono ?_; rintro e9 w2 ⟨v, rfl, h0v, h1v, ⟨c1, hb1, hc1, -, -⟩, hg⟩; replace HM := HM.put (c' := c1) (by (repeat (first | exact At.here | apply At.there))) hb1 (Only.of_grown hg); clear hg hb1; replace HC := Lib.hid hc1; clear hc1)
    obtain ⟨i, rfl⟩ : ∃ i : Nat, v = i := ⟨v.toNat, by omega⟩
    have hi : i < M.length := by omega
    obtain ⟨m, hm⟩ : ∃ m, M[i]? = some m := ⟨_, List.getElem?_eq_getElem hi⟩
    obtain ⟨m0, hm0⟩ : ∃ m, M[0]? = some m := ⟨_, List.getElem?_eq_getElem (by omega)⟩
    have l0 : LA 3 (rowsOf (M.map As.c ++ sp)) 1 (.int .i64 m0.kn) := la_rowone (n := 3) (k := 0) (a := 1) (by kernel_rfl) hsz3 (As.row_get hm0) (by omega) rfl
    have l2 : LA 4 (rowsOf (M.map As.c ++ sp)) (i * 3 + 2) (.bool m.vd) := la_rowone (n := 3) (by kernel_rfl) hsz3 (As.row_get hm) (by omega) rfl
    have hlt1 : (i : Int) < M.length := by omega
    go_wp2_with fail
    (refine (next_any W tb _ _ _ (HM.tp (by ((repeat (first | exact Look.here | refine Look.there ?_)); done)) HC.out H0.out hle) (by omega) (by omega) (by omega)).mono ?_; rintro e9 w2 ⟨v, rfl, h0v2, h1v2, ⟨c1, hb1, hc1, -, -⟩, hg⟩; replace HM := HM.put (c' := c1) (by (repeat (first | exact At.here | apply At.there))) hb1 (Only.of_grown hg); clear hg hb1; replace HC := Lib.hid hc1; clear hc1)
    have hv3 : v = 0 ∨ v = 1 ∨ v = 2 := by omega
    have SK := Lib.hid (As.sa_kn hsz3 hm)
    have SS := Lib.hid (As.sa_key hsz3 hm)
    have SV := As.sa_vd hsz3 hm (!m.vd)
    have ML := Lib.hid (fun (x : As.Mk) => show (M.set i x).length ≤ 9223372036854775807 by rw [List.length_set]; omega)
    have RA := Lib.hid (fun (x : As.Mk) => As.row_at (b := b) hsz3 i x rfl rfl)
    clear hm hm0 hne HS hsz3 HMD h0v2 h1v2 h0v h1v
    rcases hv3 with rfl | rfl | rfl
    · go_wp2_with (first | fail | (first | ((with_reducible refine g_ld ?_); refine a_ld HM ?_) | ((with_reducible refine g_st ?_); refine a_st HM ?_; clear HM; intro w1 HM) | ((with_reducible refine g_al ?_); refine a_al HM ?_; clear HM; intro bk w1 HM) | ((with_reducible refine g_bx ?_); refine a_bx HM ?_; clear HM; intro bk w1 HM) | ((with_reducible refine g_bld ?_); refine a_bld ?_)))
      (refine (pick_new (tb := tb) (W := W) HM (by ((repeat (first | exact Look.here | refine Look.there ?_)); done)) HC.out H0.out (by first | exact hle | simpa using hle) [0, -1, m0.kn, 2147483647, 2147483648] _ (by omega) (by simp) (by simp)).mono ?_; rintro e9 w2 ⟨v1, c1, rfl, hv, hc1, hb1, hg⟩; replace HM := HM.put (c' := c1) (by (repeat (first | exact At.here | apply At.there))) hb1 hg; clear hg hb1; replace HC := Lib.hid hc1; clear hc1)
      have s1 := SK.out v1
      clear hv SV
      go_wp2_with (first | first
        | (go_at_call 3; ((with_reducible refine (exact_any _ _ _ _ _ _ ((RA.out _).readMk HM (by intro p hp; (repeat (first | exact hp | exact List.mem_append_left _ hp | exact (List.mem_singleton.1 hp) ▸ List.mem_cons_self | apply List.mem_append_right | apply List.mem_cons_of_mem)); done) (ML.out _)) (by decide)).mono ?_); rintro e9 w2 ⟨rfl, hL⟩; replace HM := HM.call hL; clear hL))
        | (go_at_call 15; ((with_reducible refine (known_any _).mono ?_); rintro e9 w2 ⟨rfl, hL⟩; replace HM := HM.call hL; clear hL)) | (first | ((with_reducible refine g_ld ?_); refine a_ld HM ?_) | ((with_reducible refine g_st ?_); refine a_st HM ?_; clear HM; intro w1 HM) | ((with_reducible refine g_al ?_); refine a_al HM ?_; clear HM; intro bk w1 HM) | ((with_reducible refine g_bx ?_); refine a_bx HM ?_; clear HM; intro bk w1 HM) | ((with_reducible refine g_bld ?_); refine a_bld ?_)))
      go_ret
      exact ⟨rfl, HM.low⟩
    · go_wp2_with (first | fail | (first | ((with_reducible refine g_ld ?_); refine a_ld HM ?_) | ((with_reducible refine g_st ?_); refine a_st HM ?_; clear HM; intro w1 HM) | ((with_reducible refine g_al ?_); refine a_al HM ?_; clear HM; intro bk w1 HM) | ((with_reducible refine g_bx ?_); refine a_bx HM ?_; clear HM; intro bk w1 HM) | ((with_reducible refine g_bld ?_); refine a_bld ?_)))
      (refine (one_new (tb := tb) (W := W) HM (by ((repeat (first | exact Look.here | refine Look.there ?_)); done)) HC.out H0.out (by first | exact hle | simpa using hle) [{ data := #[] }, { data := #[48, 49, 50, 51, 52, 53, 54, 55, 56, 57, 48, 49, 50, 51, 52, 53, 54, 55, 56, 57, 48, 49, 50, 51, 52, 53, 54, 55, 56, 57, 48, 49, 50, 51, 52, 53, 54, 55, 56, 57, 48, 49, 50, 51, 52, 53, 54, 55, 56, 57, 48, 49, 50, 51, 52, 53, 54, 55, 56, 57, 48, 49, 50, 51] }, { data := #[48, 49, 50, 51, 52, 53, 54, 55, 56, 57, 48, 49, 50, 51, 52, 53, 54, 55, 56, 57, 48, 49, 50, 51, 52, 53, 54, 55, 56, 57, 48, 49, 50, 51, 52, 53, 54, 55, 56, 57, 48, 49, 50, 51, 52, 53, 54, 55, 56, 57, 48, 49, 50, 51, 52, 53, 54, 55, 56, 57, 48, 49, 50, 51, 52] }] _ (by omega) (by simp) (by simp)).mono ?_; rintro e9 w2 ⟨x, c1, rfl, hx, hc1, hb1, hg⟩; replace HM := HM.put (c' := c1) (by (repeat (first | exact At.here | apply At.there))) hb1 hg; clear hg hb1; replace HC := Lib.hid hc1; clear hc1)
      have s1 := SS.out x
      clear hx SV
      go_wp2_with (first | first
        | (go_at_call 3; ((with_reducible refine (exact_any _ _ _ _ _ _ ((RA.out _).readMk HM (by intro p hp; (repeat (first | exact hp | exact List.mem_append_left _ hp | exact (List.mem_singleton.1 hp) ▸ List.mem_cons_self | apply List.mem_append_right | apply List.mem_cons_of_mem)); done) (ML.out _)) (by decide)).mono ?_); rintro e9 w2 ⟨rfl, hL⟩; replace HM := HM.call hL; clear hL))
        | (go_at_call 15; ((with_reducible refine (known_any _).mono ?_); rintro e9 w2 ⟨rfl, hL⟩; replace HM := HM.call hL; clear hL)) | (first | ((with_reducible refine g_ld ?_); refine a_ld HM ?_) | ((with_reducible refine g_st ?_); refine a_st HM ?_; clear HM; intro w1 HM) | ((with_reducible refine g_al ?_); refine a_al HM ?_; clear HM; intro bk w1 HM) | ((with_reducible refine g_bx ?_); refine a_bx HM ?_; clear HM; intro bk w1 HM) | ((with_reducible refine g_bld ?_); refine a_bld ?_)))
      go_ret
      exact ⟨rfl, HM.low⟩
    · go_wp2_with (first | first
        | (go_at_call 3; ((with_reducible refine (exact_any _ _ _ _ _ _ ((RA.out _).readMk HM (by intro p hp; (repeat (first | exact hp | exact List.mem_append_left _ hp | exact (List.mem_singleton.1 hp) ▸ List.mem_cons_self | apply List.mem_append_right | apply List.mem_cons_of_mem)); done) (ML.out _)) (by decide)).mono ?_); rintro e9 w2 ⟨rfl, hL⟩; replace HM := HM.call hL; clear hL))
        | (go_at_call 15; ((with_reducible refine (known_any _).mono ?_); rintro e9 w2 ⟨rfl, hL⟩; replace HM := HM.call hL; clear hL)) | (first | ((with_reducible refine g_ld ?_); refine a_ld HM ?_) | ((with_reducible refine g_st ?_); refine a_st HM ?_; clear HM; intro w1 HM) | ((with_reducible refine g_al ?_); refine a_al HM ?_; clear HM; intro bk w1 HM) | ((with_reducible refine g_bx ?_); refine a_bx HM ?_; clear HM; intro bk w1 HM) | ((with_reducible refine g_bld ?_); refine a_bld ?_)))
      go_ret
      exact ⟨rfl, HM.low⟩
  · go_wp2_with (first | first
      | (go_at_call 3; ((with_reducible refine (exact_any _ M _ _ _ _ (HS.out.readMk HM (by intro p hp; (repeat (first | exact hp | exact List.mem_append_left _ hp | exact (List.mem_singleton.1 hp) ▸ List.mem_cons_self | apply List.mem_append_right | apply List.mem_cons_of_mem)); done) (by omega)) (by decide)).mono ?_); rintro e9 w2 ⟨rfl, hL⟩; replace HM := HM.call hL; clear hL))
      | (go_at_call 15; ((with_reducible refine (known_any _).mono ?_); rintro e9 w2 ⟨rfl, hL⟩; replace HM := HM.call hL; clear hL)) | (first | ((with_reducible refine g_ld ?_); refine a_ld HM ?_) | ((with_reducible refine g_st ?_); refine a_st HM ?_; clear HM; intro w1 HM) | ((with_reducible refine g_al ?_); refine a_al HM ?_; clear HM; intro bk w1 HM) | ((with_reducible refine g_bx ?_); refine a_bx HM ?_; clear HM; intro bk w1 HM) | ((with_reducible refine g_bld ?_); refine a_bld ?_)))
    go_ret
    exact ⟨rfl, HM.low⟩
end Go.Proofs.Ytipkmppoppjmeaa
