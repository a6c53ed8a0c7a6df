/- Cmp of ratios, of both. -/
import Derived.Test.YtekfabhmopkapaaRatE
namespace Go.Proofs.Ytekfabhmopkapaa
set_option maxRecDepth 8000
open Go.RowKit
set_option maxHeartbeats 4000000 in
theorem Cmp_bad (s : Bool) (M : Nat) (t : Bool) (N : Nat) (s2 : Bool) (M2 : Nat) (t2 : Bool) (N2 : Nat) (hM : M < Bg.lim) (hN : N < Bg.lim) (hM2 : M2 < Bg.lim) (hN2 : N2 < Bg.lim) (hbad : (Rt.ok s M t N && Rt.ok s2 M2 t2 N2) = false) (w : World) :
    Calls Try.prog 36 #[.agg (Bg.ratA s M t N), .agg (Bg.ratA s2 M2 t2 N2)] w fun r w' => r = .returned (.tuple #[.int .i64 0, .int .i64 20]) ∧ Below w.heap.size w w' := by
  have HM := Mem.start w
  obtain ⟨f1, h1⟩ : ∃ f, Hid (f = Rt.ok s M t N) := ⟨_, rfl⟩
  obtain ⟨f2, h2⟩ : ∃ f, Hid (f = Rt.ok s2 M2 t2 N2) := ⟨_, rfl⟩
  rw [← h1.out, ← h2.out] at hbad
  have k1 := la_rat s M t N
  have k2 := la_rat s2 M2 t2 N2
  go_enter Try.func36, Try.ntmps36
  cases f1 with
  | false =>
    clear hbad
    go_wp2_with (first | (go_at_call 15; ((with_reducible refine (valid_n s M t N false hM hN h1 _).mono ?_); rintro e9 w2 ⟨rfl, hL⟩; replace HM := HM.call hL; clear hL)) | (first | ((with_reducible refine g_ld ?_); refine a_ld HM ?_) | ((with_reducible refine g_st ?_); refine a_st HM ?_; clear HM; intro w1 HM) | ((with_reducible refine g_al ?_); refine a_al HM ?_; clear HM; intro bk w1 HM) | ((with_reducible refine g_bx ?_); refine a_bx HM ?_; clear HM; intro bk w1 HM) | ((with_reducible refine g_bld ?_); refine a_bld ?_)))
    go_ret2
    exact ⟨rfl, HM.low⟩
  | true =>
    obtain rfl : f2 = false := by simpa using hbad
    clear hbad
    go_wp2_with (first | first | (go_at_call 15; ((with_reducible refine (valid_n s M t N true hM hN h1 _).mono ?_); rintro e9 w2 ⟨rfl, hL⟩; replace HM := HM.call hL; clear hL)) | (go_at_call 15; ((with_reducible refine (valid_n s2 M2 t2 N2 false hM2 hN2 h2 _).mono ?_); rintro e9 w2 ⟨rfl, hL⟩; replace HM := HM.call hL; clear hL)) | (first | ((with_reducible refine g_ld ?_); refine a_ld HM ?_) | ((with_reducible refine g_st ?_); refine a_st HM ?_; clear HM; intro w1 HM) | ((with_reducible refine g_al ?_); refine a_al HM ?_; clear HM; intro bk w1 HM) | ((with_reducible refine g_bx ?_); refine a_bx HM ?_; clear HM; intro bk w1 HM) | ((with_reducible refine g_bld ?_); refine a_bld ?_)))
    go_ret2
    exact ⟨rfl, HM.low⟩
set_option maxHeartbeats 4000000 in
theorem rCmp_bad (s : Bool) (M : Nat) (t : Bool) (N : Nat) (s2 : Bool) (M2 : Nat) (t2 : Bool) (N2 : Nat) (hM : M < Bg.lim) (hN : N < Bg.lim) (hM2 : M2 < Bg.lim) (hN2 : N2 < Bg.lim) (hbad : (Rt.ok s M t N && Rt.ok s2 M2 t2 N2) = false) (w : World) :
    Calls Try.prog 37 #[.agg (Bg.ratA s M t N), .agg (Bg.ratA s2 M2 t2 N2)] w fun r w' => r = .returned (.tuple #[.int .i64 0, .int .i64 20]) ∧ Below w.heap.size w w' := by
  have HM := Mem.start w
  obtain ⟨f1, h1⟩ : ∃ f, Hid (f = Rt.ok s M t N) := ⟨_, rfl⟩
  obtain ⟨f2, h2⟩ : ∃ f, Hid (f = Rt.ok s2 M2 t2 N2) := ⟨_, rfl⟩
  rw [← h1.out, ← h2.out] at hbad
  have k1 := la_rat s M t N
  have k2 := la_rat s2 M2 t2 N2
  go_enter Try.func37, Try.ntmps37
  cases f1 with
  | false =>
    clear hbad
    go_wp2_with (first | (go_at_call 38; ((with_reducible refine (rvalid_n s M t N false hM hN h1 _).mono ?_); rintro e9 w2 ⟨rfl, hL⟩; replace HM := HM.call hL; clear hL)) | (first | ((with_reducible refine g_ld ?_); refine a_ld HM ?_) | ((with_reducible refine g_st ?_); refine a_st HM ?_; clear HM; intro w1 HM) | ((with_reducible refine g_al ?_); refine a_al HM ?_; clear HM; intro bk w1 HM) | ((with_reducible refine g_bx ?_); refine a_bx HM ?_; clear HM; intro bk w1 HM) | ((with_reducible refine g_bld ?_); refine a_bld ?_)))
    go_ret2
    exact ⟨rfl, HM.low⟩
  | true =>
    obtain rfl : f2 = false := by simpa using hbad
    clear hbad
    go_wp2_with (first | first | (go_at_call 38; ((with_reducible refine (rvalid_n s M t N true hM hN h1 _).mono ?_); rintro e9 w2 ⟨rfl, hL⟩; replace HM := HM.call hL; clear hL)) | (go_at_call 38; ((with_reducible refine (rvalid_n s2 M2 t2 N2 false hM2 hN2 h2 _).mono ?_); rintro e9 w2 ⟨rfl, hL⟩; replace HM := HM.call hL; clear hL)) | (first | ((with_reducible refine g_ld ?_); refine a_ld HM ?_) | ((with_reducible refine g_st ?_); refine a_st HM ?_; clear HM; intro w1 HM) | ((with_reducible refine g_al ?_); refine a_al HM ?_; clear HM; intro bk w1 HM) | ((with_reducible refine g_bx ?_); refine a_bx HM ?_; clear HM; intro bk w1 HM) | ((with_reducible refine g_bld ?_); refine a_bld ?_)))
    go_ret2
    exact ⟨rfl, HM.low⟩
theorem rcmp_z (p d g : Int) (hp : p.natAbs < Bg.lim) (hd : d.natAbs < Bg.lim) (hg : Hid (g = (p - d).sign)) (w : World) :
    Calls Try.prog 91 #[.agg (Bg.zA p), .agg (Bg.zA d)] w fun r w' => r = .returned (.int .i64 g) ∧ Below w.heap.size w w' := by
  rw [zA_int p, zA_int d]
  exact rcmp_any _ _ _ _ g hp hd (Lib.hid (by rw [Bg.toZ_iv, Bg.toZ_iv]; exact hg.out)) w
set_option maxHeartbeats 4000000 in
theorem Cmp_zz (p q r u x y g : Int) (hp : p.natAbs < Bg.lim) (hq : q.natAbs < Bg.lim) (hr : r.natAbs < Bg.lim) (hu : u.natAbs < Bg.lim) (h1 : Hid (true = Rt.okz p q)) (h2 : Hid (true = Rt.okz r u)) (hx : Hid (x = p * u)) (hy : Hid (y = r * q)) (hg : Hid (g = (x - y).sign)) (lx : x.natAbs < Bg.lim) (ly : y.natAbs < Bg.lim) (w : World) :
    Calls Try.prog 36 #[.agg (Bg.rZ p q), .agg (Bg.rZ r u)] w fun r w' => r = .returned (.tuple #[.int .i64 g, .int .i64 0]) ∧ Below w.heap.size w w' := by
  have HM := Mem.start w
  have k1 := la_rz p q
  have k2 := la_rz r u
  have k3 := la_rznum p q
  have k4 := la_rzden p q
  have k5 := la_rznum r u
  have k6 := la_rzden r u
  go_enter Try.func36, Try.ntmps36
  go_upto_region 3 with (first | first | (go_at_call 15; ((with_reducible refine (valid_z p q true hp hq h1 _).mono ?_); rintro e9 w2 ⟨rfl, hL⟩; replace HM := HM.call hL; clear hL)) | (go_at_call 15; ((with_reducible refine (valid_z r u true hr hu h2 _).mono ?_); rintro e9 w2 ⟨rfl, hL⟩; replace HM := HM.call hL; clear hL)) | (first | ((with_reducible refine g_ld ?_); refine a_ld HM ?_) | ((with_reducible refine g_st ?_); refine a_st HM ?_; clear HM; intro w1 HM) | ((with_reducible refine g_al ?_); refine a_al HM ?_; clear HM; intro bk w1 HM) | ((with_reducible refine g_bx ?_); refine a_bx HM ?_; clear HM; intro bk w1 HM) | ((with_reducible refine g_bld ?_); refine a_bld ?_)))
  refine start_M [] HM (by kernel_rfl) (fun w0x H9 => ?_)
  replace HM := H9; clear H9
  refine k_fa 0 (heldE HM) ?_
  refine k_ld 1 [] (heldE HM) ?_
  refine k_fa 2 (heldE HM) ?_
  refine k_ld 3 [] (heldE HM) ?_
  refine k_fa 5 (heldE HM) ?_
  refine k_ld 6 [] (heldE HM) ?_
  refine k_fa 7 (heldE HM) ?_
  refine k_ld 8 [] (heldE HM) ?_
  refine j_one 4 fun K9 hK9 => ?_
  refine j_call2 (v := ?_) HM ?_ ?_; rotate_left 1; (focus (with_reducible (first | exact product_f p u x hp hu hx lx _ | exact product_f r q y hr hq hy ly _ | exact cmp_z x y g lx ly hg _))); clear HM; intro w1 HM
  refine hK9 _ _ (heldE HM) ?_; clear hK9 K9
  refine j_one 9 fun K9 hK9 => ?_
  refine j_call2 (v := ?_) HM ?_ ?_; rotate_left 1; (focus (with_reducible (first | exact product_f p u x hp hu hx lx _ | exact product_f r q y hr hq hy ly _ | exact cmp_z x y g lx ly hg _))); clear HM; intro w1 HM
  refine hK9 _ _ (heldE HM) ?_; clear hK9 K9
  refine j_one 10 fun K9 hK9 => ?_
  refine j_call2 (v := ?_) HM ?_ ?_; rotate_left 1; (focus (with_reducible (first | exact product_f p u x hp hu hx lx _ | exact product_f r q y hr hq hy ly _ | exact cmp_z x y g lx ly hg _))); clear HM; intro w1 HM
  refine hK9 _ _ (heldE HM) ?_; clear hK9 K9
  refine k_mv 11 (heldE HM) ?_
  refine k_mv 12 (heldE HM) ?_
  refine wpAnyL_done (by kernel_rfl) ?_ _
  (go_wp2_with fail; go_ret2; exact ⟨rfl, HM.low⟩)
set_option maxHeartbeats 4000000 in
theorem rCompare_zz (p q r u x y g : Int) (hp : p.natAbs < Bg.lim) (hq : q.natAbs < Bg.lim) (hr : r.natAbs < Bg.lim) (hu : u.natAbs < Bg.lim) (hx : Hid (x = p * u)) (hy : Hid (y = r * q)) (hg : Hid (g = (x - y).sign)) (lx : x.natAbs < Bg.lim) (ly : y.natAbs < Bg.lim) (w : World) :
    Calls Try.prog 73 #[.agg (Bg.rZ p q), .agg (Bg.rZ r u)] w fun r w' => r = .returned (.int .i64 g) ∧ Below w.heap.size w w' := by
  have HM := Mem.start w
  have k3 := la_rznum p q
  have k4 := la_rzden p q
  have k5 := la_rznum r u
  have k6 := la_rzden r u
  go_enter Try.func73, Try.ntmps73
  go_upto_region 1 with (first | fail | (first | ((with_reducible refine g_ld ?_); refine a_ld HM ?_) | ((with_reducible refine g_st ?_); refine a_st HM ?_; clear HM; intro w1 HM) | ((with_reducible refine g_al ?_); refine a_al HM ?_; clear HM; intro bk w1 HM) | ((with_reducible refine g_bx ?_); refine a_bx HM ?_; clear HM; intro bk w1 HM) | ((with_reducible refine g_bld ?_); refine a_bld ?_)))
  refine start_M [] HM (by kernel_rfl) (fun w0x H9 => ?_)
  replace HM := H9; clear H9
  refine k_fa 0 (heldE HM) ?_
  refine k_ld 1 [] (heldE HM) ?_
  refine k_fa 2 (heldE HM) ?_
  refine k_ld 3 [] (heldE HM) ?_
  refine k_fa 5 (heldE HM) ?_
  refine k_ld 6 [] (heldE HM) ?_
  refine k_fa 7 (heldE HM) ?_
  refine k_ld 8 [] (heldE HM) ?_
  refine j_one 4 fun K9 hK9 => ?_
  refine j_call2 (v := ?_) HM ?_ ?_; rotate_left 1; (focus (with_reducible (first | exact rproduct_f p u x hp hu hx lx _ | exact rproduct_f r q y hr hq hy ly _ | exact rcmp_z x y g lx ly hg _))); clear HM; intro w1 HM
  refine hK9 _ _ (heldE HM) ?_; clear hK9 K9
  refine j_one 9 fun K9 hK9 => ?_
  refine j_call2 (v := ?_) HM ?_ ?_; rotate_left 1; (focus (with_reducible (first | exact rproduct_f p u x hp hu hx lx _ | exact rproduct_f r q y hr hq hy ly _ | exact rcmp_z x y g lx ly hg _))); clear HM; intro w1 HM
  refine hK9 _ _ (heldE HM) ?_; clear hK9 K9
  refine j_one 10 fun K9 hK9 => ?_
  refine j_call2 (v := ?_) HM ?_ ?_; rotate_left 1; (focus (with_reducible (first | exact rproduct_f p u x hp hu hx lx _ | exact rproduct_f r q y hr hq hy ly _ | exact rcmp_z x y g lx ly hg _))); clear HM; intro w1 HM
  refine hK9 _ _ (heldE HM) ?_; clear hK9 K9
  refine k_mv 11 (heldE HM) ?_
  refine wpAnyL_done (by kernel_rfl) ?_ _
  (go_wp2_with fail; go_ret; exact ⟨rfl, HM.low⟩)
set_option maxHeartbeats 4000000 in
theorem rCmp_zz (p q r u x y g : Int) (hp : p.natAbs < Bg.lim) (hq : q.natAbs < Bg.lim) (hr : r.natAbs < Bg.lim) (hu : u.natAbs < Bg.lim) (h1 : Hid (true = Rt.okz p q)) (h2 : Hid (true = Rt.okz r u)) (hx : Hid (x = p * u)) (hy : Hid (y = r * q)) (hg : Hid (g = (x - y).sign)) (lx : x.natAbs < Bg.lim) (ly : y.natAbs < Bg.lim) (w : World) :
    Calls Try.prog 37 #[.agg (Bg.rZ p q), .agg (Bg.rZ r u)] w fun r w' => r = .returned (.tuple #[.int .i64 g, .int .i64 0]) ∧ Below w.heap.size w w' := by
  have HM := Mem.start w
  have k1 := la_rz p q
  have k2 := la_rz r u
  go_enter Try.func37, Try.ntmps37
  go_wp2_with (first | first | (go_at_call 38; ((with_reducible refine (rvalid_z p q true hp hq h1 _).mono ?_); rintro e9 w2 ⟨rfl, hL⟩; replace HM := HM.call hL; clear hL)) | (go_at_call 38; ((with_reducible refine (rvalid_z r u true hr hu h2 _).mono ?_); rintro e9 w2 ⟨rfl, hL⟩; replace HM := HM.call hL; clear hL)) | (go_at_call 73; ((with_reducible refine (rCompare_zz p q r u x y g hp hq hr hu hx hy hg lx ly _).mono ?_); rintro e9 w2 ⟨rfl, hL⟩; replace HM := HM.call hL; clear hL)) | (first | ((with_reducible refine g_ld ?_); refine a_ld HM ?_) | ((with_reducible refine g_st ?_); refine a_st HM ?_; clear HM; intro w1 HM) | ((with_reducible refine g_al ?_); refine a_al HM ?_; clear HM; intro bk w1 HM) | ((with_reducible refine g_bx ?_); refine a_bx HM ?_; clear HM; intro bk w1 HM) | ((with_reducible refine g_bld ?_); refine a_bld ?_)))
  go_ret2
  exact ⟨rfl, HM.low⟩
theorem Cmp_g (s : Bool) (M : Nat) (t : Bool) (N : Nat) (s2 : Bool) (M2 : Nat) (t2 : Bool) (N2 : Nat) (g e : Int) (hr : Hid ((g, e) = if (Rt.ok s M t N && Rt.ok s2 M2 t2 N2) then ((Bg.toZ s M * Bg.toZ t2 N2 - Bg.toZ s2 M2 * Bg.toZ t N).sign, 0) else (0, 20))) (hM : M < Bg.lim) (hN : N < Bg.lim) (hM2 : M2 < Bg.lim) (hN2 : N2 < Bg.lim) (w : World) :
    Calls Try.prog 36 #[.agg (Bg.ratA s M t N), .agg (Bg.ratA s2 M2 t2 N2)] w fun r w' => r = .returned (.tuple #[.int .i64 g, .int .i64 e]) ∧ Below w.heap.size w w' := by
  have hr2 := hr.out
  cases hk : (Rt.ok s M t N && Rt.ok s2 M2 t2 N2) with
  | false =>
    rw [hk] at hr2
    obtain ⟨rfl, rfl⟩ : g = 0 ∧ e = 20 := by simpa using hr2
    exact Cmp_bad s M t N s2 M2 t2 N2 hM hN hM2 hN2 hk w
  | true =>
    rw [hk] at hr2
    obtain ⟨rfl, rfl⟩ : g = (Bg.toZ s M * Bg.toZ t2 N2 - Bg.toZ s2 M2 * Bg.toZ t N).sign ∧ e = 0 := by simpa using hr2
    obtain ⟨k1, k2⟩ : Rt.ok s M t N = true ∧ Rt.ok s2 M2 t2 N2 = true := by simpa using hk
    obtain ⟨e1, z1⟩ := Rt.ok_z k1
    obtain ⟨e2, z2⟩ := Rt.ok_z k2
    have g1 := Rt.good (by rw [Bg.toZ_abs]; exact hM) (by rw [Bg.toZ_abs]; exact hN) z1
    have g2 := Rt.good (by rw [Bg.toZ_abs]; exact hM2) (by rw [Bg.toZ_abs]; exact hN2) z2
    rw [e1, e2]
    exact Cmp_zz _ _ _ _ _ _ _ g1.lp g1.lq g2.lp g2.lq z1.symm z2.symm rfl rfl rfl (lim_960 (mul_480 g1.bp g2.bq)) (lim_960 (mul_480 g2.bp g1.bq)) w
theorem rCmp_g (s : Bool) (M : Nat) (t : Bool) (N : Nat) (s2 : Bool) (M2 : Nat) (t2 : Bool) (N2 : Nat) (g e : Int) (hr : Hid ((g, e) = if (Rt.ok s M t N && Rt.ok s2 M2 t2 N2) then ((Bg.toZ s M * Bg.toZ t2 N2 - Bg.toZ s2 M2 * Bg.toZ t N).sign, 0) else (0, 20))) (hM : M < Bg.lim) (hN : N < Bg.lim) (hM2 : M2 < Bg.lim) (hN2 : N2 < Bg.lim) (w : World) :
    Calls Try.prog 37 #[.agg (Bg.ratA s M t N), .agg (Bg.ratA s2 M2 t2 N2)] w fun r w' => r = .returned (.tuple #[.int .i64 g, .int .i64 e]) ∧ Below w.heap.size w w' := by
  have hr2 := hr.out
  cases hk : (Rt.ok s M t N && Rt.ok s2 M2 t2 N2) with
  | false =>
    rw [hk] at hr2
    obtain ⟨rfl, rfl⟩ : g = 0 ∧ e = 20 := by simpa using hr2
    exact rCmp_bad s M t N s2 M2 t2 N2 hM hN hM2 hN2 hk w
  | true =>
    rw [hk] at hr2
    obtain ⟨rfl, rfl⟩ : g = (Bg.toZ s M * Bg.toZ t2 N2 - Bg.toZ s2 M2 * Bg.toZ t N).sign ∧ e = 0 := by simpa using hr2
    obtain ⟨k1, k2⟩ : Rt.ok s M t N = true ∧ Rt.ok s2 M2 t2 N2 = true := by simpa using hk
    obtain ⟨e1, z1⟩ := Rt.ok_z k1
    obtain ⟨e2, z2⟩ := Rt.ok_z k2
    have g1 := Rt.good (by rw [Bg.toZ_abs]; exact hM) (by rw [Bg.toZ_abs]; exact hN) z1
    have g2 := Rt.good (by rw [Bg.toZ_abs]; exact hM2) (by rw [Bg.toZ_abs]; exact hN2) z2
    rw [e1, e2]
    exact rCmp_zz _ _ _ _ _ _ _ g1.lp g1.lq g2.lp g2.lq z1.symm z2.symm rfl rfl rfl (lim_960 (mul_480 g1.bp g2.bq)) (lim_960 (mul_480 g2.bp g1.bq)) w
end Go.Proofs.Ytekfabhmopkapaa
