/- The document's Add, Sub, Mul and Quo of ratios, of any two values. -/
import Derived.Test.YtekfabhmopkapaaRatH
namespace Go.Proofs.Ytekfabhmopkapaa
set_option maxRecDepth 8000
open Go.RowKit
theorem radd_z (p d z : Int) (hp : p.natAbs < Bg.lim) (hd : d.natAbs < Bg.lim) (hz : Hid (z = p + d)) (hl : z.natAbs < Bg.lim) (w : World) :
    Calls Try.prog 69 #[.agg (Bg.zA p), .agg (Bg.zA d)] w fun r w' => r = .returned (.tuple #[.agg (Bg.zA z), .int .i64 0]) ∧ Below w.heap.size w w' := by
  rw [zA_int p, zA_int d]
  exact radd_any _ _ _ _ z z 0 hp hd (Lib.hid (by rw [Bg.toZ_iv, Bg.toZ_iv]; exact hz.out)) (Lib.hid (by unfold Bg.resZ; rw [if_pos hl])) (Lib.hid (by unfold Bg.resE; rw [if_pos hl])) w
set_option maxHeartbeats 4000000 in
theorem rAdd_bad (s : Bool) (M : Nat) (t : Bool) (N : Nat) (s2 : Bool) (M2 : Nat) (t2 : Bool) (N2 : Nat) (hM : M < Bg.lim) (hN : N < Bg.lim) (hM2 : M2 < Bg.lim) (hN2 : N2 < Bg.lim) (hbad : (Rt.ok s M t N && Rt.ok s2 M2 t2 N2) = false) (w : World) :
    Calls Try.prog 32 #[.agg (Bg.ratA s M t N), .agg (Bg.ratA s2 M2 t2 N2)] w fun r w' => r = .returned (.tuple #[.agg (Bg.rZ 0 0), .int .i64 20]) ∧ Below w.heap.size w w' := by
  have HM := Mem.start w
  obtain ⟨f1, h1⟩ : ∃ f, Hid (f = Rt.ok s M t N) := ⟨_, rfl⟩
  obtain ⟨f2, h2⟩ : ∃ f, Hid (f = Rt.ok s2 M2 t2 N2) := ⟨_, rfl⟩
  rw [← h1.out, ← h2.out] at hbad
  have hz0 := za_rat
  have hs1 := sa_rz 0 0 (rZ_size 0 0)
  have k1 := la_rat s M t N
  have k2 := la_rat s2 M2 t2 N2
  go_enter Try.func32, Try.ntmps32
  cases f1 with
  | false =>
    clear hbad
    go_wp2_with (first | first | ((with_reducible refine g_bld ?_); refine a_rbl ?_) | (go_at_call 38; ((with_reducible refine (rvalid_n s M t N false hM hN h1 _).mono ?_); rintro e9 w2 ⟨rfl, hL⟩; replace HM := HM.call hL; clear hL)) | (first | ((with_reducible refine g_ld ?_); refine a_ld HM ?_) | ((with_reducible refine g_st ?_); refine a_st HM ?_; clear HM; intro w1 HM) | ((with_reducible refine g_al ?_); refine a_al HM ?_; clear HM; intro bk w1 HM) | ((with_reducible refine g_bx ?_); refine a_bx HM ?_; clear HM; intro bk w1 HM) | ((with_reducible refine g_bld ?_); refine a_bld ?_)))
    refine bodyPost_ret (r_ct rfl rfl (HM.get (by ((repeat (first | exact Look.here | refine Look.there ?_)); done))) (la_rz _ _)) rfl ⟨rfl, HM.low⟩
  | true =>
    obtain rfl : f2 = false := by simpa using hbad
    clear hbad
    go_wp2_with (first | first | ((with_reducible refine g_bld ?_); refine a_rbl ?_) | (go_at_call 38; ((with_reducible refine (rvalid_n s M t N true hM hN h1 _).mono ?_); rintro e9 w2 ⟨rfl, hL⟩; replace HM := HM.call hL; clear hL)) | (go_at_call 38; ((with_reducible refine (rvalid_n s2 M2 t2 N2 false hM2 hN2 h2 _).mono ?_); rintro e9 w2 ⟨rfl, hL⟩; replace HM := HM.call hL; clear hL)) | (first | ((with_reducible refine g_ld ?_); refine a_ld HM ?_) | ((with_reducible refine g_st ?_); refine a_st HM ?_; clear HM; intro w1 HM) | ((with_reducible refine g_al ?_); refine a_al HM ?_; clear HM; intro bk w1 HM) | ((with_reducible refine g_bx ?_); refine a_bx HM ?_; clear HM; intro bk w1 HM) | ((with_reducible refine g_bld ?_); refine a_bld ?_)))
    refine bodyPost_ret (r_ct rfl rfl (HM.get (by ((repeat (first | exact Look.here | refine Look.there ?_)); done))) (la_rz _ _)) rfl ⟨rfl, HM.low⟩
set_option maxHeartbeats 4000000 in
theorem rSub_bad (s : Bool) (M : Nat) (t : Bool) (N : Nat) (s2 : Bool) (M2 : Nat) (t2 : Bool) (N2 : Nat) (hM : M < Bg.lim) (hN : N < Bg.lim) (hM2 : M2 < Bg.lim) (hN2 : N2 < Bg.lim) (hbad : (Rt.ok s M t N && Rt.ok s2 M2 t2 N2) = false) (w : World) :
    Calls Try.prog 33 #[.agg (Bg.ratA s M t N), .agg (Bg.ratA s2 M2 t2 N2)] w fun r w' => r = .returned (.tuple #[.agg (Bg.rZ 0 0), .int .i64 20]) ∧ Below w.heap.size w w' := by
  have HM := Mem.start w
  obtain ⟨f1, h1⟩ : ∃ f, Hid (f = Rt.ok s M t N) := ⟨_, rfl⟩
  obtain ⟨f2, h2⟩ : ∃ f, Hid (f = Rt.ok s2 M2 t2 N2) := ⟨_, rfl⟩
  rw [← h1.out, ← h2.out] at hbad
  have hz0 := za_rat
  have hs1 := sa_rz 0 0 (rZ_size 0 0)
  have k1 := la_rat s M t N
  have k2 := la_rat s2 M2 t2 N2
  go_enter Try.func33, Try.ntmps33
  cases f1 with
  | false =>
    clear hbad
    go_wp2_with (first | first | ((with_reducible refine g_bld ?_); refine a_rbl ?_) | (go_at_call 38; ((with_reducible refine (rvalid_n s M t N false hM hN h1 _).mono ?_); rintro e9 w2 ⟨rfl, hL⟩; replace HM := HM.call hL; clear hL)) | (first | ((with_reducible refine g_ld ?_); refine a_ld HM ?_) | ((with_reducible refine g_st ?_); refine a_st HM ?_; clear HM; intro w1 HM) | ((with_reducible refine g_al ?_); refine a_al HM ?_; clear HM; intro bk w1 HM) | ((with_reducible refine g_bx ?_); refine a_bx HM ?_; clear HM; intro bk w1 HM) | ((with_reducible refine g_bld ?_); refine a_bld ?_)))
    refine bodyPost_ret (r_ct rfl rfl (HM.get (by ((repeat (first | exact Look.here | refine Look.there ?_)); done))) (la_rz _ _)) rfl ⟨rfl, HM.low⟩
  | true =>
    obtain rfl : f2 = false := by simpa using hbad
    clear hbad
    go_wp2_with (first | first | ((with_reducible refine g_bld ?_); refine a_rbl ?_) | (go_at_call 38; ((with_reducible refine (rvalid_n s M t N true hM hN h1 _).mono ?_); rintro e9 w2 ⟨rfl, hL⟩; replace HM := HM.call hL; clear hL)) | (go_at_call 38; ((with_reducible refine (rvalid_n s2 M2 t2 N2 false hM2 hN2 h2 _).mono ?_); rintro e9 w2 ⟨rfl, hL⟩; replace HM := HM.call hL; clear hL)) | (first | ((with_reducible refine g_ld ?_); refine a_ld HM ?_) | ((with_reducible refine g_st ?_); refine a_st HM ?_; clear HM; intro w1 HM) | ((with_reducible refine g_al ?_); refine a_al HM ?_; clear HM; intro bk w1 HM) | ((with_reducible refine g_bx ?_); refine a_bx HM ?_; clear HM; intro bk w1 HM) | ((with_reducible refine g_bld ?_); refine a_bld ?_)))
    refine bodyPost_ret (r_ct rfl rfl (HM.get (by ((repeat (first | exact Look.here | refine Look.there ?_)); done))) (la_rz _ _)) rfl ⟨rfl, HM.low⟩
set_option maxHeartbeats 4000000 in
theorem rMul_bad (s : Bool) (M : Nat) (t : Bool) (N : Nat) (s2 : Bool) (M2 : Nat) (t2 : Bool) (N2 : Nat) (hM : M < Bg.lim) (hN : N < Bg.lim) (hM2 : M2 < Bg.lim) (hN2 : N2 < Bg.lim) (hbad : (Rt.ok s M t N && Rt.ok s2 M2 t2 N2) = false) (w : World) :
    Calls Try.prog 34 #[.agg (Bg.ratA s M t N), .agg (Bg.ratA s2 M2 t2 N2)] w fun r w' => r = .returned (.tuple #[.agg (Bg.rZ 0 0), .int .i64 20]) ∧ Below w.heap.size w w' := by
  have HM := Mem.start w
  obtain ⟨f1, h1⟩ : ∃ f, Hid (f = Rt.ok s M t N) := ⟨_, rfl⟩
  obtain ⟨f2, h2⟩ : ∃ f, Hid (f = Rt.ok s2 M2 t2 N2) := ⟨_, rfl⟩
  rw [← h1.out, ← h2.out] at hbad
  have hz0 := za_rat
  have hs1 := sa_rz 0 0 (rZ_size 0 0)
  have k1 := la_rat s M t N
  have k2 := la_rat s2 M2 t2 N2
  go_enter Try.func34, Try.ntmps34
  cases f1 with
  | false =>
    clear hbad
    go_wp2_with (first | first | ((with_reducible refine g_bld ?_); refine a_rbl ?_) | (go_at_call 38; ((with_reducible refine (rvalid_n s M t N false hM hN h1 _).mono ?_); rintro e9 w2 ⟨rfl, hL⟩; replace HM := HM.call hL; clear hL)) | (first | ((with_reducible refine g_ld ?_); refine a_ld HM ?_) | ((with_reducible refine g_st ?_); refine a_st HM ?_; clear HM; intro w1 HM) | ((with_reducible refine g_al ?_); refine a_al HM ?_; clear HM; intro bk w1 HM) | ((with_reducible refine g_bx ?_); refine a_bx HM ?_; clear HM; intro bk w1 HM) | ((with_reducible refine g_bld ?_); refine a_bld ?_)))
    refine bodyPost_ret (r_ct rfl rfl (HM.get (by ((repeat (first | exact Look.here | refine Look.there ?_)); done))) (la_rz _ _)) rfl ⟨rfl, HM.low⟩
  | true =>
    obtain rfl : f2 = false := by simpa using hbad
    clear hbad
    go_wp2_with (first | first | ((with_reducible refine g_bld ?_); refine a_rbl ?_) | (go_at_call 38; ((with_reducible refine (rvalid_n s M t N true hM hN h1 _).mono ?_); rintro e9 w2 ⟨rfl, hL⟩; replace HM := HM.call hL; clear hL)) | (go_at_call 38; ((with_reducible refine (rvalid_n s2 M2 t2 N2 false hM2 hN2 h2 _).mono ?_); rintro e9 w2 ⟨rfl, hL⟩; replace HM := HM.call hL; clear hL)) | (first | ((with_reducible refine g_ld ?_); refine a_ld HM ?_) | ((with_reducible refine g_st ?_); refine a_st HM ?_; clear HM; intro w1 HM) | ((with_reducible refine g_al ?_); refine a_al HM ?_; clear HM; intro bk w1 HM) | ((with_reducible refine g_bx ?_); refine a_bx HM ?_; clear HM; intro bk w1 HM) | ((with_reducible refine g_bld ?_); refine a_bld ?_)))
    refine bodyPost_ret (r_ct rfl rfl (HM.get (by ((repeat (first | exact Look.here | refine Look.there ?_)); done))) (la_rz _ _)) rfl ⟨rfl, HM.low⟩
set_option maxHeartbeats 4000000 in
theorem rQuo_bad (s : Bool) (M : Nat) (t : Bool) (N : Nat) (s2 : Bool) (M2 : Nat) (t2 : Bool) (N2 : Nat) (hM : M < Bg.lim) (hN : N < Bg.lim) (hM2 : M2 < Bg.lim) (hN2 : N2 < Bg.lim) (hbad : (Rt.ok s M t N && Rt.ok s2 M2 t2 N2) = false) (w : World) :
    Calls Try.prog 35 #[.agg (Bg.ratA s M t N), .agg (Bg.ratA s2 M2 t2 N2)] w fun r w' => r = .returned (.tuple #[.agg (Bg.rZ 0 0), .int .i64 20]) ∧ Below w.heap.size w w' := by
  have HM := Mem.start w
  obtain ⟨f1, h1⟩ : ∃ f, Hid (f = Rt.ok s M t N) := ⟨_, rfl⟩
  obtain ⟨f2, h2⟩ : ∃ f, Hid (f = Rt.ok s2 M2 t2 N2) := ⟨_, rfl⟩
  rw [← h1.out, ← h2.out] at hbad
  have hz0 := za_rat
  have hs1 := sa_rz 0 0 (rZ_size 0 0)
  have k1 := la_rat s M t N
  have k2 := la_rat s2 M2 t2 N2
  go_enter Try.func35, Try.ntmps35
  cases f1 with
  | false =>
    clear hbad
    go_wp2_with (first | first | ((with_reducible refine g_bld ?_); refine a_rbl ?_) | (go_at_call 38; ((with_reducible refine (rvalid_n s M t N false hM hN h1 _).mono ?_); rintro e9 w2 ⟨rfl, hL⟩; replace HM := HM.call hL; clear hL)) | (first | ((with_reducible refine g_ld ?_); refine a_ld HM ?_) | ((with_reducible refine g_st ?_); refine a_st HM ?_; clear HM; intro w1 HM) | ((with_reducible refine g_al ?_); refine a_al HM ?_; clear HM; intro bk w1 HM) | ((with_reducible refine g_bx ?_); refine a_bx HM ?_; clear HM; intro bk w1 HM) | ((with_reducible refine g_bld ?_); refine a_bld ?_)))
    refine bodyPost_ret (r_ct rfl rfl (HM.get (by ((repeat (first | exact Look.here | refine Look.there ?_)); done))) (la_rz _ _)) rfl ⟨rfl, HM.low⟩
  | true =>
    obtain rfl : f2 = false := by simpa using hbad
    clear hbad
    go_wp2_with (first | first | ((with_reducible refine g_bld ?_); refine a_rbl ?_) | (go_at_call 38; ((with_reducible refine (rvalid_n s M t N true hM hN h1 _).mono ?_); rintro e9 w2 ⟨rfl, hL⟩; replace HM := HM.call hL; clear hL)) | (go_at_call 38; ((with_reducible refine (rvalid_n s2 M2 t2 N2 false hM2 hN2 h2 _).mono ?_); rintro e9 w2 ⟨rfl, hL⟩; replace HM := HM.call hL; clear hL)) | (first | ((with_reducible refine g_ld ?_); refine a_ld HM ?_) | ((with_reducible refine g_st ?_); refine a_st HM ?_; clear HM; intro w1 HM) | ((with_reducible refine g_al ?_); refine a_al HM ?_; clear HM; intro bk w1 HM) | ((with_reducible refine g_bx ?_); refine a_bx HM ?_; clear HM; intro bk w1 HM) | ((with_reducible refine g_bld ?_); refine a_bld ?_)))
    refine bodyPost_ret (r_ct rfl rfl (HM.get (by ((repeat (first | exact Look.here | refine Look.there ?_)); done))) (la_rz _ _)) rfl ⟨rfl, HM.low⟩
set_option maxHeartbeats 4000000 in
theorem rMul_zz (p q r u x y n d e : Int) (hp : p.natAbs < Bg.lim) (hq : q.natAbs < Bg.lim) (hr : r.natAbs < Bg.lim) (hu : u.natAbs < Bg.lim) (h1 : Hid (true = Rt.okz p q)) (h2 : Hid (true = Rt.okz r u)) (hx : Hid (x = p * r)) (hy : Hid (y = q * u)) (lx : x.natAbs < Bg.lim) (ly : y.natAbs < Bg.lim) (hm : Hid ((n, d, e) = Rt.mk x y)) (w : World) :
    Calls Try.prog 34 #[.agg (Bg.rZ p q), .agg (Bg.rZ r u)] w fun r w' => r = .returned (.tuple #[.agg (Bg.rZ n d), .int .i64 e]) ∧ Below w.heap.size w w' := by
  have HM := Mem.start w
  have hz0 := za_rat
  have hs1 := sa_rz n d (rZ_size 0 0)
  have k1 := la_rz p q
  have k2 := la_rz r u
  have k3 := la_rznum p q
  have k4 := la_rzden p q
  have k5 := la_rznum r u
  have k6 := la_rzden r u
  go_enter Try.func34, Try.ntmps34
  go_upto_region 3 with (first | first | (go_at_call 38; ((with_reducible refine (rvalid_z p q true hp hq h1 _).mono ?_); rintro e9 w2 ⟨rfl, hL⟩; replace HM := HM.call hL; clear hL)) | (go_at_call 38; ((with_reducible refine (rvalid_z r u true hr hu h2 _).mono ?_); rintro e9 w2 ⟨rfl, hL⟩; replace HM := HM.call hL; clear hL)) | (first | ((with_reducible refine g_ld ?_); refine a_ld HM ?_) | ((with_reducible refine g_st ?_); refine a_st HM ?_; clear HM; intro w1 HM) | ((with_reducible refine g_al ?_); refine a_al HM ?_; clear HM; intro bk w1 HM) | ((with_reducible refine g_bx ?_); refine a_bx HM ?_; clear HM; intro bk w1 HM) | ((with_reducible refine g_bld ?_); refine a_bld ?_)))
  obtain ⟨b4, rfl⟩ := HM.nm0
  refine start_M [13] HM (by kernel_rfl) (fun w0x H9 => ?_)
  replace HM := H9; clear H9
  refine k_fa 0 (heldE HM) ?_
  refine k_ld 1 [4, 9, 10, 11, 12, 13, 14] (heldE HM) ?_
  refine k_fa 2 (heldE HM) ?_
  refine k_ld 3 [4, 9, 10, 11, 12, 13, 14] (heldE HM) ?_
  refine k_fa 5 (heldE HM) ?_
  refine k_ld 6 [9, 10, 11, 12, 13, 14] (heldE HM) ?_
  refine k_fa 7 (heldE HM) ?_
  refine k_ld 8 [9, 10, 11, 12, 13, 14] (heldE HM) ?_
  refine j_one 4 fun K9 hK9 => ?_
  refine j_call2 (v := ?_) HM ?_ ?_; rotate_left 1; (focus (with_reducible (first | exact rproduct_f p r x hp hr hx lx _ | exact rproduct_f q u y hq hu hy ly _ | exact rmake_z x y n d e lx ly hm _))); clear HM; intro w1 HM
  refine hK9 _ _ (heldE HM) ?_; clear hK9 K9
  refine j_one 9 fun K9 hK9 => ?_
  refine j_call2 (v := ?_) HM ?_ ?_; rotate_left 1; (focus (with_reducible (first | exact rproduct_f p r x hp hr hx lx _ | exact rproduct_f q u y hq hu hy ly _ | exact rmake_z x y n d e lx ly hm _))); clear HM; intro w1 HM
  refine hK9 _ _ (heldE HM) ?_; clear hK9 K9
  refine j_one 10 fun K9 hK9 => ?_
  refine j_call2 (v := ?_) HM ?_ ?_; rotate_left 1; (focus (with_reducible (first | exact rproduct_f p r x hp hr hx lx _ | exact rproduct_f q u y hq hu hy ly _ | exact rmake_z x y n d e lx ly hm _))); clear HM; intro w1 HM
  refine hK9 _ _ (heldE HM) ?_; clear hK9 K9
  refine k_ext 11 (heldE HM) ?_
  refine k_ext 12 (heldE HM) ?_
  refine j_one 13 fun K9 hK9 => ?_
  refine j_st HM ?_; clear HM; intro w1 HM
  refine hK9 _ _ heldN ?_; clear hK9 K9
  refine k_mv 14 heldN ?_
  refine wpAnyL_done (by kernel_rfl) ?_ _
  (go_wp2_with fail; refine bodyPost_ret (r_ct (b := b4) (k := 0) rfl rfl (HM.get (by ((repeat (first | exact Look.here | refine Look.there ?_)); done))) (la_rz _ _)) rfl ⟨rfl, HM.low⟩)
set_option maxHeartbeats 4000000 in
theorem rQuo_zz (p q r u x y n d e : Int) (hp : p.natAbs < Bg.lim) (hq : q.natAbs < Bg.lim) (hr : r.natAbs < Bg.lim) (hu : u.natAbs < Bg.lim) (h1 : Hid (true = Rt.okz p q)) (h2 : Hid (true = Rt.okz r u)) (hx : Hid (x = p * u)) (hy : Hid (y = q * r)) (lx : x.natAbs < Bg.lim) (ly : y.natAbs < Bg.lim) (hm : Hid ((n, d, e) = Rt.mk x y)) (w : World) :
    Calls Try.prog 35 #[.agg (Bg.rZ p q), .agg (Bg.rZ r u)] w fun r w' => r = .returned (.tuple #[.agg (Bg.rZ n d), .int .i64 e]) ∧ Below w.heap.size w w' := by
  have HM := Mem.start w
  have hz0 := za_rat
  have hs1 := sa_rz n d (rZ_size 0 0)
  have k1 := la_rz p q
  have k2 := la_rz r u
  have k3 := la_rznum p q
  have k4 := la_rzden p q
  have k5 := la_rznum r u
  have k6 := la_rzden r u
  go_enter Try.func35, Try.ntmps35
  go_upto_region 3 with (first | first | (go_at_call 38; ((with_reducible refine (rvalid_z p q true hp hq h1 _).mono ?_); rintro e9 w2 ⟨rfl, hL⟩; replace HM := HM.call hL; clear hL)) | (go_at_call 38; ((with_reducible refine (rvalid_z r u true hr hu h2 _).mono ?_); rintro e9 w2 ⟨rfl, hL⟩; replace HM := HM.call hL; clear hL)) | (first | ((with_reducible refine g_ld ?_); refine a_ld HM ?_) | ((with_reducible refine g_st ?_); refine a_st HM ?_; clear HM; intro w1 HM) | ((with_reducible refine g_al ?_); refine a_al HM ?_; clear HM; intro bk w1 HM) | ((with_reducible refine g_bx ?_); refine a_bx HM ?_; clear HM; intro bk w1 HM) | ((with_reducible refine g_bld ?_); refine a_bld ?_)))
  obtain ⟨b4, rfl⟩ := HM.nm0
  refine start_M [13] HM (by kernel_rfl) (fun w0x H9 => ?_)
  replace HM := H9; clear H9
  refine k_fa 0 (heldE HM) ?_
  refine k_ld 1 [4, 9, 10, 11, 12, 13, 14] (heldE HM) ?_
  refine k_fa 2 (heldE HM) ?_
  refine k_ld 3 [4, 9, 10, 11, 12, 13, 14] (heldE HM) ?_
  refine k_fa 5 (heldE HM) ?_
  refine k_ld 6 [9, 10, 11, 12, 13, 14] (heldE HM) ?_
  refine k_fa 7 (heldE HM) ?_
  refine k_ld 8 [9, 10, 11, 12, 13, 14] (heldE HM) ?_
  refine j_one 4 fun K9 hK9 => ?_
  refine j_call2 (v := ?_) HM ?_ ?_; rotate_left 1; (focus (with_reducible (first | exact rproduct_f p u x hp hu hx lx _ | exact rproduct_f q r y hq hr hy ly _ | exact rmake_z x y n d e lx ly hm _))); clear HM; intro w1 HM
  refine hK9 _ _ (heldE HM) ?_; clear hK9 K9
  refine j_one 9 fun K9 hK9 => ?_
  refine j_call2 (v := ?_) HM ?_ ?_; rotate_left 1; (focus (with_reducible (first | exact rproduct_f p u x hp hu hx lx _ | exact rproduct_f q r y hq hr hy ly _ | exact rmake_z x y n d e lx ly hm _))); clear HM; intro w1 HM
  refine hK9 _ _ (heldE HM) ?_; clear hK9 K9
  refine j_one 10 fun K9 hK9 => ?_
  refine j_call2 (v := ?_) HM ?_ ?_; rotate_left 1; (focus (with_reducible (first | exact rproduct_f p u x hp hu hx lx _ | exact rproduct_f q r y hq hr hy ly _ | exact rmake_z x y n d e lx ly hm _))); clear HM; intro w1 HM
  refine hK9 _ _ (heldE HM) ?_; clear hK9 K9
  refine k_ext 11 (heldE HM) ?_
  refine k_ext 12 (heldE HM) ?_
  refine j_one 13 fun K9 hK9 => ?_
  refine j_st HM ?_; clear HM; intro w1 HM
  refine hK9 _ _ heldN ?_; clear hK9 K9
  refine k_mv 14 heldN ?_
  refine wpAnyL_done (by kernel_rfl) ?_ _
  (go_wp2_with fail; refine bodyPost_ret (r_ct (b := b4) (k := 0) rfl rfl (HM.get (by ((repeat (first | exact Look.here | refine Look.there ?_)); done))) (la_rz _ _)) rfl ⟨rfl, HM.low⟩)
set_option maxHeartbeats 4000000 in
theorem rAdd_zz (p q r u x0 y0 x y n d e : Int) (hp : p.natAbs < Bg.lim) (hq : q.natAbs < Bg.lim) (hr : r.natAbs < Bg.lim) (hu : u.natAbs < Bg.lim) (h1 : Hid (true = Rt.okz p q)) (h2 : Hid (true = Rt.okz r u)) (hx0 : Hid (x0 = p * u)) (hy0 : Hid (y0 = r * q)) (hx : Hid (x = x0 + y0)) (hy : Hid (y = q * u)) (l3 : x0.natAbs < Bg.lim) (l1 : y0.natAbs < Bg.lim) (lx : x.natAbs < Bg.lim) (ly : y.natAbs < Bg.lim) (hm : Hid ((n, d, e) = Rt.mk x y)) (w : World) :
    Calls Try.prog 32 #[.agg (Bg.rZ p q), .agg (Bg.rZ r u)] w fun r w' => r = .returned (.tuple #[.agg (Bg.rZ n d), .int .i64 e]) ∧ Below w.heap.size w w' := by
  have HM := Mem.start w
  have hz0 := za_rat
  have hs1 := sa_rz n d (rZ_size 0 0)
  have k1 := la_rz p q
  have k2 := la_rz r u
  have k3 := la_rznum p q
  have k4 := la_rzden p q
  have k5 := la_rznum r u
  have k6 := la_rzden r u
  go_enter Try.func32, Try.ntmps32
  go_upto_region 3 with (first | first | (go_at_call 38; ((with_reducible refine (rvalid_z p q true hp hq h1 _).mono ?_); rintro e9 w2 ⟨rfl, hL⟩; replace HM := HM.call hL; clear hL)) | (go_at_call 38; ((with_reducible refine (rvalid_z r u true hr hu h2 _).mono ?_); rintro e9 w2 ⟨rfl, hL⟩; replace HM := HM.call hL; clear hL)) | (first | ((with_reducible refine g_ld ?_); refine a_ld HM ?_) | ((with_reducible refine g_st ?_); refine a_st HM ?_; clear HM; intro w1 HM) | ((with_reducible refine g_al ?_); refine a_al HM ?_; clear HM; intro bk w1 HM) | ((with_reducible refine g_bx ?_); refine a_bx HM ?_; clear HM; intro bk w1 HM) | ((with_reducible refine g_bld ?_); refine a_bld ?_)))
  obtain ⟨b4, rfl⟩ := HM.nm0
  obtain ⟨b3, rfl⟩ := HM.nm1
  obtain ⟨b2, rfl⟩ := HM.nm2
  go_cut [6] (fun v wc => ∃ b6 : Nat, v = .pointer (some ⟨b6, 0, none⟩) ∧ Mem w [] [(b6, Bg.zA x), (b4, Bg.rZ 0 0), (b3, Bg.rZ r u), (b2, Bg.rZ p q)] wc)
  case first =>
    refine start_M [15] HM (by kernel_rfl) (fun w0x H9 => ?_)
    replace HM := H9; clear H9
    refine k_fa 0 (heldE HM) ?_
    refine k_ld 1 [4, 9, 10, 11, 12, 13, 15, 16] (heldE HM) ?_
    refine k_fa 2 (heldE HM) ?_
    refine k_ld 3 [4, 9, 10, 11, 12, 13, 15, 16] (heldE HM) ?_
    refine k_fa 5 (heldE HM) ?_
    refine k_ld 6 [9, 10, 11, 12, 13, 15, 16] (heldE HM) ?_
    refine k_fa 7 (heldE HM) ?_
    refine k_ld 8 [9, 10, 11, 12, 13, 15, 16] (heldE HM) ?_
    refine j_two 4 14 ?_ ?_
    · refine j_call2 (v := ?_) HM ?_ ?_; rotate_left 1; (focus (with_reducible (first | exact rproduct_f p u x0 hp hu hx0 l3 _ | exact rproduct_f r q y0 hr hq hy0 l1 _ | exact radd_z x0 y0 x l3 l1 hx lx _))); clear HM; intro w1 HM
      refine ⟨(heldE HM), ?_⟩
      refine j_two 9 14 ?_ ?_
      · refine j_call2 (v := ?_) HM ?_ ?_; rotate_left 1; (focus (with_reducible (first | exact rproduct_f p u x0 hp hu hx0 l3 _ | exact rproduct_f r q y0 hr hq hy0 l1 _ | exact radd_z x0 y0 x l3 l1 hx lx _))); clear HM; intro w1 HM
        refine ⟨(heldE HM), ?_⟩
        refine j_two 10 14 ?_ ?_
        · refine j_call2 (v := ?_) HM ?_ ?_; rotate_left 1; (focus (with_reducible (first | exact rproduct_f p u x0 hp hu hx0 l3 _ | exact rproduct_f r q y0 hr hq hy0 l1 _ | exact radd_z x0 y0 x l3 l1 hx lx _))); clear HM; intro w1 HM
          refine ⟨(heldE HM), ?_⟩
          refine k_mv 11 (heldE HM) ?_
          refine k_ext 12 (heldE HM) ?_
          refine k_ext 13 (heldE HM) ?_
          refine j_one 14 fun K9 hK9 => ?_
          refine j_al HM ?_; clear HM; intro bk w1 HM
          refine hK9 _ _ (heldE HM) ?_; clear hK9 K9
          refine j_one 15 fun K9 hK9 => ?_
          refine j_st HM ?_; clear HM; intro w1 HM
          refine hK9 _ _ heldN ?_; clear hK9 K9
          refine k_mv 16 heldN ?_
          refine wpAnyL_done (by kernel_rfl) ?_ _
          (go_wp2_with fail; go_meet; (case rel => refine ⟨_, rfl, ?_⟩; refine HM.less ?_; (repeat (first | exact Sub.nil | refine Sub.keep ?_ | refine Sub.skip ?_))))
        · refine j_al HM ?_; clear HM; intro bk w1 HM
          refine ⟨(heldE HM), ?_⟩
          refine j_one 10 fun K9 hK9 => ?_
          refine j_call2 (v := ?_) HM ?_ ?_; rotate_left 1; (focus (with_reducible (first | exact rproduct_f p u x0 hp hu hx0 l3 _ | exact rproduct_f r q y0 hr hq hy0 l1 _ | exact radd_z x0 y0 x l3 l1 hx lx _))); clear HM; intro w1 HM
          refine hK9 _ _ (heldE HM) ?_; clear hK9 K9
          refine k_mv 11 (heldE HM) ?_
          refine k_ext 12 (heldE HM) ?_
          refine k_ext 13 (heldE HM) ?_
          refine j_one 15 fun K9 hK9 => ?_
          refine j_st HM ?_; clear HM; intro w1 HM
          refine hK9 _ _ heldN ?_; clear hK9 K9
          refine k_mv 16 heldN ?_
          refine wpAnyL_done (by kernel_rfl) ?_ _
          (go_wp2_with fail; go_meet; (case rel => refine ⟨_, rfl, ?_⟩; refine HM.less ?_; (repeat (first | exact Sub.nil | refine Sub.keep ?_ | refine Sub.skip ?_))))
      · refine j_al HM ?_; clear HM; intro bk w1 HM
        refine ⟨(heldE HM), ?_⟩
        refine j_one 9 fun K9 hK9 => ?_
        refine j_call2 (v := ?_) HM ?_ ?_; rotate_left 1; (focus (with_reducible (first | exact rproduct_f p u x0 hp hu hx0 l3 _ | exact rproduct_f r q y0 hr hq hy0 l1 _ | exact radd_z x0 y0 x l3 l1 hx lx _))); clear HM; intro w1 HM
        refine hK9 _ _ (heldE HM) ?_; clear hK9 K9
        refine j_one 10 fun K9 hK9 => ?_
        refine j_call2 (v := ?_) HM ?_ ?_; rotate_left 1; (focus (with_reducible (first | exact rproduct_f p u x0 hp hu hx0 l3 _ | exact rproduct_f r q y0 hr hq hy0 l1 _ | exact radd_z x0 y0 x l3 l1 hx lx _))); clear HM; intro w1 HM
        refine hK9 _ _ (heldE HM) ?_; clear hK9 K9
        refine k_mv 11 (heldE HM) ?_
        refine k_ext 12 (heldE HM) ?_
        refine k_ext 13 (heldE HM) ?_
        refine j_one 15 fun K9 hK9 => ?_
        refine j_st HM ?_; clear HM; intro w1 HM
        refine hK9 _ _ heldN ?_; clear hK9 K9
        refine k_mv 16 heldN ?_
        refine wpAnyL_done (by kernel_rfl) ?_ _
        (go_wp2_with fail; go_meet; (case rel => refine ⟨_, rfl, ?_⟩; refine HM.less ?_; (repeat (first | exact Sub.nil | refine Sub.keep ?_ | refine Sub.skip ?_))))
    · refine j_al HM ?_; clear HM; intro bk w1 HM
      refine ⟨(heldE HM), ?_⟩
      refine j_one 4 fun K9 hK9 => ?_
      refine j_call2 (v := ?_) HM ?_ ?_; rotate_left 1; (focus (with_reducible (first | exact rproduct_f p u x0 hp hu hx0 l3 _ | exact rproduct_f r q y0 hr hq hy0 l1 _ | exact radd_z x0 y0 x l3 l1 hx lx _))); clear HM; intro w1 HM
      refine hK9 _ _ (heldE HM) ?_; clear hK9 K9
      refine j_one 9 fun K9 hK9 => ?_
      refine j_call2 (v := ?_) HM ?_ ?_; rotate_left 1; (focus (with_reducible (first | exact rproduct_f p u x0 hp hu hx0 l3 _ | exact rproduct_f r q y0 hr hq hy0 l1 _ | exact radd_z x0 y0 x l3 l1 hx lx _))); clear HM; intro w1 HM
      refine hK9 _ _ (heldE HM) ?_; clear hK9 K9
      refine j_one 10 fun K9 hK9 => ?_
      refine j_call2 (v := ?_) HM ?_ ?_; rotate_left 1; (focus (with_reducible (first | exact rproduct_f p u x0 hp hu hx0 l3 _ | exact rproduct_f r q y0 hr hq hy0 l1 _ | exact radd_z x0 y0 x l3 l1 hx lx _))); clear HM; intro w1 HM
      refine hK9 _ _ (heldE HM) ?_; clear hK9 K9
      refine k_mv 11 (heldE HM) ?_
      refine k_ext 12 (heldE HM) ?_
      refine k_ext 13 (heldE HM) ?_
      refine j_one 15 fun K9 hK9 => ?_
      refine j_st HM ?_; clear HM; intro w1 HM
      refine hK9 _ _ heldN ?_; clear hK9 K9
      refine k_mv 16 heldN ?_
      refine wpAnyL_done (by kernel_rfl) ?_ _
      (go_wp2_with fail; go_meet; (case rel => refine ⟨_, rfl, ?_⟩; refine HM.less ?_; (repeat (first | exact Sub.nil | refine Sub.keep ?_ | refine Sub.skip ?_))))
  case rest =>
    clear HM
    obtain ⟨b6, rfl, HM⟩ := hcut
    go_upto_region 4 with fail
    refine start_M [9] HM (by kernel_rfl) (fun w0x H9 => ?_)
    replace HM := H9; clear H9
    refine k_ld 0 [6, 7, 8, 9, 10] (heldE HM) ?_
    refine k_fa 1 (heldE HM) ?_
    refine k_ld 2 [5, 6, 7, 8, 9, 10] (heldE HM) ?_
    refine k_fa 3 (heldE HM) ?_
    refine k_ld 4 [5, 6, 7, 8, 9, 10] (heldE HM) ?_
    refine j_one 5 fun K9 hK9 => ?_
    refine j_call2 (v := ?_) HM ?_ ?_; rotate_left 1; (focus (with_reducible (first | exact rproduct_f q u y hq hu hy ly _ | exact rmake_z x y n d e lx ly hm _))); clear HM; intro w1 HM
    refine hK9 _ _ (heldE HM) ?_; clear hK9 K9
    refine j_one 6 fun K9 hK9 => ?_
    refine j_call2 (v := ?_) HM ?_ ?_; rotate_left 1; (focus (with_reducible (first | exact rproduct_f q u y hq hu hy ly _ | exact rmake_z x y n d e lx ly hm _))); clear HM; intro w1 HM
    refine hK9 _ _ (heldE HM) ?_; clear hK9 K9
    refine k_ext 7 (heldE HM) ?_
    refine k_ext 8 (heldE HM) ?_
    refine j_one 9 fun K9 hK9 => ?_
    refine j_st HM ?_; clear HM; intro w1 HM
    refine hK9 _ _ heldN ?_; clear hK9 K9
    refine k_mv 10 heldN ?_
    refine wpAnyL_done (by kernel_rfl) ?_ _
    (go_wp2_with fail; refine bodyPost_ret (r_ct (b := b4) (k := 0) rfl rfl (HM.get (by ((repeat (first | exact Look.here | refine Look.there ?_)); done))) (la_rz _ _)) rfl ⟨rfl, HM.low⟩)
theorem Rt.okz_neg {r u : Int} (hr : r.natAbs < Bg.lim) (hu : u.natAbs < Bg.lim) (h : Rt.okz r u = true) : Rt.okz (-r) u = true := by
  have g := Rt.good hr hu h
  refine Rt.okz_of ?_ g.pos (by rw [Int.natAbs_neg]; exact g.one)
  unfold Rt.short
  rw [Int.natAbs_neg, decide_eq_true (Bg.bl_le hr g.bp), decide_eq_true (Bg.bl_le hu g.bq)]
  rfl
set_option maxHeartbeats 4000000 in
theorem rSub_zz (p q r u nr x0 y0 x y n d e : Int) (hp : p.natAbs < Bg.lim) (hq : q.natAbs < Bg.lim) (hr : r.natAbs < Bg.lim) (hu : u.natAbs < Bg.lim) (h1 : Hid (true = Rt.okz p q)) (h2 : Hid (true = Rt.okz r u)) (hnr : Hid (nr = -r)) (hx0 : Hid (x0 = p * u)) (hy0 : Hid (y0 = nr * q)) (hx : Hid (x = x0 + y0)) (hy : Hid (y = q * u)) (l3 : x0.natAbs < Bg.lim) (l1 : y0.natAbs < Bg.lim) (lx : x.natAbs < Bg.lim) (ly : y.natAbs < Bg.lim) (hm : Hid ((n, d, e) = Rt.mk x y)) (w : World) :
    Calls Try.prog 33 #[.agg (Bg.rZ p q), .agg (Bg.rZ r u)] w fun r w' => r = .returned (.tuple #[.agg (Bg.rZ n d), .int .i64 e]) ∧ Below w.heap.size w w' := by
  have HM := Mem.start w
  have hz0 := za_rat
  have hs1 := sa_rz n d (rZ_size 0 0)
  have k1 := la_rz p q
  have k2 := la_rz r u
  have h3 : Hid (true = Rt.okz nr u) := Lib.hid (by rw [hnr.out, Rt.okz_neg hr hu h2.out.symm])
  have hnl : nr.natAbs < Bg.lim := by rw [hnr.out, Int.natAbs_neg]; exact hr
  go_enter Try.func33, Try.ntmps33
  go_upto_region 3 with (first | first | (go_at_call 38; ((with_reducible refine (rvalid_z p q true hp hq h1 _).mono ?_); rintro e9 w2 ⟨rfl, hL⟩; replace HM := HM.call hL; clear hL)) | (go_at_call 38; ((with_reducible refine (rvalid_z r u true hr hu h2 _).mono ?_); rintro e9 w2 ⟨rfl, hL⟩; replace HM := HM.call hL; clear hL)) | (first | ((with_reducible refine g_ld ?_); refine a_ld HM ?_) | ((with_reducible refine g_st ?_); refine a_st HM ?_; clear HM; intro w1 HM) | ((with_reducible refine g_al ?_); refine a_al HM ?_; clear HM; intro bk w1 HM) | ((with_reducible refine g_bx ?_); refine a_bx HM ?_; clear HM; intro bk w1 HM) | ((with_reducible refine g_bld ?_); refine a_bld ?_)))
  obtain ⟨b4, rfl⟩ := HM.nm0
  refine start_M [6] HM (by kernel_rfl) (fun w0x H9 => ?_)
  replace HM := H9; clear H9
  refine k_ld 0 [3, 4, 5, 6, 7] (heldE HM) ?_
  refine k_ld 1 [2, 3, 4, 5, 6, 7] (heldE HM) ?_
  refine j_one 2 fun K9 hK9 => ?_
  refine j_call1 (v := ?_) HM ?_ ?_; rotate_left 1; (focus (with_reducible (first | exact rnegative_z r u nr hr hnr _ | exact rAdd_zz p q nr u x0 y0 x y n d e hp hq hnl hu h1 h3 hx0 hy0 hx hy l3 l1 lx ly hm _))); clear HM; intro w1 HM
  refine hK9 _ _ (heldE HM) ?_; clear hK9 K9
  refine j_one 3 fun K9 hK9 => ?_
  refine j_call2 (v := ?_) HM ?_ ?_; rotate_left 1; (focus (with_reducible (first | exact rnegative_z r u nr hr hnr _ | exact rAdd_zz p q nr u x0 y0 x y n d e hp hq hnl hu h1 h3 hx0 hy0 hx hy l3 l1 lx ly hm _))); clear HM; intro w1 HM
  refine hK9 _ _ (heldE HM) ?_; clear hK9 K9
  refine k_ext 4 (heldE HM) ?_
  refine k_ext 5 (heldE HM) ?_
  refine j_one 6 fun K9 hK9 => ?_
  refine j_st HM ?_; clear HM; intro w1 HM
  refine hK9 _ _ heldN ?_; clear hK9 K9
  refine k_mv 7 heldN ?_
  refine wpAnyL_done (by kernel_rfl) ?_ _
  (go_wp2_with fail; refine bodyPost_ret (r_ct (b := b4) (k := 0) rfl rfl (HM.get (by ((repeat (first | exact Look.here | refine Look.there ?_)); done))) (la_rz _ _)) rfl ⟨rfl, HM.low⟩)
theorem rMul_g (s : Bool) (M : Nat) (t : Bool) (N : Nat) (s2 : Bool) (M2 : Nat) (t2 : Bool) (N2 : Nat) (n d e : Int) (hM : M < Bg.lim) (hN : N < Bg.lim) (hM2 : M2 < Bg.lim) (hN2 : N2 < Bg.lim) (hr : Hid ((n, d, e) = Rt.bin (Rt.ok s M t N && Rt.ok s2 M2 t2 N2) (Bg.toZ s M * Bg.toZ s2 M2) (Bg.toZ t N * Bg.toZ t2 N2))) (w : World) :
    Calls Try.prog 34 #[.agg (Bg.ratA s M t N), .agg (Bg.ratA s2 M2 t2 N2)] w fun r w' => r = .returned (.tuple #[.agg (Bg.rZ n d), .int .i64 e]) ∧ Below w.heap.size w w' := by
  cases hk : (Rt.ok s M t N && Rt.ok s2 M2 t2 N2) with
  | false =>
    obtain ⟨rfl, rfl, rfl⟩ := Rt.bin_no hr.out hk
    exact rMul_bad s M t N s2 M2 t2 N2 hM hN hM2 hN2 hk w
  | true =>
    have hm := Rt.bin_mk hr.out hk
    obtain ⟨k1, k2⟩ : Rt.ok s M t N = true ∧ Rt.ok s2 M2 t2 N2 = true := by simpa using hk
    obtain ⟨e1, z1⟩ := Rt.ok_z k1
    obtain ⟨e2, z2⟩ := Rt.ok_z k2
    have g1 := Rt.good (by rw [Bg.toZ_abs]; exact hM) (by rw [Bg.toZ_abs]; exact hN) z1
    have g2 := Rt.good (by rw [Bg.toZ_abs]; exact hM2) (by rw [Bg.toZ_abs]; exact hN2) z2
    rw [e1, e2]
    exact rMul_zz _ _ _ _ _ _ n d e g1.lp g1.lq g2.lp g2.lq z1.symm z2.symm rfl rfl (lim_960 (mul_480 g1.bp g2.bp)) (lim_960 (mul_480 g1.bq g2.bq)) hm w
theorem rQuo_g (s : Bool) (M : Nat) (t : Bool) (N : Nat) (s2 : Bool) (M2 : Nat) (t2 : Bool) (N2 : Nat) (n d e : Int) (hM : M < Bg.lim) (hN : N < Bg.lim) (hM2 : M2 < Bg.lim) (hN2 : N2 < Bg.lim) (hr : Hid ((n, d, e) = Rt.bin (Rt.ok s M t N && Rt.ok s2 M2 t2 N2) (Bg.toZ s M * Bg.toZ t2 N2) (Bg.toZ t N * Bg.toZ s2 M2))) (w : World) :
    Calls Try.prog 35 #[.agg (Bg.ratA s M t N), .agg (Bg.ratA s2 M2 t2 N2)] w fun r w' => r = .returned (.tuple #[.agg (Bg.rZ n d), .int .i64 e]) ∧ Below w.heap.size w w' := by
  cases hk : (Rt.ok s M t N && Rt.ok s2 M2 t2 N2) with
  | false =>
    obtain ⟨rfl, rfl, rfl⟩ := Rt.bin_no hr.out hk
    exact rQuo_bad s M t N s2 M2 t2 N2 hM hN hM2 hN2 hk w
  | true =>
    have hm := Rt.bin_mk hr.out hk
    obtain ⟨k1, k2⟩ : Rt.ok s M t N = true ∧ Rt.ok s2 M2 t2 N2 = true := by simpa using hk
    obtain ⟨e1, z1⟩ := Rt.ok_z k1
    obtain ⟨e2, z2⟩ := Rt.ok_z k2
    have g1 := Rt.good (by rw [Bg.toZ_abs]; exact hM) (by rw [Bg.toZ_abs]; exact hN) z1
    have g2 := Rt.good (by rw [Bg.toZ_abs]; exact hM2) (by rw [Bg.toZ_abs]; exact hN2) z2
    rw [e1, e2]
    exact rQuo_zz _ _ _ _ _ _ n d e g1.lp g1.lq g2.lp g2.lq z1.symm z2.symm rfl rfl (lim_960 (mul_480 g1.bp g2.bq)) (lim_960 (mul_480 g1.bq g2.bp)) hm w
theorem rAdd_g (s : Bool) (M : Nat) (t : Bool) (N : Nat) (s2 : Bool) (M2 : Nat) (t2 : Bool) (N2 : Nat) (n d e : Int) (hM : M < Bg.lim) (hN : N < Bg.lim) (hM2 : M2 < Bg.lim) (hN2 : N2 < Bg.lim) (hr : Hid ((n, d, e) = Rt.bin (Rt.ok s M t N && Rt.ok s2 M2 t2 N2) (Rt.num false (Bg.toZ s M) (Bg.toZ t N) (Bg.toZ s2 M2) (Bg.toZ t2 N2)) (Bg.toZ t N * Bg.toZ t2 N2))) (w : World) :
    Calls Try.prog 32 #[.agg (Bg.ratA s M t N), .agg (Bg.ratA s2 M2 t2 N2)] w fun r w' => r = .returned (.tuple #[.agg (Bg.rZ n d), .int .i64 e]) ∧ Below w.heap.size w w' := by
  cases hk : (Rt.ok s M t N && Rt.ok s2 M2 t2 N2) with
  | false =>
    obtain ⟨rfl, rfl, rfl⟩ := Rt.bin_no hr.out hk
    exact rAdd_bad s M t N s2 M2 t2 N2 hM hN hM2 hN2 hk w
  | true =>
    have hm := Rt.bin_mk hr.out hk
    obtain ⟨k1, k2⟩ : Rt.ok s M t N = true ∧ Rt.ok s2 M2 t2 N2 = true := by simpa using hk
    obtain ⟨e1, z1⟩ := Rt.ok_z k1
    obtain ⟨e2, z2⟩ := Rt.ok_z k2
    have g1 := Rt.good (by rw [Bg.toZ_abs]; exact hM) (by rw [Bg.toZ_abs]; exact hN) z1
    have g2 := Rt.good (by rw [Bg.toZ_abs]; exact hM2) (by rw [Bg.toZ_abs]; exact hN2) z2
    rw [e1, e2]
    exact rAdd_zz _ _ _ _ _ _ _ _ n d e g1.lp g1.lq g2.lp g2.lq z1.symm z2.symm rfl rfl rfl rfl (lim_960 (mul_480 g1.bp g2.bq)) (lim_960 (mul_480 g2.bp g1.bq)) (lim_961 (mul_480 g1.bp g2.bq) (mul_480 g2.bp g1.bq)) (lim_960 (mul_480 g1.bq g2.bq)) hm w
theorem rSub_g (s : Bool) (M : Nat) (t : Bool) (N : Nat) (s2 : Bool) (M2 : Nat) (t2 : Bool) (N2 : Nat) (n d e : Int) (hM : M < Bg.lim) (hN : N < Bg.lim) (hM2 : M2 < Bg.lim) (hN2 : N2 < Bg.lim) (hr : Hid ((n, d, e) = Rt.bin (Rt.ok s M t N && Rt.ok s2 M2 t2 N2) (Rt.num true (Bg.toZ s M) (Bg.toZ t N) (Bg.toZ s2 M2) (Bg.toZ t2 N2)) (Bg.toZ t N * Bg.toZ t2 N2))) (w : World) :
    Calls Try.prog 33 #[.agg (Bg.ratA s M t N), .agg (Bg.ratA s2 M2 t2 N2)] w fun r w' => r = .returned (.tuple #[.agg (Bg.rZ n d), .int .i64 e]) ∧ Below w.heap.size w w' := by
  cases hk : (Rt.ok s M t N && Rt.ok s2 M2 t2 N2) with
  | false =>
    obtain ⟨rfl, rfl, rfl⟩ := Rt.bin_no hr.out hk
    exact rSub_bad s M t N s2 M2 t2 N2 hM hN hM2 hN2 hk w
  | true =>
    have hm := Rt.bin_mk hr.out hk
    obtain ⟨k1, k2⟩ : Rt.ok s M t N = true ∧ Rt.ok s2 M2 t2 N2 = true := by simpa using hk
    obtain ⟨e1, z1⟩ := Rt.ok_z k1
    obtain ⟨e2, z2⟩ := Rt.ok_z k2
    have g1 := Rt.good (by rw [Bg.toZ_abs]; exact hM) (by rw [Bg.toZ_abs]; exact hN) z1
    have g2 := Rt.good (by rw [Bg.toZ_abs]; exact hM2) (by rw [Bg.toZ_abs]; exact hN2) z2
    rw [e1, e2]
    have m4 : (-Bg.toZ s2 M2 * Bg.toZ t N).natAbs < Bg.p2 960 := by rw [Int.neg_mul, Int.natAbs_neg]; exact mul_480 g2.bp g1.bq
    exact rSub_zz _ _ _ _ _ _ _ _ _ n d e g1.lp g1.lq g2.lp g2.lq z1.symm z2.symm rfl rfl rfl rfl rfl (lim_960 (mul_480 g1.bp g2.bq)) (lim_960 m4) (lim_961 (mul_480 g1.bp g2.bq) m4) (lim_960 (mul_480 g1.bq g2.bq)) (Lib.hid (by rw [Int.neg_mul]; exact hm)) w
end Go.Proofs.Ytekfabhmopkapaa
