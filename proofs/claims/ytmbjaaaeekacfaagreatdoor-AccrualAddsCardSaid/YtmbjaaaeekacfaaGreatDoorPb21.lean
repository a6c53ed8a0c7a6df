/- Walks, and plain facts for them. -/
import Derived.Test.YtmbjaaaeekacfaaGreatDoorPb20
namespace Go.Proofs.YtmbjaaaeekacfaaGreatDoor
set_option maxRecDepth 8000
open Go.RowKit
theorem Rt.und : Tryz.prog.underlying 27 = some (.struct (Tryz.prog.fieldsOf 27)) := by kernel_rfl
theorem fa_qnum (x : Rat) : FA 25 (Rt.qA x) 0 (.agg (Bg.zA x.num)) := by
 rw [qA_rZ, rZ_ratA, zA_int]
 exact .inr ⟨by kernel_rfl, _, by rw [Bg.intA_size]; exact sT_int, by rw [Bg.intA_size, ratA_size]; omega, by rw [Bg.intA_size]; exact ratA_num _ _ _ _, rfl⟩
theorem la_limz0 (z : Int) : LA 22 (Bg.zA z) 1 (.int .u32 (Bg.limb z.natAbs 0 : Nat)) := by
 rw [zA_int]
 exact la_limi (decide (z < 0)) z.natAbs 0 (by decide)
theorem placesOK_any (n : Nat) (hn : n ≤ 9) (w : World) :
    Calls Tryz.prog 111 #[.int .i64 (n : Nat)] w fun e w' => e = .returned (.bool true) ∧ w = w' := by
 have h1 : (n : Int) ≤ 9 := by omega
 go_enter Tryz.func111, Tryz.ntmps111
 go_wp2
 go_ret
 exact ⟨rfl, rfl⟩
theorem Ac.p10_num (n : Nat) : ((Ac.p10 n : Int) : Rat).num = Ac.p10 n := Rat.num_intCast _
set_option maxHeartbeats 1000000 in
theorem rpower_any (n : Nat) (hn : n ≤ 9) (w : World) :
    Calls Tryz.prog 144 #[.int .i64 (n : Nat)] w fun e w' => e = .returned (.agg (Rt.qA ((Ac.p10 n : Int) : Rat))) ∧ Below w.heap.size w w' := by
 have HM := Mem.start w
 have zr := za_rat
 go_enter Tryz.func144, Tryz.ntmps144
 go_upto_region 1 with (first | ((with_reducible refine g_st ?_); refine a_st HM ?_; clear HM; intro w1 HM) | ((with_reducible refine g_al ?_); refine a_al HM ?_; clear HM; intro bk w1 HM))
 obtain ⟨b2, rfl⟩ := HM.nm0
 go_wp2_with (first | ((with_reducible refine g_st ?_); refine a_st HM ?_; clear HM; intro w1 HM) | ((with_reducible refine g_al ?_); refine a_al HM ?_; clear HM; intro bk w1 HM))
 go_loopw [3, 4] (fun p i wr => ∃ k : Nat, p = .int .i64 (Ac.p10 k) ∧ i = .int .i64 (k : Nat) ∧ k ≤ n ∧ Mem w [] [(b2, Bg.rZ 0 0)] wr) (fun _ i _ => n - (intOf i).toNat)
 case atStart => exact ⟨0, rfl, rfl, by omega, HM⟩
 case round =>
  clear HM
  obtain ⟨k, rfl, rfl, hk, HM⟩ := hrel
  have h1 := Ac.p10_pos k
  have h2 := Ac.p10_le (show k ≤ 9 by omega)
  by_cases hlt : k < n
  ·have hlt1 : (k : Int) < n := by omega
   have h3 := Lib.hid (Ac.p10_succ k)
   generalize Ac.p10 k = p at h1 h2 h3 ⊢
   go_wp2_with (first | ((with_reducible refine g_st ?_); refine a_st HM ?_; clear HM; intro w1 HM) | ((with_reducible refine g_al ?_); refine a_al HM ?_; clear HM; intro bk w1 HM))
   go_roundw
   case rel => exact ⟨k + 1, by rw [h3.out], by go_num, by omega, HM⟩
   case measure => simp [intOf]; omega
  ·obtain rfl : k = n := by omega
   obtain ⟨y, hy⟩ : ∃ y : Rat, Hid (y = ((Ac.p10 k : Int) : Rat)) := ⟨_, Lib.hid rfl⟩
   have WH := fun w => rwhole_q (Ac.p10 k) y (by omega) (by omega) hy w
   have sy := sa_q y (rZ_size 0 0)
   clear h1 h2
   go_wp2_with (first | (go_at_call 33; ((with_reducible refine (WH _).mono ?_); rintro e9 w2 ⟨rfl, hL⟩; replace HM := HM.call hL; clear hL)) | (first | ((with_reducible refine g_st ?_); refine a_st HM ?_; clear HM; intro w1 HM) | ((with_reducible refine g_al ?_); refine a_al HM ?_; clear HM; intro bk w1 HM)))
   refine bodyPost_ret (r_c (b := b2) (k := 0) rfl rfl (HM.get (by ((repeat (first | exact Look.here | refine Look.there ?_)); done))) (la_q y)) rfl ⟨by rw [hy.out], HM.low⟩
set_option maxHeartbeats 2000000 in
theorem rscaled_any (x : Rat) (n : Nat) (hx : Rt.Fit x) (hn : n ≤ 9) (w : World) :
    Calls Tryz.prog 112 #[.agg (Rt.qA x), .int .i64 (n : Nat)] w fun e w' => e = .returned (.tuple #[.agg (Bg.zA (x.num * Ac.p10 n)), .agg (Bg.zA x.den)]) ∧ Below w.heap.size w w' := by
 have HM := Mem.start w
 have zi := za_int
 have k1 := la_qnum x
 have k2 := la_qden x
 have hz := Ac.lim_of (Ac.mul_lim hx.1 (Ac.p10_bits hn)) (show 510 ≤ 1024 by decide)
 obtain ⟨p, hp⟩ : ∃ p, Hid (p = Ac.p10 n) := ⟨_, Lib.hid rfl⟩
 have hp0 := Ac.p10_pos n
 have hp1 := Ac.p10_le hn
 obtain ⟨z, hzz⟩ : ∃ z, Hid (z = x.num * p) := ⟨_, Lib.hid rfl⟩
 have PW := fun w => rpower_any n hn w
 have FF := fa_qnum ((Ac.p10 n : Int) : Rat)
 rw [Ac.p10_num] at FF
 rw [← hp.out] at PW hz hp0 hp1 FF
 rw [← hp.out, ← hzz.out]
 rw [← hzz.out] at hz
 have hpl : p.natAbs < Bg.lim := small_lim (by omega)
 have ML := fun w => rmul_zz x.num p z z 0 (Ac.nl hx) hpl hzz (Lib.hid (Ac.resZ hz)) (Lib.hid (Ac.resE hz)) w
 have s1 := sa_z z (c := Bg.zA 0) (zA_size 0)
 have s3 := sa_z (x.den : Int) (c := Bg.zA 0) (zA_size 0)
 obtain ⟨y, hy⟩ : ∃ y : Rat, Hid (y = (p : Rat)) := ⟨_, Lib.hid rfl⟩
 rw [← hy.out] at PW FF
 clear hp hzz hy
 go_enter Tryz.func112, Tryz.ntmps112
 go_upto_region 1 with (first | ((with_reducible refine g_ld ?_); refine a_ld HM ?_) | ((with_reducible refine g_st ?_); refine a_st HM ?_; clear HM; intro w1 HM) | ((with_reducible refine g_al ?_); refine a_al HM ?_; clear HM; intro bk w1 HM) | ((with_reducible refine g_bx ?_); refine a_bx HM ?_; clear HM; intro bk w1 HM))
 obtain ⟨b5, rfl⟩ := HM.nm0
 obtain ⟨b4, rfl⟩ := HM.nm1
 obtain ⟨b2, rfl⟩ := HM.nm2
 go_cut [6] (fun p wc => ∃ b6, p = .pointer (some ⟨b6, 0, none⟩) ∧ Mem w [] [(b6, Bg.zA z), (b5, Bg.zA 0), (b4, Bg.zA 0), (b2, Rt.qA x)] wc)
 case first =>
  refine start_M [10] HM (by kernel_rfl) (fun w0x H9 => ?_)
  replace HM := H9; clear H9
  refine k_fa 0 (heldE HM) ?_
  refine k_ld 1 [5, 6, 7, 8, 10, 11] (heldE HM) ?_
  refine k_mv 2 (heldE HM) ?_
  refine j_two 3 9 ?_ ?_
  ·refine j_call1 (v := ?_) HM ?_ ?_; rotate_left 1; (focus (with_reducible (first | exact PW _ | exact ML _))); clear HM; intro w1 HM
   refine ⟨(heldE HM), ?_⟩
   refine t_pure (i := 4) (v := .agg (Bg.zA p)) rfl rfl (by kernel_rfl) (fun _ _ _ h => h) (heldE HM) (by rfl) ?_ ?_; (focus (refine h_fld rfl ?_ Rt.und (by kernel_rfl) FF; ((conv => lhs; whnf) <;> rfl))); ((try simp only [List.setIfInBounds_toArray]); (try simp only [List.set_cons_succ]); (try simp only [List.set_cons_zero]))
   refine j_two 5 9 ?_ ?_
   ·refine j_call2 (v := ?_) HM ?_ ?_; rotate_left 1; (focus (with_reducible (first | exact PW _ | exact ML _))); clear HM; intro w1 HM
    refine ⟨(heldE HM), ?_⟩
    refine k_mv 6 (heldE HM) ?_
    refine k_ext 7 (heldE HM) ?_
    refine k_ext 8 (heldE HM) ?_
    refine j_one 9 fun K9 hK9 => ?_
    refine j_al HM ?_; clear HM; intro bk w1 HM
    refine hK9 _ _ (heldE HM) ?_; clear hK9 K9
    refine j_one 10 fun K9 hK9 => ?_
    refine j_st HM ?_; clear HM; intro w1 HM
    refine hK9 _ _ heldN ?_; clear hK9 K9
    refine k_mv 11 heldN ?_
    refine wpAnyL_done (by kernel_rfl) ?_ _
    (go_wp2_with fail; go_meet; (case rel => exact ⟨_, rfl, HM.pick⟩))
   ·refine j_al HM ?_; clear HM; intro bk w1 HM
    refine ⟨(heldE HM), ?_⟩
    refine j_one 5 fun K9 hK9 => ?_
    refine j_call2 (v := ?_) HM ?_ ?_; rotate_left 1; (focus (with_reducible (first | exact PW _ | exact ML _))); clear HM; intro w1 HM
    refine hK9 _ _ (heldE HM) ?_; clear hK9 K9
    refine k_mv 6 (heldE HM) ?_
    refine k_ext 7 (heldE HM) ?_
    refine k_ext 8 (heldE HM) ?_
    refine j_one 10 fun K9 hK9 => ?_
    refine j_st HM ?_; clear HM; intro w1 HM
    refine hK9 _ _ heldN ?_; clear hK9 K9
    refine k_mv 11 heldN ?_
    refine wpAnyL_done (by kernel_rfl) ?_ _
    (go_wp2_with fail; go_meet; (case rel => exact ⟨_, rfl, HM.pick⟩))
  ·refine j_al HM ?_; clear HM; intro bk w1 HM
   refine ⟨(heldE HM), ?_⟩
   refine j_one 3 fun K9 hK9 => ?_
   refine j_call1 (v := ?_) HM ?_ ?_; rotate_left 1; (focus (with_reducible (first | exact PW _ | exact ML _))); clear HM; intro w1 HM
   refine hK9 _ _ (heldE HM) ?_; clear hK9 K9
   refine t_pure (i := 4) (v := .agg (Bg.zA p)) rfl rfl (by kernel_rfl) (fun _ _ _ h => h) (heldE HM) (by rfl) ?_ ?_; (focus (refine h_fld rfl ?_ Rt.und (by kernel_rfl) FF; ((conv => lhs; whnf) <;> rfl))); ((try simp only [List.setIfInBounds_toArray]); (try simp only [List.set_cons_succ]); (try simp only [List.set_cons_zero]))
   refine j_one 5 fun K9 hK9 => ?_
   refine j_call2 (v := ?_) HM ?_ ?_; rotate_left 1; (focus (with_reducible (first | exact PW _ | exact ML _))); clear HM; intro w1 HM
   refine hK9 _ _ (heldE HM) ?_; clear hK9 K9
   refine k_mv 6 (heldE HM) ?_
   refine k_ext 7 (heldE HM) ?_
   refine k_ext 8 (heldE HM) ?_
   refine j_one 10 fun K9 hK9 => ?_
   refine j_st HM ?_; clear HM; intro w1 HM
   refine hK9 _ _ heldN ?_; clear hK9 K9
   refine k_mv 11 heldN ?_
   refine wpAnyL_done (by kernel_rfl) ?_ _
   (go_wp2_with fail; go_meet; (case rel => exact ⟨_, rfl, HM.pick⟩))
 case rest =>
  clear HM
  obtain ⟨b6, rfl, HM⟩ := hcut
  go_step
  go_upto_region 2 with fail
  refine start_M [3, 4] HM (by kernel_rfl) (fun w0x H9 => ?_)
  replace HM := H9; clear H9
  refine k_ld 0 [3, 4] (heldE HM) ?_
  refine k_fa 1 (heldE HM) ?_
  refine j_two 2 3 ?_ ?_
  ·refine j_ld HM ?_
   refine ⟨(heldE HM), ?_⟩
   refine j_one 3 fun K9 hK9 => ?_
   refine j_st HM ?_; clear HM; intro w1 HM
   refine hK9 _ _ heldN ?_; clear hK9 K9
   refine j_one 4 fun K9 hK9 => ?_
   refine j_st HM ?_; clear HM; intro w1 HM
   refine hK9 _ _ heldN ?_; clear hK9 K9
   refine wpAnyL_done (by kernel_rfl) ?_ _
   (go_wp2_with fail; refine bodyPost_ret (r_cc (b := b4) (b2 := b5) (k := 0) (k2 := 0) rfl rfl rfl (HM.get (by ((repeat (first | exact Look.here | refine Look.there ?_)); done))) (la_z _) (HM.get (by ((repeat (first | exact Look.here | refine Look.there ?_)); done))) (la_z _)) rfl ⟨rfl, HM.low⟩)
  ·refine j_st HM ?_; clear HM; intro w1 HM
   refine ⟨heldN, ?_⟩
   refine j_one 2 fun K9 hK9 => ?_
   refine j_ld HM ?_
   refine hK9 _ _ heldN ?_; clear hK9 K9
   refine j_one 4 fun K9 hK9 => ?_
   refine j_st HM ?_; clear HM; intro w1 HM
   refine hK9 _ _ heldN ?_; clear hK9 K9
   refine wpAnyL_done (by kernel_rfl) ?_ _
   (go_wp2_with fail; refine bodyPost_ret (r_cc (b := b4) (b2 := b5) (k := 0) (k2 := 0) rfl rfl rfl (HM.get (by ((repeat (first | exact Look.here | refine Look.there ?_)); done))) (la_z _) (HM.get (by ((repeat (first | exact Look.here | refine Look.there ?_)); done))) (la_z _)) rfl ⟨rfl, HM.low⟩)
theorem above1_any (n o : Bool) (h : Int) (w : World) :
    Calls Tryz.prog 113 #[.int .i64 1, .bool n, .int .i64 h, .bool o] w fun e w' => e = .returned (.bool n) ∧ w = w' := by
 go_enter Tryz.func113, Tryz.ntmps113
 go_wp2
 go_ret
 exact ⟨rfl, rfl⟩
theorem above6_any (n o : Bool) (h : Int) (v : Bool) (hv : Hid (v = if h = 0 then o else decide (0 < h))) (w : World) :
    Calls Tryz.prog 113 #[.int .i64 6, .bool n, .int .i64 h, .bool o] w fun e w' => e = .returned (.bool v) ∧ w = w' := by
 go_enter Tryz.func113, Tryz.ntmps113
 by_cases h0 : h = 0
 ·obtain rfl : v = o := by rw [hv.out, if_pos h0]
  subst h0
  go_wp2
  go_ret
  exact ⟨rfl, rfl⟩
 ·obtain rfl : v = decide (0 < h) := by rw [hv.out, if_neg h0]
  have h1 : (h != 0) = true := by simpa using h0
  clear h0 hv
  go_wp2
  go_ret
  exact ⟨rfl, rfl⟩
theorem placesOK_0 (w : World) : Calls Tryz.prog 111 #[.int .i64 0] w fun e w' => e = .returned (.bool true) ∧ Below w.heap.size w w' := below_eq (placesOK_any 0 (by decide) w)
theorem placesOK_6 (w : World) : Calls Tryz.prog 111 #[.int .i64 6] w fun e w' => e = .returned (.bool true) ∧ Below w.heap.size w w' := below_eq (placesOK_any 6 (by decide) w)
theorem rscaled_0 (x : Rat) (hx : Rt.Fit x) (w : World) :
    Calls Tryz.prog 112 #[.agg (Rt.qA x), .int .i64 0] w fun e w' => e = .returned (.tuple #[.agg (Bg.zA (x.num * Ac.p10 0)), .agg (Bg.zA x.den)]) ∧ Below w.heap.size w w' := rscaled_any x 0 hx (by decide) w
theorem rscaled_6 (x : Rat) (hx : Rt.Fit x) (w : World) :
    Calls Tryz.prog 112 #[.agg (Rt.qA x), .int .i64 6] w fun e w' => e = .returned (.tuple #[.agg (Bg.zA (x.num * Ac.p10 6)), .agg (Bg.zA x.den)]) ∧ Below w.heap.size w w' := rscaled_any x 6 hx (by decide) w
set_option maxHeartbeats 2000000 in
theorem exact6_any (x : Rat) (hx : Rt.Fit x) (v : Bool) (hv : Hid (v = decide (Ac.re x 6 = 0))) (w : World) :
    Calls Tryz.prog 154 #[.agg (Rt.qA x), .int .i64 6] w fun e w' => e = .returned (.tuple #[.bool v, .int .i64 0]) ∧ Below w.heap.size w w' := by
 have HM := Mem.start w
 have zi := za_int
 have k0 := la_q x
 have V := fun w => rvalid_q x hx w
 have SC := fun w => rscaled_6 x hx w
 have hz := Ac.lim_of (Ac.mul_lim hx.1 (Ac.p10_bits (show 6 ≤ 9 by decide))) (show 510 ≤ 1024 by decide)
 have hre := Ac.lim_of (Ac.re_lim hx 6) (show 480 ≤ 1024 by decide)
 obtain ⟨q, hq⟩ : ∃ q, Hid (q = Ac.lo x 6) := ⟨_, Lib.hid rfl⟩
 obtain ⟨r, hr⟩ : ∃ r, Hid (r = Ac.re x 6) := ⟨_, Lib.hid rfl⟩
 have DM := fun w => rdivMod_zz (x.num * Ac.p10 6) x.den q r hz (Ac.dl hx) (Int.ne_of_gt (Ac.den_pos x)) (Lib.hid (by rw [hq.out]; rfl)) (Lib.hid (by rw [hr.out]; rfl)) w
 rw [← hr.out] at hv hre
 obtain ⟨g, hg⟩ : ∃ g, Hid (g = r.sign) := ⟨_, Lib.hid rfl⟩
 have SR := fun w => rsign_z r g hre hg w
 have hgv : (g == 0) = v := by
  rw [hv.out, hg.out]
  by_cases h : r = 0
  ·rw [h]; rfl
  ·rw [decide_eq_false h]
   exact beq_eq_false_iff_ne.2 (fun e => h (Int.sign_eq_zero_iff_zero.1 e))
 generalize x.num * Ac.p10 6 = z at SC DM hz
 have s1 := sa_z z (c := Bg.zA 0) (zA_size 0)
 have s2 := sa_z (x.den : Int) (c := Bg.zA 0) (zA_size 0)
 have s3 := sa_z q (c := Bg.zA 0) (zA_size 0)
 have s4 := sa_z r (c := Bg.zA 0) (zA_size 0)
 clear hq hr hg hv
 go_enter Tryz.func154, Tryz.ntmps154
 go_wp2_with (first | (go_at_call 65; ((with_reducible refine (V _).mono ?_); rintro e9 w2 ⟨rfl, hL⟩; replace HM := HM.call hL; clear hL)) | (go_at_call 111; ((with_reducible refine (placesOK_6 _).mono ?_); rintro e9 w2 ⟨rfl, hL⟩; replace HM := HM.call hL; clear hL)) | (go_at_call 112; ((with_reducible refine (SC _).mono ?_); rintro e9 w2 ⟨rfl, hL⟩; replace HM := HM.call hL; clear hL)) | (go_at_call 99; ((with_reducible refine (DM _).mono ?_); rintro e9 w2 ⟨rfl, hL⟩; replace HM := HM.call hL; clear hL)) | (go_at_call 60; ((with_reducible refine (SR _).mono ?_); rintro e9 w2 ⟨rfl, hL⟩; replace HM := HM.call hL; clear hL)) | (first | ((with_reducible refine g_ld ?_); refine a_ld HM ?_) | ((with_reducible refine g_st ?_); refine a_st HM ?_; clear HM; intro w1 HM) | ((with_reducible refine g_al ?_); refine a_al HM ?_; clear HM; intro bk w1 HM) | ((with_reducible refine g_bx ?_); refine a_bx HM ?_; clear HM; intro bk w1 HM)))
 go_ret2
 exact ⟨by rw [← hgv]; rfl, HM.low⟩
set_option maxHeartbeats 8000000 in
theorem rround0_any (x : Rat) (hx : Rt.Fit x) (h0 : 0 ≤ x) (w : World) :
    Calls Tryz.prog 69 #[.agg (Rt.qA x), .int .i64 0, .int .i64 6] w fun e w' => e = .returned (.tuple #[.agg (Bg.zA (Ac.rhe x)), .int .i64 0]) ∧ Below w.heap.size w w' := by
 have HM := Mem.start w
 have zi := za_int
 have k0 := la_q x
 have V := fun w => rvalid_q x hx w
 have SC := fun w => rscaled_0 x hx w
 rw [show Ac.p10 0 = 1 from rfl, Int.mul_one] at SC
 have hlo := Ac.lo_lim hx (n := 0) (by decide)
 have hre := Ac.re_lim hx 0
 rw [Ac.lo0] at hlo
 rw [Ac.re0] at hre
 have hri := Ac.rm_in x
 have hfn : 0 ≤ Ac.fl x := by
  have := Ac.fl_mono h0
  have e : Ac.fl 0 = 0 := Ac.fl_int 0
  omega
 have hup := Ac.rhe_up (x := x) hfn
 have hlow := Ac.rhe_low (x := x)
 have hhf : Hid (Ac.hf x = (2 * Ac.rm x - x.den).sign) := Lib.hid rfl
 have hflr : Hid (Ac.fl x = x.num / x.den ∧ Ac.rm x = x.num % x.den) := Lib.hid ⟨rfl, rfl⟩
 generalize Ac.hf x = f at *
 generalize Ac.rhe x = y at *
 generalize Ac.fl x = l at *
 generalize Ac.rm x = r at *
 have DM := fun w => rdivMod_zz x.num x.den l r (Ac.nl hx) (Ac.dl hx) (Int.ne_of_gt (Ac.den_pos x)) (Lib.hid hflr.out.1) (Lib.hid hflr.out.2) w
 have hl := Ac.lim_of hlo (by decide)
 have hrl := Ac.lim_of hre (by decide)
 obtain ⟨t, ht⟩ : ∃ t, Hid (t = r + r) := ⟨_, Lib.hid rfl⟩
 have e481 : Bg.p2 481 = Bg.p2 480 * 2 := by rw [show (481 : Nat) = 480 + 1 from rfl, Bg.p2_add]; rw [show Bg.p2 1 = 2 by unfold Bg.p2; rfl]
 have htl : t.natAbs < Bg.lim := Ac.lim_of (k := 481) (by rw [ht.out, e481]; omega) (by decide)
 have AD := fun w => radd_zz r r t t 0 hrl hrl ht (Lib.hid (Ac.resZ htl)) (Lib.hid (Ac.resE htl)) w
 have CM := fun w => rcmp_z t x.den f htl (Ac.dl hx) (Lib.hid (by rw [hhf.out, ht.out]; congr 1; omega)) w
 have hs0 : (0 : Int) ≤ x.num.sign := by
  have h2 : (0 : Int) ≤ x.num := Rat.num_nonneg.2 h0
  rcases Int.lt_trichotomy x.num 0 with h | h | h
  ·omega
  ·rw [h]; decide
  ·rw [Int.sign_eq_one_of_pos h]; decide
 obtain ⟨s, hs⟩ : ∃ s, Hid (s = x.num.sign) := ⟨_, Lib.hid rfl⟩
 rw [← hs.out] at hs0
 have SG := fun w => rsign_z x.num s (Ac.nl hx) hs w
 have hsn : decide (s < 0) = false := decide_eq_false (by omega)
 have sl := sa_z l (c := Bg.zA 0) (zA_size 0)
 have sr := sa_z r (c := Bg.zA 0) (zA_size 0)
 have st := sa_z t (c := Bg.zA 0) (zA_size 0)
 have sx := sa_z x.num (c := Bg.zA 0) (zA_size 0)
 have sd := sa_z (x.den : Int) (c := Bg.zA 0) (zA_size 0)
 have lm := la_limz0 l
 have hpar : Hid (Bg.limb l.natAbs 0 % 2 = l.natAbs % 2) := Lib.hid (Bg.limb_two _)
 have hm3 : Bg.limb l.natAbs 0 < 4294967296 := by unfold Bg.limb; exact Nat.mod_lt _ (by decide)
 generalize Bg.limb l.natAbs 0 = m at lm hpar hm3
 obtain ⟨c, hc⟩ : ∃ c : Nat, Hid (m % 2 = c) := ⟨_, Lib.hid rfl⟩
 have hc2 : c = 0 ∨ c = 1 := by have := hc.out; omega
 have hm : ((m : Nat) : Int).tmod 2 = c := by have := hc.out; rw [Int.tmod_eq_emod_of_nonneg (by omega)]; omega
 have HLO := Lib.hid hlo
 by_cases hr0 : r = 0
 ·obtain rfl := hlow hr0
  have SR := fun w => rsign_z r 0 hrl (Lib.hid (by rw [hr0]; rfl)) w
  clear hup hlow hr0 CM SG AD hhf hs ht e481 hlo hre hflr hm hc
  go_enter Tryz.func69, Tryz.ntmps69
  go_wp2_with (first | (go_at_call 65; ((with_reducible refine (V _).mono ?_); rintro e9 w2 ⟨rfl, hL⟩; replace HM := HM.call hL; clear hL)) | (go_at_call 111; ((with_reducible refine (placesOK_0 _).mono ?_); rintro e9 w2 ⟨rfl, hL⟩; replace HM := HM.call hL; clear hL)) | (go_at_call 112; ((with_reducible refine (SC _).mono ?_); rintro e9 w2 ⟨rfl, hL⟩; replace HM := HM.call hL; clear hL)) | (go_at_call 99; ((with_reducible refine (DM _).mono ?_); rintro e9 w2 ⟨rfl, hL⟩; replace HM := HM.call hL; clear hL)) | (go_at_call 60; ((with_reducible refine (SR _).mono ?_); rintro e9 w2 ⟨rfl, hL⟩; replace HM := HM.call hL; clear hL)) | (first | ((with_reducible refine g_ld ?_); refine a_ld HM ?_) | ((with_reducible refine g_st ?_); refine a_st HM ?_; clear HM; intro w1 HM) | ((with_reducible refine g_al ?_); refine a_al HM ?_; clear HM; intro bk w1 HM) | ((with_reducible refine g_bx ?_); refine a_bx HM ?_; clear HM; intro bk w1 HM) | ((with_reducible refine g_bld ?_); refine a_bld ?_)))
  obtain ⟨b6, rfl⟩ := HM.nm4
  refine bodyPost_ret (r_ct (b := b6) (k := 0) rfl rfl (HM.get (by ((repeat (first | exact Look.here | refine Look.there ?_)); done))) (la_z _)) rfl ⟨rfl, HM.low⟩
 ·obtain ⟨g, hg⟩ : ∃ g, Hid (g = r.sign) := ⟨_, Lib.hid rfl⟩
  have hg0 : (g == 0) = false := beq_eq_false_iff_ne.2 (by
   rw [hg.out]
   intro e
   exact hr0 (Int.sign_eq_zero_iff_zero.1 e))
  have SR := fun w => rsign_z r g hrl hg w
  clear hhf hs ht e481 hlo hre hflr hlow hr0
  go_enter Tryz.func69, Tryz.ntmps69
  go_upto_region 12 with (first | (go_at_call 65; ((with_reducible refine (V _).mono ?_); rintro e9 w2 ⟨rfl, hL⟩; replace HM := HM.call hL; clear hL)) | (go_at_call 111; ((with_reducible refine (placesOK_0 _).mono ?_); rintro e9 w2 ⟨rfl, hL⟩; replace HM := HM.call hL; clear hL)) | (go_at_call 112; ((with_reducible refine (SC _).mono ?_); rintro e9 w2 ⟨rfl, hL⟩; replace HM := HM.call hL; clear hL)) | (go_at_call 99; ((with_reducible refine (DM _).mono ?_); rintro e9 w2 ⟨rfl, hL⟩; replace HM := HM.call hL; clear hL)) | (go_at_call 60; ((with_reducible refine (SR _).mono ?_); rintro e9 w2 ⟨rfl, hL⟩; replace HM := HM.call hL; clear hL)) | (go_at_call 68; ((with_reducible refine (AD _).mono ?_); rintro e9 w2 ⟨rfl, hL⟩; replace HM := HM.call hL; clear hL)) | (first | ((with_reducible refine g_ld ?_); refine a_ld HM ?_) | ((with_reducible refine g_st ?_); refine a_st HM ?_; clear HM; intro w1 HM) | ((with_reducible refine g_al ?_); refine a_al HM ?_; clear HM; intro bk w1 HM) | ((with_reducible refine g_bx ?_); refine a_bx HM ?_; clear HM; intro bk w1 HM) | ((with_reducible refine g_bld ?_); refine a_bld ?_)))
  obtain ⟨b13, rfl⟩ := HM.nm0
  obtain ⟨b11, rfl⟩ := HM.nm1
  obtain ⟨b10, rfl⟩ := HM.nm2
  obtain ⟨b9, rfl⟩ := HM.nm3
  obtain ⟨b8, rfl⟩ := HM.nm4
  obtain ⟨b6, rfl⟩ := HM.nm5
  have hmod : Hid (((m : Nat) : Int).tmod 2 = c) := Lib.hid hm
  obtain ⟨o, ho⟩ : ∃ o : Bool, Hid (o = ((c : Int) == 1)) := ⟨_, Lib.hid rfl⟩
  have AB := fun w => below_eq (above6_any (decide (s < 0)) o f (Ac.up l f) (Lib.hid (by
   have e : o = decide (l.natAbs % 2 = 1) := by
    have h1 := hc.out
    have h2 := hpar.out
    rw [ho.out, ← h2, h1]
    by_cases h : c = 1
    ·subst h; rfl
    ·rw [decide_eq_false h]; exact beq_eq_false_iff_ne.2 (fun e => h (by omega))
   rw [e]; rfl)) w)
  rw [hsn] at AB
  generalize Ac.up l f = u at AB hup
  refine start_M [] HM (by kernel_rfl) (fun w0x H9 => ?_)
  replace HM := H9; clear H9
  refine k_mv 0 (heldE HM) ?_
  refine k_ld 1 [] (heldE HM) ?_
  refine k_ld 4 [] (heldE HM) ?_
  refine k_ld 5 [] (heldE HM) ?_
  refine k_fa 7 (heldE HM) ?_
  refine k_ia 8 (heldE HM) ?_
  refine k_ld 9 [] (heldE HM) ?_
  refine t_pure (i := 10) (v := .int .u32 (c : Nat)) rfl rfl (by kernel_rfl) (fun _ _ _ h => h) (heldE HM) (by rfl) ?_ ?_; (focus (exact h_bin (by rfl) (by rfl) (by rfl) (by intro w9; go_simp))); ((try simp only [List.setIfInBounds_toArray]); (try simp only [List.set_cons_succ]); (try simp only [List.set_cons_zero]))
  refine t_pure (i := 11) (v := .bool o) rfl rfl (by kernel_rfl) (fun _ _ _ h => h) (heldE HM) (by rfl) ?_ ?_; (focus (exact h_bin (by rfl) (by rfl) (by rfl) (by intro w9; go_simp; rw [ho.out]))); ((try simp only [List.setIfInBounds_toArray]); (try simp only [List.set_cons_succ]); (try simp only [List.set_cons_zero]))
  refine j_one 2 fun K9 hK9 => ?_
  refine j_call1 (v := ?_) HM ?_ ?_; rotate_left 1; (focus (with_reducible (first | exact CM _ | exact SG _ | exact AB _))); clear HM; intro w1 HM
  refine hK9 _ _ (heldE HM) ?_; clear hK9 K9
  refine k_bin 3 (heldE HM) ?_
  refine j_one 6 fun K9 hK9 => ?_
  refine j_call2 (v := ?_) HM ?_ ?_; rotate_left 1; (focus (with_reducible (first | exact CM _ | exact SG _ | exact AB _))); clear HM; intro w1 HM
  refine hK9 _ _ (heldE HM) ?_; clear hK9 K9
  refine j_one 12 fun K9 hK9 => ?_
  refine j_call4 (v := ?_) HM ?_ ?_; rotate_left 1; (focus (with_reducible (first | exact CM _ | exact SG _ | exact AB _))); clear HM; intro w1 HM
  refine hK9 _ _ (heldE HM) ?_; clear hK9 K9
  refine wpAnyL_done (by kernel_rfl) ?_ _
  cases u with
  | false =>
   obtain rfl : y = l := hup
   go_wp2_with (first | ((with_reducible refine g_ld ?_); refine a_ld HM ?_) | ((with_reducible refine g_st ?_); refine a_st HM ?_; clear HM; intro w1 HM) | ((with_reducible refine g_al ?_); refine a_al HM ?_; clear HM; intro bk w1 HM) | ((with_reducible refine g_bx ?_); refine a_bx HM ?_; clear HM; intro bk w1 HM) | ((with_reducible refine g_bld ?_); refine a_bld ?_))
   refine bodyPost_ret (r_ct (b := b6) (k := 0) rfl rfl (HM.get (by ((repeat (first | exact Look.here | refine Look.there ?_)); done))) (la_z _)) rfl ⟨rfl, HM.low⟩
  | true =>
   obtain rfl : y = l + 1 := hup
   obtain ⟨n, hn⟩ : ∃ n, Hid (n = l + 1) := ⟨_, Lib.hid rfl⟩
   have hnl : n.natAbs < Bg.lim := by
    have := Bg.p2_mono (show 512 ≤ 1024 by decide)
    rw [Bg.p2_lim] at this
    have e : Bg.p2 512 = Bg.p2 511 * 2 := by rw [show (512 : Nat) = 511 + 1 from rfl, Bg.p2_add]; rw [show Bg.p2 1 = 2 by unfold Bg.p2; rfl]
    have h2 := HLO.out
    rw [hn.out]
    omega
   have HN := Lib.hid hn.out
   have h1l : (1 : Int).natAbs < Bg.lim := small_lim (by decide)
   have F1 := fun w => rfromInt_z 1 (by decide) (by decide) w
   have A1 := fun w => radd_zz l 1 n n 0 hl h1l hn (Lib.hid (Ac.resZ hnl)) (Lib.hid (Ac.resE hnl)) w
   have sn := sa_z n (c := Bg.zA l) (zA_size l)
   clear hn
   go_upto_region 13 with (first | ((with_reducible refine g_ld ?_); refine a_ld HM ?_) | ((with_reducible refine g_st ?_); refine a_st HM ?_; clear HM; intro w1 HM) | ((with_reducible refine g_al ?_); refine a_al HM ?_; clear HM; intro bk w1 HM) | ((with_reducible refine g_bx ?_); refine a_bx HM ?_; clear HM; intro bk w1 HM) | ((with_reducible refine g_bld ?_); refine a_bld ?_))
   refine start_M [6] HM (by kernel_rfl) (fun w0x H9 => ?_)
   replace HM := H9; clear H9
   refine k_ld 0 [2, 3, 4, 5, 6] (heldE HM) ?_
   refine j_one 1 fun K9 hK9 => ?_
   refine j_call1 (v := ?_) HM ?_ ?_; rotate_left 1; (focus (with_reducible (first | exact F1 _ | exact A1 _))); clear HM; intro w1 HM
   refine hK9 _ _ (heldE HM) ?_; clear hK9 K9
   refine j_one 2 fun K9 hK9 => ?_
   refine j_call2 (v := ?_) HM ?_ ?_; rotate_left 1; (focus (with_reducible (first | exact F1 _ | exact A1 _))); clear HM; intro w1 HM
   refine hK9 _ _ (heldE HM) ?_; clear hK9 K9
   refine k_mv 3 (heldE HM) ?_
   refine k_ext 4 (heldE HM) ?_
   refine k_ext 5 (heldE HM) ?_
   refine j_one 6 fun K9 hK9 => ?_
   refine j_st HM ?_; clear HM; intro w1 HM
   refine hK9 _ _ heldN ?_; clear hK9 K9
   refine wpAnyL_done (by kernel_rfl) ?_ _
   go_wp2_with (first | ((with_reducible refine g_ld ?_); refine a_ld HM ?_) | ((with_reducible refine g_st ?_); refine a_st HM ?_; clear HM; intro w1 HM) | ((with_reducible refine g_al ?_); refine a_al HM ?_; clear HM; intro bk w1 HM) | ((with_reducible refine g_bx ?_); refine a_bx HM ?_; clear HM; intro bk w1 HM) | ((with_reducible refine g_bld ?_); refine a_bld ?_))
   refine bodyPost_ret (r_ct (b := b6) (k := 0) rfl rfl (HM.get (by ((repeat (first | exact Look.here | refine Look.there ?_)); done))) (la_z _)) rfl ⟨by rw [HN.out]; rfl, HM.low⟩
set_option maxHeartbeats 8000000 in
theorem rround6_any (x : Rat) (hx : Rt.Fit x) (h0 : 0 ≤ x) (l : Int) (hl0 : Hid (l = Ac.lo x 6)) (w : World) :
    Calls Tryz.prog 69 #[.agg (Rt.qA x), .int .i64 6, .int .i64 1] w fun e w' => e = .returned (.tuple #[.agg (Bg.zA l), .int .i64 0]) ∧ Below w.heap.size w w' := by
 have HM := Mem.start w
 have zi := za_int
 have k0 := la_q x
 have V := fun w => rvalid_q x hx w
 have SC := fun w => rscaled_6 x hx w
 have hz := Ac.lim_of (Ac.mul_lim hx.1 (Ac.p10_bits (show 6 ≤ 9 by decide))) (show 510 ≤ 1024 by decide)
 have hlo := Ac.lo_lim hx (n := 6) (by decide)
 have hre := Ac.re_lim hx 6
 have hn0 : (0 : Int) ≤ x.num := Rat.num_nonneg.2 h0
 have hzn : (0 : Int) ≤ x.num * Ac.p10 6 := Int.mul_nonneg hn0 (by have := Ac.p10_pos 6; omega)
 obtain ⟨r, hr⟩ : ∃ r, Hid (r = Ac.re x 6) := ⟨_, Lib.hid rfl⟩
 rw [← hl0.out] at hlo
 rw [← hr.out] at hre
 have DM := fun w => rdivMod_zz (x.num * Ac.p10 6) x.den l r hz (Ac.dl hx) (Int.ne_of_gt (Ac.den_pos x)) (Lib.hid (by rw [hl0.out]; rfl)) (Lib.hid (by rw [hr.out]; rfl)) w
 generalize x.num * Ac.p10 6 = z at SC DM hz hzn
 have hl := Ac.lim_of hlo (by decide)
 have hrl := Ac.lim_of hre (by decide)
 obtain ⟨t, ht⟩ : ∃ t, Hid (t = r + r) := ⟨_, Lib.hid rfl⟩
 have e481 : Bg.p2 481 = Bg.p2 480 * 2 := by rw [show (481 : Nat) = 480 + 1 from rfl, Bg.p2_add]; rw [show Bg.p2 1 = 2 by unfold Bg.p2; rfl]
 have htl : t.natAbs < Bg.lim := Ac.lim_of (k := 481) (by rw [ht.out, e481]; omega) (by decide)
 have AD := fun w => radd_zz r r t t 0 hrl hrl ht (Lib.hid (Ac.resZ htl)) (Lib.hid (Ac.resE htl)) w
 obtain ⟨f, hf⟩ : ∃ f, Hid (f = (t - (x.den : Int)).sign) := ⟨_, Lib.hid rfl⟩
 have CM := fun w => rcmp_z t x.den f htl (Ac.dl hx) (Lib.hid (by rw [hf.out])) w
 have hs0 : (0 : Int) ≤ z.sign := by
  rcases Int.lt_trichotomy z 0 with h | h | h
  ·omega
  ·rw [h]; decide
  ·rw [Int.sign_eq_one_of_pos h]; decide
 obtain ⟨s, hs⟩ : ∃ s, Hid (s = z.sign) := ⟨_, Lib.hid rfl⟩
 rw [← hs.out] at hs0
 have SG := fun w => rsign_z z s hz hs w
 have hsn : decide (s < 0) = false := decide_eq_false (by omega)
 have sl := sa_z l (c := Bg.zA 0) (zA_size 0)
 have sr := sa_z r (c := Bg.zA 0) (zA_size 0)
 have st := sa_z t (c := Bg.zA 0) (zA_size 0)
 have sx := sa_z z (c := Bg.zA 0) (zA_size 0)
 have sd := sa_z (x.den : Int) (c := Bg.zA 0) (zA_size 0)
 have lm := la_limz0 l
 have hm3 : Bg.limb l.natAbs 0 < 4294967296 := by unfold Bg.limb; exact Nat.mod_lt _ (by decide)
 generalize Bg.limb l.natAbs 0 = m at lm hm3
 obtain ⟨c, hc⟩ : ∃ c : Nat, Hid (m % 2 = c) := ⟨_, Lib.hid rfl⟩
 have hm : ((m : Nat) : Int).tmod 2 = c := by have := hc.out; rw [Int.tmod_eq_emod_of_nonneg (by omega)]; omega
 clear hn0 e481 hlo hre hr hl0 ht hf hzn
 by_cases hr0 : r = 0
 ·have SR := fun w => rsign_z r 0 hrl (Lib.hid (by rw [hr0]; rfl)) w
  clear hr0 CM SG AD hs hm hc
  go_enter Tryz.func69, Tryz.ntmps69
  go_wp2_with (first | (go_at_call 65; ((with_reducible refine (V _).mono ?_); rintro e9 w2 ⟨rfl, hL⟩; replace HM := HM.call hL; clear hL)) | (go_at_call 111; ((with_reducible refine (placesOK_6 _).mono ?_); rintro e9 w2 ⟨rfl, hL⟩; replace HM := HM.call hL; clear hL)) | (go_at_call 112; ((with_reducible refine (SC _).mono ?_); rintro e9 w2 ⟨rfl, hL⟩; replace HM := HM.call hL; clear hL)) | (go_at_call 99; ((with_reducible refine (DM _).mono ?_); rintro e9 w2 ⟨rfl, hL⟩; replace HM := HM.call hL; clear hL)) | (go_at_call 60; ((with_reducible refine (SR _).mono ?_); rintro e9 w2 ⟨rfl, hL⟩; replace HM := HM.call hL; clear hL)) | (first | ((with_reducible refine g_ld ?_); refine a_ld HM ?_) | ((with_reducible refine g_st ?_); refine a_st HM ?_; clear HM; intro w1 HM) | ((with_reducible refine g_al ?_); refine a_al HM ?_; clear HM; intro bk w1 HM) | ((with_reducible refine g_bx ?_); refine a_bx HM ?_; clear HM; intro bk w1 HM) | ((with_reducible refine g_bld ?_); refine a_bld ?_)))
  obtain ⟨b6, rfl⟩ := HM.nm4
  refine bodyPost_ret (r_ct (b := b6) (k := 0) rfl rfl (HM.get (by ((repeat (first | exact Look.here | refine Look.there ?_)); done))) (la_z _)) rfl ⟨rfl, HM.low⟩
 ·obtain ⟨g, hg⟩ : ∃ g, Hid (g = r.sign) := ⟨_, Lib.hid rfl⟩
  have hg0 : (g == 0) = false := beq_eq_false_iff_ne.2 (by
   rw [hg.out]
   intro e
   exact hr0 (Int.sign_eq_zero_iff_zero.1 e))
  have SR := fun w => rsign_z r g hrl hg w
  clear hs hr0
  go_enter Tryz.func69, Tryz.ntmps69
  go_upto_region 12 with (first | (go_at_call 65; ((with_reducible refine (V _).mono ?_); rintro e9 w2 ⟨rfl, hL⟩; replace HM := HM.call hL; clear hL)) | (go_at_call 111; ((with_reducible refine (placesOK_6 _).mono ?_); rintro e9 w2 ⟨rfl, hL⟩; replace HM := HM.call hL; clear hL)) | (go_at_call 112; ((with_reducible refine (SC _).mono ?_); rintro e9 w2 ⟨rfl, hL⟩; replace HM := HM.call hL; clear hL)) | (go_at_call 99; ((with_reducible refine (DM _).mono ?_); rintro e9 w2 ⟨rfl, hL⟩; replace HM := HM.call hL; clear hL)) | (go_at_call 60; ((with_reducible refine (SR _).mono ?_); rintro e9 w2 ⟨rfl, hL⟩; replace HM := HM.call hL; clear hL)) | (go_at_call 68; ((with_reducible refine (AD _).mono ?_); rintro e9 w2 ⟨rfl, hL⟩; replace HM := HM.call hL; clear hL)) | (first | ((with_reducible refine g_ld ?_); refine a_ld HM ?_) | ((with_reducible refine g_st ?_); refine a_st HM ?_; clear HM; intro w1 HM) | ((with_reducible refine g_al ?_); refine a_al HM ?_; clear HM; intro bk w1 HM) | ((with_reducible refine g_bx ?_); refine a_bx HM ?_; clear HM; intro bk w1 HM) | ((with_reducible refine g_bld ?_); refine a_bld ?_)))
  obtain ⟨b13, rfl⟩ := HM.nm0
  obtain ⟨b11, rfl⟩ := HM.nm1
  obtain ⟨b10, rfl⟩ := HM.nm2
  obtain ⟨b9, rfl⟩ := HM.nm3
  obtain ⟨b8, rfl⟩ := HM.nm4
  obtain ⟨b6, rfl⟩ := HM.nm5
  obtain ⟨o, ho⟩ : ∃ o : Bool, Hid (o = ((c : Int) == 1)) := ⟨_, Lib.hid rfl⟩
  have AB := fun w => below_eq (above1_any (decide (s < 0)) o f w)
  rw [hsn] at AB
  refine start_M [] HM (by kernel_rfl) (fun w0x H9 => ?_)
  replace HM := H9; clear H9
  refine k_mv 0 (heldE HM) ?_
  refine k_ld 1 [] (heldE HM) ?_
  refine k_ld 4 [] (heldE HM) ?_
  refine k_ld 5 [] (heldE HM) ?_
  refine k_fa 7 (heldE HM) ?_
  refine k_ia 8 (heldE HM) ?_
  refine k_ld 9 [] (heldE HM) ?_
  refine t_pure (i := 10) (v := .int .u32 (c : Nat)) rfl rfl (by kernel_rfl) (fun _ _ _ h => h) (heldE HM) (by rfl) ?_ ?_; (focus (exact h_bin (by rfl) (by rfl) (by rfl) (by intro w9; go_simp))); ((try simp only [List.setIfInBounds_toArray]); (try simp only [List.set_cons_succ]); (try simp only [List.set_cons_zero]))
  refine t_pure (i := 11) (v := .bool o) rfl rfl (by kernel_rfl) (fun _ _ _ h => h) (heldE HM) (by rfl) ?_ ?_; (focus (exact h_bin (by rfl) (by rfl) (by rfl) (by intro w9; go_simp; rw [ho.out]))); ((try simp only [List.setIfInBounds_toArray]); (try simp only [List.set_cons_succ]); (try simp only [List.set_cons_zero]))
  refine j_one 2 fun K9 hK9 => ?_
  refine j_call1 (v := ?_) HM ?_ ?_; rotate_left 1; (focus (with_reducible (first | exact CM _ | exact SG _ | exact AB _))); clear HM; intro w1 HM
  refine hK9 _ _ (heldE HM) ?_; clear hK9 K9
  refine k_bin 3 (heldE HM) ?_
  refine j_one 6 fun K9 hK9 => ?_
  refine j_call2 (v := ?_) HM ?_ ?_; rotate_left 1; (focus (with_reducible (first | exact CM _ | exact SG _ | exact AB _))); clear HM; intro w1 HM
  refine hK9 _ _ (heldE HM) ?_; clear hK9 K9
  refine j_one 12 fun K9 hK9 => ?_
  refine j_call4 (v := ?_) HM ?_ ?_; rotate_left 1; (focus (with_reducible (first | exact CM _ | exact SG _ | exact AB _))); clear HM; intro w1 HM
  refine hK9 _ _ (heldE HM) ?_; clear hK9 K9
  refine wpAnyL_done (by kernel_rfl) ?_ _
  go_wp2_with (first | ((with_reducible refine g_ld ?_); refine a_ld HM ?_) | ((with_reducible refine g_st ?_); refine a_st HM ?_; clear HM; intro w1 HM) | ((with_reducible refine g_al ?_); refine a_al HM ?_; clear HM; intro bk w1 HM) | ((with_reducible refine g_bx ?_); refine a_bx HM ?_; clear HM; intro bk w1 HM) | ((with_reducible refine g_bld ?_); refine a_bld ?_))
  refine bodyPost_ret (r_ct (b := b6) (k := 0) rfl rfl (HM.get (by ((repeat (first | exact Look.here | refine Look.there ?_)); done))) (la_z _)) rfl ⟨rfl, HM.low⟩
theorem rtoInt_z (p v : Int) (f : Bool) (hp : p.natAbs < Bg.lim) (hf : Hid (f = Bg.fits64 p)) (hv : Hid (v = if f then p else 0)) (w : World) :
    Calls Tryz.prog 70 #[.agg (Bg.zA p)] w fun e w' => e = .returned (.tuple #[.int .i64 v, .bool f]) ∧ Below w.heap.size w w' := by
 rw [zA_int p]
 exact rtoInt_any _ _ hp v f (Lib.hid (by rw [Bg.toZ_iv]; exact hf.out)) (Lib.hid (by rw [Bg.toZ_iv]; exact hv.out)) w
set_option maxHeartbeats 2000000 in
theorem rroundInt_any (x : Rat) (hx : Rt.Fit x) (h0 : 0 ≤ x) (h1 : x ≤ ((1000000000000000 : Int) : Rat)) (n : Int) (hn : Hid (n = Ac.rhe x)) (w : World) :
    Calls Tryz.prog 35 #[.agg (Rt.qA x), .int .i64 0, .int .i64 6] w fun e w' => e = .returned (.tuple #[.int .i64 n, .int .i64 0]) ∧ Below w.heap.size w w' := by
 have HM := Mem.start w
 have zi := za_int
 have k0 := la_q x
 have R := fun w => rround0_any x hx h0 w
 rw [← hn.out] at R
 have hn0 : 0 ≤ n := by rw [hn.out]; exact Ac.rhe_nonneg h0
 have hn1 : n ≤ 1000000000000000 := by rw [hn.out]; exact Ac.rhe_le h1
 have hnl : n.natAbs < Bg.lim := small_lim (by omega)
 have TI := fun w => rtoInt_z n n true hnl (Lib.hid (by unfold Bg.fits64; rw [decide_eq_true (by omega), decide_eq_true (by omega)]; rfl)) (Lib.hid rfl) w
 have sn := sa_z n (c := Bg.zA 0) (zA_size 0)
 clear hn
 go_enter Tryz.func35, Tryz.ntmps35
 go_wp2_with (first | (go_at_call 69; ((with_reducible refine (R _).mono ?_); rintro e9 w2 ⟨rfl, hL⟩; replace HM := HM.call hL; clear hL)) | (go_at_call 70; ((with_reducible refine (TI _).mono ?_); rintro e9 w2 ⟨rfl, hL⟩; replace HM := HM.call hL; clear hL)) | (first | ((with_reducible refine g_ld ?_); refine a_ld HM ?_) | ((with_reducible refine g_st ?_); refine a_st HM ?_; clear HM; intro w1 HM) | ((with_reducible refine g_al ?_); refine a_al HM ?_; clear HM; intro bk w1 HM) | ((with_reducible refine g_bx ?_); refine a_bx HM ?_; clear HM; intro bk w1 HM)))
 go_ret2
 exact ⟨rfl, HM.low⟩
end Go.Proofs.YtmbjaaaeekacfaaGreatDoor
