/- Walks, and plain facts for them. -/
import Derived.Test.YtmbjaaaeekacfaaGreatDoorPb29
import Derived.Test.YtmbjaaaeekacfaaGreatDoorPb27
namespace Go.Proofs.YtmbjaaaeekacfaaGreatDoor
set_option maxRecDepth 8000
open Go.RowKit
theorem Rt.res_of {z : Rat} (h : Rt.Fit z) : Hid ((Rt.qA z, (0 : Int)) = Rt.res z) := Lib.hid (by unfold Rt.res; rw [if_pos h])
set_option maxHeartbeats 8000000 in
theorem increase_any (a : Ag) (r x f m : Rat) (base : Int) (hk : Hid (Ac.Ok a r x)) (h0 : 0 ≤ base) (h1 : base ≤ 1000000000000000) (hfb : Rt.Bd f 27 18) (hm : Hid (m = r * f * ((base : Int) : Rat))) (D : Array Value) (e : Int) (hD : Hid ((D, e) = Rt.res (x + m))) (hDs : D.size = 66) (hD1 : D.all (·.oneCell') = true) (w : World) :
    Calls Tryz.prog 49 #[.agg a.c, .int .i64 base, .agg (Rt.qA f)] w fun r w' => r = .returned (.tuple #[.agg D, .int .i64 e]) ∧ Below w.heap.size w w' := by
 have HM := Mem.start w
 have zr := za_rat
 obtain ⟨hx, hec⟩ := hk.out.fit
 obtain ⟨hrf, hrc⟩ := hk.out.fitr
 have hrb := hk.out.bd
 have hbb := Ac.base_bd h0 h1
 have fr : LA 27 a.c 1 (.agg (Rt.qA r)) := by rw [← hrc]; exact (Ag.frc a.hr.size).la
 have fe : LA 27 a.c 68 (.agg (Rt.qA x)) := by rw [← hec]; exact (Ag.fec a.hr.size a.he.size).la
 have kf := la_q f
 obtain ⟨b, hb⟩ : ∃ b : Rat, Hid (b = ((base : Int) : Rat)) := ⟨_, Lib.hid rfl⟩
 rw [← hb.out] at hbb
 obtain ⟨u, hu⟩ : ∃ u : Rat, Hid (u = b * f) := ⟨_, Lib.hid rfl⟩
 have hub : Rt.Bd u 77 19 := by rw [hu.out]; exact hbb.mul hfb
 have hmu : Hid (m = u * r) := Lib.hid (by rw [hm.out, hu.out, hb.out]; grind)
 have hmb : Rt.Bd m 105 47 := by rw [hmu.out]; exact hub.mul hrb
 have WH := fun w => rwhole_q base b (by omega) (by omega) hb w
 have M1 := fun w => rmul_r b f (Rt.qA u) 0 hbb.fit hfb.fit (by rw [← hu.out]; exact Rt.res_of hub.fit) w
 have M2 := fun w => rmul_r u r (Rt.qA m) 0 hub.fit hrf (by rw [← hmu.out]; exact Rt.res_of hmb.fit) w
 have AD := fun w => radd_r x m D e hx hmb.fit hD w
 have su := sa_q u (c := Bg.rZ 0 0) (rZ_size 0 0)
 have sm := sa_q m (c := Bg.rZ 0 0) (rZ_size 0 0)
 have lu := la_q u
 have lm := la_q m
 have sd := sa_r66 (c := Bg.rZ 0 0) hDs hD1 (rZ_size 0 0)
 have ld := la_c hDs
 clear hk hec hrc hrb hb hu hm hD hDs hD1 hbb hub hmu hmb hx hrf h0 h1 hfb
 generalize Ag.c a = A at *
 go_enter Tryz.func49, Tryz.ntmps49
 go_upto_region 1 with (first | ((with_reducible refine g_ld ?_); refine a_ld HM ?_) | ((with_reducible refine g_st ?_); refine a_st HM ?_; clear HM; intro w1 HM) | ((with_reducible refine g_al ?_); refine a_al HM ?_; clear HM; intro bk w1 HM) | ((with_reducible refine g_bx ?_); refine a_bx HM ?_; clear HM; intro bk w1 HM))
 obtain ⟨b6, rfl⟩ := HM.nm0
 obtain ⟨b5, rfl⟩ := HM.nm1
 obtain ⟨b3, rfl⟩ := HM.nm2
 go_cut [8] (fun p wc => ∃ b8, p = .pointer (some ⟨b8, 0, none⟩) ∧ Mem w [] [(b8, Rt.qA u), (b6, Bg.rZ 0 0), (b5, Rt.qA f), (b3, A)] wc)
 case first =>
  refine start_M [8] HM (by kernel_rfl) (fun w0x H9 => ?_)
  replace HM := H9; clear H9
  refine k_mv 0 (heldE HM) ?_
  refine k_ld 2 [3, 4, 5, 6, 8, 9] (heldE HM) ?_
  refine j_two 1 7 ?_ ?_
  ·refine j_call1 (v := ?_) HM ?_ ?_; rotate_left 1; (focus (with_reducible (first | exact WH _ | exact M1 _))); clear HM; intro w1 HM
   refine ⟨(heldE HM), ?_⟩
   refine j_two 3 7 ?_ ?_
   ·refine j_call2 (v := ?_) HM ?_ ?_; rotate_left 1; (focus (with_reducible (first | exact WH _ | exact M1 _))); clear HM; intro w1 HM
    refine ⟨(heldE HM), ?_⟩
    refine k_mv 4 (heldE HM) ?_
    refine k_ext 5 (heldE HM) ?_
    refine k_ext 6 (heldE HM) ?_
    refine j_one 7 fun K9 hK9 => ?_
    refine j_al HM ?_; clear HM; intro bk w1 HM
    refine hK9 _ _ (heldE HM) ?_; clear hK9 K9
    refine j_one 8 fun K9 hK9 => ?_
    refine j_st HM ?_; clear HM; intro w1 HM
    refine hK9 _ _ heldN ?_; clear hK9 K9
    refine k_mv 9 heldN ?_
    refine wpAnyL_done (by kernel_rfl) ?_ _
    (go_wp2_with fail; go_meet; (case rel => exact ⟨_, rfl, HM.pick⟩))
   ·refine j_al HM ?_; clear HM; intro bk w1 HM
    refine ⟨(heldE HM), ?_⟩
    refine j_one 3 fun K9 hK9 => ?_
    refine j_call2 (v := ?_) HM ?_ ?_; rotate_left 1; (focus (with_reducible (first | exact WH _ | exact M1 _))); clear HM; intro w1 HM
    refine hK9 _ _ (heldE HM) ?_; clear hK9 K9
    refine k_mv 4 (heldE HM) ?_
    refine k_ext 5 (heldE HM) ?_
    refine k_ext 6 (heldE HM) ?_
    refine j_one 8 fun K9 hK9 => ?_
    refine j_st HM ?_; clear HM; intro w1 HM
    refine hK9 _ _ heldN ?_; clear hK9 K9
    refine k_mv 9 heldN ?_
    refine wpAnyL_done (by kernel_rfl) ?_ _
    (go_wp2_with fail; go_meet; (case rel => exact ⟨_, rfl, HM.pick⟩))
  ·refine j_al HM ?_; clear HM; intro bk w1 HM
   refine ⟨(heldE HM), ?_⟩
   refine j_one 1 fun K9 hK9 => ?_
   refine j_call1 (v := ?_) HM ?_ ?_; rotate_left 1; (focus (with_reducible (first | exact WH _ | exact M1 _))); clear HM; intro w1 HM
   refine hK9 _ _ (heldE HM) ?_; clear hK9 K9
   refine j_one 3 fun K9 hK9 => ?_
   refine j_call2 (v := ?_) HM ?_ ?_; rotate_left 1; (focus (with_reducible (first | exact WH _ | exact M1 _))); clear HM; intro w1 HM
   refine hK9 _ _ (heldE HM) ?_; clear hK9 K9
   refine k_mv 4 (heldE HM) ?_
   refine k_ext 5 (heldE HM) ?_
   refine k_ext 6 (heldE HM) ?_
   refine j_one 8 fun K9 hK9 => ?_
   refine j_st HM ?_; clear HM; intro w1 HM
   refine hK9 _ _ heldN ?_; clear hK9 K9
   refine k_mv 9 heldN ?_
   refine wpAnyL_done (by kernel_rfl) ?_ _
   (go_wp2_with fail; go_meet; (case rel => exact ⟨_, rfl, HM.pick⟩))
 case rest =>
  clear HM
  obtain ⟨b8, rfl, HM⟩ := hcut
  go_step
  go_wp2_with (first | (go_at_call 32; ((with_reducible refine (M2 _).mono ?_); rintro e9 w2 ⟨rfl, hL⟩; replace HM := HM.call hL; clear hL)) | (go_at_call 34; ((with_reducible refine (AD _).mono ?_); rintro e9 w2 ⟨rfl, hL⟩; replace HM := HM.call hL; clear hL)) | (first | ((with_reducible refine g_ld ?_); refine a_ld HM ?_) | ((with_reducible refine g_st ?_); refine a_st HM ?_; clear HM; intro w1 HM) | ((with_reducible refine g_al ?_); refine a_al HM ?_; clear HM; intro bk w1 HM) | ((with_reducible refine g_bx ?_); refine a_bx HM ?_; clear HM; intro bk w1 HM)))
  refine bodyPost_ret (r_ct (b := b6) (k := 0) rfl rfl (HM.get (by ((repeat (first | exact Look.here | refine Look.there ?_)); done))) ld) rfl ⟨rfl, HM.low⟩
set_option maxHeartbeats 16000000 in
theorem raccrue_any (a : Ag) (base d9 : Int) (R : Array Value) (E : Int) (hr : Hid ((R, E) = Ac.ac a base d9)) (w : World) :
    Calls Tryz.prog 12 #[.agg a.c, .int .i64 base, .int .i64 d9] w fun r w' => r = .returned (.tuple #[.agg R, .int .i64 E]) ∧ Below w.heap.size w w' := by
 have HM := Mem.start w
 have zz := Ag.za_z
 have sz := Ag.sa_z
 have lz := Ag.la_z
 obtain ⟨v, hvv⟩ : ∃ v, Hid (v = Ac.vd a) := ⟨_, Lib.hid rfl⟩
 have V := fun w => ravalid_any a v hvv w
 have h := hr.out
 unfold Ac.ac at h
 rw [← hvv.out] at h
 have la : LA 31 a.c 0 (.agg a.c) := Ag.rla a.hr.size a.he.size
 cases v with
 | false =>
  obtain ⟨rfl, rfl⟩ : R = Ag.z ∧ E = 190 := Prod.mk.inj h
  clear h hr hvv
  generalize Ag.c a = A at *
  go_enter Tryz.func12, Tryz.ntmps12
  go_wp2_with (first | (go_at_call 19; ((with_reducible refine (V _).mono ?_); rintro e9 w2 ⟨rfl, hL⟩; replace HM := HM.call hL; clear hL)) | (first | ((with_reducible refine g_ld ?_); refine a_ld HM ?_) | ((with_reducible refine g_st ?_); refine a_st HM ?_; clear HM; intro w1 HM) | ((with_reducible refine g_al ?_); refine a_al HM ?_; clear HM; intro bk w1 HM) | ((with_reducible refine g_bx ?_); refine a_bx HM ?_; clear HM; intro bk w1 HM) | ((with_reducible refine g_bld ?_); refine a_bld ?_)))
  obtain ⟨b6, rfl⟩ := HM.nm0
  refine bodyPost_ret (r_ct (b := b6) (k := 0) rfl rfl (HM.get (by ((repeat (first | exact Look.here | refine Look.there ?_)); done))) lz) rfl ⟨rfl, HM.low⟩
 | true =>
  rw [if_pos rfl] at h
  by_cases g1 : base < 0
  ·rw [if_pos (.inl g1)] at h
   obtain ⟨rfl, rfl⟩ := Prod.mk.inj h
   clear h hr hvv
   generalize Ag.c a = A at *
   go_enter Tryz.func12, Tryz.ntmps12
   go_wp2_with (first | (go_at_call 19; ((with_reducible refine (V _).mono ?_); rintro e9 w2 ⟨rfl, hL⟩; replace HM := HM.call hL; clear hL)) | (first | ((with_reducible refine g_ld ?_); refine a_ld HM ?_) | ((with_reducible refine g_st ?_); refine a_st HM ?_; clear HM; intro w1 HM) | ((with_reducible refine g_al ?_); refine a_al HM ?_; clear HM; intro bk w1 HM) | ((with_reducible refine g_bx ?_); refine a_bx HM ?_; clear HM; intro bk w1 HM) | ((with_reducible refine g_bld ?_); refine a_bld ?_)))
   obtain ⟨b6, rfl⟩ := HM.nm0
   refine bodyPost_ret (r_ct (b := b6) (k := 0) rfl rfl (HM.get (by ((repeat (first | exact Look.here | refine Look.there ?_)); done))) lz) rfl ⟨rfl, HM.low⟩
  by_cases g2 : 1000000000000000 < base
  ·rw [if_pos (.inr g2)] at h
   obtain ⟨rfl, rfl⟩ := Prod.mk.inj h
   clear h hr hvv
   generalize Ag.c a = A at *
   go_enter Tryz.func12, Tryz.ntmps12
   go_wp2_with (first | (go_at_call 19; ((with_reducible refine (V _).mono ?_); rintro e9 w2 ⟨rfl, hL⟩; replace HM := HM.call hL; clear hL)) | (first | ((with_reducible refine g_ld ?_); refine a_ld HM ?_) | ((with_reducible refine g_st ?_); refine a_st HM ?_; clear HM; intro w1 HM) | ((with_reducible refine g_al ?_); refine a_al HM ?_; clear HM; intro bk w1 HM) | ((with_reducible refine g_bx ?_); refine a_bx HM ?_; clear HM; intro bk w1 HM) | ((with_reducible refine g_bld ?_); refine a_bld ?_)))
   obtain ⟨b6, rfl⟩ := HM.nm0
   refine bodyPost_ret (r_ct (b := b6) (k := 0) rfl rfl (HM.get (by ((repeat (first | exact Look.here | refine Look.there ?_)); done))) lz) rfl ⟨rfl, HM.low⟩
  rw [if_neg (by omega)] at h
  have f2 : LA 3 a.c 67 (.int .i64 a.bs) := (Ag.fbs a.hr.size).la
  have f5 : LA 3 a.c 135 (.int .i64 a.un) := (Ag.fun_ a.hr.size a.he.size).la
  have FR := fun w => rfraction_any a.bs a.un d9 w
  by_cases g3 : Dy.err a.bs a.un d9 = 0
  case neg =>
   rw [if_neg g3] at h
   obtain ⟨rfl, rfl⟩ := Prod.mk.inj h
   rw [show Dy.fc a.bs a.un d9 = Bg.rZ 0 0 from by unfold Dy.fc; rw [if_neg g3]] at FR
   have g4 : (Dy.err a.bs a.un d9 != 0) = true := by simpa using g3
   have zr := za_rat
   have sr := sa_rz 0 0 (c := Bg.rZ 0 0) (rZ_size 0 0)
   clear h hr hvv g3
   generalize Dy.err a.bs a.un d9 = E at *
   generalize a.bs = bs at *
   generalize a.un = un at *
   generalize Ag.c a = A at *
   go_enter Tryz.func12, Tryz.ntmps12
   go_wp2_with (first | (go_at_call 19; ((with_reducible refine (V _).mono ?_); rintro e9 w2 ⟨rfl, hL⟩; replace HM := HM.call hL; clear hL)) | (go_at_call 31; ((with_reducible refine (FR _).mono ?_); rintro e9 w2 ⟨rfl, hL⟩; replace HM := HM.call hL; clear hL)) | (first | ((with_reducible refine g_ld ?_); refine a_ld HM ?_) | ((with_reducible refine g_st ?_); refine a_st HM ?_; clear HM; intro w1 HM) | ((with_reducible refine g_al ?_); refine a_al HM ?_; clear HM; intro bk w1 HM) | ((with_reducible refine g_bx ?_); refine a_bx HM ?_; clear HM; intro bk w1 HM) | ((with_reducible refine g_bld ?_); refine a_bld ?_)))
   obtain ⟨b6, rfl⟩ := HM.nm1
   refine bodyPost_ret (r_ct (b := b6) (k := 0) rfl rfl (HM.get (by ((repeat (first | exact Look.here | refine Look.there ?_)); done))) lz) rfl ⟨rfl, HM.low⟩
  case pos =>
   rw [if_pos g3] at h
   have hok := Dy.ok_err g3
   rw [Dy.fc_ok hok, g3] at FR
   have hfb := Dy.frac_bd hok
   obtain ⟨f, hf⟩ : ∃ f, Hid (f = Dy.frac a.bs a.un d9) := ⟨_, Lib.hid rfl⟩
   obtain ⟨r, x, hk⟩ := Ac.ok_of hvv.out.symm
   have hsum := hk.sum base d9
   rw [← hf.out] at FR hfb hsum
   rw [hsum] at h
   obtain ⟨hx, hec⟩ := hk.fit
   obtain ⟨hrf, hrc⟩ := hk.fitr
   have hrb := hk.bd
   have hbb := Ac.base_bd (show 0 ≤ base by omega) (show base ≤ 1000000000000000 by omega)
   obtain ⟨m, hm⟩ : ∃ m, Hid (m = r * f * ((base : Int) : Rat)) := ⟨_, Lib.hid rfl⟩
   have hmb : Rt.Bd m 105 47 := by rw [hm.out]; exact (hrb.mul hfb).mul hbb
   rw [← hm.out] at h
   have HK := Lib.hid hk
   obtain ⟨D, e2, hD⟩ : ∃ D e2, Hid ((D, e2) = Rt.res (x + m)) := ⟨_, _, Lib.hid rfl⟩
   have hD2 : Hid ((¬ Rt.Fit (x + m) → D = Bg.rZ 0 0 ∧ e2 = 10) ∧ (Rt.Fit (x + m) → D = Rt.qA (x + m) ∧ e2 = 0)) := Lib.hid (by
    have := hD.out
    unfold Rt.res at this
    constructor
    ·intro hF; rw [if_neg hF] at this; exact Prod.mk.inj this
    ·intro hF; rw [if_pos hF] at this; exact Prod.mk.inj this)
   have hDs : D.size = 66 ∧ D.all (·.oneCell') = true := by
    by_cases hF : Rt.Fit (x + m)
    ·obtain ⟨rfl, _⟩ := hD2.out.2 hF; exact ⟨qA_size _, qA_one _⟩
    ·obtain ⟨rfl, _⟩ := hD2.out.1 hF; exact ⟨rZ_size 0 0, rZ_one 0 0⟩
   have IC := fun w => increase_any a r x f m base HK (by omega) (by omega) hfb hm D e2 hD hDs.1 hDs.2 w
   have zr := za_rat
   have sf := sa_q f (c := Bg.rZ 0 0) (rZ_size 0 0)
   have lf := la_q f
   have sd := sa_r66 (c := Bg.rZ 0 0) hDs.1 hDs.2 (rZ_size 0 0)
   have ld := la_c hDs.1
   obtain ⟨y, hy⟩ : ∃ y, y = x + m := ⟨_, rfl⟩
   rw [← hy] at h hD2
   have s31 : SA 27 a.c 68 (.agg (Rt.qA y)) (Ag.raw a.nm a.rc a.bs (Rt.qA y) a.pd a.un) := Ag.sec a.hr.size a.he.size (qA_size y) (qA_one y)
   have su := Ag.sun (nm := a.nm) (bs := a.bs) (pd := a.pd) (un := a.un) a.hr.size (qA_size y) d9
   have lx := Ag.rla (nm := a.nm) (bs := a.bs) (pd := a.pd) (un := d9) a.hr.size (qA_size y)
   have sx := Ag.rsa (nm := a.nm) (bs := a.bs) (pd := a.pd) (un := d9) a.hr.size (qA_size y) a.hr.one (qA_one y) Ag.z_size
   have HH := Lib.hid h
   obtain ⟨b, hb⟩ : ∃ b, Hid (b = Ac.btw (some y) 1000000000000000) := ⟨_, Lib.hid rfl⟩
   have BT := fun (hF : Rt.Fit y) w => rbetween_any (some y) (Rt.qA y) ⟨hF, rfl⟩ 1000000000000000 (by decide) (by decide) b hb w
   clear h hD hec hrc hx hmb hy hDs HK hk hr hvv hsum hok hfb hrb hbb hrf hm g3 hf
   generalize Ag.raw a.nm a.rc a.bs (Rt.qA y) a.pd a.un = Y1 at *
   generalize Ag.raw a.nm a.rc a.bs (Rt.qA y) a.pd d9 = Y2 at *
   generalize a.bs = bs at *
   generalize a.un = un at *
   generalize Ag.c a = A at *
   by_cases hF : Rt.Fit y
   case neg =>
    have hR := HH.out
    rw [if_neg hF] at hR
    obtain ⟨rfl, rfl⟩ := Prod.mk.inj hR
    obtain ⟨rfl, rfl⟩ := hD2.out.1 hF
    clear hR HH hD2 hF BT
    go_enter Tryz.func12, Tryz.ntmps12
    go_wp2_with (first | (go_at_call 19; ((with_reducible refine (V _).mono ?_); rintro e9 w2 ⟨rfl, hL⟩; replace HM := HM.call hL; clear hL)) | (go_at_call 31; ((with_reducible refine (FR _).mono ?_); rintro e9 w2 ⟨rfl, hL⟩; replace HM := HM.call hL; clear hL)) | (go_at_call 49; ((with_reducible refine (IC _).mono ?_); rintro e9 w2 ⟨rfl, hL⟩; replace HM := HM.call hL; clear hL)) | (first | ((with_reducible refine g_ld ?_); refine a_ld HM ?_) | ((with_reducible refine g_st ?_); refine a_st HM ?_; clear HM; intro w1 HM) | ((with_reducible refine g_al ?_); refine a_al HM ?_; clear HM; intro bk w1 HM) | ((with_reducible refine g_bx ?_); refine a_bx HM ?_; clear HM; intro bk w1 HM) | ((with_reducible refine g_bld ?_); refine a_bld ?_)))
    obtain ⟨b6, rfl⟩ := HM.nm2
    refine bodyPost_ret (r_ct (b := b6) (k := 0) rfl rfl (HM.get (by ((repeat (first | exact Look.here | refine Look.there ?_)); done))) lz) rfl ⟨rfl, HM.low⟩
   case pos =>
    have hR := HH.out
    rw [if_pos hF, ← hb.out] at hR
    obtain ⟨rfl, rfl⟩ := hD2.out.2 hF
    replace BT := BT hF
    clear HH hD2 hF hb
    cases b with
    | false =>
     obtain ⟨rfl, rfl⟩ : R = Ag.z ∧ E = 33 := Prod.mk.inj hR
     clear hR
     go_enter Tryz.func12, Tryz.ntmps12
     go_wp2_with (first | (go_at_call 19; ((with_reducible refine (V _).mono ?_); rintro e9 w2 ⟨rfl, hL⟩; replace HM := HM.call hL; clear hL)) | (go_at_call 31; ((with_reducible refine (FR _).mono ?_); rintro e9 w2 ⟨rfl, hL⟩; replace HM := HM.call hL; clear hL)) | (go_at_call 49; ((with_reducible refine (IC _).mono ?_); rintro e9 w2 ⟨rfl, hL⟩; replace HM := HM.call hL; clear hL)) | (go_at_call 50; ((with_reducible refine (BT _).mono ?_); rintro e9 w2 ⟨rfl, hL⟩; replace HM := HM.call hL; clear hL)) | (first | ((with_reducible refine g_ld ?_); refine a_ld HM ?_) | ((with_reducible refine g_st ?_); refine a_st HM ?_; clear HM; intro w1 HM) | ((with_reducible refine g_al ?_); refine a_al HM ?_; clear HM; intro bk w1 HM) | ((with_reducible refine g_bx ?_); refine a_bx HM ?_; clear HM; intro bk w1 HM) | ((with_reducible refine g_bld ?_); refine a_bld ?_)))
     obtain ⟨b6, rfl⟩ := HM.nm2
     refine bodyPost_ret (r_ct (b := b6) (k := 0) rfl rfl (HM.get (by ((repeat (first | exact Look.here | refine Look.there ?_)); done))) lz) rfl ⟨rfl, HM.low⟩
    | true =>
     obtain ⟨rfl, rfl⟩ : R = Y2 ∧ E = 0 := Prod.mk.inj hR
     clear hR
     go_enter Tryz.func12, Tryz.ntmps12
     go_wp2_with (first | (go_at_call 19; ((with_reducible refine (V _).mono ?_); rintro e9 w2 ⟨rfl, hL⟩; replace HM := HM.call hL; clear hL)) | (go_at_call 31; ((with_reducible refine (FR _).mono ?_); rintro e9 w2 ⟨rfl, hL⟩; replace HM := HM.call hL; clear hL)) | (go_at_call 49; ((with_reducible refine (IC _).mono ?_); rintro e9 w2 ⟨rfl, hL⟩; replace HM := HM.call hL; clear hL)) | (go_at_call 50; ((with_reducible refine (BT _).mono ?_); rintro e9 w2 ⟨rfl, hL⟩; replace HM := HM.call hL; clear hL)) | (first | ((with_reducible refine g_ld ?_); refine a_ld HM ?_) | ((with_reducible refine g_st ?_); refine a_st HM ?_; clear HM; intro w1 HM) | ((with_reducible refine g_al ?_); refine a_al HM ?_; clear HM; intro bk w1 HM) | ((with_reducible refine g_bx ?_); refine a_bx HM ?_; clear HM; intro bk w1 HM) | ((with_reducible refine g_bld ?_); refine a_bld ?_)))
     obtain ⟨b6, rfl⟩ := HM.nm2
     refine bodyPost_ret (r_ct (b := b6) (k := 0) rfl rfl (HM.get (by ((repeat (first | exact Look.here | refine Look.there ?_)); done))) lx) rfl ⟨rfl, HM.low⟩
end Go.Proofs.YtmbjaaaeekacfaaGreatDoor
namespace Go.Proofs.YtmbjaaaeekacfaaGreatDoor
set_option maxRecDepth 8000
open Go.RowKit
theorem Tx.txt_small {N k : Nat} (h : N < 10 ^ k) (hk : 0 < k) : (Tx.txt false N).size ≤ k := by
 unfold Tx.txt
 by_cases h0 : N = 0
 ·rw [if_pos h0, Tx.str_len]; exact hk
 ·rw [if_neg h0, if_neg Bool.false_ne_true, Tx.str_len, List.length_reverse]
  exact Tx.dig_len h
theorem Ac.pct_of {q : Int} (h0 : 0 ≤ q) (h1 : q ≤ 100000000) : Ac.Pct (some (Rat.divInt q 100000000)) := by
 have e : Rat.divInt q 100000000 * ((100 : Int) : Rat) = Rat.divInt q 1000000 := by
  rw [Rat.divInt_eq_div, Rat.divInt_eq_div]
  have e1 : ((100 : Int) : Rat) = 100 := rfl
  have e2 : ((1000000 : Int) : Rat) = 1000000 := rfl
  have e3 : ((100000000 : Int) : Rat) = 100000000 := rfl
  rw [e1, e2, e3]
  grind
 show Rt.Fit _ ∧ _ ∧ Ac.Txt _
 rw [e]
 obtain ⟨y, hy⟩ : ∃ y, y = Rat.divInt q 1000000 := ⟨_, rfl⟩
 have hp : Ac.p10 6 = 1000000 := by decide
 have hy2 : y.num * 1000000 = q * y.den := by
  have h9 := hy
  conv at h9 => lhs; rw [← Rat.num_divInt_den y]
  rwa [Rat.divInt_eq_divInt_iff (Rt.den_ne y) (by decide)] at h9
 have hd := Ac.den_pos y
 rw [← hy]
 have e28 : Bg.p2 28 = 268435456 := by unfold Bg.p2; rfl
 refine ⟨?_, ?_, ?_⟩
 ·rw [hy]
  exact (Rt.Bd.divInt (i := 28) (j := 28) (by decide) (by omega) (by rw [e28]; decide)).fit
 ·rw [Rat.divInt_eq_div]
  have e3 : ((100000000 : Int) : Rat) = 100000000 := rfl
  have e0 : ((0 : Int) : Rat) ≤ ((q : Int) : Rat) := Rat.intCast_le_intCast.2 h0
  have e1 : ((0 : Int) : Rat) = 0 := rfl
  rw [e3]
  grind
 ·unfold Ac.Txt
  have hre : Ac.re y 6 = 0 := by
   unfold Ac.re
   rw [hp, hy2]
   exact Int.mul_emod_left _ _
  have hlo : Ac.lo y 6 = q := by
   unfold Ac.lo
   rw [hp, hy2]
   exact Int.mul_ediv_cancel _ (by omega)
  rw [hre, hlo]
  exact ⟨rfl, Nat.le_trans (Tx.txt_small (k := 9) (by omega) (by decide)) (by decide)⟩
theorem Ac.fee_ok {nm : ByteArray} {q bs : Int} (hn : Nm.usableB nm = true) (h0 : 0 ≤ q) (h1 : q ≤ 100000000) (b1 : 1 ≤ bs) (b2 : bs ≤ 4) : Ac.tm nm (some (Rat.divInt q 100000000)) bs = true := by
 have hp := Ac.pct_of h0 h1
 unfold Ac.tm
 have hb : Ac.btw (some (Rat.divInt q 100000000)) 1 = true := by
  refine Ac.btw_iff.2 ⟨hp.2.1, ?_⟩
  rw [Rat.divInt_eq_div]
  have e3 : ((100000000 : Int) : Rat) = 100000000 := rfl
  have e0 : ((q : Int) : Rat) ≤ ((100000000 : Int) : Rat) := Rat.intCast_le_intCast.2 h1
  have e1 : ((1 : Int) : Rat) = 1 := rfl
  rw [e1]
  rw [e3] at e0 ⊢
  grind
 rw [hn, Ac.pctB_t hp, hb, decide_eq_true ⟨b1, b2⟩]; rfl
def Ag.new (nm : ByteArray) (rc : Array Value) (ro : Option Rat) (bs day : Int) (hr : Rt.Vc ro rc) : Ag := ⟨nm, rc, ro, bs, Rt.qA 0, some 0, 0, day, hr, Rt.fit_zero, rfl⟩
def Ag.acc (a : Ag) (y : Rat) (hy : Rt.Fit y) (d9 : Int) : Ag := ⟨a.nm, a.rc, a.ro, a.bs, Rt.qA y, some y, a.pd, d9, a.hr, hy, rfl⟩
def Ag.paid (a : Ag) (m : Int) : Ag := ⟨a.nm, a.rc, a.ro, a.bs, a.ec, a.eo, a.pd + m, a.un, a.hr, a.he⟩
theorem Ac.nw_ok {nm : ByteArray} {rc : Array Value} {ro : Option Rat} {bs day : Int} (hr : Rt.Vc ro rc) (ht : Ac.tm nm ro bs = true) (hd : Dt.isDay day = true) : Ac.nw nm rc ro bs day = ((Ag.new nm rc ro bs day hr).c, 0) := by
 unfold Ac.nw; rw [ht, hd]; rfl
theorem Ac.rhe_zero : Ac.rhe 0 = 0 := by
 have h1 := Ac.rhe_nonneg (x := 0) Rat.le_refl
 have h2 := Ac.rhe_le (x := 0) (n := 0) Rat.le_refl
 omega
theorem Ac.new_ok {nm : ByteArray} {rc : Array Value} {r : Rat} {bs day : Int} (hr : Rt.Vc (some r) rc) (ht : Ac.tm nm (some r) bs = true) (hd : Dt.isDay day = true) : Ac.Ok (Ag.new nm rc (some r) bs day hr) r 0 :=
 ⟨rfl, rfl, ht, Rat.le_refl, by decide, Int.le_refl 0, by show (0 : Int) ≤ Ac.rhe 0; rw [Ac.rhe_zero]; decide, hd⟩
theorem Ac.add_nonneg {a : Ag} {r x : Rat} (h : Ac.Ok a r x) {base d9 : Int} (h0 : 0 ≤ base) (hd : Dy.Ok a.bs a.un d9) : 0 ≤ r * Dy.frac a.bs a.un d9 * ((base : Int) : Rat) := by
 have e0 : ((0 : Int) : Rat) ≤ ((base : Int) : Rat) := Rat.intCast_le_intCast.2 h0
 exact Rat.mul_nonneg (Rat.mul_nonneg h.rate.2.1 (Dy.frac_nonneg hd)) e0
theorem Ac.acc_ok {a : Ag} {r x y : Rat} (h : Ac.Ok a r x) {d9 : Int} (hxy : x ≤ y) (hy : Rt.Fit y) (h1 : y ≤ ((1000000000000000 : Int) : Rat)) (hd : Dt.isDay d9 = true) : Ac.Ok (a.acc y hy d9) r y :=
 ⟨h.ro, rfl, h.tm, Rat.le_trans h.x0 hxy, h1, h.p0, Int.le_trans h.p1 (Ac.rhe_mono hxy), hd⟩
theorem Ac.ac_ok {a : Ag} {r x y : Rat} (h : Ac.Ok a r x) {base d9 : Int} (h0 : 0 ≤ base) (hb : base ≤ 1000000000000000) (hd : Dy.Ok a.bs a.un d9) (hy : y = x + r * Dy.frac a.bs a.un d9 * ((base : Int) : Rat)) (hf : Rt.Fit y) (h1 : y ≤ ((1000000000000000 : Int) : Rat)) :
    Ac.ac a base d9 = ((a.acc y hf d9).c, 0) ∧ Ac.Ok (a.acc y hf d9) r y := by
 have hn := Ac.add_nonneg h h0 hd
 have hxy : x ≤ y := by rw [hy]; grind
 refine ⟨?_, Ac.acc_ok h hxy hf h1 hd.ht⟩
 have hs := h.sum base d9
 rw [← hy] at hs
 unfold Ac.ac
 rw [Ac.ok_iff h, if_pos rfl, if_neg (by omega), if_pos (Dy.err_zero.2 hd), hs, if_pos hf, if_pos (Ac.btw_iff.2 ⟨Rat.le_trans h.x0 hxy, h1⟩)]
 rfl
theorem Ac.py_ok {a : Ag} {r x : Rat} (h : Ac.Ok a r x) {m : Int} (h0 : 0 ≤ m) (h1 : m ≤ Ac.rhe x - a.pd) : Ac.py a m = ((a.paid m).c, 0) ∧ Ac.Ok (a.paid m) r x := by
 refine ⟨?_, ⟨h.ro, h.eo, h.tm, h.x0, h.x1, by show 0 ≤ a.pd + m; have := h.p0; omega, by show a.pd + m ≤ _; omega, h.un⟩⟩
 unfold Ac.py
 rw [Ac.ok_iff h, h.eo, if_pos rfl, if_neg (by show ¬ (m < 0 ∨ Ac.rhe x - a.pd < m); omega)]
 rfl
theorem Ac.bk_ok {a : Ag} {r x : Rat} (h : Ac.Ok a r x) : Ac.bk a = (Ac.rhe x - a.pd, 0) := by
 unfold Ac.bk; rw [Ac.ok_iff h, h.eo]; rfl
end Go.Proofs.YtmbjaaaeekacfaaGreatDoor
namespace Go.Proofs.YtmbjaaaeekacfaaGreatDoor
set_option maxRecDepth 8000
open Go.RowKit
def Ac.Pr (x : Rat) : Prop := ∃ q : Int, 0 ≤ q ∧ q ≤ 100000000 ∧ x = Rat.divInt q 100000000
theorem Ac.pr_of {n d k : Int} (h0 : 0 ≤ n) (h1 : n ≤ d) (hd : 0 < d) (hk : d * k = 100000000) : Ac.Pr (Rat.divInt n d) := by
 have k0 : 0 < k := by
  rcases Int.lt_or_le 0 k with h | h
  ·exact h
  ·have := Int.mul_nonpos_of_nonneg_of_nonpos (Int.le_of_lt hd) h; omega
 refine ⟨n * k, Int.mul_nonneg h0 (Int.le_of_lt k0), ?_, ?_⟩
 ·rw [← hk]; exact Int.mul_le_mul_of_nonneg_right h1 (Int.le_of_lt k0)
 ·rw [Rat.divInt_eq_divInt_iff (by omega) (by decide), ← hk, Int.mul_assoc, Int.mul_comm k d]
theorem Ac.pr_fit {x : Rat} (h : Ac.Pr x) : Rt.Fit x := by
 obtain ⟨q, h0, h1, rfl⟩ := h
 exact (Rt.Bd.divInt (i := 28) (j := 28) (by decide) (by have e28 : Bg.p2 28 = 268435456 := by { unfold Bg.p2; rfl }; omega) (by have e28 : Bg.p2 28 = 268435456 := by { unfold Bg.p2; rfl }; rw [e28]; decide)).fit
def PercPost (W : World) (tb m : Nat) (w : World) (e : Ending) (w' : World) : Prop :=
 ∃ x : Rat, e = .returned (.agg (Rt.qA x)) ∧ Ac.Pr x ∧ Tp W tb (m + 1000) w' ∧ w.grownBy w' (some tb)
set_option maxHeartbeats 4000000 in
theorem percent_any (W : World) (tb m : Nat) (w : World) (hT : Tp W tb m w) (hm : m ≤ 900000000) :
    Calls Tryz.prog 55 #[.pointer (some ⟨tb, 0, none⟩)] w (PercPost W tb m w) := by
 obtain ⟨cs, hb, hc, h0, hle0⟩ := hT
 have HM := Mem.start1 w hb
 have HC := Lib.hid hc
 have H0 := Lib.hid h0
 have hz0 := za_rat
 have hle : ∀ b ∈ [tb], W.heap.size ≤ b := by simpa using hle0
 clear hb hc h0
 go_enter Tryz.func55, Tryz.ntmps55
 go_wp2_with (first | ((with_reducible refine g_st ?_); refine a_st HM ?_; clear HM; intro w1 HM) | ((with_reducible refine g_al ?_); refine a_al HM ?_; clear HM; intro bk w1 HM))
 (refine (pick_new (tb := tb) (W := W) HM (by ((repeat (first | exact Look.here | refine Look.there ?_)); done)) HC.out H0.out (by first | exact hle | simpa using hle) [1, 4, 10, 20, 100, 200, 1000, 10000, 100000000] _ (by omega) (by simp) (by simp)).mono ?_; rintro e9 w2 ⟨v1, c1, rfl, hv, hc1, hb1, hg⟩; replace HM := HM.put (c' := c1) (by (repeat (first | exact At.here | apply At.there))) hb1 hg; clear hg hb1; replace HC := Lib.hid hc1; clear hc1)
 have hd : ∃ d k : Int, v1 = d ∧ 1 ≤ d ∧ d ≤ 100000000 ∧ d * k = 100000000 := by
  simp only [List.mem_cons, List.not_mem_nil, or_false] at hv
  rcases hv with rfl | rfl | rfl | rfl | rfl | rfl | rfl | rfl | rfl
  ·exact ⟨1, 100000000, rfl, by decide, by decide, by decide⟩
  ·exact ⟨4, 25000000, rfl, by decide, by decide, by decide⟩
  ·exact ⟨10, 10000000, rfl, by decide, by decide, by decide⟩
  ·exact ⟨20, 5000000, rfl, by decide, by decide, by decide⟩
  ·exact ⟨100, 1000000, rfl, by decide, by decide, by decide⟩
  ·exact ⟨200, 500000, rfl, by decide, by decide, by decide⟩
  ·exact ⟨1000, 100000, rfl, by decide, by decide, by decide⟩
  ·exact ⟨10000, 10000, rfl, by decide, by decide, by decide⟩
  ·exact ⟨100000000, 1, rfl, by decide, by decide, by decide⟩
 obtain ⟨d, k, rfl, hd1, hd2, hk⟩ := hd
 have HK := Lib.hid hk
 clear hv hk
 go_wp2_with fail
 (refine (chance_any W tb _ 3 4 _ (HM.tp (by ((repeat (first | exact Look.here | refine Look.there ?_)); done)) HC.out H0.out hle) (by omega) (by omega) (by omega)).mono ?_; rintro e9 w2 ⟨b, rfl, ⟨c1, hb1, hc1, -, -⟩, hg⟩; replace HM := HM.put (c' := c1) (by (repeat (first | exact At.here | apply At.there))) hb1 (Only.of_grown hg); clear hg hb1; replace HC := Lib.hid hc1; clear hc1)
 cases b with
 | true =>
  clear HK hd1 hd2
  go_wp2_with fail
  (refine (pick_new (tb := tb) (W := W) HM (by ((repeat (first | exact Look.here | refine Look.there ?_)); done)) HC.out H0.out (by first | exact hle | simpa using hle) [50, 100, 200, 1000] _ (by omega) (by simp) (by simp)).mono ?_; rintro e9 w2 ⟨v1, c1, rfl, hv, hc1, hb1, hg⟩; replace HM := HM.put (c' := c1) (by (repeat (first | exact At.here | apply At.there))) hb1 hg; clear hg hb1; replace HC := Lib.hid hc1; clear hc1)
  have hd : ∃ d k e : Int, v1 = d ∧ 50 ≤ d ∧ d ≤ 1000 ∧ d * k = 100000000 ∧ Hid (e = d / 10) ∧ 5 ≤ e ∧ e ≤ 100 ∧ e ≤ d := by
   simp only [List.mem_cons, List.not_mem_nil, or_false] at hv
   rcases hv with rfl | rfl | rfl | rfl
   ·exact ⟨50, 2000000, 5, rfl, by decide, by decide, by decide, Lib.hid (by decide), by decide, by decide, by decide⟩
   ·exact ⟨100, 1000000, 10, rfl, by decide, by decide, by decide, Lib.hid (by decide), by decide, by decide, by decide⟩
   ·exact ⟨200, 500000, 20, rfl, by decide, by decide, by decide, Lib.hid (by decide), by decide, by decide, by decide⟩
   ·exact ⟨1000, 100000, 100, rfl, by decide, by decide, by decide, Lib.hid (by decide), by decide, by decide, by decide⟩
  obtain ⟨d, k, e, rfl, hd1, hd2, hk, he, he1, he2, he3⟩ := hd
  have HK := Lib.hid hk
  clear hv hk
  go_wp2_with fail
  rw [← he.out]
  (refine (next_any W tb _ _ _ (HM.tp (by ((repeat (first | exact Look.here | refine Look.there ?_)); done)) HC.out H0.out hle) (by omega) (by omega) (by omega)).mono ?_; rintro e9 w2 ⟨n, rfl, n0, n1, ⟨c1, hb1, hc1, -, -⟩, hg⟩; replace HM := HM.put (c' := c1) (by (repeat (first | exact At.here | apply At.there))) hb1 (Only.of_grown hg); clear hg hb1; replace HC := Lib.hid hc1; clear hc1)
  have hp := Ac.pr_of (n := n) n0 (by omega) (by omega) HK.out
  have OF := fun w => mkof_q n v1 _ (by omega) (by omega) (by omega) (by omega) (by omega) (Lib.hid rfl) w
  have sx := sa_q (Rat.divInt n v1) (c := Bg.rZ 0 0) (rZ_size 0 0)
  have lx := la_q (Rat.divInt n v1)
  go_wp2_with (first | (go_at_call 27; ((with_reducible refine (OF _).mono ?_); rintro e9 w2 ⟨rfl, hL⟩; replace HM := HM.call hL; clear hL)) | (first | ((with_reducible refine g_st ?_); refine a_st HM ?_; clear HM; intro w1 HM) | ((with_reducible refine g_al ?_); refine a_al HM ?_; clear HM; intro bk w1 HM)))
  refine bodyPost_ret (r_c rfl rfl (HM.get (by ((repeat (first | exact Look.here | refine Look.there ?_)); done))) lx) rfl ?_
  obtain ⟨hT, hg⟩ := HM.done (by ((repeat (first | exact Look.here | refine Look.there ?_)); done)) HC.out H0.out hle0
  exact ⟨_, rfl, hp, hT.mono (by omega), hg⟩
 | false =>
  go_wp2_with fail
  (refine (next_any W tb _ _ _ (HM.tp (by ((repeat (first | exact Look.here | refine Look.there ?_)); done)) HC.out H0.out hle) (by omega) (by omega) (by omega)).mono ?_; rintro e9 w2 ⟨n, rfl, n0, n1, ⟨c1, hb1, hc1, -, -⟩, hg⟩; replace HM := HM.put (c' := c1) (by (repeat (first | exact At.here | apply At.there))) hb1 (Only.of_grown hg); clear hg hb1; replace HC := Lib.hid hc1; clear hc1)
  have hp := Ac.pr_of (n := n) n0 (by omega) (by omega) HK.out
  have OF := fun w => mkof_q n v1 _ (by omega) (by omega) (by omega) (by omega) (by omega) (Lib.hid rfl) w
  have sx := sa_q (Rat.divInt n v1) (c := Bg.rZ 0 0) (rZ_size 0 0)
  have lx := la_q (Rat.divInt n v1)
  go_wp2_with (first | (go_at_call 27; ((with_reducible refine (OF _).mono ?_); rintro e9 w2 ⟨rfl, hL⟩; replace HM := HM.call hL; clear hL)) | (first | ((with_reducible refine g_st ?_); refine a_st HM ?_; clear HM; intro w1 HM) | ((with_reducible refine g_al ?_); refine a_al HM ?_; clear HM; intro bk w1 HM)))
  refine bodyPost_ret (r_c rfl rfl (HM.get (by ((repeat (first | exact Look.here | refine Look.there ?_)); done))) lx) rfl ?_
  obtain ⟨hT, hg⟩ := HM.done (by ((repeat (first | exact Look.here | refine Look.there ?_)); done)) HC.out H0.out hle0
  exact ⟨_, rfl, hp, hT.mono (by omega), hg⟩
theorem Fe.za : ZA 29 (Fe.raw { data := #[] } (Bg.rZ 0 0) 0) := ⟨_, rfl, fun w => by rw [Fe.zeroF]⟩
theorem Fe.sa (nm : ByteArray) {rc : Array Value} (bs : Int) (h : rc.size = 66) (g : rc.all (·.oneCell') = true) {z : Array Value} (hz : z.size = 68) : SA 29 z 0 (.agg (Fe.raw nm rc bs)) (Fe.raw nm rc bs) := SA.whole (by rw [Fe.raw_size h]; kernel_rfl) (Fe.raw_one g) (by rw [Fe.raw_size h, hz])
def FeePost (W : World) (tb m : Nat) (nm : ByteArray) (w : World) (e : Ending) (w' : World) : Prop :=
 ∃ (x : Rat) (bs : Int), e = .returned (.agg (Fe.raw nm (Rt.qA x) bs)) ∧ Ac.Pr x ∧ 1 ≤ bs ∧ bs ≤ 4 ∧ Tp W tb (m + 1100) w' ∧ w.grownBy w' (some tb)
set_option maxHeartbeats 4000000 in
theorem fee_any (W : World) (tb m : Nat) (nm : ByteArray) (w : World) (hT : Tp W tb m w) (hm : m ≤ 900000000) :
    Calls Tryz.prog 24 #[.pointer (some ⟨tb, 0, none⟩), .string nm] w (FeePost W tb m nm w) := by
 obtain ⟨cs, hb, hc, h0, hle0⟩ := hT
 have HM := Mem.start1 w hb
 have HC := Lib.hid hc
 have H0 := Lib.hid h0
 have zf := Fe.za
 have hle : ∀ b ∈ [tb], W.heap.size ≤ b := by simpa using hle0
 clear hb hc h0
 go_enter Tryz.func24, Tryz.ntmps24
 go_wp2_with (first | (go_at_call 55; refine (percent_any W tb _ _ (HM.tp (by ((repeat (first | exact Look.here | refine Look.there ?_)); done)) HC.out H0.out hle) (by omega)).mono ?_; rintro e9 w2 ⟨x, rfl, hx, ⟨c1, hb1, hc1, -, -⟩, hg9⟩; replace HM := HM.put (c' := c1) (by (repeat (first | exact At.here | apply At.there))) hb1 (Only.of_grown hg9); clear hg9 hb1; replace HC := Lib.hid hc1; clear hc1) | (first | ((with_reducible refine g_st ?_); refine a_st HM ?_; clear HM; intro w1 HM) | ((with_reducible refine g_al ?_); refine a_al HM ?_; clear HM; intro bk w1 HM) | ((with_reducible refine g_bld ?_); refine a_bld ?_)))
 go_at_call 56
 refine (range_any W tb _ 1 4 _ (HM.tp (by ((repeat (first | exact Look.here | refine Look.there ?_)); done)) HC.out H0.out hle) (by omega) (by omega) (by omega) (by omega)).mono ?_
 rintro e9 w2 ⟨bs, rfl, hb1, hb2, ⟨c1, hbk, hc1, -, -⟩, hg9⟩
 replace HM := HM.put (c' := c1) (by (repeat (first | exact At.here | apply At.there))) hbk (Only.of_grown hg9)
 clear hg9 hbk
 replace HC := Lib.hid hc1
 clear hc1
 have HB := fun w => Fe.b3 nm bs (qA_size x) w
 have sf := Fe.sa nm bs (qA_size x) (qA_one x) (z := Fe.raw { data := #[] } (Bg.rZ 0 0) 0) (Fe.raw_size (rZ_size 0 0))
 have lf := Fe.la nm bs (qA_size x)
 go_wp2_with (first | ((with_reducible refine g_bld ?_); refine a_rbl (v := .agg (Fe.raw nm (Rt.qA x) bs)) ?_ (hy := h_bl3 rfl (by (conv => lhs; whnf) <;> rfl) (by (conv => lhs; whnf) <;> rfl) (by (conv => lhs; whnf) <;> rfl) (HB))) | (first | ((with_reducible refine g_st ?_); refine a_st HM ?_; clear HM; intro w1 HM) | ((with_reducible refine g_al ?_); refine a_al HM ?_; clear HM; intro bk w1 HM) | ((with_reducible refine g_bld ?_); refine a_bld ?_)))
 refine bodyPost_ret (r_c rfl rfl (HM.get (by ((repeat (first | exact Look.here | refine Look.there ?_)); done))) lf) rfl ?_
 obtain ⟨hT, hg⟩ := HM.done (by ((repeat (first | exact Look.here | refine Look.there ?_)); done)) HC.out H0.out hle0
 exact ⟨x, bs, rfl, hx, hb1, hb2, hT.mono (by omega), hg⟩
end Go.Proofs.YtmbjaaaeekacfaaGreatDoor
namespace Go.Proofs.YtmbjaaaeekacfaaGreatDoor
set_option maxRecDepth 8000
open Go.RowKit
theorem Ac.audit : Nm.usableB { data := #[97, 117, 100, 105, 116] } = true := by decide +kernel
theorem Ac.k_r : Rat.divInt 1 100 = Rat.divInt 1000000 100000000 := by decide +kernel
theorem Ac.k_d1 : Dy.Ok 2 10 13 := ⟨by decide, by decide, by decide, by decide, by decide⟩
theorem Ac.k_d2 : Dy.Ok 2 13 14 := ⟨by decide, by decide, by decide, by decide, by decide⟩
theorem Ac.k_f1 : Dy.frac 2 10 13 = Rat.divInt 3 365 := by
 rw [Dy.frac_of (by decide), Dy.days_ok Ac.k_d1]; rfl
theorem Ac.k_f2 : Dy.frac 2 13 14 = Rat.divInt 1 365 := by
 rw [Dy.frac_of (by decide), Dy.days_ok Ac.k_d2]; rfl
theorem Ac.k_y1 : Rat.divInt 6000 73 = 0 + Rat.divInt 1 100 * Rat.divInt 3 365 * ((1000000 : Int) : Rat) := by decide +kernel
theorem Ac.k_y2 : Rat.divInt 8000 73 = Rat.divInt 6000 73 + Rat.divInt 1 100 * Rat.divInt 1 365 * ((1000000 : Int) : Rat) := by decide +kernel
theorem Ac.k_h1 : Ac.rhe (Rat.divInt 6000 73) = 82 := by decide +kernel
theorem Ac.k_h2 : Ac.rhe (Rat.divInt 8000 73) = 110 := by decide +kernel
theorem Ac.k_l1 : Rat.divInt 6000 73 ≤ ((1000000000000000 : Int) : Rat) := by decide +kernel
theorem Ac.k_l2 : Rat.divInt 8000 73 ≤ ((1000000000000000 : Int) : Rat) := by decide +kernel
theorem Ac.k_fit {p q : Int} (h0 : q ≠ 0) (h1 : p.natAbs < 268435456) (h2 : q.natAbs < 268435456) : Rt.Fit (Rat.divInt p q) := by
 have e28 : Bg.p2 28 = 268435456 := by unfold Bg.p2; rfl
 exact (Rt.Bd.divInt (i := 28) (j := 28) h0 (by omega) (by omega)).fit
theorem Ag.sa_c (a : Ag) {z : Array Value} (h : z.size = 136) : SA 31 z 0 (.agg a.c) a.c := Ag.rsa a.hr.size a.he.size a.hr.one a.he.one h
theorem Ag.la_c (a : Ag) : LA 31 a.c 0 (.agg a.c) := Ag.rla a.hr.size a.he.size
theorem Ag.c_size (a : Ag) : a.c.size = 136 := Ag.raw_size a.hr.size a.he.size
theorem Ac.new_c {nm : ByteArray} (hnm : nm.size ≤ 9223372036854775807) {rc : Array Value} {ro : Option Rat} {bs day : Int} (hr : Rt.Vc ro rc) (ht : Ac.tm nm ro bs = true) (hd : Dt.isDay day = true) (w : World) :
    Calls Tryz.prog 9 #[.agg (Fe.raw nm rc bs), .int .i64 day] w fun r w' => r = .returned (.tuple #[.agg (Ag.new nm rc ro bs day hr).c, .int .i64 0]) ∧ Below w.heap.size w w' :=
 new_any nm hnm ro rc hr bs day _ 0 (Lib.hid (Ac.nw_ok hr ht hd).symm) w
set_option maxHeartbeats 8000000 in
theorem aknown_any (w : World) : Calls Tryz.prog 17 #[] w fun r w' => r = .returned (.bool true) ∧ Below w.heap.size w w' := by
 have HM := Mem.start w
 have zz := Ag.za_z
 obtain ⟨nm, hnm⟩ : ∃ nm : ByteArray, nm = { data := #[97, 117, 100, 105, 116] } := ⟨_, rfl⟩
 have hns : nm.size ≤ 9223372036854775807 := by rw [hnm]; decide
 have hnu : Nm.usableB nm = true := by rw [hnm]; exact Ac.audit
 obtain ⟨r, hr⟩ : ∃ r, Hid (r = Rat.divInt 1 100) := ⟨_, Lib.hid rfl⟩
 obtain ⟨y1, hy1⟩ : ∃ r, Hid (r = Rat.divInt 6000 73) := ⟨_, Lib.hid rfl⟩
 obtain ⟨y2, hy2⟩ : ∃ r, Hid (r = Rat.divInt 8000 73) := ⟨_, Lib.hid rfl⟩
 have fr : Rt.Fit r := by rw [hr.out]; exact Ac.k_fit (by decide) (by decide) (by decide)
 have f1 : Rt.Fit y1 := by rw [hy1.out]; exact Ac.k_fit (by decide) (by decide) (by decide)
 have f2 : Rt.Fit y2 := by rw [hy2.out]; exact Ac.k_fit (by decide) (by decide) (by decide)
 have ht : Ac.tm nm (some r) 2 = true := by rw [hr.out, Ac.k_r]; exact Ac.fee_ok hnu (by decide) (by decide) (by decide) (by decide)
 have hv : Rt.Vc (some r) (Rt.qA r) := ⟨fr, rfl⟩
 have O0 := Ac.new_ok (day := 10) hv ht (by decide)
 have e1 : y1 = 0 + r * Dy.frac 2 10 13 * ((1000000 : Int) : Rat) := by rw [hy1.out, hr.out, Ac.k_f1]; exact Ac.k_y1
 have e2 : y2 = y1 + r * Dy.frac 2 13 14 * ((1000000 : Int) : Rat) := by rw [hy2.out, hy1.out, hr.out, Ac.k_f2]; exact Ac.k_y2
 have l1 : y1 ≤ ((1000000000000000 : Int) : Rat) := by rw [hy1.out]; exact Ac.k_l1
 have l2 : y2 ≤ ((1000000000000000 : Int) : Rat) := by rw [hy2.out]; exact Ac.k_l2
 have h1 : Ac.rhe y1 = 82 := by rw [hy1.out]; exact Ac.k_h1
 have h2 : Ac.rhe y2 = 110 := by rw [hy2.out]; exact Ac.k_h2
 obtain ⟨A1, O1⟩ := Ac.ac_ok (y := y1) O0 (base := 1000000) (d9 := 13) (by decide) (by decide) Ac.k_d1 e1 f1 l1
 have B1 := Ac.bk_ok O1
 obtain ⟨P1, O2⟩ := Ac.py_ok O1 (m := 82) (by decide) (by rw [h1]; show (82 : Int) ≤ 82 - 0; decide)
 obtain ⟨A2, O3⟩ := Ac.ac_ok (y := y2) O2 (base := 1000000) (d9 := 14) (by decide) (by decide) Ac.k_d2 e2 f2 l2
 have B2 := Ac.bk_ok O3
 have P2 : Ac.py ((((Ag.new nm (Rt.qA r) (some r) 2 10 hv).acc y1 f1 13).paid 82).acc y2 f2 14) 29 = (Ag.z, 191) := by
  unfold Ac.py
  rw [Ac.ok_iff O3, if_pos rfl, if_pos (.inr (by show Ac.rhe y2 - (0 + 82) < 29; rw [h2]; decide))]
 have B1' : Ac.bk ((Ag.new nm (Rt.qA r) (some r) 2 10 hv).acc y1 f1 13) = (82, 0) := by rw [B1, h1]; rfl
 have B2' : Ac.bk ((((Ag.new nm (Rt.qA r) (some r) 2 10 hv).acc y1 f1 13).paid 82).acc y2 f2 14) = (28, 0) := by rw [B2, h2]; rfl
 have NW := fun w => Ac.new_c hns hv ht (day := 10) (by decide) w
 have HBF := fun w => Fe.b3 nm 2 (qA_size r) w
 have OF := fun w => mkof_q 1 100 r (by decide) (by decide) (by decide) (by decide) (by decide) hr w
 have OF2 := fun w => mkof_q 6000 73 y1 (by decide) (by decide) (by decide) (by decide) (by decide) hy1 w
 have CA1 := fun w => accrue_any _ hns 1000000 13 _ 0 (Lib.hid A1.symm) w
 have CB1 := fun w => booked_any _ hns 82 0 (Lib.hid B1'.symm) w
 have CP1 := fun w => pay_any _ hns 82 _ 0 (Lib.hid P1.symm) w
 have CA2 := fun w => accrue_any _ hns 1000000 14 _ 0 (Lib.hid A2.symm) w
 have CB2 := fun w => booked_any _ hns 28 0 (Lib.hid B2'.symm) w
 have CP2 := fun w => pay_any _ hns 29 _ 191 (Lib.hid P2.symm) w
 have CV := fun w => avalid_any _ hns true (Lib.hid (Ac.ok_iff O3).symm) w
 have q1 : LA 27 ((Ag.new nm (Rt.qA r) (some r) 2 10 hv).acc y1 f1 13).c 68 (.agg (Rt.qA y1)) := (Ag.fec (qA_size r) (qA_size y1)).la
 have s0 := Ag.sa_c (Ag.new nm (Rt.qA r) (some r) 2 10 hv) Ag.z_size
 have s1 := Ag.sa_c ((Ag.new nm (Rt.qA r) (some r) 2 10 hv).acc y1 f1 13) (Ag.c_size (Ag.new nm (Rt.qA r) (some r) 2 10 hv))
 have s2 := Ag.sa_c (((Ag.new nm (Rt.qA r) (some r) 2 10 hv).acc y1 f1 13).paid 82) Ag.z_size
 have s3 := Ag.sa_c ((((Ag.new nm (Rt.qA r) (some r) 2 10 hv).acc y1 f1 13).paid 82).acc y2 f2 14) (Ag.c_size (((Ag.new nm (Rt.qA r) (some r) 2 10 hv).acc y1 f1 13).paid 82))
 have sz : SA 31 Ag.z 0 (.agg Ag.z) Ag.z := SA.whole (by rw [Ag.z_size]; exact Ag.sT) Ag.z_one rfl
 have l0 := Ag.la_c (Ag.new nm (Rt.qA r) (some r) 2 10 hv)
 have l3 := Ag.la_c ((Ag.new nm (Rt.qA r) (some r) 2 10 hv).acc y1 f1 13)
 have l4 := Ag.la_c (((Ag.new nm (Rt.qA r) (some r) 2 10 hv).acc y1 f1 13).paid 82)
 have l5 := Ag.la_c ((((Ag.new nm (Rt.qA r) (some r) 2 10 hv).acc y1 f1 13).paid 82).acc y2 f2 14)
 clear A1 O1 B1 P1 O2 A2 O3 B2 P2 B1' B2' O0 e1 e2 l1 l2 h1 h2 hr hy1 hy2 hns hnu
 generalize ((((Ag.new nm (Rt.qA r) (some r) 2 10 hv).acc y1 f1 13).paid 82).acc y2 f2 14).c = C3 at *
 generalize (((Ag.new nm (Rt.qA r) (some r) 2 10 hv).acc y1 f1 13).paid 82).c = C2 at *
 generalize ((Ag.new nm (Rt.qA r) (some r) 2 10 hv).acc y1 f1 13).c = C1 at *
 generalize (Ag.new nm (Rt.qA r) (some r) 2 10 hv).c = C0 at *
 generalize Fe.raw nm (Rt.qA r) 2 = F at *
 subst hnm
 go_enter Tryz.func17, Tryz.ntmps17
 go_upto_region 8 with (first | ((with_reducible refine g_bld ?_); refine a_rbl (v := .agg F) ?_ (hy := h_bl3 rfl (by (conv => lhs; whnf) <;> rfl) (by (conv => lhs; whnf) <;> rfl) (by (conv => lhs; whnf) <;> rfl) (HBF))) | (go_at_call 27; ((with_reducible refine (OF _).mono ?_); rintro e9 w2 ⟨rfl, hL⟩; replace HM := HM.call hL; clear hL)) | (go_at_call 9; ((with_reducible refine (NW _).mono ?_); rintro e9 w2 ⟨rfl, hL⟩; replace HM := HM.call hL; clear hL)) | (go_at_call 11; ((with_reducible refine (CA1 _).mono ?_); rintro e9 w2 ⟨rfl, hL⟩; replace HM := HM.call hL; clear hL)) | (go_at_call 11; ((with_reducible refine (CA2 _).mono ?_); rintro e9 w2 ⟨rfl, hL⟩; replace HM := HM.call hL; clear hL)) | (go_at_call 13; ((with_reducible refine (CB1 _).mono ?_); rintro e9 w2 ⟨rfl, hL⟩; replace HM := HM.call hL; clear hL)) | (go_at_call 13; ((with_reducible refine (CB2 _).mono ?_); rintro e9 w2 ⟨rfl, hL⟩; replace HM := HM.call hL; clear hL)) | (go_at_call 15; ((with_reducible refine (CP1 _).mono ?_); rintro e9 w2 ⟨rfl, hL⟩; replace HM := HM.call hL; clear hL)) | (go_at_call 15; ((with_reducible refine (CP2 _).mono ?_); rintro e9 w2 ⟨rfl, hL⟩; replace HM := HM.call hL; clear hL)) | (first | ((with_reducible refine g_ld ?_); refine a_ld HM ?_) | ((with_reducible refine g_st ?_); refine a_st HM ?_; clear HM; intro w1 HM) | ((with_reducible refine g_al ?_); refine a_al HM ?_; clear HM; intro bk w1 HM) | ((with_reducible refine g_bld ?_); refine a_bld ?_)))
 obtain ⟨b11, rfl⟩ := HM.nm0
 obtain ⟨b6, rfl⟩ := HM.nm1
 obtain ⟨b1, rfl⟩ := HM.nm2
 refine start_M [] HM (by kernel_rfl) (fun w0x H9 => ?_)
 replace HM := H9; clear H9
 refine k_mv 0 (heldE HM) ?_
 refine k_bin 1 (heldE HM) ?_
 refine k_mv 2 (heldE HM) ?_
 refine k_mv 3 (heldE HM) ?_
 refine k_bin 4 (heldE HM) ?_
 refine k_pick 5 (heldE HM) ?_
 refine k_mv 6 (heldE HM) ?_
 refine k_fa 7 (heldE HM) ?_
 refine k_ld 8 [] (heldE HM) ?_
 refine j_one 9 fun K9 hK9 => ?_
 refine j_call2 (v := ?_) HM ?_ ?_; rotate_left 1; (focus (with_reducible (first | exact OF2 _ | exact CV _))); clear HM; intro w1 HM
 refine hK9 _ _ (heldE HM) ?_; clear hK9 K9
 refine t_eq (i := 10) (v := ?_) [] rfl rfl rfl (by kernel_rfl) (fun _ _ _ h => h) (heldE HM) ?_ ?_; rotate_left 1; (focus ((refine y_cmpq .eql (y1) (y1) true (.inl rfl) (by simp) (f1) (f1) (x := ?_) (y := ?_) (t := ?_) ?_ ?_ ?_ ?_; rotate_left 3; (focus rfl); (focus rfl); (focus ((conv => lhs; whnf) <;> rfl)); ((conv => lhs; whnf) <;> rfl)))); ((try simp only [List.setIfInBounds_toArray]); (try simp only [List.set_cons_succ]); (try simp only [List.set_cons_zero]))
 refine k_pick 11 (heldE HM) ?_
 refine k_mv 12 (heldE HM) ?_
 refine k_mv 13 (heldE HM) ?_
 refine k_bin 14 (heldE HM) ?_
 refine k_pick 15 (heldE HM) ?_
 refine k_mv 16 (heldE HM) ?_
 refine k_mv 17 (heldE HM) ?_
 refine k_bin 18 (heldE HM) ?_
 refine k_pick 19 (heldE HM) ?_
 refine k_mv 20 (heldE HM) ?_
 refine k_mv 21 (heldE HM) ?_
 refine k_bin 22 (heldE HM) ?_
 refine k_pick 23 (heldE HM) ?_
 refine k_mv 24 (heldE HM) ?_
 refine k_mv 25 (heldE HM) ?_
 refine k_bin 26 (heldE HM) ?_
 refine k_pick 27 (heldE HM) ?_
 refine k_mv 28 (heldE HM) ?_
 refine k_mv 29 (heldE HM) ?_
 refine k_bin 30 (heldE HM) ?_
 refine k_pick 31 (heldE HM) ?_
 refine k_mv 32 (heldE HM) ?_
 refine k_mv 33 (heldE HM) ?_
 refine k_bin 34 (heldE HM) ?_
 refine k_pick 35 (heldE HM) ?_
 refine k_mv 36 (heldE HM) ?_
 refine k_mv 37 (heldE HM) ?_
 refine k_bin 38 (heldE HM) ?_
 refine k_pick 39 (heldE HM) ?_
 refine k_mv 40 (heldE HM) ?_
 refine k_ld 41 [] (heldE HM) ?_
 refine j_one 42 fun K9 hK9 => ?_
 refine j_call1 (v := ?_) HM ?_ ?_; rotate_left 1; (focus (with_reducible (first | exact OF2 _ | exact CV _))); clear HM; intro w1 HM
 refine hK9 _ _ (heldE HM) ?_; clear hK9 K9
 refine k_pick 43 (heldE HM) ?_
 refine k_mv 44 (heldE HM) ?_
 refine wpAnyL_done (by kernel_rfl) ?_ _
 (go_wp2_with fail; go_ret; exact ⟨rfl, HM.low⟩)
end Go.Proofs.YtmbjaaaeekacfaaGreatDoor
namespace Go.Proofs.YtmbjaaaeekacfaaGreatDoor
set_option maxRecDepth 8000
open Go.RowKit
theorem Rt.vc_zero : Rt.Vc none (Bg.rZ 0 0) := ⟨false, 0, false, 0, Bg.ppos 32, Bg.ppos 32, by decide +kernel, rZ_zero.symm⟩
def Ag.zero : Ag := ⟨{ data := #[] }, Bg.rZ 0 0, none, 0, Bg.rZ 0 0, none, 0, 0, Rt.vc_zero, Rt.vc_zero⟩
theorem Ag.zero_c : Ag.z = Ag.zero.c := Ag.z_eq
theorem Ac.nw_ag {nm : ByteArray} {rc : Array Value} {ro : Option Rat} {bs day : Int} (hr : Rt.Vc ro rc) {R : Array Value} {E : Int} (h : (R, E) = Ac.nw nm rc ro bs day) : ∃ b : Ag, R = b.c := by
 unfold Ac.nw at h
 split at h
 ·split at h
  ·obtain ⟨rfl, _⟩ := Prod.mk.inj h; exact ⟨Ag.new nm rc ro bs day hr, rfl⟩
  ·obtain ⟨rfl, _⟩ := Prod.mk.inj h; exact ⟨_, Ag.zero_c⟩
 ·obtain ⟨rfl, _⟩ := Prod.mk.inj h; exact ⟨_, Ag.zero_c⟩
theorem Ac.ac_ag {a : Ag} {base d9 : Int} {R : Array Value} {E : Int} (h : (R, E) = Ac.ac a base d9) : ∃ b : Ag, R = b.c := by
 unfold Ac.ac at h
 split at h
 ·split at h
  ·obtain ⟨rfl, _⟩ := Prod.mk.inj h; exact ⟨_, Ag.zero_c⟩
  ·split at h
   ·split at h
    ·rename_i hf
     split at h
     ·obtain ⟨rfl, _⟩ := Prod.mk.inj h; exact ⟨a.acc _ hf d9, rfl⟩
     ·obtain ⟨rfl, _⟩ := Prod.mk.inj h; exact ⟨_, Ag.zero_c⟩
    ·obtain ⟨rfl, _⟩ := Prod.mk.inj h; exact ⟨_, Ag.zero_c⟩
   ·obtain ⟨rfl, _⟩ := Prod.mk.inj h; exact ⟨_, Ag.zero_c⟩
 ·obtain ⟨rfl, _⟩ := Prod.mk.inj h; exact ⟨_, Ag.zero_c⟩
theorem Ac.py_ag {a : Ag} {m : Int} {R : Array Value} {E : Int} (h : (R, E) = Ac.py a m) : ∃ b : Ag, R = b.c := by
 unfold Ac.py at h
 split at h
 ·split at h
  ·obtain ⟨rfl, _⟩ := Prod.mk.inj h; exact ⟨_, Ag.zero_c⟩
  ·obtain ⟨rfl, _⟩ := Prod.mk.inj h; exact ⟨a.paid m, rfl⟩
 ·obtain ⟨rfl, _⟩ := Prod.mk.inj h; exact ⟨_, Ag.zero_c⟩
set_option maxHeartbeats 16000000 in
theorem aexact_any (nm : ByteArray) (hnm : nm.size ≤ 9223372036854775807) (ro : Option Rat) (rc : Array Value) (hv : Rt.Vc ro rc) (bs : Int) (a : Ag) (han : a.nm.size ≤ 9223372036854775807) (day base m : Int) (w : World) :
    Calls Tryz.prog 3 #[.agg (Fe.raw nm rc bs), .agg a.c, .int .i64 day, .int .i64 base, .int .i64 m] w fun r w' => r = .returned (.bool true) ∧ Below w.heap.size w w' := by
 have HM := Mem.start w
 have zz := Ag.za_z
 have KN := fun w => aknown_any w
 obtain ⟨R1, E1, h1⟩ : ∃ R E, Hid ((R, E) = Ac.nw nm rc ro bs day) := ⟨_, _, Lib.hid rfl⟩
 obtain ⟨R2, E2, h2⟩ : ∃ R E, Hid ((R, E) = Ac.ac a base day) := ⟨_, _, Lib.hid rfl⟩
 obtain ⟨n3, E3, h3⟩ : ∃ R E, Hid ((R, E) = Ac.bk a) := ⟨_, _, Lib.hid rfl⟩
 obtain ⟨R4, E4, h4⟩ : ∃ R E, Hid ((R, E) = Ac.py a m) := ⟨_, _, Lib.hid rfl⟩
 obtain ⟨v, hvv⟩ : ∃ v, Hid (v = Ac.vd a) := ⟨_, Lib.hid rfl⟩
 have N1 := fun w => new_any nm hnm ro rc hv bs day R1 E1 h1 w
 have N2 := fun w => rnew_any nm ro rc hv bs day R1 E1 h1 w
 have A1 := fun w => accrue_any a han base day R2 E2 h2 w
 have A2 := fun w => raccrue_any a base day R2 E2 h2 w
 have B1 := fun w => booked_any a han n3 E3 h3 w
 have B2 := fun w => rbooked_any a n3 E3 h3 w
 have P1 := fun w => pay_any a han m R4 E4 h4 w
 have P2 := fun w => rpay_any a m R4 E4 h4 w
 have V1 := fun w => avalid_any a han v hvv w
 have V2 := fun w => ravalid_any a v hvv w
 obtain ⟨b1, rfl⟩ := Ac.nw_ag hv h1.out
 obtain ⟨b2, rfl⟩ := Ac.ac_ag h2.out
 obtain ⟨b4, rfl⟩ := Ac.py_ag h4.out
 have la := Ag.la_c a
 have lf := Fe.la nm bs hv.size
 have s1 := Ag.sa_c b1 Ag.z_size
 have s2 := Ag.sa_c b2 Ag.z_size
 have s4 := Ag.sa_c b4 Ag.z_size
 have l1 := Ag.la_c b1
 have l2 := Ag.la_c b2
 have l4 := Ag.la_c b4
 have Q1 := Ag.eq_self b1
 have Q2 := Ag.eq_self b2
 have Q4 := Ag.eq_self b4
 clear h1 h2 h3 h4 hvv hv hnm han
 generalize Ag.c b1 = C1 at *
 generalize Ag.c b2 = C2 at *
 generalize Ag.c b4 = C4 at *
 generalize Ag.c a = A at *
 generalize Fe.raw nm rc bs = F at *
 go_enter Tryz.func3, Tryz.ntmps3
 go_upto_region 9 with (first | (go_at_call 9; ((with_reducible refine (N1 _).mono ?_); rintro e9 w2 ⟨rfl, hL⟩; replace HM := HM.call hL; clear hL)) | (go_at_call 10; ((with_reducible refine (N2 _).mono ?_); rintro e9 w2 ⟨rfl, hL⟩; replace HM := HM.call hL; clear hL)) | (go_at_call 11; ((with_reducible refine (A1 _).mono ?_); rintro e9 w2 ⟨rfl, hL⟩; replace HM := HM.call hL; clear hL)) | (go_at_call 12; ((with_reducible refine (A2 _).mono ?_); rintro e9 w2 ⟨rfl, hL⟩; replace HM := HM.call hL; clear hL)) | (go_at_call 13; ((with_reducible refine (B1 _).mono ?_); rintro e9 w2 ⟨rfl, hL⟩; replace HM := HM.call hL; clear hL)) | (go_at_call 14; ((with_reducible refine (B2 _).mono ?_); rintro e9 w2 ⟨rfl, hL⟩; replace HM := HM.call hL; clear hL)) | (go_at_call 15; ((with_reducible refine (P1 _).mono ?_); rintro e9 w2 ⟨rfl, hL⟩; replace HM := HM.call hL; clear hL)) | (go_at_call 16; ((with_reducible refine (P2 _).mono ?_); rintro e9 w2 ⟨rfl, hL⟩; replace HM := HM.call hL; clear hL)) | (first | ((with_reducible refine g_ld ?_); refine a_ld HM ?_) | ((with_reducible refine g_st ?_); refine a_st HM ?_; clear HM; intro w1 HM) | ((with_reducible refine g_al ?_); refine a_al HM ?_; clear HM; intro bk w1 HM) | ((with_reducible refine g_bx ?_); refine a_bx HM ?_; clear HM; intro bk w1 HM)))
 obtain ⟨k25, rfl⟩ := HM.nm0
 obtain ⟨k23, rfl⟩ := HM.nm1
 obtain ⟨k17, rfl⟩ := HM.nm2
 obtain ⟨k15, rfl⟩ := HM.nm3
 obtain ⟨k13, rfl⟩ := HM.nm4
 obtain ⟨k11, rfl⟩ := HM.nm5
 obtain ⟨k6, rfl⟩ := HM.nm6
 have g1 : (E1 == E1) = true := beq_self_eq_true _
 have g2 : (E2 == E2) = true := beq_self_eq_true _
 have g3 : (E3 == E3) = true := beq_self_eq_true _
 have g4 : (n3 == n3) = true := beq_self_eq_true _
 have g5 : (E4 == E4) = true := beq_self_eq_true _
 have g6 : (v == v) = true := beq_self_eq_true _
 refine start_M [] HM (by kernel_rfl) (fun w0x H9 => ?_)
 replace HM := H9; clear H9
 refine j_one 0 fun K9 hK9 => ?_
 refine j_call0 (v := ?_) HM ?_ ?_; rotate_left 1; (focus (with_reducible (first | exact KN _ | exact V1 _ | exact V2 _))); clear HM; intro w1 HM
 refine hK9 _ _ (heldE HM) ?_; clear hK9 K9
 refine k_mv 1 (heldE HM) ?_
 refine k_ld 2 [] (heldE HM) ?_
 refine k_ld 3 [] (heldE HM) ?_
 refine t_eq (i := 4) (v := ?_) [] rfl rfl rfl (by kernel_rfl) (fun _ _ _ h => h) (heldE HM) ?_ ?_; rotate_left 1; (focus ((refine y_cmps .eql true (.inl rfl) (Q1) rfl (by kernel_rfl) (x := ?_) (y := ?_) (t := ?_) ?_ ?_ ?_ ?_; rotate_left 3; (focus rfl); (focus rfl); (focus ((conv => lhs; whnf) <;> rfl)); ((conv => lhs; whnf) <;> rfl)))); ((try simp only [List.setIfInBounds_toArray]); (try simp only [List.set_cons_succ]); (try simp only [List.set_cons_zero]))
 refine k_pick 5 (heldE HM) ?_
 refine k_mv 6 (heldE HM) ?_
 refine k_mv 7 (heldE HM) ?_
 refine k_mv 8 (heldE HM) ?_
 refine k_bin 9 (heldE HM) ?_
 refine k_pick 10 (heldE HM) ?_
 refine k_mv 11 (heldE HM) ?_
 refine k_ld 12 [] (heldE HM) ?_
 refine k_ld 13 [] (heldE HM) ?_
 refine t_eq (i := 14) (v := ?_) [] rfl rfl rfl (by kernel_rfl) (fun _ _ _ h => h) (heldE HM) ?_ ?_; rotate_left 1; (focus ((refine y_cmps .eql true (.inl rfl) (Q2) rfl (by kernel_rfl) (x := ?_) (y := ?_) (t := ?_) ?_ ?_ ?_ ?_; rotate_left 3; (focus rfl); (focus rfl); (focus ((conv => lhs; whnf) <;> rfl)); ((conv => lhs; whnf) <;> rfl)))); ((try simp only [List.setIfInBounds_toArray]); (try simp only [List.set_cons_succ]); (try simp only [List.set_cons_zero]))
 refine k_pick 15 (heldE HM) ?_
 refine k_mv 16 (heldE HM) ?_
 refine k_mv 17 (heldE HM) ?_
 refine k_mv 18 (heldE HM) ?_
 refine k_bin 19 (heldE HM) ?_
 refine k_pick 20 (heldE HM) ?_
 refine k_mv 21 (heldE HM) ?_
 refine k_mv 22 (heldE HM) ?_
 refine k_mv 23 (heldE HM) ?_
 refine k_bin 24 (heldE HM) ?_
 refine k_pick 25 (heldE HM) ?_
 refine k_mv 26 (heldE HM) ?_
 refine k_mv 27 (heldE HM) ?_
 refine k_mv 28 (heldE HM) ?_
 refine k_bin 29 (heldE HM) ?_
 refine k_pick 30 (heldE HM) ?_
 refine k_mv 31 (heldE HM) ?_
 refine k_ld 32 [] (heldE HM) ?_
 refine k_ld 33 [] (heldE HM) ?_
 refine t_eq (i := 34) (v := ?_) [] rfl rfl rfl (by kernel_rfl) (fun _ _ _ h => h) (heldE HM) ?_ ?_; rotate_left 1; (focus ((refine y_cmps .eql true (.inl rfl) (Q4) rfl (by kernel_rfl) (x := ?_) (y := ?_) (t := ?_) ?_ ?_ ?_ ?_; rotate_left 3; (focus rfl); (focus rfl); (focus ((conv => lhs; whnf) <;> rfl)); ((conv => lhs; whnf) <;> rfl)))); ((try simp only [List.setIfInBounds_toArray]); (try simp only [List.set_cons_succ]); (try simp only [List.set_cons_zero]))
 refine k_pick 35 (heldE HM) ?_
 refine k_mv 36 (heldE HM) ?_
 refine k_mv 37 (heldE HM) ?_
 refine k_mv 38 (heldE HM) ?_
 refine k_bin 39 (heldE HM) ?_
 refine k_pick 40 (heldE HM) ?_
 refine k_mv 41 (heldE HM) ?_
 refine k_ld 42 [] (heldE HM) ?_
 refine k_ld 44 [] (heldE HM) ?_
 refine j_one 43 fun K9 hK9 => ?_
 refine j_call1 (v := ?_) HM ?_ ?_; rotate_left 1; (focus (with_reducible (first | exact KN _ | exact V1 _ | exact V2 _))); clear HM; intro w1 HM
 refine hK9 _ _ (heldE HM) ?_; clear hK9 K9
 refine j_one 45 fun K9 hK9 => ?_
 refine j_call1 (v := ?_) HM ?_ ?_; rotate_left 1; (focus (with_reducible (first | exact KN _ | exact V1 _ | exact V2 _))); clear HM; intro w1 HM
 refine hK9 _ _ (heldE HM) ?_; clear hK9 K9
 refine k_bin 46 (heldE HM) ?_
 refine k_pick 47 (heldE HM) ?_
 refine k_mv 48 (heldE HM) ?_
 refine wpAnyL_done (by kernel_rfl) ?_ _
 (go_wp2_with fail; go_ret; exact ⟨rfl, HM.low⟩)
end Go.Proofs.YtmbjaaaeekacfaaGreatDoor
