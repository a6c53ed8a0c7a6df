/- Walks, and plain facts for them. -/
import Derived.Test.YtmbjaaaeekacfaaGreatDoorPb28
namespace Go.Proofs.YtmbjaaaeekacfaaGreatDoor
set_option maxRecDepth 8000
open Go.RowKit
structure Ac.Ok (a : Ag) (r x : Rat) : Prop where
 ro : a.ro = some r
 eo : a.eo = some x
 tm : Ac.tm a.nm a.ro a.bs = true
 x0 : 0 ≤ x
 x1 : x ≤ ((1000000000000000 : Int) : Rat)
 p0 : 0 ≤ a.pd
 p1 : a.pd ≤ Ac.rhe x
 un : Dt.isDay a.un = true
theorem Ac.Ok.fit {a : Ag} {r x : Rat} (h : Ac.Ok a r x) : Rt.Fit x ∧ a.ec = Rt.qA x := by
 have := a.he
 rw [h.eo] at this
 exact this
theorem Ac.Ok.fitr {a : Ag} {r x : Rat} (h : Ac.Ok a r x) : Rt.Fit r ∧ a.rc = Rt.qA r := by
 have := a.hr
 rw [h.ro] at this
 exact this
theorem Ac.ok_of {a : Ag} (h : Ac.vd a = true) : ∃ r x, Ac.Ok a r x := by
 unfold Ac.vd at h
 simp only [Bool.and_eq_true, decide_eq_true_eq] at h
 obtain ⟨h1, h2, h3, h4, h5⟩ := h
 have hro : ∃ r, a.ro = some r := by
  have h1' := h1
  unfold Ac.tm at h1'
  simp only [Bool.and_eq_true] at h1'
  have h6 := h1'.2.2.1
  cases e : a.ro with
  | none => rw [e] at h6; exact absurd h6 Bool.false_ne_true
  | some r => exact ⟨r, rfl⟩
 obtain ⟨r, hr⟩ := hro
 cases e : a.eo with
 | none => rw [e] at h2; exact absurd h2 Bool.false_ne_true
 | some x =>
  rw [e] at h2 h4
  have h7 := Ac.btw_iff.1 h2
  exact ⟨r, x, hr, e, h1, h7.1, h7.2, h3, h4, h5⟩
theorem Ac.ok_iff {a : Ag} {r x : Rat} (h : Ac.Ok a r x) : Ac.vd a = true := by
 unfold Ac.vd
 rw [h.tm, h.eo, Ac.btw_iff.2 ⟨h.x0, h.x1⟩, decide_eq_true h.p0, decide_eq_true (show a.pd ≤ Ac.due (some x) from h.p1), h.un]; rfl
noncomputable def Ac.bk (a : Ag) : Int × Int := if Ac.vd a then (Ac.due a.eo - a.pd, 0) else (0, 190)
theorem Ac.rhe_lim {x : Rat} (h : x ≤ ((1000000000000000 : Int) : Rat)) : Ac.rhe x ≤ 1000000000000000 := Ac.rhe_le h
set_option maxHeartbeats 8000000 in
theorem booked_any (a : Ag) (hnm : a.nm.size ≤ 9223372036854775807) (n e : Int) (hr : Hid ((n, e) = Ac.bk a)) (w : World) :
    Calls Tryz.prog 13 #[.agg a.c] w fun r w' => r = .returned (.tuple #[.int .i64 n, .int .i64 e]) ∧ Below w.heap.size w w' := by
 have HM := Mem.start w
 obtain ⟨v, hvv⟩ : ∃ v, Hid (v = Ac.vd a) := ⟨_, Lib.hid rfl⟩
 have V := fun w => avalid_any a hnm v hvv w
 have h := hr.out
 unfold Ac.bk at h
 rw [← hvv.out] at h
 have la : LA 31 a.c 0 (.agg a.c) := Ag.rla a.hr.size a.he.size
 cases v with
 | false =>
  obtain ⟨rfl, rfl⟩ : n = 0 ∧ e = 190 := Prod.mk.inj h
  clear h hr hvv
  generalize Ag.c a = A at *
  go_enter Tryz.func13, Tryz.ntmps13
  go_wp2_with (first | (go_at_call 18; ((with_reducible refine (V _).mono ?_); rintro e9 w2 ⟨rfl, hL⟩; replace HM := HM.call hL; clear hL)) | (first | ((with_reducible refine g_ld ?_); refine a_ld HM ?_) | ((with_reducible refine g_bx ?_); refine a_bx HM ?_; clear HM; intro bk w1 HM)))
  go_ret2
  exact ⟨rfl, HM.low⟩
 | true =>
  obtain ⟨r, x, hk⟩ := Ac.ok_of hvv.out.symm
  obtain ⟨hx, hec⟩ := hk.fit
  have f3 : LA 27 a.c 68 (.agg (Rt.qA x)) := by rw [← hec]; exact (Ag.fec a.hr.size a.he.size).la
  have f4 : LA 3 a.c 134 (.int .i64 a.pd) := (Ag.fpd a.hr.size a.he.size).la
  rw [hk.eo] at h
  obtain ⟨m, hm⟩ : ∃ m, Hid (m = Ac.rhe x) := ⟨_, Lib.hid rfl⟩
  have RN := fun w => rounded_any x hx hk.x0 hk.x1 m hm w
  have h1 := hk.p0
  have h2 := hk.p1
  have h3 := Ac.rhe_lim hk.x1
  obtain ⟨rfl, rfl⟩ : n = m - a.pd ∧ e = 0 := by
   have := Prod.mk.inj h
   exact ⟨by rw [hm.out]; exact this.1, this.2⟩
  rw [← hm.out] at h2 h3
  have hb : Hid (IntKind.i64.wrap (m - a.pd) = m - a.pd) := Lib.hid (IntWalk.i64_in _ (by omega))
  clear h hr hvv hk hm hec
  generalize a.pd = p at *
  generalize Ag.c a = A at *
  go_enter Tryz.func13, Tryz.ntmps13
  go_upto_region 3 with (first | (go_at_call 18; ((with_reducible refine (V _).mono ?_); rintro e9 w2 ⟨rfl, hL⟩; replace HM := HM.call hL; clear hL)) | (first | ((with_reducible refine g_ld ?_); refine a_ld HM ?_) | ((with_reducible refine g_bx ?_); refine a_bx HM ?_; clear HM; intro bk w1 HM)))
  refine start_M [] HM (by kernel_rfl) (fun w0x H9 => ?_)
  replace HM := H9; clear H9
  refine k_fa 0 (heldE HM) ?_
  refine k_ld 1 [] (heldE HM) ?_
  refine k_fa 3 (heldE HM) ?_
  refine k_ld 4 [] (heldE HM) ?_
  refine j_one 2 fun K9 hK9 => ?_
  refine j_call1 (v := ?_) HM ?_ ?_; rotate_left 1; (focus (with_reducible (exact RN _))); clear HM; intro w1 HM
  refine hK9 _ _ (heldE HM) ?_; clear hK9 K9
  refine t_pure (i := 5) (v := .int .i64 (m - p)) rfl rfl (by kernel_rfl) (fun _ _ _ h => h) (heldE HM) (by rfl) ?_ ?_; (focus (exact h_bin (by rfl) (by rfl) (by rfl) (by intro w9; go_simp; first | done | rw [hb.out]))); ((try simp only [List.setIfInBounds_toArray]); (try simp only [List.set_cons_succ]); (try simp only [List.set_cons_zero]))
  refine k_mv 6 (heldE HM) ?_
  refine k_mv 7 (heldE HM) ?_
  refine wpAnyL_done (by kernel_rfl) ?_ _
  (go_wp2_with fail; go_ret2; exact ⟨rfl, HM.low⟩)
set_option maxHeartbeats 8000000 in
theorem rbooked_any (a : Ag) (n e : Int) (hr : Hid ((n, e) = Ac.bk a)) (w : World) :
    Calls Tryz.prog 14 #[.agg a.c] w fun r w' => r = .returned (.tuple #[.int .i64 n, .int .i64 e]) ∧ Below w.heap.size w w' := by
 have HM := Mem.start w
 obtain ⟨v, hvv⟩ : ∃ v, Hid (v = Ac.vd a) := ⟨_, Lib.hid rfl⟩
 have V := fun w => ravalid_any a v hvv w
 have h := hr.out
 unfold Ac.bk at h
 rw [← hvv.out] at h
 have la : LA 31 a.c 0 (.agg a.c) := Ag.rla a.hr.size a.he.size
 cases v with
 | false =>
  obtain ⟨rfl, rfl⟩ : n = 0 ∧ e = 190 := Prod.mk.inj h
  clear h hr hvv
  generalize Ag.c a = A at *
  go_enter Tryz.func14, Tryz.ntmps14
  go_wp2_with (first | (go_at_call 19; ((with_reducible refine (V _).mono ?_); rintro e9 w2 ⟨rfl, hL⟩; replace HM := HM.call hL; clear hL)) | (first | ((with_reducible refine g_ld ?_); refine a_ld HM ?_) | ((with_reducible refine g_bx ?_); refine a_bx HM ?_; clear HM; intro bk w1 HM)))
  go_ret2
  exact ⟨rfl, HM.low⟩
 | true =>
  obtain ⟨r, x, hk⟩ := Ac.ok_of hvv.out.symm
  obtain ⟨hx, hec⟩ := hk.fit
  have f4 : LA 3 a.c 134 (.int .i64 a.pd) := (Ag.fpd a.hr.size a.he.size).la
  rw [hk.eo] at h
  obtain ⟨m, hm⟩ : ∃ m, Hid (m = Ac.rhe x) := ⟨_, Lib.hid rfl⟩
  have RN : ∀ w, Calls Tryz.prog 52 #[.agg a.c] w fun r w' => r = .returned (.int .i64 m) ∧ Below w.heap.size w w' := fun w => by
   rw [Ag.c_raw, hec]
   exact owed_any a.nm a.rc a.bs a.pd a.un a.hr.size x hx hk.x0 hk.x1 m hm w
  have h1 := hk.p0
  have h2 := hk.p1
  have h3 := Ac.rhe_lim hk.x1
  obtain ⟨rfl, rfl⟩ : n = m - a.pd ∧ e = 0 := by
   have := Prod.mk.inj h
   exact ⟨by rw [hm.out]; exact this.1, this.2⟩
  rw [← hm.out] at h2 h3
  have hb : Hid (IntKind.i64.wrap (m - a.pd) = m - a.pd) := Lib.hid (IntWalk.i64_in _ (by omega))
  clear h hr hvv hk hm hec
  generalize a.pd = p at *
  generalize Ag.c a = A at *
  go_enter Tryz.func14, Tryz.ntmps14
  go_upto_region 3 with (first | (go_at_call 19; ((with_reducible refine (V _).mono ?_); rintro e9 w2 ⟨rfl, hL⟩; replace HM := HM.call hL; clear hL)) | (first | ((with_reducible refine g_ld ?_); refine a_ld HM ?_) | ((with_reducible refine g_bx ?_); refine a_bx HM ?_; clear HM; intro bk w1 HM)))
  refine start_M [] HM (by kernel_rfl) (fun w0x H9 => ?_)
  replace HM := H9; clear H9
  refine k_ld 0 [] (heldE HM) ?_
  refine k_fa 2 (heldE HM) ?_
  refine k_ld 3 [] (heldE HM) ?_
  refine j_one 1 fun K9 hK9 => ?_
  refine j_call1 (v := ?_) HM ?_ ?_; rotate_left 1; (focus (with_reducible (exact RN _))); clear HM; intro w1 HM
  refine hK9 _ _ (heldE HM) ?_; clear hK9 K9
  refine t_pure (i := 4) (v := .int .i64 (m - p)) rfl rfl (by kernel_rfl) (fun _ _ _ h => h) (heldE HM) (by rfl) ?_ ?_; (focus (exact h_bin (by rfl) (by rfl) (by rfl) (by intro w9; go_simp; first | done | rw [hb.out]))); ((try simp only [List.setIfInBounds_toArray]); (try simp only [List.set_cons_succ]); (try simp only [List.set_cons_zero]))
  refine k_mv 5 (heldE HM) ?_
  refine k_mv 6 (heldE HM) ?_
  refine wpAnyL_done (by kernel_rfl) ?_ _
  (go_wp2_with fail; go_ret2; exact ⟨rfl, HM.low⟩)
end Go.Proofs.YtmbjaaaeekacfaaGreatDoor
namespace Go.Proofs.YtmbjaaaeekacfaaGreatDoor
set_option maxRecDepth 8000
open Go.RowKit
noncomputable def Ac.py (a : Ag) (m : Int) : Array Value × Int :=
 if Ac.vd a then (if m < 0 ∨ Ac.due a.eo - a.pd < m then (Ag.z, 191) else (Ag.raw a.nm a.rc a.bs a.ec (a.pd + m) a.un, 0)) else (Ag.z, 190)
set_option maxHeartbeats 8000000 in
theorem pay_any (a : Ag) (hnm : a.nm.size ≤ 9223372036854775807) (m : Int) (R : Array Value) (E : Int) (hr : Hid ((R, E) = Ac.py a m)) (w : World) :
    Calls Tryz.prog 15 #[.agg a.c, .int .i64 m] w fun r w' => r = .returned (.tuple #[.agg R, .int .i64 E]) ∧ Below w.heap.size w w' := by
 have HM := Mem.start w
 have zz := Ag.za_z
 have sz := Ag.sa_z
 have lz := Ag.la_z
 obtain ⟨n, e, hb⟩ : ∃ n e, Hid ((n, e) = Ac.bk a) := ⟨_, _, Lib.hid rfl⟩
 have BK := fun w => booked_any a hnm n e hb w
 have h := hr.out
 unfold Ac.py at h
 have hb2 := hb.out
 unfold Ac.bk at hb2
 have la : LA 31 a.c 0 (.agg a.c) := Ag.rla a.hr.size a.he.size
 have f4 : LA 3 a.c 134 (.int .i64 a.pd) := (Ag.fpd a.hr.size a.he.size).la
 have s4 : SA 3 a.c 134 (.int .i64 (a.pd + m)) (Ag.raw a.nm a.rc a.bs a.ec (a.pd + m) a.un) := Ag.spd a.hr.size a.he.size (a.pd + m)
 have lx := Ag.rla (nm := a.nm) (bs := a.bs) (pd := a.pd + m) (un := a.un) a.hr.size a.he.size
 have sx := Ag.rsa (nm := a.nm) (bs := a.bs) (pd := a.pd + m) (un := a.un) a.hr.size a.he.size a.hr.one a.he.one Ag.z_size
 cases hv : Ac.vd a with
 | false =>
  rw [hv] at h hb2
  obtain ⟨rfl, rfl⟩ : R = Ag.z ∧ E = 190 := Prod.mk.inj h
  obtain ⟨rfl, rfl⟩ : n = 0 ∧ e = 190 := Prod.mk.inj hb2
  clear h hr hb hb2 hv s4 sx lx
  generalize Ag.c a = A at *
  go_enter Tryz.func15, Tryz.ntmps15
  go_wp2_with (first | (go_at_call 13; ((with_reducible refine (BK _).mono ?_); rintro e9 w2 ⟨rfl, hL⟩; replace HM := HM.call hL; clear hL)) | (first | ((with_reducible refine g_ld ?_); refine a_ld HM ?_) | ((with_reducible refine g_st ?_); refine a_st HM ?_; clear HM; intro w1 HM) | ((with_reducible refine g_al ?_); refine a_al HM ?_; clear HM; intro bk w1 HM) | ((with_reducible refine g_bx ?_); refine a_bx HM ?_; clear HM; intro bk w1 HM) | ((with_reducible refine g_bld ?_); refine a_bld ?_)))
  obtain ⟨b4, rfl⟩ := HM.nm0
  refine bodyPost_ret (r_ct (b := b4) (k := 0) rfl rfl (HM.get (by ((repeat (first | exact Look.here | refine Look.there ?_)); done))) lz) rfl ⟨rfl, HM.low⟩
 | true =>
  rw [hv] at h hb2
  obtain ⟨r, x, hk⟩ := Ac.ok_of hv
  have h1 := hk.p0
  have h2 := hk.p1
  have h3 := Ac.rhe_lim hk.x1
  obtain ⟨rfl, rfl⟩ : n = Ac.due a.eo - a.pd ∧ e = 0 := Prod.mk.inj hb2
  rw [hk.eo] at h BK
  replace h : (R, E) = if m < 0 ∨ Ac.rhe x - a.pd < m then (Ag.z, 191) else (Ag.raw a.nm a.rc a.bs a.ec (a.pd + m) a.un, 0) := h
  replace BK : ∀ w, Calls Tryz.prog 13 #[.agg a.c] w fun r w' => r = .returned (.tuple #[.int .i64 (Ac.rhe x - a.pd), .int .i64 0]) ∧ Below w.heap.size w w' := BK
  obtain ⟨q, hq⟩ : ∃ q, q = Ac.rhe x - a.pd := ⟨_, rfl⟩
  rw [← hq] at h BK
  have hq1 : 0 ≤ a.pd ∧ a.pd + q ≤ 1000000000000000 := by omega
  clear hb hb2 hr hv hk h1 h2 h3 hq
  obtain ⟨h4, h5⟩ := hq1
  generalize Ag.raw a.nm a.rc a.bs a.ec (a.pd + m) a.un = X at *
  generalize a.pd = p at *
  generalize Ag.c a = A at *
  by_cases g1 : m < 0
  ·rw [if_pos (.inl g1)] at h
   obtain ⟨rfl, rfl⟩ := Prod.mk.inj h
   clear h s4 sx lx
   go_enter Tryz.func15, Tryz.ntmps15
   go_wp2_with (first | (go_at_call 13; ((with_reducible refine (BK _).mono ?_); rintro e9 w2 ⟨rfl, hL⟩; replace HM := HM.call hL; clear hL)) | (first | ((with_reducible refine g_ld ?_); refine a_ld HM ?_) | ((with_reducible refine g_st ?_); refine a_st HM ?_; clear HM; intro w1 HM) | ((with_reducible refine g_al ?_); refine a_al HM ?_; clear HM; intro bk w1 HM) | ((with_reducible refine g_bx ?_); refine a_bx HM ?_; clear HM; intro bk w1 HM) | ((with_reducible refine g_bld ?_); refine a_bld ?_)))
   obtain ⟨b4, rfl⟩ := HM.nm0
   refine bodyPost_ret (r_ct (b := b4) (k := 0) rfl rfl (HM.get (by ((repeat (first | exact Look.here | refine Look.there ?_)); done))) lz) rfl ⟨rfl, HM.low⟩
  ·by_cases g2 : q < m
   ·rw [if_pos (.inr g2)] at h
    obtain ⟨rfl, rfl⟩ := Prod.mk.inj h
    clear h s4 sx lx
    go_enter Tryz.func15, Tryz.ntmps15
    go_wp2_with (first | (go_at_call 13; ((with_reducible refine (BK _).mono ?_); rintro e9 w2 ⟨rfl, hL⟩; replace HM := HM.call hL; clear hL)) | (first | ((with_reducible refine g_ld ?_); refine a_ld HM ?_) | ((with_reducible refine g_st ?_); refine a_st HM ?_; clear HM; intro w1 HM) | ((with_reducible refine g_al ?_); refine a_al HM ?_; clear HM; intro bk w1 HM) | ((with_reducible refine g_bx ?_); refine a_bx HM ?_; clear HM; intro bk w1 HM) | ((with_reducible refine g_bld ?_); refine a_bld ?_)))
    obtain ⟨b4, rfl⟩ := HM.nm0
    refine bodyPost_ret (r_ct (b := b4) (k := 0) rfl rfl (HM.get (by ((repeat (first | exact Look.here | refine Look.there ?_)); done))) lz) rfl ⟨rfl, HM.low⟩
   ·rw [if_neg (by omega)] at h
    obtain ⟨rfl, rfl⟩ := Prod.mk.inj h
    clear h
    have h6 : 0 ≤ p + m := by omega
    have h7 : p + m ≤ 1000000000000000 := by omega
    clear h5
    go_enter Tryz.func15, Tryz.ntmps15
    go_wp2_with (first | (go_at_call 13; ((with_reducible refine (BK _).mono ?_); rintro e9 w2 ⟨rfl, hL⟩; replace HM := HM.call hL; clear hL)) | (first | ((with_reducible refine g_ld ?_); refine a_ld HM ?_) | ((with_reducible refine g_st ?_); refine a_st HM ?_; clear HM; intro w1 HM) | ((with_reducible refine g_al ?_); refine a_al HM ?_; clear HM; intro bk w1 HM) | ((with_reducible refine g_bx ?_); refine a_bx HM ?_; clear HM; intro bk w1 HM) | ((with_reducible refine g_bld ?_); refine a_bld ?_)))
    obtain ⟨b4, rfl⟩ := HM.nm0
    refine bodyPost_ret (r_ct (b := b4) (k := 0) rfl rfl (HM.get (by ((repeat (first | exact Look.here | refine Look.there ?_)); done))) lx) rfl ⟨rfl, HM.low⟩
set_option maxHeartbeats 8000000 in
theorem rpay_any (a : Ag) (m : Int) (R : Array Value) (E : Int) (hr : Hid ((R, E) = Ac.py a m)) (w : World) :
    Calls Tryz.prog 16 #[.agg a.c, .int .i64 m] w fun r w' => r = .returned (.tuple #[.agg R, .int .i64 E]) ∧ Below w.heap.size w w' := by
 have HM := Mem.start w
 have zz := Ag.za_z
 have sz := Ag.sa_z
 have lz := Ag.la_z
 obtain ⟨n, e, hb⟩ : ∃ n e, Hid ((n, e) = Ac.bk a) := ⟨_, _, Lib.hid rfl⟩
 have BK := fun w => rbooked_any a n e hb w
 have h := hr.out
 unfold Ac.py at h
 have hb2 := hb.out
 unfold Ac.bk at hb2
 have la : LA 31 a.c 0 (.agg a.c) := Ag.rla a.hr.size a.he.size
 have f4 : LA 3 a.c 134 (.int .i64 a.pd) := (Ag.fpd a.hr.size a.he.size).la
 have s4 : SA 3 a.c 134 (.int .i64 (a.pd + m)) (Ag.raw a.nm a.rc a.bs a.ec (a.pd + m) a.un) := Ag.spd a.hr.size a.he.size (a.pd + m)
 have lx := Ag.rla (nm := a.nm) (bs := a.bs) (pd := a.pd + m) (un := a.un) a.hr.size a.he.size
 have sx := Ag.rsa (nm := a.nm) (bs := a.bs) (pd := a.pd + m) (un := a.un) a.hr.size a.he.size a.hr.one a.he.one Ag.z_size
 cases hv : Ac.vd a with
 | false =>
  rw [hv] at h hb2
  obtain ⟨rfl, rfl⟩ : R = Ag.z ∧ E = 190 := Prod.mk.inj h
  obtain ⟨rfl, rfl⟩ : n = 0 ∧ e = 190 := Prod.mk.inj hb2
  clear h hr hb hb2 hv s4 sx lx
  generalize Ag.c a = A at *
  go_enter Tryz.func16, Tryz.ntmps16
  go_wp2_with (first | (go_at_call 14; ((with_reducible refine (BK _).mono ?_); rintro e9 w2 ⟨rfl, hL⟩; replace HM := HM.call hL; clear hL)) | (first | ((with_reducible refine g_ld ?_); refine a_ld HM ?_) | ((with_reducible refine g_st ?_); refine a_st HM ?_; clear HM; intro w1 HM) | ((with_reducible refine g_al ?_); refine a_al HM ?_; clear HM; intro bk w1 HM) | ((with_reducible refine g_bx ?_); refine a_bx HM ?_; clear HM; intro bk w1 HM) | ((with_reducible refine g_bld ?_); refine a_bld ?_)))
  obtain ⟨b4, rfl⟩ := HM.nm0
  refine bodyPost_ret (r_ct (b := b4) (k := 0) rfl rfl (HM.get (by ((repeat (first | exact Look.here | refine Look.there ?_)); done))) lz) rfl ⟨rfl, HM.low⟩
 | true =>
  rw [hv] at h hb2
  obtain ⟨r, x, hk⟩ := Ac.ok_of hv
  have h1 := hk.p0
  have h2 := hk.p1
  have h3 := Ac.rhe_lim hk.x1
  obtain ⟨rfl, rfl⟩ : n = Ac.due a.eo - a.pd ∧ e = 0 := Prod.mk.inj hb2
  rw [hk.eo] at h BK
  replace h : (R, E) = if m < 0 ∨ Ac.rhe x - a.pd < m then (Ag.z, 191) else (Ag.raw a.nm a.rc a.bs a.ec (a.pd + m) a.un, 0) := h
  replace BK : ∀ w, Calls Tryz.prog 14 #[.agg a.c] w fun r w' => r = .returned (.tuple #[.int .i64 (Ac.rhe x - a.pd), .int .i64 0]) ∧ Below w.heap.size w w' := BK
  obtain ⟨q, hq⟩ : ∃ q, q = Ac.rhe x - a.pd := ⟨_, rfl⟩
  rw [← hq] at h BK
  have hq1 : 0 ≤ a.pd ∧ a.pd + q ≤ 1000000000000000 := by omega
  clear hb hb2 hr hv hk h1 h2 h3 hq
  obtain ⟨h4, h5⟩ := hq1
  generalize Ag.raw a.nm a.rc a.bs a.ec (a.pd + m) a.un = X at *
  generalize a.pd = p at *
  generalize Ag.c a = A at *
  by_cases g1 : m < 0
  ·rw [if_pos (.inl g1)] at h
   obtain ⟨rfl, rfl⟩ := Prod.mk.inj h
   clear h s4 sx lx
   go_enter Tryz.func16, Tryz.ntmps16
   go_wp2_with (first | (go_at_call 14; ((with_reducible refine (BK _).mono ?_); rintro e9 w2 ⟨rfl, hL⟩; replace HM := HM.call hL; clear hL)) | (first | ((with_reducible refine g_ld ?_); refine a_ld HM ?_) | ((with_reducible refine g_st ?_); refine a_st HM ?_; clear HM; intro w1 HM) | ((with_reducible refine g_al ?_); refine a_al HM ?_; clear HM; intro bk w1 HM) | ((with_reducible refine g_bx ?_); refine a_bx HM ?_; clear HM; intro bk w1 HM) | ((with_reducible refine g_bld ?_); refine a_bld ?_)))
   obtain ⟨b4, rfl⟩ := HM.nm0
   refine bodyPost_ret (r_ct (b := b4) (k := 0) rfl rfl (HM.get (by ((repeat (first | exact Look.here | refine Look.there ?_)); done))) lz) rfl ⟨rfl, HM.low⟩
  ·by_cases g2 : q < m
   ·rw [if_pos (.inr g2)] at h
    obtain ⟨rfl, rfl⟩ := Prod.mk.inj h
    clear h s4 sx lx
    go_enter Tryz.func16, Tryz.ntmps16
    go_wp2_with (first | (go_at_call 14; ((with_reducible refine (BK _).mono ?_); rintro e9 w2 ⟨rfl, hL⟩; replace HM := HM.call hL; clear hL)) | (first | ((with_reducible refine g_ld ?_); refine a_ld HM ?_) | ((with_reducible refine g_st ?_); refine a_st HM ?_; clear HM; intro w1 HM) | ((with_reducible refine g_al ?_); refine a_al HM ?_; clear HM; intro bk w1 HM) | ((with_reducible refine g_bx ?_); refine a_bx HM ?_; clear HM; intro bk w1 HM) | ((with_reducible refine g_bld ?_); refine a_bld ?_)))
    obtain ⟨b4, rfl⟩ := HM.nm0
    refine bodyPost_ret (r_ct (b := b4) (k := 0) rfl rfl (HM.get (by ((repeat (first | exact Look.here | refine Look.there ?_)); done))) lz) rfl ⟨rfl, HM.low⟩
   ·rw [if_neg (by omega)] at h
    obtain ⟨rfl, rfl⟩ := Prod.mk.inj h
    clear h
    have h6 : 0 ≤ p + m := by omega
    have h7 : p + m ≤ 1000000000000000 := by omega
    clear h5
    go_enter Tryz.func16, Tryz.ntmps16
    go_wp2_with (first | (go_at_call 14; ((with_reducible refine (BK _).mono ?_); rintro e9 w2 ⟨rfl, hL⟩; replace HM := HM.call hL; clear hL)) | (first | ((with_reducible refine g_ld ?_); refine a_ld HM ?_) | ((with_reducible refine g_st ?_); refine a_st HM ?_; clear HM; intro w1 HM) | ((with_reducible refine g_al ?_); refine a_al HM ?_; clear HM; intro bk w1 HM) | ((with_reducible refine g_bx ?_); refine a_bx HM ?_; clear HM; intro bk w1 HM) | ((with_reducible refine g_bld ?_); refine a_bld ?_)))
    obtain ⟨b4, rfl⟩ := HM.nm0
    refine bodyPost_ret (r_ct (b := b4) (k := 0) rfl rfl (HM.get (by ((repeat (first | exact Look.here | refine Look.there ?_)); done))) lx) rfl ⟨rfl, HM.low⟩
end Go.Proofs.YtmbjaaaeekacfaaGreatDoor
namespace Go.Proofs.YtmbjaaaeekacfaaGreatDoor
set_option maxRecDepth 8000
open Go.RowKit
theorem Ac.pct_div {r : Rat} (h : Ac.Pct (some r)) : ∃ q : Int, r = Rat.divInt q 100000000 := by
 obtain ⟨_, _, h3, _⟩ := h
 unfold Ac.re at h3
 generalize hy : r * ((100 : Int) : Rat) = y at h3
 have hd := Ac.den_pos y
 have e : Ac.p10 6 = 1000000 := by decide
 rw [e] at h3
 refine ⟨y.num * 1000000 / y.den, ?_⟩
 obtain ⟨q, hq⟩ : ∃ q, q = y.num * 1000000 / y.den := ⟨_, rfl⟩
 rw [← hq]
 have h4 : y.num * 1000000 = q * y.den := by
  have := Int.mul_ediv_add_emod (y.num * 1000000) y.den
  rw [← hq, h3, Int.add_zero] at this
  rw [← this, Int.mul_comm]
 have h5 : y = Rat.divInt q 1000000 := by
  conv => lhs; rw [← Rat.num_divInt_den y]
  rw [Rat.divInt_eq_divInt_iff (Rt.den_ne y) (by decide)]
  rw [h4]
 rw [Rat.divInt_eq_div] at h5 ⊢
 rw [← hy] at h5
 have e1 : ((100 : Int) : Rat) = 100 := rfl
 have e2 : ((1000000 : Int) : Rat) = 1000000 := rfl
 have e3 : ((100000000 : Int) : Rat) = 100000000 := rfl
 rw [e1, e2] at h5
 rw [e3]
 grind
theorem Ac.rate_bd {r : Rat} (h : Ac.Pct (some r)) (h0 : 0 ≤ r) (h1 : r ≤ 1) : Rt.Bd r 28 28 := by
 obtain ⟨q, hq⟩ := Ac.pct_div h
 have e := hq
 rw [Rat.divInt_eq_div] at e
 have e3 : ((100000000 : Int) : Rat) = 100000000 := rfl
 rw [e3] at e
 have hq0 : ((0 : Int) : Rat) ≤ ((q : Int) : Rat) := by
  have : ((0 : Int) : Rat) = 0 := rfl
  grind
 have hq1 : ((q : Int) : Rat) ≤ ((100000000 : Int) : Rat) := by rw [e3]; grind
 rw [Rat.intCast_le_intCast] at hq0 hq1
 have e28 : Bg.p2 28 = 268435456 := by unfold Bg.p2; rfl
 rw [hq]
 exact Rt.Bd.divInt (by decide) (by omega) (by rw [e28]; decide)
theorem Ac.base_bd {b : Int} (h0 : 0 ≤ b) (h1 : b ≤ 1000000000000000) : Rt.Bd ((b : Int) : Rat) 50 1 := by
 rw [Rt.int_divInt]
 have e50 : Bg.p2 50 = 1125899906842624 := by unfold Bg.p2; rfl
 have e1 : Bg.p2 1 = 2 := by unfold Bg.p2; rfl
 exact Rt.Bd.divInt (by decide) (by omega) (by rw [e1]; decide)
theorem Ac.Ok.rate {a : Ag} {r x : Rat} (h : Ac.Ok a r x) : Ac.Pct (some r) ∧ 0 ≤ r ∧ r ≤ 1 := by
 have h1 := h.tm
 unfold Ac.tm at h1
 simp only [Bool.and_eq_true] at h1
 rw [h.ro] at h1
 have h2 := Ac.btw_iff.1 h1.2.2.1
 exact ⟨Ac.pctB_iff.1 h1.2.1, h2.1, h2.2⟩
theorem Ac.Ok.bd {a : Ag} {r x : Rat} (h : Ac.Ok a r x) : Rt.Bd r 28 28 := Ac.rate_bd h.rate.1 h.rate.2.1 h.rate.2.2
noncomputable def Ac.sum (a : Ag) (base d9 : Int) : Rat :=
 match a.eo, a.ro with
 | some e, some r => e + r * Dy.frac a.bs a.un d9 * ((base : Int) : Rat)
 | _, _ => 0
theorem Ac.Ok.sum {a : Ag} {r x : Rat} (h : Ac.Ok a r x) (base d9 : Int) : Ac.sum a base d9 = x + r * Dy.frac a.bs a.un d9 * ((base : Int) : Rat) := by
 unfold Ac.sum; rw [h.eo, h.ro]
open Classical in
noncomputable def Ac.ac (a : Ag) (base d9 : Int) : Array Value × Int :=
 if Ac.vd a then
  (if base < 0 ∨ 1000000000000000 < base then (Ag.z, 33)
  else if Dy.err a.bs a.un d9 = 0 then
   (if Rt.Fit (Ac.sum a base d9) then
    (if Ac.btw (some (Ac.sum a base d9)) 1000000000000000 then (Ag.raw a.nm a.rc a.bs (Rt.qA (Ac.sum a base d9)) a.pd d9, 0) else (Ag.z, 33))
   else (Ag.z, 10))
  else (Ag.z, Dy.err a.bs a.un d9))
 else (Ag.z, 190)
theorem Ac.prod_div (r f : Rat) (b : Int) : r * f * ((b : Int) : Rat) = Rat.divInt (r.num * f.num * b) (r.den * f.den) := by
 rw [Rt.mul_div r f, Rt.int_divInt b, Rat.divInt_mul_divInt, Int.mul_one]
set_option maxHeartbeats 2000000 in
theorem aprod_z (p d z : Int) (hp : p.natAbs < Bg.lim) (hd : d.natAbs < Bg.lim) (hz : Hid (z = p * d)) (hl : z.natAbs < Bg.lim) (w : World) :
    Calls Tryz.prog 46 #[.agg (Bg.zA p), .agg (Bg.zA d)] w fun r w' => r = .returned (.agg (Bg.zA z)) ∧ Below w.heap.size w w' := by
 have HM := Mem.start w
 have zi := za_int
 have k1 := la_z p
 have k2 := la_z d
 have sz := sa_z z (c := Bg.zA 0) (zA_size 0)
 have ML := fun w => mul_z p d z 0 z hp hd hz (Lib.hid (Ac.resZ hl)) (Lib.hid (Ac.resE hl)) w
 go_enter Tryz.func46, Tryz.ntmps46
 go_wp2_with (first | (go_at_call 90; ((with_reducible refine (ML _).mono ?_); rintro e9 w2 ⟨rfl, hL⟩; replace HM := HM.call hL; clear hL)) | (first | ((with_reducible refine g_ld ?_); refine a_ld HM ?_) | ((with_reducible refine g_st ?_); refine a_st HM ?_; clear HM; intro w1 HM) | ((with_reducible refine g_al ?_); refine a_al HM ?_; clear HM; intro bk w1 HM) | ((with_reducible refine g_bx ?_); refine a_bx HM ?_; clear HM; intro bk w1 HM)))
 obtain ⟨b4, rfl⟩ := HM.nm1
 refine bodyPost_ret (r_c (b := b4) (k := 0) rfl rfl (HM.get (by ((repeat (first | exact Look.here | refine Look.there ?_)); done))) (la_z _)) rfl ⟨rfl, HM.low⟩
end Go.Proofs.YtmbjaaaeekacfaaGreatDoor
namespace Go.Proofs.YtmbjaaaeekacfaaGreatDoor
set_option maxRecDepth 8000
open Go.RowKit
theorem Ag.raw_split (nm : ByteArray) (r : Rat) (bs : Int) (ec : Array Value) (pd un : Int) : Ag.raw nm (Rt.qA r) bs ec pd un = rowsOf [#[.string nm], Bg.zA r.num, Bg.zA r.den, #[.int .i64 bs], ec, #[.int .i64 pd], #[.int .i64 un]] := by
 rw [Ag.raw_rows, qA_rZ, rZ_ratA, zA_int, zA_int]
 unfold Bg.ratA
 simp [rowsOf]
theorem Ag.frn (nm : ByteArray) (r : Rat) (bs : Int) (ec : Array Value) (pd un : Int) : FA 25 (Ag.raw nm (Rt.qA r) bs ec pd un) 1 (.agg (Bg.zA r.num)) := by
 rw [Ag.raw_split]; exact fa_agg 1 (by kernel_rfl) (by rw [zA_size]; exact sT_int) rfl (by simp [offs])
theorem Ag.frd (nm : ByteArray) (r : Rat) (bs : Int) (ec : Array Value) (pd un : Int) : FA 25 (Ag.raw nm (Rt.qA r) bs ec pd un) 34 (.agg (Bg.zA r.den)) := by
 rw [Ag.raw_split]; exact fa_agg 2 (by kernel_rfl) (by rw [zA_size]; exact sT_int) rfl (by simp [offs, zA_size])
theorem Dy.ok_err {b f t : Int} (h : Dy.err b f t = 0) : Dy.Ok b f t := Dy.err_zero.1 h
set_option maxHeartbeats 16000000 in
theorem accrue_any (a : Ag) (hnm : a.nm.size ≤ 9223372036854775807) (base d9 : Int) (R : Array Value) (E : Int) (hr : Hid ((R, E) = Ac.ac a base d9)) (w : World) :
    Calls Tryz.prog 11 #[.agg a.c, .int .i64 base, .int .i64 d9] w fun r w' => r = .returned (.tuple #[.agg R, .int .i64 E]) ∧ Below w.heap.size w w' := by
 have HM := Mem.start w
 have zz := Ag.za_z
 have sz := Ag.sa_z
 have lz := Ag.la_z
 obtain ⟨v, hvv⟩ : ∃ v, Hid (v = Ac.vd a) := ⟨_, Lib.hid rfl⟩
 have V := fun w => avalid_any a hnm v hvv w
 have h := hr.out
 unfold Ac.ac at h
 rw [← hvv.out] at h
 have la : LA 31 a.c 0 (.agg a.c) := Ag.rla a.hr.size a.he.size
 cases v with
 | false =>
  obtain ⟨rfl, rfl⟩ : R = Ag.z ∧ E = 190 := Prod.mk.inj h
  clear h hr hvv
  generalize Ag.c a = A at *
  go_enter Tryz.func11, Tryz.ntmps11
  go_wp2_with (first | (go_at_call 18; ((with_reducible refine (V _).mono ?_); rintro e9 w2 ⟨rfl, hL⟩; replace HM := HM.call hL; clear hL)) | (first | ((with_reducible refine g_ld ?_); refine a_ld HM ?_) | ((with_reducible refine g_st ?_); refine a_st HM ?_; clear HM; intro w1 HM) | ((with_reducible refine g_al ?_); refine a_al HM ?_; clear HM; intro bk w1 HM) | ((with_reducible refine g_bx ?_); refine a_bx HM ?_; clear HM; intro bk w1 HM) | ((with_reducible refine g_bld ?_); refine a_bld ?_)))
  obtain ⟨b6, rfl⟩ := HM.nm0
  refine bodyPost_ret (r_ct (b := b6) (k := 0) rfl rfl (HM.get (by ((repeat (first | exact Look.here | refine Look.there ?_)); done))) lz) rfl ⟨rfl, HM.low⟩
 | true =>
  rw [if_pos rfl] at h
  by_cases g1 : base < 0
  ·rw [if_pos (.inl g1)] at h
   obtain ⟨rfl, rfl⟩ := Prod.mk.inj h
   clear h hr hvv
   generalize Ag.c a = A at *
   go_enter Tryz.func11, Tryz.ntmps11
   go_wp2_with (first | (go_at_call 18; ((with_reducible refine (V _).mono ?_); rintro e9 w2 ⟨rfl, hL⟩; replace HM := HM.call hL; clear hL)) | (first | ((with_reducible refine g_ld ?_); refine a_ld HM ?_) | ((with_reducible refine g_st ?_); refine a_st HM ?_; clear HM; intro w1 HM) | ((with_reducible refine g_al ?_); refine a_al HM ?_; clear HM; intro bk w1 HM) | ((with_reducible refine g_bx ?_); refine a_bx HM ?_; clear HM; intro bk w1 HM) | ((with_reducible refine g_bld ?_); refine a_bld ?_)))
   obtain ⟨b6, rfl⟩ := HM.nm0
   refine bodyPost_ret (r_ct (b := b6) (k := 0) rfl rfl (HM.get (by ((repeat (first | exact Look.here | refine Look.there ?_)); done))) lz) rfl ⟨rfl, HM.low⟩
  by_cases g2 : 1000000000000000 < base
  ·rw [if_pos (.inr g2)] at h
   obtain ⟨rfl, rfl⟩ := Prod.mk.inj h
   clear h hr hvv
   generalize Ag.c a = A at *
   go_enter Tryz.func11, Tryz.ntmps11
   go_wp2_with (first | (go_at_call 18; ((with_reducible refine (V _).mono ?_); rintro e9 w2 ⟨rfl, hL⟩; replace HM := HM.call hL; clear hL)) | (first | ((with_reducible refine g_ld ?_); refine a_ld HM ?_) | ((with_reducible refine g_st ?_); refine a_st HM ?_; clear HM; intro w1 HM) | ((with_reducible refine g_al ?_); refine a_al HM ?_; clear HM; intro bk w1 HM) | ((with_reducible refine g_bx ?_); refine a_bx HM ?_; clear HM; intro bk w1 HM) | ((with_reducible refine g_bld ?_); refine a_bld ?_)))
   obtain ⟨b6, rfl⟩ := HM.nm0
   refine bodyPost_ret (r_ct (b := b6) (k := 0) rfl rfl (HM.get (by ((repeat (first | exact Look.here | refine Look.there ?_)); done))) lz) rfl ⟨rfl, HM.low⟩
  rw [if_neg (by omega)] at h
  have f2 : LA 3 a.c 67 (.int .i64 a.bs) := (Ag.fbs a.hr.size).la
  have f5 : LA 3 a.c 135 (.int .i64 a.un) := (Ag.fun_ a.hr.size a.he.size).la
  have FR := fun w => fraction_any a.bs a.un d9 w
  by_cases g3 : Dy.err a.bs a.un d9 = 0
  case neg =>
   rw [if_neg g3] at h
   obtain ⟨rfl, rfl⟩ := Prod.mk.inj h
   rw [show Dy.fc a.bs a.un d9 = Bg.rZ 0 0 from by unfold Dy.fc; rw [if_neg g3]] at FR
   have g4 : (Dy.err a.bs a.un d9 != 0) = true := by simpa using g3
   have zr := za_rat
   have sr := sa_rz 0 0 (c := Bg.rZ 0 0) (rZ_size 0 0)
   clear h hr hvv g3
   generalize Dy.err a.bs a.un d9 = E at *
   generalize a.bs = bs at *
   generalize a.un = un at *
   generalize Ag.c a = A at *
   go_enter Tryz.func11, Tryz.ntmps11
   go_wp2_with (first | (go_at_call 18; ((with_reducible refine (V _).mono ?_); rintro e9 w2 ⟨rfl, hL⟩; replace HM := HM.call hL; clear hL)) | (go_at_call 44; ((with_reducible refine (FR _).mono ?_); rintro e9 w2 ⟨rfl, hL⟩; replace HM := HM.call hL; clear hL)) | (first | ((with_reducible refine g_ld ?_); refine a_ld HM ?_) | ((with_reducible refine g_st ?_); refine a_st HM ?_; clear HM; intro w1 HM) | ((with_reducible refine g_al ?_); refine a_al HM ?_; clear HM; intro bk w1 HM) | ((with_reducible refine g_bx ?_); refine a_bx HM ?_; clear HM; intro bk w1 HM) | ((with_reducible refine g_bld ?_); refine a_bld ?_)))
   obtain ⟨b6, rfl⟩ := HM.nm1
   refine bodyPost_ret (r_ct (b := b6) (k := 0) rfl rfl (HM.get (by ((repeat (first | exact Look.here | refine Look.there ?_)); done))) lz) rfl ⟨rfl, HM.low⟩
  case pos =>
   rw [if_pos g3] at h
   have hok := Dy.ok_err g3
   rw [Dy.fc_ok hok, g3] at FR
   have hfb := Dy.frac_bd hok
   obtain ⟨f, hf⟩ : ∃ f, Hid (f = Dy.frac a.bs a.un d9) := ⟨_, Lib.hid rfl⟩
   obtain ⟨r, x, hk⟩ := Ac.ok_of hvv.out.symm
   have hsum := hk.sum base d9
   rw [← hf.out] at FR hfb hsum
   rw [hsum] at h
   obtain ⟨hx, hec⟩ := hk.fit
   obtain ⟨hrf, hrc⟩ := hk.fitr
   have hrb := hk.bd
   have hbb := Ac.base_bd (show 0 ≤ base by omega) (show base ≤ 1000000000000000 by omega)
   obtain ⟨m, hm⟩ : ∃ m, Hid (m = r * f * ((base : Int) : Rat)) := ⟨_, Lib.hid rfl⟩
   have hmb : Rt.Bd m 105 47 := by rw [hm.out]; exact (hrb.mul hfb).mul hbb
   rw [← hm.out] at h
   have b1 : (r.num * f.num).natAbs < Bg.p2 55 := Rt.mul_p2 hrb.n hfb.n
   have e50 : Bg.p2 50 = 1125899906842624 := by unfold Bg.p2; rfl
   have b0 : base.natAbs < Bg.p2 50 := by rw [e50]; omega
   have b2 : (r.num * f.num * base).natAbs < Bg.p2 105 := Rt.mul_p2 b1 b0
   have b3 : ((r.den : Int) * f.den).natAbs < Bg.p2 46 := Rt.mul_p2 hrb.dn hfb.dn
   have hQ0 : (r.den : Int) * f.den ≠ 0 := Int.mul_ne_zero (Rt.den_ne r) (Rt.den_ne f)
   have hmq : Hid (m = Rat.divInt (r.num * f.num * base) ((r.den : Int) * f.den)) := Lib.hid (by rw [hm.out, Ac.prod_div])
   have P1 := fun w => aprod_z r.num f.num (r.num * f.num) (Ac.nl hrf) (Ac.nl hfb.fit) (Lib.hid rfl) (Ac.lim_of b1 (by decide)) w
   have lb : base.natAbs < Bg.lim := small_lim (by omega)
   have P2 := fun w => aprod_z (r.num * f.num) base (r.num * f.num * base) (Ac.lim_of b1 (by decide)) lb (Lib.hid rfl) (Ac.lim_of b2 (by decide)) w
   have P3 := fun w => aprod_z (r.den : Int) (f.den : Int) ((r.den : Int) * f.den) (Ac.dl hrf) (Ac.dl hfb.fit) (Lib.hid rfl) (Ac.lim_of b3 (by decide)) w
   have FI := fun w => fromInt_z base (by omega) (by omega) w
   have MK := fun w => make_q (r.num * f.num * base) ((r.den : Int) * f.den) m hQ0 (Nat.lt_of_lt_of_le b2 (Bg.p2_mono (by decide))) (Nat.lt_of_lt_of_le b3 (Bg.p2_mono (by decide))) hmq w
   obtain ⟨D, e2, hD⟩ : ∃ D e2, Hid ((D, e2) = Rt.res (x + m)) := ⟨_, _, Lib.hid rfl⟩
   have AD := fun w => add_r x m D e2 hx hmb.fit hD w
   have fn1 : LA 25 a.c 1 (.agg (Bg.zA r.num)) := by rw [Ag.c_raw, hrc]; exact (Ag.frn _ _ _ _ _ _).la
   have fd1 : LA 25 a.c 34 (.agg (Bg.zA r.den)) := by rw [Ag.c_raw, hrc]; exact (Ag.frd _ _ _ _ _ _).la
   have fe1 : LA 27 a.c 68 (.agg (Rt.qA x)) := by rw [← hec]; exact (Ag.fec a.hr.size a.he.size).la
   have fn2 := la_qnum f
   have fd2 := la_qden f
   have zr := za_rat
   have sf := sa_q f (c := Bg.rZ 0 0) (rZ_size 0 0)
   have lm := la_q m
   have sm := sa_q m (c := Bg.rZ 0 0) (rZ_size 0 0)
   obtain ⟨n1, hn1⟩ : ∃ n1, n1 = r.num * f.num := ⟨_, rfl⟩
   obtain ⟨n2, hn2⟩ : ∃ n2, n2 = n1 * base := ⟨_, rfl⟩
   obtain ⟨n3, hn3⟩ : ∃ n3, n3 = (r.den : Int) * f.den := ⟨_, rfl⟩
   rw [← hn1] at P1 P2 MK
   rw [← hn2] at P2 MK
   rw [← hn3] at P3 MK
   clear b0 b1 b2 b3 e50 hQ0 hmq hn1 hn2 hn3 hr hvv hsum hok hfb hrb hbb hk hrf hm g3 hf lb
   have hD2 : Hid ((¬ Rt.Fit (x + m) → D = Bg.rZ 0 0 ∧ e2 = 10) ∧ (Rt.Fit (x + m) → D = Rt.qA (x + m) ∧ e2 = 0)) := Lib.hid (by
    have := hD.out
    unfold Rt.res at this
    constructor
    ·intro hF; rw [if_neg hF] at this; exact Prod.mk.inj this
    ·intro hF; rw [if_pos hF] at this; exact Prod.mk.inj this)
   have s30 : SA 27 a.c 68 (.agg (Bg.rZ 0 0)) (Ag.raw a.nm a.rc a.bs (Bg.rZ 0 0) a.pd a.un) := Ag.sec a.hr.size a.he.size (rZ_size 0 0) (rZ_one 0 0)
   obtain ⟨y, hy⟩ : ∃ y, y = x + m := ⟨_, rfl⟩
   rw [← hy] at h hD2
   have s31 : SA 27 a.c 68 (.agg (Rt.qA y)) (Ag.raw a.nm a.rc a.bs (Rt.qA y) a.pd a.un) := Ag.sec a.hr.size a.he.size (qA_size y) (qA_one y)
   have ly := (Ag.fec (nm := a.nm) (bs := a.bs) (pd := a.pd) (un := a.un) a.hr.size (qA_size y)).la
   have su := Ag.sun (nm := a.nm) (bs := a.bs) (pd := a.pd) (un := a.un) a.hr.size (qA_size y) d9
   have lx := Ag.rla (nm := a.nm) (bs := a.bs) (pd := a.pd) (un := d9) a.hr.size (qA_size y)
   have sx := Ag.rsa (nm := a.nm) (bs := a.bs) (pd := a.pd) (un := d9) a.hr.size (qA_size y) a.hr.one (qA_one y) Ag.z_size
   have HH := Lib.hid h
   obtain ⟨b, hb⟩ : ∃ b, Hid (b = Ac.btw (some y) 1000000000000000) := ⟨_, Lib.hid rfl⟩
   have BT := fun (hF : Rt.Fit y) w => between_any (some y) (Rt.qA y) ⟨hF, rfl⟩ 1000000000000000 (by decide) (by decide) b hb w
   clear h hD hec hrc hx hmb hy hnm
   generalize Ag.raw a.nm a.rc a.bs (Bg.rZ 0 0) a.pd a.un = Y0 at *
   generalize Ag.raw a.nm a.rc a.bs (Rt.qA y) a.pd a.un = Y1 at *
   generalize Ag.raw a.nm a.rc a.bs (Rt.qA y) a.pd d9 = Y2 at *
   generalize a.bs = bs at *
   generalize a.un = un at *
   generalize Ag.c a = A at *
   go_enter Tryz.func11, Tryz.ntmps11
   go_upto_region 8 with (first | (go_at_call 18; ((with_reducible refine (V _).mono ?_); rintro e9 w2 ⟨rfl, hL⟩; replace HM := HM.call hL; clear hL)) | (go_at_call 44; ((with_reducible refine (FR _).mono ?_); rintro e9 w2 ⟨rfl, hL⟩; replace HM := HM.call hL; clear hL)) | (first | ((with_reducible refine g_ld ?_); refine a_ld HM ?_) | ((with_reducible refine g_st ?_); refine a_st HM ?_; clear HM; intro w1 HM) | ((with_reducible refine g_al ?_); refine a_al HM ?_; clear HM; intro bk w1 HM) | ((with_reducible refine g_bx ?_); refine a_bx HM ?_; clear HM; intro bk w1 HM) | ((with_reducible refine g_bld ?_); refine a_bld ?_)))
   obtain ⟨b8, rfl⟩ := HM.nm0
   obtain ⟨b6, rfl⟩ := HM.nm1
   obtain ⟨b3, rfl⟩ := HM.nm2
   go_cut [9, 10] (fun e p wc => e = .int .i64 0 ∧ ∃ b10, p = .pointer (some ⟨b10, 0, none⟩) ∧ Mem w [] [(b10, Rt.qA m), (b8, Rt.qA f), (b6, Ag.z), (b3, A)] wc)
   case first =>
    refine start_M [20] HM (by kernel_rfl) (fun w0x H9 => ?_)
    replace HM := H9; clear H9
    refine k_fa 0 (heldE HM) ?_
    refine k_fa 1 (heldE HM) ?_
    refine k_ld 2 [5, 7, 8, 14, 15, 16, 17, 18, 20, 21] (heldE HM) ?_
    refine k_fa 3 (heldE HM) ?_
    refine k_ld 4 [5, 7, 8, 14, 15, 16, 17, 18, 20, 21] (heldE HM) ?_
    refine k_mv 6 (heldE HM) ?_
    refine k_fa 9 (heldE HM) ?_
    refine k_fa 10 (heldE HM) ?_
    refine k_ld 11 [14, 15, 16, 17, 18, 20, 21] (heldE HM) ?_
    refine k_fa 12 (heldE HM) ?_
    refine k_ld 13 [14, 15, 16, 17, 18, 20, 21] (heldE HM) ?_
    refine j_two 5 19 ?_ ?_
    ·refine j_call2 (v := ?_) HM ?_ ?_; rotate_left 1; (focus (with_reducible (first | exact P1 _ | exact FI _ | exact P2 _ | exact P3 _ | exact MK _))); clear HM; intro w1 HM
     refine ⟨(heldE HM), ?_⟩
     refine j_two 7 19 ?_ ?_
     ·refine j_call1 (v := ?_) HM ?_ ?_; rotate_left 1; (focus (with_reducible (first | exact P1 _ | exact FI _ | exact P2 _ | exact P3 _ | exact MK _))); clear HM; intro w1 HM
      refine ⟨(heldE HM), ?_⟩
      refine j_two 8 19 ?_ ?_
      ·refine j_call2 (v := ?_) HM ?_ ?_; rotate_left 1; (focus (with_reducible (first | exact P1 _ | exact FI _ | exact P2 _ | exact P3 _ | exact MK _))); clear HM; intro w1 HM
       refine ⟨(heldE HM), ?_⟩
       refine j_two 14 19 ?_ ?_
       ·refine j_call2 (v := ?_) HM ?_ ?_; rotate_left 1; (focus (with_reducible (first | exact P1 _ | exact FI _ | exact P2 _ | exact P3 _ | exact MK _))); clear HM; intro w1 HM
        refine ⟨(heldE HM), ?_⟩
        refine j_two 15 19 ?_ ?_
        ·refine j_call2 (v := ?_) HM ?_ ?_; rotate_left 1; (focus (with_reducible (first | exact P1 _ | exact FI _ | exact P2 _ | exact P3 _ | exact MK _))); clear HM; intro w1 HM
         refine ⟨(heldE HM), ?_⟩
         refine k_mv 16 (heldE HM) ?_
         refine k_ext 17 (heldE HM) ?_
         refine k_ext 18 (heldE HM) ?_
         refine j_one 19 fun K9 hK9 => ?_
         refine j_al HM ?_; clear HM; intro bk w1 HM
         refine hK9 _ _ (heldE HM) ?_; clear hK9 K9
         refine j_one 20 fun K9 hK9 => ?_
         refine j_st HM ?_; clear HM; intro w1 HM
         refine hK9 _ _ heldN ?_; clear hK9 K9
         refine k_mv 21 heldN ?_
         refine wpAnyL_done (by kernel_rfl) ?_ _
         (go_wp2_with fail; go_meet; (case rel => exact ⟨rfl, _, rfl, HM.pick⟩))
        ·refine j_al HM ?_; clear HM; intro bk w1 HM
         refine ⟨(heldE HM), ?_⟩
         refine j_one 15 fun K9 hK9 => ?_
         refine j_call2 (v := ?_) HM ?_ ?_; rotate_left 1; (focus (with_reducible (first | exact P1 _ | exact FI _ | exact P2 _ | exact P3 _ | exact MK _))); clear HM; intro w1 HM
         refine hK9 _ _ (heldE HM) ?_; clear hK9 K9
         refine k_mv 16 (heldE HM) ?_
         refine k_ext 17 (heldE HM) ?_
         refine k_ext 18 (heldE HM) ?_
         refine j_one 20 fun K9 hK9 => ?_
         refine j_st HM ?_; clear HM; intro w1 HM
         refine hK9 _ _ heldN ?_; clear hK9 K9
         refine k_mv 21 heldN ?_
         refine wpAnyL_done (by kernel_rfl) ?_ _
         (go_wp2_with fail; go_meet; (case rel => exact ⟨rfl, _, rfl, HM.pick⟩))
       ·refine j_al HM ?_; clear HM; intro bk w1 HM
        refine ⟨(heldE HM), ?_⟩
        refine j_one 14 fun K9 hK9 => ?_
        refine j_call2 (v := ?_) HM ?_ ?_; rotate_left 1; (focus (with_reducible (first | exact P1 _ | exact FI _ | exact P2 _ | exact P3 _ | exact MK _))); clear HM; intro w1 HM
        refine hK9 _ _ (heldE HM) ?_; clear hK9 K9
        refine j_one 15 fun K9 hK9 => ?_
        refine j_call2 (v := ?_) HM ?_ ?_; rotate_left 1; (focus (with_reducible (first | exact P1 _ | exact FI _ | exact P2 _ | exact P3 _ | exact MK _))); clear HM; intro w1 HM
        refine hK9 _ _ (heldE HM) ?_; clear hK9 K9
        refine k_mv 16 (heldE HM) ?_
        refine k_ext 17 (heldE HM) ?_
        refine k_ext 18 (heldE HM) ?_
        refine j_one 20 fun K9 hK9 => ?_
        refine j_st HM ?_; clear HM; intro w1 HM
        refine hK9 _ _ heldN ?_; clear hK9 K9
        refine k_mv 21 heldN ?_
        refine wpAnyL_done (by kernel_rfl) ?_ _
        (go_wp2_with fail; go_meet; (case rel => exact ⟨rfl, _, rfl, HM.pick⟩))
      ·refine j_al HM ?_; clear HM; intro bk w1 HM
       refine ⟨(heldE HM), ?_⟩
       refine j_one 8 fun K9 hK9 => ?_
       refine j_call2 (v := ?_) HM ?_ ?_; rotate_left 1; (focus (with_reducible (first | exact P1 _ | exact FI _ | exact P2 _ | exact P3 _ | exact MK _))); clear HM; intro w1 HM
       refine hK9 _ _ (heldE HM) ?_; clear hK9 K9
       refine j_one 14 fun K9 hK9 => ?_
       refine j_call2 (v := ?_) HM ?_ ?_; rotate_left 1; (focus (with_reducible (first | exact P1 _ | exact FI _ | exact P2 _ | exact P3 _ | exact MK _))); clear HM; intro w1 HM
       refine hK9 _ _ (heldE HM) ?_; clear hK9 K9
       refine j_one 15 fun K9 hK9 => ?_
       refine j_call2 (v := ?_) HM ?_ ?_; rotate_left 1; (focus (with_reducible (first | exact P1 _ | exact FI _ | exact P2 _ | exact P3 _ | exact MK _))); clear HM; intro w1 HM
       refine hK9 _ _ (heldE HM) ?_; clear hK9 K9
       refine k_mv 16 (heldE HM) ?_
       refine k_ext 17 (heldE HM) ?_
       refine k_ext 18 (heldE HM) ?_
       refine j_one 20 fun K9 hK9 => ?_
       refine j_st HM ?_; clear HM; intro w1 HM
       refine hK9 _ _ heldN ?_; clear hK9 K9
       refine k_mv 21 heldN ?_
       refine wpAnyL_done (by kernel_rfl) ?_ _
       (go_wp2_with fail; go_meet; (case rel => exact ⟨rfl, _, rfl, HM.pick⟩))
     ·refine j_al HM ?_; clear HM; intro bk w1 HM
      refine ⟨(heldE HM), ?_⟩
      refine j_one 7 fun K9 hK9 => ?_
      refine j_call1 (v := ?_) HM ?_ ?_; rotate_left 1; (focus (with_reducible (first | exact P1 _ | exact FI _ | exact P2 _ | exact P3 _ | exact MK _))); clear HM; intro w1 HM
      refine hK9 _ _ (heldE HM) ?_; clear hK9 K9
      refine j_one 8 fun K9 hK9 => ?_
      refine j_call2 (v := ?_) HM ?_ ?_; rotate_left 1; (focus (with_reducible (first | exact P1 _ | exact FI _ | exact P2 _ | exact P3 _ | exact MK _))); clear HM; intro w1 HM
      refine hK9 _ _ (heldE HM) ?_; clear hK9 K9
      refine j_one 14 fun K9 hK9 => ?_
      refine j_call2 (v := ?_) HM ?_ ?_; rotate_left 1; (focus (with_reducible (first | exact P1 _ | exact FI _ | exact P2 _ | exact P3 _ | exact MK _))); clear HM; intro w1 HM
      refine hK9 _ _ (heldE HM) ?_; clear hK9 K9
      refine j_one 15 fun K9 hK9 => ?_
      refine j_call2 (v := ?_) HM ?_ ?_; rotate_left 1; (focus (with_reducible (first | exact P1 _ | exact FI _ | exact P2 _ | exact P3 _ | exact MK _))); clear HM; intro w1 HM
      refine hK9 _ _ (heldE HM) ?_; clear hK9 K9
      refine k_mv 16 (heldE HM) ?_
      refine k_ext 17 (heldE HM) ?_
      refine k_ext 18 (heldE HM) ?_
      refine j_one 20 fun K9 hK9 => ?_
      refine j_st HM ?_; clear HM; intro w1 HM
      refine hK9 _ _ heldN ?_; clear hK9 K9
      refine k_mv 21 heldN ?_
      refine wpAnyL_done (by kernel_rfl) ?_ _
      (go_wp2_with fail; go_meet; (case rel => exact ⟨rfl, _, rfl, HM.pick⟩))
    ·refine j_al HM ?_; clear HM; intro bk w1 HM
     refine ⟨(heldE HM), ?_⟩
     refine j_one 5 fun K9 hK9 => ?_
     refine j_call2 (v := ?_) HM ?_ ?_; rotate_left 1; (focus (with_reducible (first | exact P1 _ | exact FI _ | exact P2 _ | exact P3 _ | exact MK _))); clear HM; intro w1 HM
     refine hK9 _ _ (heldE HM) ?_; clear hK9 K9
     refine j_one 7 fun K9 hK9 => ?_
     refine j_call1 (v := ?_) HM ?_ ?_; rotate_left 1; (focus (with_reducible (first | exact P1 _ | exact FI _ | exact P2 _ | exact P3 _ | exact MK _))); clear HM; intro w1 HM
     refine hK9 _ _ (heldE HM) ?_; clear hK9 K9
     refine j_one 8 fun K9 hK9 => ?_
     refine j_call2 (v := ?_) HM ?_ ?_; rotate_left 1; (focus (with_reducible (first | exact P1 _ | exact FI _ | exact P2 _ | exact P3 _ | exact MK _))); clear HM; intro w1 HM
     refine hK9 _ _ (heldE HM) ?_; clear hK9 K9
     refine j_one 14 fun K9 hK9 => ?_
     refine j_call2 (v := ?_) HM ?_ ?_; rotate_left 1; (focus (with_reducible (first | exact P1 _ | exact FI _ | exact P2 _ | exact P3 _ | exact MK _))); clear HM; intro w1 HM
     refine hK9 _ _ (heldE HM) ?_; clear hK9 K9
     refine j_one 15 fun K9 hK9 => ?_
     refine j_call2 (v := ?_) HM ?_ ?_; rotate_left 1; (focus (with_reducible (first | exact P1 _ | exact FI _ | exact P2 _ | exact P3 _ | exact MK _))); clear HM; intro w1 HM
     refine hK9 _ _ (heldE HM) ?_; clear hK9 K9
     refine k_mv 16 (heldE HM) ?_
     refine k_ext 17 (heldE HM) ?_
     refine k_ext 18 (heldE HM) ?_
     refine j_one 20 fun K9 hK9 => ?_
     refine j_st HM ?_; clear HM; intro w1 HM
     refine hK9 _ _ heldN ?_; clear hK9 K9
     refine k_mv 21 heldN ?_
     refine wpAnyL_done (by kernel_rfl) ?_ _
     (go_wp2_with fail; go_meet; (case rel => exact ⟨rfl, _, rfl, HM.pick⟩))
   case rest =>
    clear HM P1 P2 P3 FI MK FR V fn2 fd2 fn1 fd1
    obtain ⟨rfl, b10, rfl, HM⟩ := hcut
    go_step
    by_cases hF : Rt.Fit y
    case neg =>
     have hR := HH.out
     rw [if_neg hF] at hR
     obtain ⟨rfl, rfl⟩ := Prod.mk.inj hR
     obtain ⟨rfl, rfl⟩ := hD2.out.1 hF
     clear hR HH hD2 hF BT
     go_wp2_with (first | (go_at_call 48; ((with_reducible refine (AD _).mono ?_); rintro e9 w2 ⟨rfl, hL⟩; replace HM := HM.call hL; clear hL)) | (first | ((with_reducible refine g_ld ?_); refine a_ld HM ?_) | ((with_reducible refine g_st ?_); refine a_st HM ?_; clear HM; intro w1 HM) | ((with_reducible refine g_al ?_); refine a_al HM ?_; clear HM; intro bk w1 HM) | ((with_reducible refine g_bx ?_); refine a_bx HM ?_; clear HM; intro bk w1 HM) | ((with_reducible refine g_bld ?_); refine a_bld ?_)))
     refine bodyPost_ret (r_ct (b := b6) (k := 0) rfl rfl (HM.get (by ((repeat (first | exact Look.here | refine Look.there ?_)); done))) lz) rfl ⟨rfl, HM.low⟩
    case pos =>
     have hR := HH.out
     rw [if_pos hF, ← hb.out] at hR
     obtain ⟨rfl, rfl⟩ := hD2.out.2 hF
     replace BT := BT hF
     clear HH hD2 hF hb
     cases b with
     | false =>
      obtain ⟨rfl, rfl⟩ : R = Ag.z ∧ E = 33 := Prod.mk.inj hR
      clear hR
      go_wp2_with (first | (go_at_call 48; ((with_reducible refine (AD _).mono ?_); rintro e9 w2 ⟨rfl, hL⟩; replace HM := HM.call hL; clear hL)) | (go_at_call 40; ((with_reducible refine (BT _).mono ?_); rintro e9 w2 ⟨rfl, hL⟩; replace HM := HM.call hL; clear hL)) | (first | ((with_reducible refine g_ld ?_); refine a_ld HM ?_) | ((with_reducible refine g_st ?_); refine a_st HM ?_; clear HM; intro w1 HM) | ((with_reducible refine g_al ?_); refine a_al HM ?_; clear HM; intro bk w1 HM) | ((with_reducible refine g_bx ?_); refine a_bx HM ?_; clear HM; intro bk w1 HM) | ((with_reducible refine g_bld ?_); refine a_bld ?_)))
      refine bodyPost_ret (r_ct (b := b6) (k := 0) rfl rfl (HM.get (by ((repeat (first | exact Look.here | refine Look.there ?_)); done))) lz) rfl ⟨rfl, HM.low⟩
     | true =>
      obtain ⟨rfl, rfl⟩ : R = Y2 ∧ E = 0 := Prod.mk.inj hR
      clear hR
      go_wp2_with (first | (go_at_call 48; ((with_reducible refine (AD _).mono ?_); rintro e9 w2 ⟨rfl, hL⟩; replace HM := HM.call hL; clear hL)) | (go_at_call 40; ((with_reducible refine (BT _).mono ?_); rintro e9 w2 ⟨rfl, hL⟩; replace HM := HM.call hL; clear hL)) | (first | ((with_reducible refine g_ld ?_); refine a_ld HM ?_) | ((with_reducible refine g_st ?_); refine a_st HM ?_; clear HM; intro w1 HM) | ((with_reducible refine g_al ?_); refine a_al HM ?_; clear HM; intro bk w1 HM) | ((with_reducible refine g_bx ?_); refine a_bx HM ?_; clear HM; intro bk w1 HM) | ((with_reducible refine g_bld ?_); refine a_bld ?_)))
      refine bodyPost_ret (r_ct (b := b6) (k := 0) rfl rfl (HM.get (by ((repeat (first | exact Look.here | refine Look.there ?_)); done))) lx) rfl ⟨rfl, HM.low⟩
end Go.Proofs.YtmbjaaaeekacfaaGreatDoor
