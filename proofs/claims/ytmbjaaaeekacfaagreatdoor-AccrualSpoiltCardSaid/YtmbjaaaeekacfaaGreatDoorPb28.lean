/- Walks, and plain facts for them. -/
import Derived.Test.YtmbjaaaeekacfaaGreatDoorPb23
import Derived.Test.YtmbjaaaeekacfaaGreatDoorPb25
import Derived.Test.YtmbjaaaeekacfaaGreatDoorPb27
namespace Go.Proofs.YtmbjaaaeekacfaaGreatDoor
set_option maxRecDepth 8000
open Go.RowKit
open Classical in
noncomputable def Ac.pctB (o : Option Rat) : Bool := decide (Ac.Pct o)
open Classical in
theorem Ac.pctB_iff {o : Option Rat} : Ac.pctB o = true ↔ Ac.Pct o := by unfold Ac.pctB; exact decide_eq_true_iff
theorem Ac.pctB_t {o : Option Rat} (h : Ac.Pct o) : Ac.pctB o = true := Ac.pctB_iff.2 h
theorem Ac.pctB_f {o : Option Rat} (h : ¬ Ac.Pct o) : Ac.pctB o = false := by
 cases e : Ac.pctB o with
 | false => rfl
 | true => exact absurd (Ac.pctB_iff.1 e) h
noncomputable def Ac.tm (nm : ByteArray) (o : Option Rat) (bs : Int) : Bool := Nm.usableB nm && (Ac.pctB o && (Ac.btw o 1 && decide (1 ≤ bs ∧ bs ≤ 4)))
@[irreducible] def Ag.z : Array Value := Ag.raw { data := #[] } (Bg.rZ 0 0) 0 (Bg.rZ 0 0) 0 0
theorem Ag.z_eq : Ag.z = Ag.raw { data := #[] } (Bg.rZ 0 0) 0 (Bg.rZ 0 0) 0 0 := by unfold Ag.z; rfl
theorem Ag.z_size : Ag.z.size = 136 := by rw [Ag.z_eq]; exact Ag.raw_size (rZ_size 0 0) (rZ_size 0 0)
theorem Ag.z_one : Ag.z.all (·.oneCell') = true := by rw [Ag.z_eq]; exact Ag.raw_one (rZ_one 0 0) (rZ_one 0 0)
theorem Ag.za_z : ZA 31 Ag.z := by rw [Ag.z_eq]; exact Ag.za
theorem Ag.la_z : LA 31 Ag.z 0 (.agg Ag.z) := by rw [Ag.z_eq]; exact Ag.rla (rZ_size 0 0) (rZ_size 0 0)
theorem Ag.ez : (Value.agg Tryz.zeroCells31) = .agg Ag.z := by
 rw [Ag.z_eq, Ag.zeroC]; unfold Bg.ratA; rw [← Bg.zeroInt]; kernel_rfl
theorem Ag.sa_z : SA 31 Ag.z 0 (.agg Tryz.zeroCells31) Ag.z := by
 rw [Ag.ez]
 exact SA.whole (by rw [Ag.z_size]; exact Ag.sT) Ag.z_one rfl
theorem Ac.word_e (b : Int) : (Dy.word b).toList.isEmpty = !decide (1 ≤ b ∧ b ≤ 4) := by
 unfold Dy.word
 rw [Lib.toList_data]
 by_cases h1 : b = 1
 ·subst h1; rfl
 by_cases h2 : b = 2
 ·subst h2; rfl
 by_cases h3 : b = 3
 ·subst h3; rfl
 by_cases h4 : b = 4
 ·subst h4; rfl
 ·rw [if_neg h1, if_neg h2, if_neg h3, if_neg h4, decide_eq_false (by omega)]; rfl
set_option maxHeartbeats 4000000 in
theorem terms_any (nm : ByteArray) (o : Option Rat) (c : Array Value) (hv : Rt.Vc o c) (bs : Int) (v : Bool) (hr : Hid (v = Ac.tm nm o bs)) (w : World) :
    Calls Tryz.prog 42 #[.string nm, .agg c, .int .i64 bs] w fun r w' => r = .returned (.bool v) ∧ Below w.heap.size w w' := by
 have HM := Mem.start w
 have k0 := la_c hv.size
 have PT := fun w => rpct_any o c hv w
 have NM := fun w => rname_any nm w
 obtain ⟨b, hb⟩ : ∃ b, Hid (b = Ac.btw o 1) := ⟨_, Lib.hid rfl⟩
 have BT := fun w => rbetween_any o c hv 1 (by decide) (by decide) b hb w
 obtain ⟨d, hd⟩ : ∃ d : Bool, Hid (d = decide (1 ≤ bs ∧ bs ≤ 4)) := ⟨_, Lib.hid rfl⟩
 have WD := fun w => below_eq (rword_any bs w)
 have hwd := Ac.word_e bs
 rw [← hd.out] at hwd
 generalize Dy.word bs = S at WD hwd
 unfold Ac.tm at hr
 rw [← hb.out, ← hd.out] at hr
 generalize Nm.usableB nm = u at *
 clear hb hd hv
 go_enter Tryz.func42, Tryz.ntmps42
 go_upto_region 2 with (first | (go_at_call 79; refine (PT _).mono ?_; rintro e9 w2 ⟨⟨s, e, rfl, HE⟩, hL⟩; replace HM := HM.call hL; clear hL) | (first | ((with_reducible refine g_ld ?_); refine a_ld HM ?_) | ((with_reducible refine g_bx ?_); refine a_bx HM ?_; clear HM; intro bk w1 HM)))
 by_cases hp : e = 0
 ·have hP := HE.out.1 hp
  obtain ⟨v2, hv2⟩ : ∃ v2, Hid (v2 = (b && d)) := ⟨_, Lib.hid rfl⟩
  have hr2 : Hid (v = (u && v2)) := Lib.hid (by rw [hr.out, hv2.out, Ac.pctB_t hP]; rfl)
  subst hp
  clear hr hP HE
  cases u with
  | false =>
   obtain rfl : v = false := hr2.out
   go_wp2_with (first | (go_at_call 80; ((with_reducible refine (NM _).mono ?_); rintro e9 w2 ⟨rfl, hL⟩; replace HM := HM.call hL; clear hL)) | (first | ((with_reducible refine g_ld ?_); refine a_ld HM ?_) | ((with_reducible refine g_bx ?_); refine a_bx HM ?_; clear HM; intro bk w1 HM)))
   go_ret
   exact ⟨rfl, HM.low⟩
  | true =>
   cases b with
   | false =>
    obtain rfl : v = false := by rw [hr2.out, hv2.out]; rfl
    go_wp2_with (first | (go_at_call 80; ((with_reducible refine (NM _).mono ?_); rintro e9 w2 ⟨rfl, hL⟩; replace HM := HM.call hL; clear hL)) | (go_at_call 50; ((with_reducible refine (BT _).mono ?_); rintro e9 w2 ⟨rfl, hL⟩; replace HM := HM.call hL; clear hL)) | (first | ((with_reducible refine g_ld ?_); refine a_ld HM ?_) | ((with_reducible refine g_bx ?_); refine a_bx HM ?_; clear HM; intro bk w1 HM)))
    go_ret
    exact ⟨rfl, HM.low⟩
   | true =>
    obtain rfl : v = d := by rw [hr2.out, hv2.out]; rfl
    cases v with
    | false =>
     replace hwd : S.toList.isEmpty = true := hwd
     go_wp2_with (first | (go_at_call 80; ((with_reducible refine (NM _).mono ?_); rintro e9 w2 ⟨rfl, hL⟩; replace HM := HM.call hL; clear hL)) | (go_at_call 50; ((with_reducible refine (BT _).mono ?_); rintro e9 w2 ⟨rfl, hL⟩; replace HM := HM.call hL; clear hL)) | (go_at_call 81; ((with_reducible refine (WD _).mono ?_); rintro e9 w2 ⟨rfl, hL⟩; replace HM := HM.call hL; clear hL)) | (first | ((with_reducible refine g_ld ?_); refine a_ld HM ?_) | ((with_reducible refine g_bx ?_); refine a_bx HM ?_; clear HM; intro bk w1 HM)))
     go_ret
     exact ⟨rfl, HM.low⟩
    | true =>
     replace hwd : S.toList.isEmpty = false := hwd
     go_wp2_with (first | (go_at_call 80; ((with_reducible refine (NM _).mono ?_); rintro e9 w2 ⟨rfl, hL⟩; replace HM := HM.call hL; clear hL)) | (go_at_call 50; ((with_reducible refine (BT _).mono ?_); rintro e9 w2 ⟨rfl, hL⟩; replace HM := HM.call hL; clear hL)) | (go_at_call 81; ((with_reducible refine (WD _).mono ?_); rintro e9 w2 ⟨rfl, hL⟩; replace HM := HM.call hL; clear hL)) | (first | ((with_reducible refine g_ld ?_); refine a_ld HM ?_) | ((with_reducible refine g_bx ?_); refine a_bx HM ?_; clear HM; intro bk w1 HM)))
     go_ret
     exact ⟨rfl, HM.low⟩
 ·obtain rfl : v = false := by
    rw [hr.out, Ac.pctB_f (fun h => hp (HE.out.2 h))]
    cases u <;> rfl
  have he0 : (e == 0) = false := beq_eq_false_iff_ne.2 hp
  clear hp hr HE
  cases u with
  | false =>
   go_wp2_with (first | (go_at_call 80; ((with_reducible refine (NM _).mono ?_); rintro e9 w2 ⟨rfl, hL⟩; replace HM := HM.call hL; clear hL)) | (first | ((with_reducible refine g_ld ?_); refine a_ld HM ?_) | ((with_reducible refine g_bx ?_); refine a_bx HM ?_; clear HM; intro bk w1 HM)))
   go_ret
   exact ⟨rfl, HM.low⟩
  | true =>
   go_wp2_with (first | (go_at_call 80; ((with_reducible refine (NM _).mono ?_); rintro e9 w2 ⟨rfl, hL⟩; replace HM := HM.call hL; clear hL)) | (first | ((with_reducible refine g_ld ?_); refine a_ld HM ?_) | ((with_reducible refine g_bx ?_); refine a_bx HM ?_; clear HM; intro bk w1 HM)))
   go_ret
   exact ⟨rfl, HM.low⟩
theorem h_bl5g {o : Oper} {a : Act} {T : TypeId} {r : Array Value} {i0 i1 i2 i3 i4 : Nat} {x0 x1 x2 x3 x4 : Operand} {v0 v1 v2 v3 v4 : Value} (ho : o.op = .build T #[(i0, x0), (i1, x1), (i2, x2), (i3, x3), (i4, x4)]) (h0 : a.eval x0 = v0) (h1 : a.eval x1 = v1) (h2 : a.eval x2 = v2) (h3 : a.eval x3 = v3) (h4 : a.eval x4 = v4) (hb : ∀ w, (Instr.build T #[(i0, v0), (i1, v1), (i2, v2), (i3, v3), (i4, v4)]).run Tryz.prog w = .ok (.agg r) w) : ∀ w, (execOp a.eval o).run Tryz.prog w = .ok (.value (.agg r)) w := fun w => by
 unfold execOp
 simp only [ho, Sem.run_bind, List.map_toArray, List.map_cons, List.map_nil, h0, h1, h2, h3, h4, hb, Result.andThen_ok, Sem.run_pure]
noncomputable def Ac.nw (nm : ByteArray) (rc : Array Value) (o : Option Rat) (bs day : Int) : Array Value × Int :=
 if Ac.tm nm o bs then (if Dt.isDay day then (Ag.raw nm rc bs (Rt.qA 0) 0 day, 0) else (Ag.z, 50)) else (Ag.z, 190)
set_option maxHeartbeats 8000000 in
theorem rnew_any (nm : ByteArray) (o : Option Rat) (c : Array Value) (hv : Rt.Vc o c) (bs day : Int) (R : Array Value) (E : Int) (hr : Hid ((R, E) = Ac.nw nm c o bs day)) (w : World) :
    Calls Tryz.prog 10 #[.agg (Fe.raw nm c bs), .int .i64 day] w fun r w' => r = .returned (.tuple #[.agg R, .int .i64 E]) ∧ Below w.heap.size w w' := by
 have HM := Mem.start w
 have zz := Ag.za_z
 have sz := Ag.sa_z
 have lz := Ag.la_z
 have f0 := (Fe.fnm nm c bs).la
 have f1 := (Fe.frc nm bs hv.size).la
 have f2 := (Fe.fbs nm bs hv.size).la
 obtain ⟨v, hvv⟩ : ∃ v, Hid (v = Ac.tm nm o bs) := ⟨_, Lib.hid rfl⟩
 have TM := fun w => terms_any nm o c hv bs v hvv w
 have h := hr.out
 unfold Ac.nw at h
 rw [← hvv.out] at h
 have OT := fun w => below_eq (rOut_any day w)
 cases v with
 | false =>
  obtain ⟨rfl, rfl⟩ : R = Ag.z ∧ E = 190 := Prod.mk.inj h
  clear h hr hvv
  generalize Fe.raw nm c bs = F at *
  go_enter Tryz.func10, Tryz.ntmps10
  go_wp2_with (first | (go_at_call 42; ((with_reducible refine (TM _).mono ?_); rintro e9 w2 ⟨rfl, hL⟩; replace HM := HM.call hL; clear hL)) | (first | ((with_reducible refine g_ld ?_); refine a_ld HM ?_) | ((with_reducible refine g_st ?_); refine a_st HM ?_; clear HM; intro w1 HM) | ((with_reducible refine g_al ?_); refine a_al HM ?_; clear HM; intro bk w1 HM) | ((with_reducible refine g_bx ?_); refine a_bx HM ?_; clear HM; intro bk w1 HM) | ((with_reducible refine g_bld ?_); refine a_bld ?_)))
  obtain ⟨b4, rfl⟩ := HM.nm0
  refine bodyPost_ret (r_ct (b := b4) (k := 0) rfl rfl (HM.get (by ((repeat (first | exact Look.here | refine Look.there ?_)); done))) lz) rfl ⟨rfl, HM.low⟩
 | true =>
  cases hd : Dt.isDay day with
  | false =>
   rw [hd] at h
   obtain ⟨rfl, rfl⟩ : R = Ag.z ∧ E = 50 := Prod.mk.inj h
   replace OT : ∀ w, Calls Tryz.prog 43 #[.int .i64 day] w fun e w' => e = .returned (.bool true) ∧ Below w.heap.size w w' := fun w => by have := OT w; rw [hd] at this; exact this
   clear h hr hvv hd
   generalize Fe.raw nm c bs = F at *
   go_enter Tryz.func10, Tryz.ntmps10
   go_wp2_with (first | (go_at_call 42; ((with_reducible refine (TM _).mono ?_); rintro e9 w2 ⟨rfl, hL⟩; replace HM := HM.call hL; clear hL)) | (go_at_call 43; ((with_reducible refine (OT _).mono ?_); rintro e9 w2 ⟨rfl, hL⟩; replace HM := HM.call hL; clear hL)) | (first | ((with_reducible refine g_ld ?_); refine a_ld HM ?_) | ((with_reducible refine g_st ?_); refine a_st HM ?_; clear HM; intro w1 HM) | ((with_reducible refine g_al ?_); refine a_al HM ?_; clear HM; intro bk w1 HM) | ((with_reducible refine g_bx ?_); refine a_bx HM ?_; clear HM; intro bk w1 HM) | ((with_reducible refine g_bld ?_); refine a_bld ?_)))
   obtain ⟨b4, rfl⟩ := HM.nm0
   refine bodyPost_ret (r_ct (b := b4) (k := 0) rfl rfl (HM.get (by ((repeat (first | exact Look.here | refine Look.there ?_)); done))) lz) rfl ⟨rfl, HM.low⟩
  | true =>
   rw [hd] at h
   obtain ⟨rfl, rfl⟩ : R = Ag.raw nm c bs (Rt.qA 0) 0 day ∧ E = 0 := Prod.mk.inj h
   replace OT : ∀ w, Calls Tryz.prog 43 #[.int .i64 day] w fun e w' => e = .returned (.bool false) ∧ Below w.heap.size w w' := fun w => by have := OT w; rw [hd] at this; exact this
   have HB := fun w => Ag.b5 nm bs day hv.size (qA_size 0) w
   have la := Ag.rla (nm := nm) (bs := bs) (pd := 0) (un := day) hv.size (qA_size 0)
   have sa := Ag.rsa (nm := nm) (bs := bs) (pd := 0) (un := day) hv.size (qA_size 0) hv.one (qA_one 0) Ag.z_size
   clear h hr hvv hd
   generalize Ag.raw nm c bs (Rt.qA 0) 0 day = R at *
   generalize Fe.raw nm c bs = F at *
   go_enter Tryz.func10, Tryz.ntmps10
   go_upto_region 5 with (first | (go_at_call 42; ((with_reducible refine (TM _).mono ?_); rintro e9 w2 ⟨rfl, hL⟩; replace HM := HM.call hL; clear hL)) | (go_at_call 43; ((with_reducible refine (OT _).mono ?_); rintro e9 w2 ⟨rfl, hL⟩; replace HM := HM.call hL; clear hL)) | (first | ((with_reducible refine g_ld ?_); refine a_ld HM ?_) | ((with_reducible refine g_st ?_); refine a_st HM ?_; clear HM; intro w1 HM) | ((with_reducible refine g_al ?_); refine a_al HM ?_; clear HM; intro bk w1 HM) | ((with_reducible refine g_bx ?_); refine a_bx HM ?_; clear HM; intro bk w1 HM) | ((with_reducible refine g_bld ?_); refine a_bld ?_)))
   obtain ⟨b4, rfl⟩ := HM.nm0
   refine start_M [9] HM (by kernel_rfl) (fun w0x H9 => ?_)
   replace HM := H9; clear H9
   refine k_fa 0 (heldE HM) ?_
   refine k_ld 1 [8, 9, 10] (heldE HM) ?_
   refine k_fa 2 (heldE HM) ?_
   refine k_ld 3 [8, 9, 10] (heldE HM) ?_
   refine k_fa 4 (heldE HM) ?_
   refine k_ld 5 [8, 9, 10] (heldE HM) ?_
   refine k_mv 7 (heldE HM) ?_
   refine j_one 6 fun K9 hK9 => ?_
   refine j_call0 (v := ?_) HM ?_ ?_; rotate_left 1; (focus (with_reducible (exact rzero_d _))); clear HM; intro w1 HM
   refine hK9 _ _ (heldE HM) ?_; clear hK9 K9
   refine t_pure (i := 8) (v := .agg R) rfl rfl (by kernel_rfl) (fun _ _ _ h => h) (heldE HM) (by rfl) ?_ ?_; (focus (exact h_bl5g rfl (by (conv => lhs; whnf) <;> rfl) (by (conv => lhs; whnf) <;> rfl) (by (conv => lhs; whnf) <;> rfl) (by (conv => lhs; whnf) <;> rfl) (by (conv => lhs; whnf) <;> rfl) HB)); ((try simp only [List.setIfInBounds_toArray]); (try simp only [List.set_cons_succ]); (try simp only [List.set_cons_zero]))
   refine j_one 9 fun K9 hK9 => ?_
   refine j_st HM ?_; clear HM; intro w1 HM
   refine hK9 _ _ heldN ?_; clear hK9 K9
   refine k_mv 10 heldN ?_
   refine wpAnyL_done (by kernel_rfl) ?_ _
   (go_wp2_with fail; refine bodyPost_ret (r_ct (b := b4) (k := 0) rfl rfl (HM.get (by ((repeat (first | exact Look.here | refine Look.there ?_)); done))) la) rfl ⟨rfl, HM.low⟩)
end Go.Proofs.YtmbjaaaeekacfaaGreatDoor
namespace Go.Proofs.YtmbjaaaeekacfaaGreatDoor
set_option maxRecDepth 8000
open Go.RowKit
theorem Dy.werr_t {b : Int} (h : decide (1 ≤ b ∧ b ≤ 4) = true) : Dy.werr b = 0 := by
 have := of_decide_eq_true h
 unfold Dy.werr; rw [if_neg (by omega)]
theorem Dy.werr_f {b : Int} (h : decide (1 ≤ b ∧ b ≤ 4) = false) : Dy.werr b = 60 := by
 have := of_decide_eq_false h
 unfold Dy.werr; rw [if_pos (by omega)]
set_option maxHeartbeats 8000000 in
theorem new_any (nm : ByteArray) (hnm : nm.size ≤ 9223372036854775807) (o : Option Rat) (c : Array Value) (hv : Rt.Vc o c) (bs day : Int) (R : Array Value) (E : Int) (hr : Hid ((R, E) = Ac.nw nm c o bs day)) (w : World) :
    Calls Tryz.prog 9 #[.agg (Fe.raw nm c bs), .int .i64 day] w fun r w' => r = .returned (.tuple #[.agg R, .int .i64 E]) ∧ Below w.heap.size w w' := by
 have HM := Mem.start w
 have zz := Ag.za_z
 have sz := Ag.sa_z
 have lz := Ag.la_z
 have f0 := (Fe.fnm nm c bs).la
 have f1 := (Fe.frc nm bs hv.size).la
 have f2 := (Fe.fbs nm bs hv.size).la
 have NM := fun w => tname_any nm hnm w
 have PT := fun w => pct_any o c hv w
 obtain ⟨b, hb⟩ : ∃ b, Hid (b = Ac.btw o 1) := ⟨_, Lib.hid rfl⟩
 have BT := fun w => between_any o c hv 1 (by decide) (by decide) b hb w
 have FM := fun w => format_any bs w
 obtain ⟨d, hd⟩ : ∃ d : Bool, Hid (d = decide (1 ≤ bs ∧ bs ≤ 4)) := ⟨_, Lib.hid rfl⟩
 have hE : Hid ((d = true → Dy.werr bs = 0) ∧ (d = false → Dy.werr bs = 60)) := Lib.hid ⟨fun h => Dy.werr_t (by rw [← hd.out]; exact h), fun h => Dy.werr_f (by rw [← hd.out]; exact h)⟩
 obtain ⟨t, ht⟩ : ∃ t, Hid (t = Ac.tm nm o bs) := ⟨_, Lib.hid rfl⟩
 have h := hr.out
 unfold Ac.nw at h
 rw [← ht.out] at h
 have ht2 := ht.out
 unfold Ac.tm at ht2
 rw [← hb.out, ← hd.out] at ht2
 have HT := Lib.hid ht2
 have HR := Lib.hid h
 have HB := fun w => Ag.b5 nm bs day hv.size (qA_size 0) w
 have la := Ag.rla (nm := nm) (bs := bs) (pd := 0) (un := day) hv.size (qA_size 0)
 have sa := Ag.rsa (nm := nm) (bs := bs) (pd := 0) (un := day) hv.size (qA_size 0) hv.one (qA_one 0) Ag.z_size
 clear h hr ht2 ht hb hd hv hnm
 generalize Ag.raw nm c bs (Rt.qA 0) 0 day = X at *
 generalize Fe.raw nm c bs = F at *
 generalize Dy.word bs = S at *
 generalize Dy.werr bs = we at *
 go_enter Tryz.func9, Tryz.ntmps9
 go_upto_region 3 with (first | (go_at_call 37; ((with_reducible refine (FM _).mono ?_); rintro e9 w2 ⟨rfl, hL⟩; replace HM := HM.call hL; clear hL)) | (go_at_call 38; refine (PT _).mono ?_; rintro e9 w2 ⟨⟨s, p, rfl, HP⟩, hL⟩; replace HM := HM.call hL; clear hL) | (first | ((with_reducible refine g_ld ?_); refine a_ld HM ?_) | ((with_reducible refine g_st ?_); refine a_st HM ?_; clear HM; intro w1 HM) | ((with_reducible refine g_al ?_); refine a_al HM ?_; clear HM; intro bk w1 HM) | ((with_reducible refine g_bx ?_); refine a_bx HM ?_; clear HM; intro bk w1 HM) | ((with_reducible refine g_bld ?_); refine a_bld ?_)))
 obtain ⟨b4, rfl⟩ := HM.nm0
 cases d with
 | false =>
  obtain rfl : we = 60 := hE.out.2 rfl
  obtain rfl : t = false := by rw [HT.out]; cases Nm.usableB nm <;> cases Ac.pctB o <;> cases b <;> rfl
  obtain ⟨rfl, rfl⟩ : R = Ag.z ∧ E = 190 := Prod.mk.inj HR.out
  clear HT hE HP HR
  go_wp2_with (first | ((with_reducible refine g_ld ?_); refine a_ld HM ?_) | ((with_reducible refine g_st ?_); refine a_st HM ?_; clear HM; intro w1 HM) | ((with_reducible refine g_al ?_); refine a_al HM ?_; clear HM; intro bk w1 HM) | ((with_reducible refine g_bx ?_); refine a_bx HM ?_; clear HM; intro bk w1 HM) | ((with_reducible refine g_bld ?_); refine a_bld ?_))
  refine bodyPost_ret (r_ct (b := b4) (k := 0) rfl rfl (HM.get (by ((repeat (first | exact Look.here | refine Look.there ?_)); done))) lz) rfl ⟨rfl, HM.low⟩
 | true =>
  obtain rfl : we = 0 := hE.out.1 rfl
  by_cases hp : p = 0
  case neg =>
   obtain rfl : t = false := by rw [HT.out, Ac.pctB_f (fun h => hp (HP.out.2 h))]; cases Nm.usableB nm <;> rfl
   obtain ⟨rfl, rfl⟩ : R = Ag.z ∧ E = 190 := Prod.mk.inj HR.out
   have hp0 : (p != 0) = true := by simpa using hp
   clear HT hE HP HR hp
   go_wp2_with (first | ((with_reducible refine g_ld ?_); refine a_ld HM ?_) | ((with_reducible refine g_st ?_); refine a_st HM ?_; clear HM; intro w1 HM) | ((with_reducible refine g_al ?_); refine a_al HM ?_; clear HM; intro bk w1 HM) | ((with_reducible refine g_bx ?_); refine a_bx HM ?_; clear HM; intro bk w1 HM) | ((with_reducible refine g_bld ?_); refine a_bld ?_))
   refine bodyPost_ret (r_ct (b := b4) (k := 0) rfl rfl (HM.get (by ((repeat (first | exact Look.here | refine Look.there ?_)); done))) lz) rfl ⟨rfl, HM.low⟩
  case pos =>
   have hP := Ac.pctB_t (HP.out.1 hp)
   have HT2 : Hid (t = (Nm.usableB nm && b)) := Lib.hid (by rw [HT.out, hP]; cases b <;> rfl)
   subst hp
   clear HT hE HP hP
   generalize Nm.usableB nm = u at *
   cases u with
   | false =>
    obtain rfl : t = false := HT2.out
    obtain ⟨rfl, rfl⟩ : R = Ag.z ∧ E = 190 := Prod.mk.inj HR.out
    clear HT2 HR
    go_wp2_with (first | (go_at_call 39; ((with_reducible refine (NM _).mono ?_); rintro e9 w2 ⟨rfl, hL⟩; replace HM := HM.call hL; clear hL)) | (first | ((with_reducible refine g_ld ?_); refine a_ld HM ?_) | ((with_reducible refine g_st ?_); refine a_st HM ?_; clear HM; intro w1 HM) | ((with_reducible refine g_al ?_); refine a_al HM ?_; clear HM; intro bk w1 HM) | ((with_reducible refine g_bx ?_); refine a_bx HM ?_; clear HM; intro bk w1 HM) | ((with_reducible refine g_bld ?_); refine a_bld ?_)))
    refine bodyPost_ret (r_ct (b := b4) (k := 0) rfl rfl (HM.get (by ((repeat (first | exact Look.here | refine Look.there ?_)); done))) lz) rfl ⟨rfl, HM.low⟩
   | true =>
    obtain rfl : t = b := HT2.out
    cases t with
    | false =>
     obtain ⟨rfl, rfl⟩ : R = Ag.z ∧ E = 190 := Prod.mk.inj HR.out
     clear HT2 HR
     go_wp2_with (first | (go_at_call 39; ((with_reducible refine (NM _).mono ?_); rintro e9 w2 ⟨rfl, hL⟩; replace HM := HM.call hL; clear hL)) | (go_at_call 40; ((with_reducible refine (BT _).mono ?_); rintro e9 w2 ⟨rfl, hL⟩; replace HM := HM.call hL; clear hL)) | (first | ((with_reducible refine g_ld ?_); refine a_ld HM ?_) | ((with_reducible refine g_st ?_); refine a_st HM ?_; clear HM; intro w1 HM) | ((with_reducible refine g_al ?_); refine a_al HM ?_; clear HM; intro bk w1 HM) | ((with_reducible refine g_bx ?_); refine a_bx HM ?_; clear HM; intro bk w1 HM) | ((with_reducible refine g_bld ?_); refine a_bld ?_)))
     refine bodyPost_ret (r_ct (b := b4) (k := 0) rfl rfl (HM.get (by ((repeat (first | exact Look.here | refine Look.there ?_)); done))) lz) rfl ⟨rfl, HM.low⟩
    | true =>
     have hR := HR.out
     by_cases h1 : day < 0
     ·have hid : Dt.isDay day = false := by unfold Dt.isDay; exact decide_eq_false (by omega)
      rw [hid] at hR
      obtain ⟨rfl, rfl⟩ : R = Ag.z ∧ E = 50 := Prod.mk.inj hR
      clear HT2 HR hR hid
      go_wp2_with (first | (go_at_call 39; ((with_reducible refine (NM _).mono ?_); rintro e9 w2 ⟨rfl, hL⟩; replace HM := HM.call hL; clear hL)) | (go_at_call 40; ((with_reducible refine (BT _).mono ?_); rintro e9 w2 ⟨rfl, hL⟩; replace HM := HM.call hL; clear hL)) | (first | ((with_reducible refine g_ld ?_); refine a_ld HM ?_) | ((with_reducible refine g_st ?_); refine a_st HM ?_; clear HM; intro w1 HM) | ((with_reducible refine g_al ?_); refine a_al HM ?_; clear HM; intro bk w1 HM) | ((with_reducible refine g_bx ?_); refine a_bx HM ?_; clear HM; intro bk w1 HM) | ((with_reducible refine g_bld ?_); refine a_bld ?_)))
      refine bodyPost_ret (r_ct (b := b4) (k := 0) rfl rfl (HM.get (by ((repeat (first | exact Look.here | refine Look.there ?_)); done))) lz) rfl ⟨rfl, HM.low⟩
     ·by_cases h2 : 73048 < day
      ·have hid : Dt.isDay day = false := by unfold Dt.isDay; exact decide_eq_false (by omega)
       rw [hid] at hR
       obtain ⟨rfl, rfl⟩ : R = Ag.z ∧ E = 50 := Prod.mk.inj hR
       clear HT2 HR hR hid
       go_wp2_with (first | (go_at_call 39; ((with_reducible refine (NM _).mono ?_); rintro e9 w2 ⟨rfl, hL⟩; replace HM := HM.call hL; clear hL)) | (go_at_call 40; ((with_reducible refine (BT _).mono ?_); rintro e9 w2 ⟨rfl, hL⟩; replace HM := HM.call hL; clear hL)) | (first | ((with_reducible refine g_ld ?_); refine a_ld HM ?_) | ((with_reducible refine g_st ?_); refine a_st HM ?_; clear HM; intro w1 HM) | ((with_reducible refine g_al ?_); refine a_al HM ?_; clear HM; intro bk w1 HM) | ((with_reducible refine g_bx ?_); refine a_bx HM ?_; clear HM; intro bk w1 HM) | ((with_reducible refine g_bld ?_); refine a_bld ?_)))
       refine bodyPost_ret (r_ct (b := b4) (k := 0) rfl rfl (HM.get (by ((repeat (first | exact Look.here | refine Look.there ?_)); done))) lz) rfl ⟨rfl, HM.low⟩
      ·have hid : Dt.isDay day = true := by unfold Dt.isDay; exact decide_eq_true (by omega)
       rw [hid] at hR
       obtain ⟨rfl, rfl⟩ : R = X ∧ E = 0 := Prod.mk.inj hR
       clear HT2 HR hR hid
       go_upto_region 7 with (first | (go_at_call 39; ((with_reducible refine (NM _).mono ?_); rintro e9 w2 ⟨rfl, hL⟩; replace HM := HM.call hL; clear hL)) | (go_at_call 40; ((with_reducible refine (BT _).mono ?_); rintro e9 w2 ⟨rfl, hL⟩; replace HM := HM.call hL; clear hL)) | (first | ((with_reducible refine g_ld ?_); refine a_ld HM ?_) | ((with_reducible refine g_st ?_); refine a_st HM ?_; clear HM; intro w1 HM) | ((with_reducible refine g_al ?_); refine a_al HM ?_; clear HM; intro bk w1 HM) | ((with_reducible refine g_bx ?_); refine a_bx HM ?_; clear HM; intro bk w1 HM) | ((with_reducible refine g_bld ?_); refine a_bld ?_)))
       refine start_M [9] HM (by kernel_rfl) (fun w0x H9 => ?_)
       replace HM := H9; clear H9
       refine k_fa 0 (heldE HM) ?_
       refine k_ld 1 [8, 9, 10] (heldE HM) ?_
       refine k_fa 2 (heldE HM) ?_
       refine k_ld 3 [8, 9, 10] (heldE HM) ?_
       refine k_fa 4 (heldE HM) ?_
       refine k_ld 5 [8, 9, 10] (heldE HM) ?_
       refine k_mv 7 (heldE HM) ?_
       refine j_one 6 fun K9 hK9 => ?_
       refine j_call1 (v := ?_) HM ?_ ?_; rotate_left 1; (focus (with_reducible (exact whole_q 0 0 (by decide) (by decide) (Lib.hid rfl) _))); clear HM; intro w1 HM
       refine hK9 _ _ (heldE HM) ?_; clear hK9 K9
       refine t_pure (i := 8) (v := .agg R) rfl rfl (by kernel_rfl) (fun _ _ _ h => h) (heldE HM) (by rfl) ?_ ?_; (focus (exact h_bl5g rfl (by (conv => lhs; whnf) <;> rfl) (by (conv => lhs; whnf) <;> rfl) (by (conv => lhs; whnf) <;> rfl) (by (conv => lhs; whnf) <;> rfl) (by (conv => lhs; whnf) <;> rfl) HB)); ((try simp only [List.setIfInBounds_toArray]); (try simp only [List.set_cons_succ]); (try simp only [List.set_cons_zero]))
       refine j_one 9 fun K9 hK9 => ?_
       refine j_st HM ?_; clear HM; intro w1 HM
       refine hK9 _ _ heldN ?_; clear hK9 K9
       refine k_mv 10 heldN ?_
       refine wpAnyL_done (by kernel_rfl) ?_ _
       (go_wp2_with fail; refine bodyPost_ret (r_ct (b := b4) (k := 0) rfl rfl (HM.get (by ((repeat (first | exact Look.here | refine Look.there ?_)); done))) la) rfl ⟨rfl, HM.low⟩)
end Go.Proofs.YtmbjaaaeekacfaaGreatDoor
namespace Go.Proofs.YtmbjaaaeekacfaaGreatDoor
set_option maxRecDepth 8000
open Go.RowKit
def Ac.due : Option Rat → Int
 | none => 0
 | some x => Ac.rhe x
noncomputable def Ac.vd (a : Ag) : Bool := Ac.tm a.nm a.ro a.bs && (Ac.btw a.eo 1000000000000000 && (decide (0 ≤ a.pd) && (decide (a.pd ≤ Ac.due a.eo) && Dt.isDay a.un)))
theorem Ag.c_raw (a : Ag) : a.c = Ag.raw a.nm a.rc a.bs a.ec a.pd a.un := rfl
set_option maxHeartbeats 8000000 in
theorem avalid_any (a : Ag) (hnm : a.nm.size ≤ 9223372036854775807) (v : Bool) (hr : Hid (v = Ac.vd a)) (w : World) :
    Calls Tryz.prog 18 #[.agg a.c] w fun r w' => r = .returned (.bool v) ∧ Below w.heap.size w w' := by
 have HM := Mem.start w
 have zz : ZA 31 Ag.z := Ag.za_z
 obtain ⟨nm, rc, ro, bs, ec, eo, pd, un, hrc, hec⟩ := a
 rw [Ag.c_raw]
 show Calls _ _ #[.agg (Ag.raw nm rc bs ec pd un)] w _
 replace hnm : nm.size ≤ 9223372036854775807 := hnm
 replace hr : Hid (v = (Ac.tm nm ro bs && (Ac.btw eo 1000000000000000 && (decide (0 ≤ pd) && (decide (pd ≤ Ac.due eo) && Dt.isDay un))))) := hr
 have f0 := (Ag.fnm (nm := nm) (rc := rc) (bs := bs) (ec := ec) (pd := pd) (un := un)).la
 have f1 := (Ag.frc (nm := nm) (bs := bs) (ec := ec) (pd := pd) (un := un) hrc.size).la
 have f2 := (Ag.fbs (nm := nm) (bs := bs) (ec := ec) (pd := pd) (un := un) hrc.size).la
 have f3 := (Ag.fec (nm := nm) (bs := bs) (pd := pd) (un := un) hrc.size hec.size).la
 have f4 := (Ag.fpd (nm := nm) (bs := bs) (pd := pd) (un := un) hrc.size hec.size).la
 have f5 := (Ag.fun_ (nm := nm) (bs := bs) (pd := pd) (un := un) hrc.size hec.size).la
 have HB3 := fun w => Ag.b3 nm bs hrc.size w
 have HF3 := fun w => Fe.b3 nm bs hrc.size w
 have sx := Ag.rsa (nm := nm) (bs := bs) (pd := 0) (un := 0) hrc.size (rZ_size 0 0) hrc.one (rZ_one 0 0) Ag.z_size
 have s3 := Ag.sec (nm := nm) (bs := bs) (pd := 0) (un := 0) hrc.size (rZ_size 0 0) (qA_size 0) (qA_one 0)
 have s5 := Ag.sun (nm := nm) (bs := bs) (pd := 0) (un := 0) hrc.size (qA_size 0) un
 have la := Ag.rla (nm := nm) (bs := bs) (pd := 0) (un := un) hrc.size (qA_size 0)
 have sa := Ag.rsa (nm := nm) (bs := bs) (pd := 0) (un := un) hrc.size (qA_size 0) hrc.one (qA_one 0) Ag.z_size
 have sz : SA 31 Ag.z 0 (.agg Ag.z) Ag.z := SA.whole (by rw [Ag.z_size]; exact Ag.sT) Ag.z_one rfl
 have EQ : EqT 10000 31 (.agg (Ag.raw nm rc bs (Rt.qA 0) 0 un)) (.agg (Ag.raw nm rc bs (Rt.qA 0) 0 un)) true := Ag.eq_self ⟨nm, rc, ro, bs, Rt.qA 0, some 0, 0, un, hrc, Rt.fit_zero, rfl⟩
 obtain ⟨t, ht⟩ : ∃ t, Hid (t = Ac.tm nm ro bs) := ⟨_, Lib.hid rfl⟩
 obtain ⟨d, hd⟩ : ∃ d, Hid (d = Dt.isDay un) := ⟨_, Lib.hid rfl⟩
 obtain ⟨b, hb⟩ : ∃ b, Hid (b = Ac.btw eo 1000000000000000) := ⟨_, Lib.hid rfl⟩
 have BT := fun w => between_any eo ec hec 1000000000000000 (by decide) (by decide) b hb w
 obtain ⟨R, E, hRE⟩ : ∃ R E, Hid ((R, E) = Ac.nw nm rc ro bs un) := ⟨_, _, Lib.hid rfl⟩
 have NW := fun w => new_any nm hnm ro rc hrc bs un R E hRE w
 have hR := hRE.out
 unfold Ac.nw at hR
 rw [← ht.out, ← hd.out] at hR
 have hv := hr.out
 rw [← ht.out, ← hd.out, ← hb.out] at hv
 have HV := Lib.hid hv
 have HR := Lib.hid hR
 have HRN : b = true → ∃ n, Hid (n = Ac.due eo) ∧ ∀ w, Calls Tryz.prog 51 #[.agg ec] w fun r w' => r = .returned (.int .i64 n) ∧ Below w.heap.size w w' := fun h => by
  cases eo with
  | none => rw [hb.out] at h; exact absurd h Bool.false_ne_true
  | some x =>
   obtain ⟨hx, rfl⟩ := hec
   rw [hb.out] at h
   have h2 := Ac.btw_iff.1 h
   exact ⟨_, Lib.hid rfl, fun w => rounded_any x hx h2.1 h2.2 _ (Lib.hid rfl) w⟩
 have HN := Lib.hid HRN
 clear HRN hv hr hR hRE ht hd hb hrc hec hnm
 generalize Ag.raw nm rc bs (Rt.qA 0) 0 un = X at *
 generalize Ag.raw nm rc bs (Rt.qA 0) 0 0 = X2 at *
 generalize Ag.raw nm rc bs (Rt.qA 0) 0 0 = X2 at *
 generalize Ag.raw nm rc bs (Bg.rZ 0 0) 0 0 = X1 at *
 generalize Ag.raw nm rc bs ec pd un = A at *
 generalize Fe.raw nm rc bs = F at *
 by_cases htd : (t && d) = true
 case neg =>
  obtain ⟨rfl, hE⟩ : R = Ag.z ∧ (E = 190 ∨ E = 50) := by
   have := HR.out
   cases t with
   | false => obtain ⟨h1, h2⟩ := Prod.mk.inj this; exact ⟨h1, .inl h2⟩
   | true =>
    cases d with
    | false => obtain ⟨h1, h2⟩ := Prod.mk.inj this; exact ⟨h1, .inr h2⟩
    | true => exact absurd rfl htd
  obtain rfl : v = false := by
   rw [HV.out]
   cases t with
   | false => rfl
   | true =>
    cases d with
    | false => cases b <;> cases decide (0 ≤ pd) <;> cases decide (pd ≤ Ac.due eo) <;> rfl
    | true => exact absurd rfl htd
  have hE0 : (E == 0) = false := beq_eq_false_iff_ne.2 (by omega)
  clear HR HV htd hE HN
  go_enter Tryz.func18, Tryz.ntmps18
  go_upto_region 3 with (first | ((with_reducible refine g_bld ?_); refine a_rbl (v := .agg X1) ?_ (hy := h_bl3 rfl (by (conv => lhs; whnf) <;> rfl) (by (conv => lhs; whnf) <;> rfl) (by (conv => lhs; whnf) <;> rfl) (HB3))) | ((with_reducible refine g_bld ?_); refine a_rbl (v := .agg F) ?_ (hy := h_bl3 rfl (by (conv => lhs; whnf) <;> rfl) (by (conv => lhs; whnf) <;> rfl) (by (conv => lhs; whnf) <;> rfl) (HF3))) | (go_at_call 9; ((with_reducible refine (NW _).mono ?_); rintro e9 w2 ⟨rfl, hL⟩; replace HM := HM.call hL; clear hL)) | (first | ((with_reducible refine g_ld ?_); refine a_ld HM ?_) | ((with_reducible refine g_st ?_); refine a_st HM ?_; clear HM; intro w1 HM) | ((with_reducible refine g_al ?_); refine a_al HM ?_; clear HM; intro bk w1 HM) | ((with_reducible refine g_bx ?_); refine a_bx HM ?_; clear HM; intro bk w1 HM) | ((with_reducible refine g_bld ?_); refine a_bld ?_)))
  obtain ⟨b4, rfl⟩ := HM.nm0
  obtain ⟨b3, rfl⟩ := HM.nm1
  obtain ⟨b1, rfl⟩ := HM.nm2
  go_cut [2] (fun v wc => v = .bool false ∧ Mem w [] [(b4, Ag.z), (b3, X), (b1, A)] wc)
  case first =>
   refine start_M [4, 6] HM (by kernel_rfl) (fun w0x H9 => ?_)
   replace HM := H9; clear H9
   refine k_fa 1 (heldE HM) ?_
   refine j_two 0 2 ?_ ?_
   ·refine j_call1 (v := ?_) HM ?_ ?_; rotate_left 1; (focus (with_reducible (exact whole_q 0 0 (by decide) (by decide) (Lib.hid rfl) _))); clear HM; intro w1 HM
    refine ⟨(heldE HM), ?_⟩
    refine k_fa 3 (heldE HM) ?_
    refine j_two 2 4 ?_ ?_
    ·refine j_ld HM ?_
     refine ⟨(heldE HM), ?_⟩
     refine j_one 4 fun K9 hK9 => ?_
     refine j_st HM ?_; clear HM; intro w1 HM
     refine hK9 _ _ heldN ?_; clear hK9 K9
     refine k_fa 5 heldN ?_
     refine j_one 6 fun K9 hK9 => ?_
     refine j_st HM ?_; clear HM; intro w1 HM
     refine hK9 _ _ heldN ?_; clear hK9 K9
     refine wpAnyL_done (by kernel_rfl) ?_ _
     (go_wp2_with fail; go_meet; (case rel => exact ⟨rfl, HM.pick⟩))
    ·refine j_st HM ?_; clear HM; intro w1 HM
     refine ⟨heldN, ?_⟩
     refine j_one 2 fun K9 hK9 => ?_
     refine j_ld HM ?_
     refine hK9 _ _ heldN ?_; clear hK9 K9
     refine k_fa 5 heldN ?_
     refine j_one 6 fun K9 hK9 => ?_
     refine j_st HM ?_; clear HM; intro w1 HM
     refine hK9 _ _ heldN ?_; clear hK9 K9
     refine wpAnyL_done (by kernel_rfl) ?_ _
     (go_wp2_with fail; go_meet; (case rel => exact ⟨rfl, HM.pick⟩))
   ·refine j_ld HM ?_
    refine ⟨(heldE HM), ?_⟩
    refine j_one 0 fun K9 hK9 => ?_
    refine j_call1 (v := ?_) HM ?_ ?_; rotate_left 1; (focus (with_reducible (exact whole_q 0 0 (by decide) (by decide) (Lib.hid rfl) _))); clear HM; intro w1 HM
    refine hK9 _ _ (heldE HM) ?_; clear hK9 K9
    refine k_fa 3 (heldE HM) ?_
    refine j_one 4 fun K9 hK9 => ?_
    refine j_st HM ?_; clear HM; intro w1 HM
    refine hK9 _ _ heldN ?_; clear hK9 K9
    refine k_fa 5 heldN ?_
    refine j_one 6 fun K9 hK9 => ?_
    refine j_st HM ?_; clear HM; intro w1 HM
    refine hK9 _ _ heldN ?_; clear hK9 K9
    refine wpAnyL_done (by kernel_rfl) ?_ _
    (go_wp2_with fail; go_meet; (case rel => exact ⟨rfl, HM.pick⟩))
  case rest =>
   clear HM
   obtain ⟨rfl, HM⟩ := hcut
   go_upto_region 4 with fail
   refine start_M [] HM (by kernel_rfl) (fun w0x H9 => ?_)
   replace HM := H9; clear H9
   refine k_mv 0 (heldE HM) ?_
   refine k_bin 1 (heldE HM) ?_
   refine k_mv 2 (heldE HM) ?_
   refine k_off 3 (heldE HM) ?_
   refine k_off 4 (heldE HM) ?_
   refine k_off 5 (heldE HM) ?_
   refine k_pick 6 (heldE HM) ?_
   refine k_mv 7 (heldE HM) ?_
   refine k_off 8 (heldE HM) ?_
   refine k_off 9 (heldE HM) ?_
   refine k_off 10 (heldE HM) ?_
   refine k_pick 11 (heldE HM) ?_
   refine k_mv 12 (heldE HM) ?_
   refine k_off 13 (heldE HM) ?_
   refine k_off 14 (heldE HM) ?_
   refine k_off 15 (heldE HM) ?_
   refine k_pick 16 (heldE HM) ?_
   refine k_mv 17 (heldE HM) ?_
   refine k_off 18 (heldE HM) ?_
   refine k_off 19 (heldE HM) ?_
   refine k_off 20 (heldE HM) ?_
   refine k_off 21 (heldE HM) ?_
   refine k_off 22 (heldE HM) ?_
   refine k_off 23 (heldE HM) ?_
   refine k_pick 24 (heldE HM) ?_
   refine k_mv 25 (heldE HM) ?_
   refine wpAnyL_done (by kernel_rfl) ?_ _
   (go_wp2_with fail; go_ret; exact ⟨rfl, HM.low⟩)
 case pos =>
  obtain ⟨rfl, rfl⟩ : t = true ∧ d = true := by cases t <;> cases d <;> first | exact ⟨rfl, rfl⟩ | exact absurd htd (by decide)
  obtain ⟨rfl, rfl⟩ : R = X ∧ E = 0 := Prod.mk.inj HR.out
  have HV2 : Hid (v = (b && (decide (0 ≤ pd) && decide (pd ≤ Ac.due eo)))) := Lib.hid (by
   rw [HV.out]
   cases b <;> cases decide (0 ≤ pd) <;> cases decide (pd ≤ Ac.due eo) <;> rfl)
  clear HR HV htd
  go_enter Tryz.func18, Tryz.ntmps18
  go_upto_region 3 with (first | ((with_reducible refine g_bld ?_); refine a_rbl (v := .agg X1) ?_ (hy := h_bl3 rfl (by (conv => lhs; whnf) <;> rfl) (by (conv => lhs; whnf) <;> rfl) (by (conv => lhs; whnf) <;> rfl) (HB3))) | ((with_reducible refine g_bld ?_); refine a_rbl (v := .agg F) ?_ (hy := h_bl3 rfl (by (conv => lhs; whnf) <;> rfl) (by (conv => lhs; whnf) <;> rfl) (by (conv => lhs; whnf) <;> rfl) (HF3))) | (go_at_call 9; ((with_reducible refine (NW _).mono ?_); rintro e9 w2 ⟨rfl, hL⟩; replace HM := HM.call hL; clear hL)) | (first | ((with_reducible refine g_ld ?_); refine a_ld HM ?_) | ((with_reducible refine g_st ?_); refine a_st HM ?_; clear HM; intro w1 HM) | ((with_reducible refine g_al ?_); refine a_al HM ?_; clear HM; intro bk w1 HM) | ((with_reducible refine g_bx ?_); refine a_bx HM ?_; clear HM; intro bk w1 HM) | ((with_reducible refine g_bld ?_); refine a_bld ?_)))
  obtain ⟨b4, rfl⟩ := HM.nm0
  obtain ⟨b3, rfl⟩ := HM.nm1
  obtain ⟨b1, rfl⟩ := HM.nm2
  go_cut [2] (fun v wc => v = .bool false ∧ Mem w [] [(b4, R), (b3, R), (b1, A)] wc)
  case first =>
   refine start_M [4, 6] HM (by kernel_rfl) (fun w0x H9 => ?_)
   replace HM := H9; clear H9
   refine k_fa 1 (heldE HM) ?_
   refine j_two 0 2 ?_ ?_
   ·refine j_call1 (v := ?_) HM ?_ ?_; rotate_left 1; (focus (with_reducible (exact whole_q 0 0 (by decide) (by decide) (Lib.hid rfl) _))); clear HM; intro w1 HM
    refine ⟨(heldE HM), ?_⟩
    refine k_fa 3 (heldE HM) ?_
    refine j_two 2 4 ?_ ?_
    ·refine j_ld HM ?_
     refine ⟨(heldE HM), ?_⟩
     refine j_one 4 fun K9 hK9 => ?_
     refine j_st HM ?_; clear HM; intro w1 HM
     refine hK9 _ _ heldN ?_; clear hK9 K9
     refine k_fa 5 heldN ?_
     refine j_one 6 fun K9 hK9 => ?_
     refine j_st HM ?_; clear HM; intro w1 HM
     refine hK9 _ _ heldN ?_; clear hK9 K9
     refine wpAnyL_done (by kernel_rfl) ?_ _
     (go_wp2_with fail; go_meet; (case rel => exact ⟨rfl, HM.pick⟩))
    ·refine j_st HM ?_; clear HM; intro w1 HM
     refine ⟨heldN, ?_⟩
     refine j_one 2 fun K9 hK9 => ?_
     refine j_ld HM ?_
     refine hK9 _ _ heldN ?_; clear hK9 K9
     refine k_fa 5 heldN ?_
     refine j_one 6 fun K9 hK9 => ?_
     refine j_st HM ?_; clear HM; intro w1 HM
     refine hK9 _ _ heldN ?_; clear hK9 K9
     refine wpAnyL_done (by kernel_rfl) ?_ _
     (go_wp2_with fail; go_meet; (case rel => exact ⟨rfl, HM.pick⟩))
   ·refine j_ld HM ?_
    refine ⟨(heldE HM), ?_⟩
    refine j_one 0 fun K9 hK9 => ?_
    refine j_call1 (v := ?_) HM ?_ ?_; rotate_left 1; (focus (with_reducible (exact whole_q 0 0 (by decide) (by decide) (Lib.hid rfl) _))); clear HM; intro w1 HM
    refine hK9 _ _ (heldE HM) ?_; clear hK9 K9
    refine k_fa 3 (heldE HM) ?_
    refine j_one 4 fun K9 hK9 => ?_
    refine j_st HM ?_; clear HM; intro w1 HM
    refine hK9 _ _ heldN ?_; clear hK9 K9
    refine k_fa 5 heldN ?_
    refine j_one 6 fun K9 hK9 => ?_
    refine j_st HM ?_; clear HM; intro w1 HM
    refine hK9 _ _ heldN ?_; clear hK9 K9
    refine wpAnyL_done (by kernel_rfl) ?_ _
    (go_wp2_with fail; go_meet; (case rel => exact ⟨rfl, HM.pick⟩))
  case rest =>
   clear HM
   obtain ⟨rfl, HM⟩ := hcut
   go_upto_region 4 with fail
   cases b with
   | false =>
    obtain rfl : v = false := HV2.out
    refine start_M [] HM (by kernel_rfl) (fun w0x H9 => ?_)
    replace HM := H9; clear H9
    refine k_mv 0 (heldE HM) ?_
    refine k_bin 1 (heldE HM) ?_
    refine k_mv 2 (heldE HM) ?_
    refine k_ld 3 [] (heldE HM) ?_
    refine k_ld 4 [] (heldE HM) ?_
    refine t_eq (i := 5) (v := ?_) [] rfl rfl rfl (by kernel_rfl) (fun _ _ _ h => h) (heldE HM) ?_ ?_; rotate_left 1; (focus ((refine y_cmps .eql true (.inl rfl) (EQ) rfl (by kernel_rfl) (x := ?_) (y := ?_) (t := ?_) ?_ ?_ ?_ ?_; rotate_left 3; (focus rfl); (focus rfl); (focus ((conv => lhs; whnf) <;> rfl)); ((conv => lhs; whnf) <;> rfl)))); ((try simp only [List.setIfInBounds_toArray]); (try simp only [List.set_cons_succ]); (try simp only [List.set_cons_zero]))
    refine k_pick 6 (heldE HM) ?_
    refine k_mv 7 (heldE HM) ?_
    refine k_fa 8 (heldE HM) ?_
    refine k_ld 9 [] (heldE HM) ?_
    refine j_one 10 fun K9 hK9 => ?_
    refine j_call2 (v := ?_) HM ?_ ?_; rotate_left 1; (focus (with_reducible (exact BT _))); clear HM; intro w1 HM
    refine hK9 _ _ (heldE HM) ?_; clear hK9 K9
    refine k_pick 11 (heldE HM) ?_
    refine k_mv 12 (heldE HM) ?_
    refine k_off 13 (heldE HM) ?_
    refine k_off 14 (heldE HM) ?_
    refine k_off 15 (heldE HM) ?_
    refine k_pick 16 (heldE HM) ?_
    refine k_mv 17 (heldE HM) ?_
    refine k_off 18 (heldE HM) ?_
    refine k_off 19 (heldE HM) ?_
    refine k_off 20 (heldE HM) ?_
    refine k_off 21 (heldE HM) ?_
    refine k_off 22 (heldE HM) ?_
    refine k_off 23 (heldE HM) ?_
    refine k_pick 24 (heldE HM) ?_
    refine k_mv 25 (heldE HM) ?_
    refine wpAnyL_done (by kernel_rfl) ?_ _
    (go_wp2_with fail; go_ret; exact ⟨rfl, HM.low⟩)
   | true =>
    obtain ⟨n, hn, RN⟩ := HN.out rfl
    by_cases h0 : 0 ≤ pd
    ·obtain rfl : v = decide (pd ≤ n) := by rw [HV2.out, decide_eq_true h0, hn.out]; rfl
     have h9 : decide (0 ≤ pd) = true := decide_eq_true h0
     clear HN hn HV2
     refine start_M [] HM (by kernel_rfl) (fun w0x H9 => ?_)
     replace HM := H9; clear H9
     refine k_mv 0 (heldE HM) ?_
     refine k_bin 1 (heldE HM) ?_
     refine k_mv 2 (heldE HM) ?_
     refine k_ld 3 [] (heldE HM) ?_
     refine k_ld 4 [] (heldE HM) ?_
     refine t_eq (i := 5) (v := ?_) [] rfl rfl rfl (by kernel_rfl) (fun _ _ _ h => h) (heldE HM) ?_ ?_; rotate_left 1; (focus ((refine y_cmps .eql true (.inl rfl) (EQ) rfl (by kernel_rfl) (x := ?_) (y := ?_) (t := ?_) ?_ ?_ ?_ ?_; rotate_left 3; (focus rfl); (focus rfl); (focus ((conv => lhs; whnf) <;> rfl)); ((conv => lhs; whnf) <;> rfl)))); ((try simp only [List.setIfInBounds_toArray]); (try simp only [List.set_cons_succ]); (try simp only [List.set_cons_zero]))
     refine k_pick 6 (heldE HM) ?_
     refine k_mv 7 (heldE HM) ?_
     refine k_fa 8 (heldE HM) ?_
     refine k_ld 9 [] (heldE HM) ?_
     refine j_one 10 fun K9 hK9 => ?_
     refine j_call2 (v := ?_) HM ?_ ?_; rotate_left 1; (focus (with_reducible (first | exact BT _ | exact RN _))); clear HM; intro w1 HM
     refine hK9 _ _ (heldE HM) ?_; clear hK9 K9
     refine k_pick 11 (heldE HM) ?_
     refine k_mv 12 (heldE HM) ?_
     refine k_fa 13 (heldE HM) ?_
     refine k_ld 14 [] (heldE HM) ?_
     refine k_bin 15 (heldE HM) ?_
     refine k_pick 16 (heldE HM) ?_
     refine k_mv 17 (heldE HM) ?_
     refine k_fa 18 (heldE HM) ?_
     refine k_ld 19 [] (heldE HM) ?_
     refine k_fa 20 (heldE HM) ?_
     refine k_ld 21 [] (heldE HM) ?_
     refine j_one 22 fun K9 hK9 => ?_
     refine j_call1 (v := ?_) HM ?_ ?_; rotate_left 1; (focus (with_reducible (first | exact BT _ | exact RN _))); clear HM; intro w1 HM
     refine hK9 _ _ (heldE HM) ?_; clear hK9 K9
     refine k_bin 23 (heldE HM) ?_
     refine k_pick 24 (heldE HM) ?_
     refine k_mv 25 (heldE HM) ?_
     refine wpAnyL_done (by kernel_rfl) ?_ _
     (go_wp2_with fail; go_ret; exact ⟨rfl, HM.low⟩)
    ·obtain rfl : v = false := by rw [HV2.out, decide_eq_false h0]; rfl
     have h9 : decide (0 ≤ pd) = false := decide_eq_false h0
     clear HN hn HV2
     refine start_M [] HM (by kernel_rfl) (fun w0x H9 => ?_)
     replace HM := H9; clear H9
     refine k_mv 0 (heldE HM) ?_
     refine k_bin 1 (heldE HM) ?_
     refine k_mv 2 (heldE HM) ?_
     refine k_ld 3 [] (heldE HM) ?_
     refine k_ld 4 [] (heldE HM) ?_
     refine t_eq (i := 5) (v := ?_) [] rfl rfl rfl (by kernel_rfl) (fun _ _ _ h => h) (heldE HM) ?_ ?_; rotate_left 1; (focus ((refine y_cmps .eql true (.inl rfl) (EQ) rfl (by kernel_rfl) (x := ?_) (y := ?_) (t := ?_) ?_ ?_ ?_ ?_; rotate_left 3; (focus rfl); (focus rfl); (focus ((conv => lhs; whnf) <;> rfl)); ((conv => lhs; whnf) <;> rfl)))); ((try simp only [List.setIfInBounds_toArray]); (try simp only [List.set_cons_succ]); (try simp only [List.set_cons_zero]))
     refine k_pick 6 (heldE HM) ?_
     refine k_mv 7 (heldE HM) ?_
     refine k_fa 8 (heldE HM) ?_
     refine k_ld 9 [] (heldE HM) ?_
     refine j_one 10 fun K9 hK9 => ?_
     refine j_call2 (v := ?_) HM ?_ ?_; rotate_left 1; (focus (with_reducible (first | exact BT _ | exact RN _))); clear HM; intro w1 HM
     refine hK9 _ _ (heldE HM) ?_; clear hK9 K9
     refine k_pick 11 (heldE HM) ?_
     refine k_mv 12 (heldE HM) ?_
     refine k_fa 13 (heldE HM) ?_
     refine k_ld 14 [] (heldE HM) ?_
     refine k_bin 15 (heldE HM) ?_
     refine k_pick 16 (heldE HM) ?_
     refine k_mv 17 (heldE HM) ?_
     refine k_off 18 (heldE HM) ?_
     refine k_off 19 (heldE HM) ?_
     refine k_off 20 (heldE HM) ?_
     refine k_off 21 (heldE HM) ?_
     refine k_off 22 (heldE HM) ?_
     refine k_off 23 (heldE HM) ?_
     refine k_pick 24 (heldE HM) ?_
     refine k_mv 25 (heldE HM) ?_
     refine wpAnyL_done (by kernel_rfl) ?_ _
     (go_wp2_with fail; go_ret; exact ⟨rfl, HM.low⟩)
end Go.Proofs.YtmbjaaaeekacfaaGreatDoor
namespace Go.Proofs.YtmbjaaaeekacfaaGreatDoor
set_option maxRecDepth 8000
open Go.RowKit
set_option maxHeartbeats 8000000 in
theorem ravalid_any (a : Ag) (v : Bool) (hr : Hid (v = Ac.vd a)) (w : World) :
    Calls Tryz.prog 19 #[.agg a.c] w fun r w' => r = .returned (.bool v) ∧ Below w.heap.size w w' := by
 have HM := Mem.start w
 obtain ⟨nm, rc, ro, bs, ec, eo, pd, un, hrc, hec⟩ := a
 rw [Ag.c_raw]
 show Calls _ _ #[.agg (Ag.raw nm rc bs ec pd un)] w _
 replace hr : Hid (v = (Ac.tm nm ro bs && (Ac.btw eo 1000000000000000 && (decide (0 ≤ pd) && (decide (pd ≤ Ac.due eo) && Dt.isDay un))))) := hr
 have f0 := (Ag.fnm (nm := nm) (rc := rc) (bs := bs) (ec := ec) (pd := pd) (un := un)).la
 have f1 := (Ag.frc (nm := nm) (bs := bs) (ec := ec) (pd := pd) (un := un) hrc.size).la
 have f2 := (Ag.fbs (nm := nm) (bs := bs) (ec := ec) (pd := pd) (un := un) hrc.size).la
 have f3 := (Ag.fec (nm := nm) (bs := bs) (pd := pd) (un := un) hrc.size hec.size).la
 have f4 := (Ag.fpd (nm := nm) (bs := bs) (pd := pd) (un := un) hrc.size hec.size).la
 have f5 := (Ag.fun_ (nm := nm) (bs := bs) (pd := pd) (un := un) hrc.size hec.size).la
 have f6 := Ag.rla (nm := nm) (bs := bs) (pd := pd) (un := un) hrc.size hec.size
 obtain ⟨t, ht⟩ : ∃ t, Hid (t = Ac.tm nm ro bs) := ⟨_, Lib.hid rfl⟩
 have TM := fun w => terms_any nm ro rc hrc bs t ht w
 obtain ⟨b, hb⟩ : ∃ b, Hid (b = Ac.btw eo 1000000000000000) := ⟨_, Lib.hid rfl⟩
 have BT := fun w => rbetween_any eo ec hec 1000000000000000 (by decide) (by decide) b hb w
 have OT := fun w => below_eq (rOut_any un w)
 have hv := hr.out
 rw [← ht.out, ← hb.out] at hv
 have HV := Lib.hid hv
 have HRN : b = true → ∃ n, Hid (n = Ac.due eo) ∧ ∀ w, Calls Tryz.prog 52 #[.agg (Ag.raw nm rc bs ec pd un)] w fun r w' => r = .returned (.int .i64 n) ∧ Below w.heap.size w w' := fun h => by
  cases eo with
  | none => rw [hb.out] at h; exact absurd h Bool.false_ne_true
  | some x =>
   obtain ⟨hx, rfl⟩ := hec
   rw [hb.out] at h
   have h2 := Ac.btw_iff.1 h
   exact ⟨_, Lib.hid rfl, fun w => owed_any nm rc bs pd un hrc.size x hx h2.1 h2.2 _ (Lib.hid rfl) w⟩
 have HN := Lib.hid HRN
 clear HRN hv hr ht hb hrc hec
 generalize Ag.raw nm rc bs ec pd un = A at *
 generalize Dt.isDay un = d at *
 go_enter Tryz.func19, Tryz.ntmps19
 go_upto_region 1 with (first | ((with_reducible refine g_ld ?_); refine a_ld HM ?_) | ((with_reducible refine g_bx ?_); refine a_bx HM ?_; clear HM; intro bk w1 HM))
 cases t with
 | false =>
  obtain rfl : v = false := HV.out
  clear HN HV
  refine start_M [] HM (by kernel_rfl) (fun w0x H9 => ?_)
  replace HM := H9; clear H9
  refine k_fa 0 (heldE HM) ?_
  refine k_ld 1 [] (heldE HM) ?_
  refine k_fa 2 (heldE HM) ?_
  refine k_ld 3 [] (heldE HM) ?_
  refine k_fa 4 (heldE HM) ?_
  refine k_ld 5 [] (heldE HM) ?_
  refine j_one 6 fun K9 hK9 => ?_
  refine j_call3 (v := ?_) HM ?_ ?_; rotate_left 1; (focus (with_reducible (exact TM _))); clear HM; intro w1 HM
  refine hK9 _ _ (heldE HM) ?_; clear hK9 K9
  refine k_mv 7 (heldE HM) ?_
  refine k_off 8 (heldE HM) ?_
  refine k_off 9 (heldE HM) ?_
  refine k_off 10 (heldE HM) ?_
  refine k_pick 11 (heldE HM) ?_
  refine k_mv 12 (heldE HM) ?_
  refine k_off 13 (heldE HM) ?_
  refine k_off 14 (heldE HM) ?_
  refine k_off 15 (heldE HM) ?_
  refine k_pick 16 (heldE HM) ?_
  refine k_mv 17 (heldE HM) ?_
  refine k_off 18 (heldE HM) ?_
  refine k_off 19 (heldE HM) ?_
  refine k_off 20 (heldE HM) ?_
  refine k_off 21 (heldE HM) ?_
  refine k_off 22 (heldE HM) ?_
  refine k_pick 23 (heldE HM) ?_
  refine k_mv 24 (heldE HM) ?_
  refine k_off 25 (heldE HM) ?_
  refine k_off 26 (heldE HM) ?_
  refine k_off 27 (heldE HM) ?_
  refine k_off 28 (heldE HM) ?_
  refine k_pick 29 (heldE HM) ?_
  refine k_mv 30 (heldE HM) ?_
  refine wpAnyL_done (by kernel_rfl) ?_ _
  (go_wp2_with fail; go_ret; exact ⟨rfl, HM.low⟩)
 | true =>
  cases b with
  | false =>
   obtain rfl : v = false := HV.out
   clear HN HV
   refine start_M [] HM (by kernel_rfl) (fun w0x H9 => ?_)
   replace HM := H9; clear H9
   refine k_fa 0 (heldE HM) ?_
   refine k_ld 1 [] (heldE HM) ?_
   refine k_fa 2 (heldE HM) ?_
   refine k_ld 3 [] (heldE HM) ?_
   refine k_fa 4 (heldE HM) ?_
   refine k_ld 5 [] (heldE HM) ?_
   refine j_one 6 fun K9 hK9 => ?_
   refine j_call3 (v := ?_) HM ?_ ?_; rotate_left 1; (focus (with_reducible (first | exact TM _ | exact BT _))); clear HM; intro w1 HM
   refine hK9 _ _ (heldE HM) ?_; clear hK9 K9
   refine k_mv 7 (heldE HM) ?_
   refine k_fa 8 (heldE HM) ?_
   refine k_ld 9 [] (heldE HM) ?_
   refine j_one 10 fun K9 hK9 => ?_
   refine j_call3 (v := ?_) HM ?_ ?_; rotate_left 1; (focus (with_reducible (first | exact TM _ | exact BT _))); clear HM; intro w1 HM
   refine hK9 _ _ (heldE HM) ?_; clear hK9 K9
   refine k_pick 11 (heldE HM) ?_
   refine k_mv 12 (heldE HM) ?_
   refine k_off 13 (heldE HM) ?_
   refine k_off 14 (heldE HM) ?_
   refine k_off 15 (heldE HM) ?_
   refine k_pick 16 (heldE HM) ?_
   refine k_mv 17 (heldE HM) ?_
   refine k_off 18 (heldE HM) ?_
   refine k_off 19 (heldE HM) ?_
   refine k_off 20 (heldE HM) ?_
   refine k_off 21 (heldE HM) ?_
   refine k_off 22 (heldE HM) ?_
   refine k_pick 23 (heldE HM) ?_
   refine k_mv 24 (heldE HM) ?_
   refine k_off 25 (heldE HM) ?_
   refine k_off 26 (heldE HM) ?_
   refine k_off 27 (heldE HM) ?_
   refine k_off 28 (heldE HM) ?_
   refine k_pick 29 (heldE HM) ?_
   refine k_mv 30 (heldE HM) ?_
   refine wpAnyL_done (by kernel_rfl) ?_ _
   (go_wp2_with fail; go_ret; exact ⟨rfl, HM.low⟩)
  | true =>
   obtain ⟨n, hn, RN⟩ := HN.out rfl
   by_cases h0 : 0 ≤ pd
   ·have h9 : decide (0 ≤ pd) = true := decide_eq_true h0
    by_cases h1 : pd ≤ n
    ·obtain rfl : v = d := by rw [HV.out, h9, ← hn.out, decide_eq_true h1]; rfl
     have h8 : decide (pd ≤ n) = true := decide_eq_true h1
     clear HN HV hn
     cases v with
     | false =>
      refine start_M [] HM (by kernel_rfl) (fun w0x H9 => ?_)
      replace HM := H9; clear H9
      refine k_fa 0 (heldE HM) ?_
      refine k_ld 1 [] (heldE HM) ?_
      refine k_fa 2 (heldE HM) ?_
      refine k_ld 3 [] (heldE HM) ?_
      refine k_fa 4 (heldE HM) ?_
      refine k_ld 5 [] (heldE HM) ?_
      refine j_one 6 fun K9 hK9 => ?_
      refine j_call3 (v := ?_) HM ?_ ?_; rotate_left 1; (focus (with_reducible (first | exact TM _ | exact BT _ | exact RN _ | exact OT _))); clear HM; intro w1 HM
      refine hK9 _ _ (heldE HM) ?_; clear hK9 K9
      refine k_mv 7 (heldE HM) ?_
      refine k_fa 8 (heldE HM) ?_
      refine k_ld 9 [] (heldE HM) ?_
      refine j_one 10 fun K9 hK9 => ?_
      refine j_call3 (v := ?_) HM ?_ ?_; rotate_left 1; (focus (with_reducible (first | exact TM _ | exact BT _ | exact RN _ | exact OT _))); clear HM; intro w1 HM
      refine hK9 _ _ (heldE HM) ?_; clear hK9 K9
      refine k_pick 11 (heldE HM) ?_
      refine k_mv 12 (heldE HM) ?_
      refine k_fa 13 (heldE HM) ?_
      refine k_ld 14 [] (heldE HM) ?_
      refine k_bin 15 (heldE HM) ?_
      refine k_pick 16 (heldE HM) ?_
      refine k_mv 17 (heldE HM) ?_
      refine k_fa 18 (heldE HM) ?_
      refine k_ld 19 [] (heldE HM) ?_
      refine k_ld 20 [] (heldE HM) ?_
      refine j_one 21 fun K9 hK9 => ?_
      refine j_call1 (v := ?_) HM ?_ ?_; rotate_left 1; (focus (with_reducible (first | exact TM _ | exact BT _ | exact RN _ | exact OT _))); clear HM; intro w1 HM
      refine hK9 _ _ (heldE HM) ?_; clear hK9 K9
      refine k_bin 22 (heldE HM) ?_
      refine k_pick 23 (heldE HM) ?_
      refine k_mv 24 (heldE HM) ?_
      refine k_fa 25 (heldE HM) ?_
      refine k_ld 26 [] (heldE HM) ?_
      refine j_one 27 fun K9 hK9 => ?_
      refine j_call1 (v := ?_) HM ?_ ?_; rotate_left 1; (focus (with_reducible (first | exact TM _ | exact BT _ | exact RN _ | exact OT _))); clear HM; intro w1 HM
      refine hK9 _ _ (heldE HM) ?_; clear hK9 K9
      refine k_not 28 (heldE HM) ?_
      refine k_pick 29 (heldE HM) ?_
      refine k_mv 30 (heldE HM) ?_
      refine wpAnyL_done (by kernel_rfl) ?_ _
      (go_wp2_with fail; go_ret; exact ⟨rfl, HM.low⟩)
     | true =>
      refine start_M [] HM (by kernel_rfl) (fun w0x H9 => ?_)
      replace HM := H9; clear H9
      refine k_fa 0 (heldE HM) ?_
      refine k_ld 1 [] (heldE HM) ?_
      refine k_fa 2 (heldE HM) ?_
      refine k_ld 3 [] (heldE HM) ?_
      refine k_fa 4 (heldE HM) ?_
      refine k_ld 5 [] (heldE HM) ?_
      refine j_one 6 fun K9 hK9 => ?_
      refine j_call3 (v := ?_) HM ?_ ?_; rotate_left 1; (focus (with_reducible (first | exact TM _ | exact BT _ | exact RN _ | exact OT _))); clear HM; intro w1 HM
      refine hK9 _ _ (heldE HM) ?_; clear hK9 K9
      refine k_mv 7 (heldE HM) ?_
      refine k_fa 8 (heldE HM) ?_
      refine k_ld 9 [] (heldE HM) ?_
      refine j_one 10 fun K9 hK9 => ?_
      refine j_call3 (v := ?_) HM ?_ ?_; rotate_left 1; (focus (with_reducible (first | exact TM _ | exact BT _ | exact RN _ | exact OT _))); clear HM; intro w1 HM
      refine hK9 _ _ (heldE HM) ?_; clear hK9 K9
      refine k_pick 11 (heldE HM) ?_
      refine k_mv 12 (heldE HM) ?_
      refine k_fa 13 (heldE HM) ?_
      refine k_ld 14 [] (heldE HM) ?_
      refine k_bin 15 (heldE HM) ?_
      refine k_pick 16 (heldE HM) ?_
      refine k_mv 17 (heldE HM) ?_
      refine k_fa 18 (heldE HM) ?_
      refine k_ld 19 [] (heldE HM) ?_
      refine k_ld 20 [] (heldE HM) ?_
      refine j_one 21 fun K9 hK9 => ?_
      refine j_call1 (v := ?_) HM ?_ ?_; rotate_left 1; (focus (with_reducible (first | exact TM _ | exact BT _ | exact RN _ | exact OT _))); clear HM; intro w1 HM
      refine hK9 _ _ (heldE HM) ?_; clear hK9 K9
      refine k_bin 22 (heldE HM) ?_
      refine k_pick 23 (heldE HM) ?_
      refine k_mv 24 (heldE HM) ?_
      refine k_fa 25 (heldE HM) ?_
      refine k_ld 26 [] (heldE HM) ?_
      refine j_one 27 fun K9 hK9 => ?_
      refine j_call1 (v := ?_) HM ?_ ?_; rotate_left 1; (focus (with_reducible (first | exact TM _ | exact BT _ | exact RN _ | exact OT _))); clear HM; intro w1 HM
      refine hK9 _ _ (heldE HM) ?_; clear hK9 K9
      refine k_not 28 (heldE HM) ?_
      refine k_pick 29 (heldE HM) ?_
      refine k_mv 30 (heldE HM) ?_
      refine wpAnyL_done (by kernel_rfl) ?_ _
      (go_wp2_with fail; go_ret; exact ⟨rfl, HM.low⟩)
    ·obtain rfl : v = false := by rw [HV.out, h9, ← hn.out, decide_eq_false h1]; rfl
     have h8 : decide (pd ≤ n) = false := decide_eq_false h1
     clear HN HV hn
     refine start_M [] HM (by kernel_rfl) (fun w0x H9 => ?_)
     replace HM := H9; clear H9
     refine k_fa 0 (heldE HM) ?_
     refine k_ld 1 [] (heldE HM) ?_
     refine k_fa 2 (heldE HM) ?_
     refine k_ld 3 [] (heldE HM) ?_
     refine k_fa 4 (heldE HM) ?_
     refine k_ld 5 [] (heldE HM) ?_
     refine j_one 6 fun K9 hK9 => ?_
     refine j_call3 (v := ?_) HM ?_ ?_; rotate_left 1; (focus (with_reducible (first | exact TM _ | exact BT _ | exact RN _ | exact OT _))); clear HM; intro w1 HM
     refine hK9 _ _ (heldE HM) ?_; clear hK9 K9
     refine k_mv 7 (heldE HM) ?_
     refine k_fa 8 (heldE HM) ?_
     refine k_ld 9 [] (heldE HM) ?_
     refine j_one 10 fun K9 hK9 => ?_
     refine j_call3 (v := ?_) HM ?_ ?_; rotate_left 1; (focus (with_reducible (first | exact TM _ | exact BT _ | exact RN _ | exact OT _))); clear HM; intro w1 HM
     refine hK9 _ _ (heldE HM) ?_; clear hK9 K9
     refine k_pick 11 (heldE HM) ?_
     refine k_mv 12 (heldE HM) ?_
     refine k_fa 13 (heldE HM) ?_
     refine k_ld 14 [] (heldE HM) ?_
     refine k_bin 15 (heldE HM) ?_
     refine k_pick 16 (heldE HM) ?_
     refine k_mv 17 (heldE HM) ?_
     refine k_fa 18 (heldE HM) ?_
     refine k_ld 19 [] (heldE HM) ?_
     refine k_ld 20 [] (heldE HM) ?_
     refine j_one 21 fun K9 hK9 => ?_
     refine j_call1 (v := ?_) HM ?_ ?_; rotate_left 1; (focus (with_reducible (first | exact TM _ | exact BT _ | exact RN _ | exact OT _))); clear HM; intro w1 HM
     refine hK9 _ _ (heldE HM) ?_; clear hK9 K9
     refine k_bin 22 (heldE HM) ?_
     refine k_pick 23 (heldE HM) ?_
     refine k_mv 24 (heldE HM) ?_
     refine k_off 25 (heldE HM) ?_
     refine k_off 26 (heldE HM) ?_
     refine k_off 27 (heldE HM) ?_
     refine k_off 28 (heldE HM) ?_
     refine k_pick 29 (heldE HM) ?_
     refine k_mv 30 (heldE HM) ?_
     refine wpAnyL_done (by kernel_rfl) ?_ _
     (go_wp2_with fail; go_ret; exact ⟨rfl, HM.low⟩)
   ·obtain rfl : v = false := by rw [HV.out, decide_eq_false h0]; rfl
    have h9 : decide (0 ≤ pd) = false := decide_eq_false h0
    clear HN HV hn
    refine start_M [] HM (by kernel_rfl) (fun w0x H9 => ?_)
    replace HM := H9; clear H9
    refine k_fa 0 (heldE HM) ?_
    refine k_ld 1 [] (heldE HM) ?_
    refine k_fa 2 (heldE HM) ?_
    refine k_ld 3 [] (heldE HM) ?_
    refine k_fa 4 (heldE HM) ?_
    refine k_ld 5 [] (heldE HM) ?_
    refine j_one 6 fun K9 hK9 => ?_
    refine j_call3 (v := ?_) HM ?_ ?_; rotate_left 1; (focus (with_reducible (first | exact TM _ | exact BT _ | exact RN _))); clear HM; intro w1 HM
    refine hK9 _ _ (heldE HM) ?_; clear hK9 K9
    refine k_mv 7 (heldE HM) ?_
    refine k_fa 8 (heldE HM) ?_
    refine k_ld 9 [] (heldE HM) ?_
    refine j_one 10 fun K9 hK9 => ?_
    refine j_call3 (v := ?_) HM ?_ ?_; rotate_left 1; (focus (with_reducible (first | exact TM _ | exact BT _ | exact RN _))); clear HM; intro w1 HM
    refine hK9 _ _ (heldE HM) ?_; clear hK9 K9
    refine k_pick 11 (heldE HM) ?_
    refine k_mv 12 (heldE HM) ?_
    refine k_fa 13 (heldE HM) ?_
    refine k_ld 14 [] (heldE HM) ?_
    refine k_bin 15 (heldE HM) ?_
    refine k_pick 16 (heldE HM) ?_
    refine k_mv 17 (heldE HM) ?_
    refine k_off 18 (heldE HM) ?_
    refine k_off 19 (heldE HM) ?_
    refine k_off 20 (heldE HM) ?_
    refine k_off 21 (heldE HM) ?_
    refine k_off 22 (heldE HM) ?_
    refine k_pick 23 (heldE HM) ?_
    refine k_mv 24 (heldE HM) ?_
    refine k_off 25 (heldE HM) ?_
    refine k_off 26 (heldE HM) ?_
    refine k_off 27 (heldE HM) ?_
    refine k_off 28 (heldE HM) ?_
    refine k_pick 29 (heldE HM) ?_
    refine k_mv 30 (heldE HM) ?_
    refine wpAnyL_done (by kernel_rfl) ?_ _
    (go_wp2_with fail; go_ret; exact ⟨rfl, HM.low⟩)
end Go.Proofs.YtmbjaaaeekacfaaGreatDoor
