/- Size of the document. -/
import Derived.Test.YteamjgifohamgaaGreatMtA
namespace Go.Proofs.YteamjgifohamgaaGreat
set_option maxRecDepth 8000
open Go.RowKit
theorem Rt.abs_mul (q y : Rat) : Rt.abs (q * y) = Rt.abs q * Rt.abs y := by
  rw [Mt.abs_eq, Mt.abs_eq, Mt.abs_eq]
  by_cases h1 : q < 0
  · by_cases h2 : y < 0
    · have := Rat.mul_pos (a := -q) (b := -y) (by grind) (by grind)
      rw [if_pos h1, if_pos h2, if_neg (by grind)]; grind
    · rw [if_pos h1, if_neg h2]
      by_cases h3 : y = 0
      · subst h3; rw [if_neg (by grind)]; grind
      · have := Rat.mul_pos (a := -q) (b := y) (by grind) (by grind)
        rw [if_pos (by grind)]; grind
  · by_cases h2 : y < 0
    · rw [if_neg h1, if_pos h2]
      by_cases h3 : q = 0
      · subst h3; rw [if_neg (by grind)]; grind
      · have := Rat.mul_pos (a := q) (b := -y) (by grind) (by grind)
        rw [if_pos (by grind)]; grind
    · have := Rat.mul_nonneg (a := q) (b := y) (by grind) (by grind)
      rw [if_neg h1, if_neg h2, if_neg (by grind)]
theorem Rt.abs_ne {y : Rat} (h : y ≠ 0) : Rt.abs y ≠ 0 := by
  rw [Mt.abs_eq]; split <;> grind
theorem Rt.abs_div (x y : Rat) (h : y ≠ 0) : Rt.abs x / Rt.abs y = Rt.abs (x / y) := by
  have e : x = x / y * y := by grind
  have e2 := Rt.abs_mul (x / y) y
  rw [← e] at e2
  have h2 := Rt.abs_ne h
  rw [e2]; grind
theorem Rt.fit_abs {x : Rat} : Rt.Fit (Rt.abs x) ↔ Rt.Fit x := by
  unfold Rt.Fit Rt.abs
  simp
theorem Mt.size_ex {a b : Rat} {o : Option Rat} {e : Int} (h0 : b ≠ 0) (h : (o, e) = Mt.size (some a) (some b)) :
    (Rt.outV o, e) = ((Ex.quo (Ex.abs (Ex.sub (.ok a) (.ok b))) (Ex.abs (.ok b))).cv, (Ex.quo (Ex.abs (Ex.sub (.ok a) (.ok b))) (Ex.abs (.ok b))).ce) := by
  unfold Mt.size at h
  simp only [if_neg h0] at h
  have hs : Ex.sub (.ok a) (.ok b) = Ex.mk (a - b) := rfl
  rw [hs]
  by_cases f1 : Rt.Fit (a - b)
  · rw [if_pos f1] at h
    rw [Ex.mk_ok f1]
    have hq : Ex.quo (Ex.abs (.ok (a - b))) (Ex.abs (.ok b)) = Ex.mk (Rt.abs ((a - b) / b)) := by
      show (if Rt.abs b = 0 then Ex.er 11 else Ex.mk (Rt.abs (a - b) / Rt.abs b)) = _
      rw [if_neg (Rt.abs_ne h0), Rt.abs_div _ _ h0]
    rw [hq]
    by_cases f2 : Rt.Fit ((a - b) / b)
    · rw [if_pos f2] at h
      obtain ⟨rfl, rfl⟩ := Prod.mk.inj h
      rw [Ex.mk_ok (Rt.fit_abs.2 f2)]; rfl
    · rw [if_neg f2] at h
      obtain ⟨rfl, rfl⟩ := Prod.mk.inj h
      rw [Ex.mk_no (fun h => f2 (Rt.fit_abs.1 h))]; rfl
  · rw [if_neg f1] at h
    obtain ⟨rfl, rfl⟩ := Prod.mk.inj h
    rw [Ex.mk_no f1]; rfl
theorem Ex.abs_fit {n : Ex} (h : n.Fit) : n.abs.Fit := by
  cases n with
  | ok x => exact Rt.fit_abs.2 h
  | er e => exact h
set_option maxHeartbeats 4000000 in
theorem rsize_any (d : Mt.D) (o : Option Rat) (e : Int) (hr : Hid ((o, e) = Mt.size d.ow d.oi)) (w : World) :
    Calls Tryz.prog 31 #[.agg (Mt.c d)] w fun r w' => r = .returned (.tuple #[.agg (Rt.outV o), .int .i64 e]) ∧ Below w.heap.size w w' := by
  have HM := Mem.start w
  have hz := za_rat
  have zn := Ex.za
  have k1 := (Mt.fw d).la
  have k2 := (Mt.fi d).la
  have s0 := sa_rz 0 0 (rZ_size 0 0)
  have k0 := la_rz 0 0
  have V1 := fun w => rvalid_v d.ow d.cw d.hw w
  have V2 := fun w => rvalid_v d.oi d.ci d.hi w
  have h := hr.out
  have hw := d.hw
  have hi := d.hi
  generalize Mt.c d = cc at *
  generalize d.ow = ow at *
  generalize d.oi = oi at *
  generalize d.cw = cw at *
  generalize d.ci = ci at *
  cases ow with
  | none =>
    obtain ⟨rfl, rfl⟩ : o = none ∧ e = 20 := by simpa [Mt.size] using h
    clear h hr hw hi
    go_enter Tryz.func31, Tryz.ntmps31
    go_wp2_with (first | first | ((with_reducible refine g_bld ?_); refine a_rbl ?_) | (go_at_call 34; ((with_reducible refine (V1 _).mono ?_); rintro e9 w2 ⟨rfl, hL⟩; replace HM := HM.call hL; clear hL)) | (first | ((with_reducible refine g_ld ?_); refine a_ld HM ?_) | ((with_reducible refine g_st ?_); refine a_st HM ?_; clear HM; intro w1 HM) | ((with_reducible refine g_al ?_); refine a_al HM ?_; clear HM; intro bk w1 HM) | ((with_reducible refine g_bx ?_); refine a_bx HM ?_; clear HM; intro bk w1 HM) | ((with_reducible refine g_bld ?_); refine a_bld ?_)))
    refine bodyPost_ret (r_ct rfl rfl (HM.get (by ((repeat (first | exact Look.here | refine Look.there ?_)); done))) k0) rfl ⟨rfl, HM.low⟩
  | some a =>
    cases oi with
    | none =>
      obtain ⟨rfl, rfl⟩ : o = none ∧ e = 20 := by simpa [Mt.size] using h
      clear h hr hw hi
      go_enter Tryz.func31, Tryz.ntmps31
      go_wp2_with (first | first | ((with_reducible refine g_bld ?_); refine a_rbl ?_) | (go_at_call 34; ((with_reducible refine (V1 _).mono ?_); rintro e9 w2 ⟨rfl, hL⟩; replace HM := HM.call hL; clear hL)) | (go_at_call 34; ((with_reducible refine (V2 _).mono ?_); rintro e9 w2 ⟨rfl, hL⟩; replace HM := HM.call hL; clear hL)) | (first | ((with_reducible refine g_ld ?_); refine a_ld HM ?_) | ((with_reducible refine g_st ?_); refine a_st HM ?_; clear HM; intro w1 HM) | ((with_reducible refine g_al ?_); refine a_al HM ?_; clear HM; intro bk w1 HM) | ((with_reducible refine g_bx ?_); refine a_bx HM ?_; clear HM; intro bk w1 HM) | ((with_reducible refine g_bld ?_); refine a_bld ?_)))
      refine bodyPost_ret (r_ct rfl rfl (HM.get (by ((repeat (first | exact Look.here | refine Look.there ?_)); done))) k0) rfl ⟨rfl, HM.low⟩
    | some b =>
      obtain ⟨ha, rfl⟩ := hw
      obtain ⟨hb, rfl⟩ := hi
      have O2 := fun w => of_ex b w
      obtain ⟨g, hg⟩ : ∃ g, Hid (g = b.num.sign) := ⟨_, Lib.hid rfl⟩
      have S := fun w => sign_ex b g hb hg w
      by_cases h0 : b = 0
      · subst h0
        obtain ⟨rfl, rfl⟩ : o = none ∧ e = 11 := by simpa [Mt.size] using h
        obtain rfl : g = 0 := by rw [hg.out]; rfl
        clear h hr
        go_enter Tryz.func31, Tryz.ntmps31
        go_wp2_with (first | first | ((with_reducible refine g_bld ?_); refine a_rbl ?_) | (go_at_call 34; ((with_reducible refine (V1 _).mono ?_); rintro e9 w2 ⟨rfl, hL⟩; replace HM := HM.call hL; clear hL)) | (go_at_call 34; ((with_reducible refine (V2 _).mono ?_); rintro e9 w2 ⟨rfl, hL⟩; replace HM := HM.call hL; clear hL)) | (go_at_call 8; ((with_reducible refine (O2 _).mono ?_); rintro e9 w2 ⟨rfl, hL⟩; replace HM := HM.call hL; clear hL)) | (go_at_call 48; ((with_reducible refine (S _).mono ?_); rintro e9 w2 ⟨rfl, hL⟩; replace HM := HM.call hL; clear hL)) | (first | ((with_reducible refine g_ld ?_); refine a_ld HM ?_) | ((with_reducible refine g_st ?_); refine a_st HM ?_; clear HM; intro w1 HM) | ((with_reducible refine g_al ?_); refine a_al HM ?_; clear HM; intro bk w1 HM) | ((with_reducible refine g_bx ?_); refine a_bx HM ?_; clear HM; intro bk w1 HM) | ((with_reducible refine g_bld ?_); refine a_bld ?_)))
        refine bodyPost_ret (r_ct rfl rfl (HM.get (by ((repeat (first | exact Look.here | refine Look.there ?_)); done))) k0) rfl ⟨rfl, HM.low⟩
      · have g1 : (g == 0) = false := by
          rw [hg.out]
          apply beq_eq_false_iff_ne.2
          intro e0
          exact h0 (Rat.num_eq_zero.1 (Int.sign_eq_zero_iff_zero.1 e0))
        have O1 := fun w => of_ex a w
        obtain ⟨z1, h1⟩ : ∃ z, Hid (z = Ex.sub (.ok a) (.ok b)) := ⟨_, Lib.hid rfl⟩
        have f1 : z1.Fit := by rw [h1.out]; exact Ex.mk_fit _
        have C1 := fun w => sub_ex (.ok a) (.ok b) ha hb z1 h1 w
        obtain ⟨z2, h2⟩ : ∃ z, Hid (z = Ex.abs z1) := ⟨_, Lib.hid rfl⟩
        have f2 : z2.Fit := by rw [h2.out]; exact Ex.abs_fit f1
        have C2 := fun w => exabs_any z1 z2 f1 h2 w
        obtain ⟨z3, h3⟩ : ∃ z, Hid (z = Ex.abs (.ok b)) := ⟨_, Lib.hid rfl⟩
        have f3 : z3.Fit := by rw [h3.out]; exact Ex.abs_fit hb
        have C3 := fun w => exabs_any (.ok b) z3 hb h3 w
        obtain ⟨z, h4⟩ : ∃ z, Hid (z = Ex.quo z2 z3) := ⟨_, Lib.hid rfl⟩
        have C4 := fun w => quo_ex z2 z3 f2 f3 z h4 w
        have hz9 := Mt.size_ex h0 h
        rw [← h1.out, ← h2.out, ← h3.out, ← h4.out] at hz9
        obtain ⟨e1, rfl⟩ := Prod.mk.inj hz9
        rw [e1]
        have k5 := (Ex.fv (Ex.cv_size z) z.ce).la
        have k6 := (Ex.fe (Ex.cv_size z) z.ce).la
        have s5 := Ex.sa (Ex.cv_size z) (Ex.cv_one z) z.ce (Ex.nA_size (rZ_size 0 0) 0)
        have s6 := sa_r66 (Ex.cv_size z) (Ex.cv_one z) (rZ_size 0 0)
        have k7 := la_r66 (Ex.cv_size z)
        clear h hr hz9 e1 h1 h2 h3 h4
        go_enter Tryz.func31, Tryz.ntmps31
        go_upto_region 5 with (first | first | (go_at_call 34; ((with_reducible refine (V1 _).mono ?_); rintro e9 w2 ⟨rfl, hL⟩; replace HM := HM.call hL; clear hL)) | (go_at_call 34; ((with_reducible refine (V2 _).mono ?_); rintro e9 w2 ⟨rfl, hL⟩; replace HM := HM.call hL; clear hL)) | (go_at_call 8; ((with_reducible refine (O2 _).mono ?_); rintro e9 w2 ⟨rfl, hL⟩; replace HM := HM.call hL; clear hL)) | (go_at_call 48; ((with_reducible refine (S _).mono ?_); rintro e9 w2 ⟨rfl, hL⟩; replace HM := HM.call hL; clear hL)) | (first | ((with_reducible refine g_ld ?_); refine a_ld HM ?_) | ((with_reducible refine g_st ?_); refine a_st HM ?_; clear HM; intro w1 HM) | ((with_reducible refine g_al ?_); refine a_al HM ?_; clear HM; intro bk w1 HM) | ((with_reducible refine g_bx ?_); refine a_bx HM ?_; clear HM; intro bk w1 HM) | ((with_reducible refine g_bld ?_); refine a_bld ?_)))
        obtain ⟨b2, rfl⟩ := HM.nm0
        obtain ⟨b1, rfl⟩ := HM.nm1
        go_cut [4] (fun p wc => ∃ b4 : Nat, p = .pointer (some ⟨b4, 0, none⟩) ∧ Mem w [] [(b4, Ex.nA z.cv z.ce), (b2, Bg.rZ 0 0), (b1, cc)] wc)
        case first =>
          refine start_M [14] HM (by kernel_rfl) (fun w0x H9 => ?_)
          replace HM := H9; clear H9
          refine k_fa 0 (heldE HM) ?_
          refine k_ld 1 [2, 5, 6, 7, 10, 11, 12, 14] (heldE HM) ?_
          refine k_fa 3 (heldE HM) ?_
          refine k_ld 4 [5, 6, 7, 10, 11, 12, 14] (heldE HM) ?_
          refine k_fa 8 (heldE HM) ?_
          refine k_ld 9 [10, 11, 12, 14] (heldE HM) ?_
          refine j_two 2 13 ?_ ?_
          · refine j_call1 (v := ?_) HM ?_ ?_; rotate_left 1; (focus (with_reducible (first | exact O1 _ | exact O2 _ | exact C1 _ | exact C2 _ | exact C3 _ | exact C4 _))); clear HM; intro w1 HM
            refine ⟨(heldE HM), ?_⟩
            refine j_two 5 13 ?_ ?_
            · refine j_call1 (v := ?_) HM ?_ ?_; rotate_left 1; (focus (with_reducible (first | exact O1 _ | exact O2 _ | exact C1 _ | exact C2 _ | exact C3 _ | exact C4 _))); clear HM; intro w1 HM
              refine ⟨(heldE HM), ?_⟩
              refine j_two 6 13 ?_ ?_
              · refine j_call2 (v := ?_) HM ?_ ?_; rotate_left 1; (focus (with_reducible (first | exact O1 _ | exact O2 _ | exact C1 _ | exact C2 _ | exact C3 _ | exact C4 _))); clear HM; intro w1 HM
                refine ⟨(heldE HM), ?_⟩
                refine j_two 7 13 ?_ ?_
                · refine j_call1 (v := ?_) HM ?_ ?_; rotate_left 1; (focus (with_reducible (first | exact O1 _ | exact O2 _ | exact C1 _ | exact C2 _ | exact C3 _ | exact C4 _))); clear HM; intro w1 HM
                  refine ⟨(heldE HM), ?_⟩
                  refine j_two 10 13 ?_ ?_
                  · refine j_call1 (v := ?_) HM ?_ ?_; rotate_left 1; (focus (with_reducible (first | exact O1 _ | exact O2 _ | exact C1 _ | exact C2 _ | exact C3 _ | exact C4 _))); clear HM; intro w1 HM
                    refine ⟨(heldE HM), ?_⟩
                    refine j_two 11 13 ?_ ?_
                    · refine j_call1 (v := ?_) HM ?_ ?_; rotate_left 1; (focus (with_reducible (first | exact O1 _ | exact O2 _ | exact C1 _ | exact C2 _ | exact C3 _ | exact C4 _))); clear HM; intro w1 HM
                      refine ⟨(heldE HM), ?_⟩
                      refine j_two 12 13 ?_ ?_
                      · refine j_call2 (v := ?_) HM ?_ ?_; rotate_left 1; (focus (with_reducible (first | exact O1 _ | exact O2 _ | exact C1 _ | exact C2 _ | exact C3 _ | exact C4 _))); clear HM; intro w1 HM
                        refine ⟨(heldE HM), ?_⟩
                        refine j_one 13 fun K9 hK9 => ?_
                        refine j_al HM ?_; clear HM; intro bk w1 HM
                        refine hK9 _ _ (heldE HM) ?_; clear hK9 K9
                        refine j_one 14 fun K9 hK9 => ?_
                        refine j_st HM ?_; clear HM; intro w1 HM
                        refine hK9 _ _ heldN ?_; clear hK9 K9
                        refine wpAnyL_done (by kernel_rfl) ?_ _
                        (go_wp2_with fail; go_meet; (case rel => exact ⟨_, rfl, HM.pick⟩))
                      · refine j_al HM ?_; clear HM; intro bk w1 HM
                        refine ⟨(heldE HM), ?_⟩
                        refine j_one 12 fun K9 hK9 => ?_
                        refine j_call2 (v := ?_) HM ?_ ?_; rotate_left 1; (focus (with_reducible (first | exact O1 _ | exact O2 _ | exact C1 _ | exact C2 _ | exact C3 _ | exact C4 _))); clear HM; intro w1 HM
                        refine hK9 _ _ (heldE HM) ?_; clear hK9 K9
                        refine j_one 14 fun K9 hK9 => ?_
                        refine j_st HM ?_; clear HM; intro w1 HM
                        refine hK9 _ _ heldN ?_; clear hK9 K9
                        refine wpAnyL_done (by kernel_rfl) ?_ _
                        (go_wp2_with fail; go_meet; (case rel => exact ⟨_, rfl, HM.pick⟩))
                    · refine j_al HM ?_; clear HM; intro bk w1 HM
                      refine ⟨(heldE HM), ?_⟩
                      refine j_one 11 fun K9 hK9 => ?_
                      refine j_call1 (v := ?_) HM ?_ ?_; rotate_left 1; (focus (with_reducible (first | exact O1 _ | exact O2 _ | exact C1 _ | exact C2 _ | exact C3 _ | exact C4 _))); clear HM; intro w1 HM
                      refine hK9 _ _ (heldE HM) ?_; clear hK9 K9
                      refine j_one 12 fun K9 hK9 => ?_
                      refine j_call2 (v := ?_) HM ?_ ?_; rotate_left 1; (focus (with_reducible (first | exact O1 _ | exact O2 _ | exact C1 _ | exact C2 _ | exact C3 _ | exact C4 _))); clear HM; intro w1 HM
                      refine hK9 _ _ (heldE HM) ?_; clear hK9 K9
                      refine j_one 14 fun K9 hK9 => ?_
                      refine j_st HM ?_; clear HM; intro w1 HM
                      refine hK9 _ _ heldN ?_; clear hK9 K9
                      refine wpAnyL_done (by kernel_rfl) ?_ _
                      (go_wp2_with fail; go_meet; (case rel => exact ⟨_, rfl, HM.pick⟩))
                  · refine j_al HM ?_; clear HM; intro bk w1 HM
                    refine ⟨(heldE HM), ?_⟩
                    refine j_one 10 fun K9 hK9 => ?_
                    refine j_call1 (v := ?_) HM ?_ ?_; rotate_left 1; (focus (with_reducible (first | exact O1 _ | exact O2 _ | exact C1 _ | exact C2 _ | exact C3 _ | exact C4 _))); clear HM; intro w1 HM
                    refine hK9 _ _ (heldE HM) ?_; clear hK9 K9
                    refine j_one 11 fun K9 hK9 => ?_
                    refine j_call1 (v := ?_) HM ?_ ?_; rotate_left 1; (focus (with_reducible (first | exact O1 _ | exact O2 _ | exact C1 _ | exact C2 _ | exact C3 _ | exact C4 _))); clear HM; intro w1 HM
                    refine hK9 _ _ (heldE HM) ?_; clear hK9 K9
                    refine j_one 12 fun K9 hK9 => ?_
                    refine j_call2 (v := ?_) HM ?_ ?_; rotate_left 1; (focus (with_reducible (first | exact O1 _ | exact O2 _ | exact C1 _ | exact C2 _ | exact C3 _ | exact C4 _))); clear HM; intro w1 HM
                    refine hK9 _ _ (heldE HM) ?_; clear hK9 K9
                    refine j_one 14 fun K9 hK9 => ?_
                    refine j_st HM ?_; clear HM; intro w1 HM
                    refine hK9 _ _ heldN ?_; clear hK9 K9
                    refine wpAnyL_done (by kernel_rfl) ?_ _
                    (go_wp2_with fail; go_meet; (case rel => exact ⟨_, rfl, HM.pick⟩))
                · refine j_al HM ?_; clear HM; intro bk w1 HM
                  refine ⟨(heldE HM), ?_⟩
                  refine j_one 7 fun K9 hK9 => ?_
                  refine j_call1 (v := ?_) HM ?_ ?_; rotate_left 1; (focus (with_reducible (first | exact O1 _ | exact O2 _ | exact C1 _ | exact C2 _ | exact C3 _ | exact C4 _))); clear HM; intro w1 HM
                  refine hK9 _ _ (heldE HM) ?_; clear hK9 K9
                  refine j_one 10 fun K9 hK9 => ?_
                  refine j_call1 (v := ?_) HM ?_ ?_; rotate_left 1; (focus (with_reducible (first | exact O1 _ | exact O2 _ | exact C1 _ | exact C2 _ | exact C3 _ | exact C4 _))); clear HM; intro w1 HM
                  refine hK9 _ _ (heldE HM) ?_; clear hK9 K9
                  refine j_one 11 fun K9 hK9 => ?_
                  refine j_call1 (v := ?_) HM ?_ ?_; rotate_left 1; (focus (with_reducible (first | exact O1 _ | exact O2 _ | exact C1 _ | exact C2 _ | exact C3 _ | exact C4 _))); clear HM; intro w1 HM
                  refine hK9 _ _ (heldE HM) ?_; clear hK9 K9
                  refine j_one 12 fun K9 hK9 => ?_
                  refine j_call2 (v := ?_) HM ?_ ?_; rotate_left 1; (focus (with_reducible (first | exact O1 _ | exact O2 _ | exact C1 _ | exact C2 _ | exact C3 _ | exact C4 _))); clear HM; intro w1 HM
                  refine hK9 _ _ (heldE HM) ?_; clear hK9 K9
                  refine j_one 14 fun K9 hK9 => ?_
                  refine j_st HM ?_; clear HM; intro w1 HM
                  refine hK9 _ _ heldN ?_; clear hK9 K9
                  refine wpAnyL_done (by kernel_rfl) ?_ _
                  (go_wp2_with fail; go_meet; (case rel => exact ⟨_, rfl, HM.pick⟩))
              · refine j_al HM ?_; clear HM; intro bk w1 HM
                refine ⟨(heldE HM), ?_⟩
                refine j_one 6 fun K9 hK9 => ?_
                refine j_call2 (v := ?_) HM ?_ ?_; rotate_left 1; (focus (with_reducible (first | exact O1 _ | exact O2 _ | exact C1 _ | exact C2 _ | exact C3 _ | exact C4 _))); clear HM; intro w1 HM
                refine hK9 _ _ (heldE HM) ?_; clear hK9 K9
                refine j_one 7 fun K9 hK9 => ?_
                refine j_call1 (v := ?_) HM ?_ ?_; rotate_left 1; (focus (with_reducible (first | exact O1 _ | exact O2 _ | exact C1 _ | exact C2 _ | exact C3 _ | exact C4 _))); clear HM; intro w1 HM
                refine hK9 _ _ (heldE HM) ?_; clear hK9 K9
                refine j_one 10 fun K9 hK9 => ?_
                refine j_call1 (v := ?_) HM ?_ ?_; rotate_left 1; (focus (with_reducible (first | exact O1 _ | exact O2 _ | exact C1 _ | exact C2 _ | exact C3 _ | exact C4 _))); clear HM; intro w1 HM
                refine hK9 _ _ (heldE HM) ?_; clear hK9 K9
                refine j_one 11 fun K9 hK9 => ?_
                refine j_call1 (v := ?_) HM ?_ ?_; rotate_left 1; (focus (with_reducible (first | exact O1 _ | exact O2 _ | exact C1 _ | exact C2 _ | exact C3 _ | exact C4 _))); clear HM; intro w1 HM
                refine hK9 _ _ (heldE HM) ?_; clear hK9 K9
                refine j_one 12 fun K9 hK9 => ?_
                refine j_call2 (v := ?_) HM ?_ ?_; rotate_left 1; (focus (with_reducible (first | exact O1 _ | exact O2 _ | exact C1 _ | exact C2 _ | exact C3 _ | exact C4 _))); clear HM; intro w1 HM
                refine hK9 _ _ (heldE HM) ?_; clear hK9 K9
                refine j_one 14 fun K9 hK9 => ?_
                refine j_st HM ?_; clear HM; intro w1 HM
                refine hK9 _ _ heldN ?_; clear hK9 K9
                refine wpAnyL_done (by kernel_rfl) ?_ _
                (go_wp2_with fail; go_meet; (case rel => exact ⟨_, rfl, HM.pick⟩))
            · refine j_al HM ?_; clear HM; intro bk w1 HM
              refine ⟨(heldE HM), ?_⟩
              refine j_one 5 fun K9 hK9 => ?_
              refine j_call1 (v := ?_) HM ?_ ?_; rotate_left 1; (focus (with_reducible (first | exact O1 _ | exact O2 _ | exact C1 _ | exact C2 _ | exact C3 _ | exact C4 _))); clear HM; intro w1 HM
              refine hK9 _ _ (heldE HM) ?_; clear hK9 K9
              refine j_one 6 fun K9 hK9 => ?_
              refine j_call2 (v := ?_) HM ?_ ?_; rotate_left 1; (focus (with_reducible (first | exact O1 _ | exact O2 _ | exact C1 _ | exact C2 _ | exact C3 _ | exact C4 _))); clear HM; intro w1 HM
              refine hK9 _ _ (heldE HM) ?_; clear hK9 K9
              refine j_one 7 fun K9 hK9 => ?_
              refine j_call1 (v := ?_) HM ?_ ?_; rotate_left 1; (focus (with_reducible (first | exact O1 _ | exact O2 _ | exact C1 _ | exact C2 _ | exact C3 _ | exact C4 _))); clear HM; intro w1 HM
              refine hK9 _ _ (heldE HM) ?_; clear hK9 K9
              refine j_one 10 fun K9 hK9 => ?_
              refine j_call1 (v := ?_) HM ?_ ?_; rotate_left 1; (focus (with_reducible (first | exact O1 _ | exact O2 _ | exact C1 _ | exact C2 _ | exact C3 _ | exact C4 _))); clear HM; intro w1 HM
              refine hK9 _ _ (heldE HM) ?_; clear hK9 K9
              refine j_one 11 fun K9 hK9 => ?_
              refine j_call1 (v := ?_) HM ?_ ?_; rotate_left 1; (focus (with_reducible (first | exact O1 _ | exact O2 _ | exact C1 _ | exact C2 _ | exact C3 _ | exact C4 _))); clear HM; intro w1 HM
              refine hK9 _ _ (heldE HM) ?_; clear hK9 K9
              refine j_one 12 fun K9 hK9 => ?_
              refine j_call2 (v := ?_) HM ?_ ?_; rotate_left 1; (focus (with_reducible (first | exact O1 _ | exact O2 _ | exact C1 _ | exact C2 _ | exact C3 _ | exact C4 _))); clear HM; intro w1 HM
              refine hK9 _ _ (heldE HM) ?_; clear hK9 K9
              refine j_one 14 fun K9 hK9 => ?_
              refine j_st HM ?_; clear HM; intro w1 HM
              refine hK9 _ _ heldN ?_; clear hK9 K9
              refine wpAnyL_done (by kernel_rfl) ?_ _
              (go_wp2_with fail; go_meet; (case rel => exact ⟨_, rfl, HM.pick⟩))
          · refine j_al HM ?_; clear HM; intro bk w1 HM
            refine ⟨(heldE HM), ?_⟩
            refine j_one 2 fun K9 hK9 => ?_
            refine j_call1 (v := ?_) HM ?_ ?_; rotate_left 1; (focus (with_reducible (first | exact O1 _ | exact O2 _ | exact C1 _ | exact C2 _ | exact C3 _ | exact C4 _))); clear HM; intro w1 HM
            refine hK9 _ _ (heldE HM) ?_; clear hK9 K9
            refine j_one 5 fun K9 hK9 => ?_
            refine j_call1 (v := ?_) HM ?_ ?_; rotate_left 1; (focus (with_reducible (first | exact O1 _ | exact O2 _ | exact C1 _ | exact C2 _ | exact C3 _ | exact C4 _))); clear HM; intro w1 HM
            refine hK9 _ _ (heldE HM) ?_; clear hK9 K9
            refine j_one 6 fun K9 hK9 => ?_
            refine j_call2 (v := ?_) HM ?_ ?_; rotate_left 1; (focus (with_reducible (first | exact O1 _ | exact O2 _ | exact C1 _ | exact C2 _ | exact C3 _ | exact C4 _))); clear HM; intro w1 HM
            refine hK9 _ _ (heldE HM) ?_; clear hK9 K9
            refine j_one 7 fun K9 hK9 => ?_
            refine j_call1 (v := ?_) HM ?_ ?_; rotate_left 1; (focus (with_reducible (first | exact O1 _ | exact O2 _ | exact C1 _ | exact C2 _ | exact C3 _ | exact C4 _))); clear HM; intro w1 HM
            refine hK9 _ _ (heldE HM) ?_; clear hK9 K9
            refine j_one 10 fun K9 hK9 => ?_
            refine j_call1 (v := ?_) HM ?_ ?_; rotate_left 1; (focus (with_reducible (first | exact O1 _ | exact O2 _ | exact C1 _ | exact C2 _ | exact C3 _ | exact C4 _))); clear HM; intro w1 HM
            refine hK9 _ _ (heldE HM) ?_; clear hK9 K9
            refine j_one 11 fun K9 hK9 => ?_
            refine j_call1 (v := ?_) HM ?_ ?_; rotate_left 1; (focus (with_reducible (first | exact O1 _ | exact O2 _ | exact C1 _ | exact C2 _ | exact C3 _ | exact C4 _))); clear HM; intro w1 HM
            refine hK9 _ _ (heldE HM) ?_; clear hK9 K9
            refine j_one 12 fun K9 hK9 => ?_
            refine j_call2 (v := ?_) HM ?_ ?_; rotate_left 1; (focus (with_reducible (first | exact O1 _ | exact O2 _ | exact C1 _ | exact C2 _ | exact C3 _ | exact C4 _))); clear HM; intro w1 HM
            refine hK9 _ _ (heldE HM) ?_; clear hK9 K9
            refine j_one 14 fun K9 hK9 => ?_
            refine j_st HM ?_; clear HM; intro w1 HM
            refine hK9 _ _ heldN ?_; clear hK9 K9
            refine wpAnyL_done (by kernel_rfl) ?_ _
            (go_wp2_with fail; go_meet; (case rel => exact ⟨_, rfl, HM.pick⟩))
        case rest =>
          clear HM
          obtain ⟨b4, rfl, HM⟩ := hcut
          go_upto_region 6 with fail
          refine start_M [4] HM (by kernel_rfl) (fun w0x H9 => ?_)
          replace HM := H9; clear H9
          refine k_fa 0 (heldE HM) ?_
          refine k_ld 1 [4, 5] (heldE HM) ?_
          refine k_fa 2 (heldE HM) ?_
          refine j_two 3 4 ?_ ?_
          · refine j_ld HM ?_
            refine ⟨(heldE HM), ?_⟩
            refine j_one 4 fun K9 hK9 => ?_
            refine j_st HM ?_; clear HM; intro w1 HM
            refine hK9 _ _ heldN ?_; clear hK9 K9
            refine k_mv 5 heldN ?_
            refine wpAnyL_done (by kernel_rfl) ?_ _
            (go_wp2_with fail; refine bodyPost_ret (r_ct (b := b2) (k := 0) rfl rfl (HM.get (by ((repeat (first | exact Look.here | refine Look.there ?_)); done))) k7) rfl ⟨rfl, HM.low⟩)
          · refine j_st HM ?_; clear HM; intro w1 HM
            refine ⟨heldN, ?_⟩
            refine j_one 3 fun K9 hK9 => ?_
            refine j_ld HM ?_
            refine hK9 _ _ heldN ?_; clear hK9 K9
            refine k_mv 5 heldN ?_
            refine wpAnyL_done (by kernel_rfl) ?_ _
            (go_wp2_with fail; refine bodyPost_ret (r_ct (b := b2) (k := 0) rfl rfl (HM.get (by ((repeat (first | exact Look.here | refine Look.there ?_)); done))) k7) rfl ⟨rfl, HM.low⟩)
end Go.Proofs.YteamjgifohamgaaGreat
