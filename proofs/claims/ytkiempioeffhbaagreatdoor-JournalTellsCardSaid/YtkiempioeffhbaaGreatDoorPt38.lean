/- Walks. -/
import Derived.Test.YtkiempioeffhbaaGreatDoorPt37
namespace Go.Proofs.YtkiempioeffhbaaGreatDoor
set_option maxHeartbeats 16000000
open Go.RowKit
set_option maxRecDepth 8000
set_option linter.unusedSimpArgs false
set_option linter.unusedVariables false
section
theorem z9_165 {P : Prop} (h : P := by
 obtain ⟨b4, rfl⟩ := HM.nm0
 obtain ⟨b1, rfl⟩ := HM.nm1
 replace HM : Mem w [] [(b1, x.c), (b4, B.c)] _ := HM.pick
 refine start_M2 [] HM ((Sub.keep Sub.nil)) Zk (fun w0x H9 => ?_)
 replace HM := H9; clear H9
 refine k_fa 0 (heldE HM) ?_
 refine k_ld 1 [] (heldE HM) ?_
 refine k_fa 2 (heldE HM) ?_
 refine k_fa 3 (heldE HM) ?_
 refine k_ld 4 [] (heldE HM) ?_
 refine k_fa 5 (heldE HM) ?_
 refine k_ld 6 [] (heldE HM) ?_
 refine k_fa 10 (heldE HM) ?_
 refine j_one 7 fun K9 hK9 => ?_
 refine j_bs1 (c0 := cf) HM ?_ (z0 := z9); clear HM; intro b9 w9 HM
 refine hK9 _ _ (heldE HM) ?_; clear hK9 K9; ((try simp only [Za]); (try simp only [Zx]); (try simp only [Zy]))
 refine j_one 8 fun K9 hK9 => ?_
 (refine o_callg (Q _ _ ((SlAt.made1 b9 z9).rd HM Zs)) rfl ?_ ?_; (focus (refine h_call1 (ts := ?_) (x1 := ?_) ?_ Zk ?_; rotate_left 2; (focus rfl); rfl)); rintro e9 w1 ⟨rfl, hL⟩; replace HM := HM.call hL; clear hL; refine ⟨_, rfl, ?_⟩)
 refine hK9 _ _ (heldE HM) ?_; clear hK9 K9; ((try simp only [Za]); (try simp only [Zx]); (try simp only [Zy]))
 refine k_bin 9 (heldE HM) ?_
 refine j_one 11 fun K9 hK9 => ?_
 refine j_st HM ?_; clear HM; intro w1 HM
 refine hK9 _ _ (heldE HM) ?_; clear hK9 K9
 refine k_mv 12 (heldE HM) ?_
 refine k_mv 13 (heldE HM) ?_
 refine wpAnyL_done Zk ?_ _
 first | (go_upto_region 20 with fail) | (go_step; go_upto_region 20 with fail)
 refine start_M [] HM Zk (fun w0x H9 => ?_)
 replace HM := H9; clear H9
 refine k_mv 0 (heldE HM) ?_
 refine k_mv 1 (heldE HM) ?_
 refine k_mv 2 (heldE HM) ?_
 refine k_ld 3 [] (heldE HM) ?_
 refine k_ld 4 [] (heldE HM) ?_
 refine t_eq (i := 5) (v := ?_) [] rfl rfl rfl Zk (fun _ _ _ h => h) (heldE HM) ?_ ?_; rotate_left 1; (focus ((refine y_cmps .eql true (.inl rfl) (E) rfl Zk (x := ?_) (y := ?_) (t := ?_) ?_ ?_ ?_ ?_; rotate_left 3; (focus rfl); (focus rfl); (focus ((conv => lhs; whnf) <;> rfl)); ((conv => lhs; whnf) <;> rfl)))); ((try simp only [Za]); (try simp only [Zx]); (try simp only [Zy]))
 refine k_pick 6 (heldE HM) ?_
 refine k_mv 7 (heldE HM) ?_
 refine k_mv 8 (heldE HM) ?_
 refine wpAnyL_done Zk ?_ _
 go_wp2_with fail
 go_ret2
 exact ⟨rfl, HM.low⟩) : P := h
theorem z9_166 {P : Prop} (h : P := by
 obtain ⟨b4, rfl⟩ := HM.nm0
 obtain ⟨b1, rfl⟩ := HM.nm1
 replace HM : Mem w [] [(b1, x.c), (b4, B.c)] _ := HM.pick
 refine start_M2 [] HM ((Sub.keep Sub.nil)) Zk (fun w0x H9 => ?_)
 replace HM := H9; clear H9
 refine k_fa 0 (heldE HM) ?_
 refine k_ld 1 [] (heldE HM) ?_
 refine k_fa 2 (heldE HM) ?_
 refine k_fa 3 (heldE HM) ?_
 refine k_ld 4 [] (heldE HM) ?_
 refine k_fa 5 (heldE HM) ?_
 refine k_ld 6 [] (heldE HM) ?_
 refine k_fa 10 (heldE HM) ?_
 refine j_one 7 fun K9 hK9 => ?_
 refine j_bs1 (c0 := cf) HM ?_ (z0 := z9); clear HM; intro b9 w9 HM
 refine hK9 _ _ (heldE HM) ?_; clear hK9 K9; ((try simp only [Za]); (try simp only [Zx]); (try simp only [Zy]))
 refine j_one 8 fun K9 hK9 => ?_
 (refine o_callg (Q _ _ ((SlAt.made1 b9 z9).rd HM Zs)) rfl ?_ ?_; (focus (refine h_call1 (ts := ?_) (x1 := ?_) ?_ Zk ?_; rotate_left 2; (focus rfl); rfl)); rintro e9 w1 ⟨rfl, hL⟩; replace HM := HM.call hL; clear hL; refine ⟨_, rfl, ?_⟩)
 refine hK9 _ _ (heldE HM) ?_; clear hK9 K9; ((try simp only [Za]); (try simp only [Zx]); (try simp only [Zy]))
 refine k_bin 9 (heldE HM) ?_
 refine j_one 11 fun K9 hK9 => ?_
 refine j_st HM ?_; clear HM; intro w1 HM
 refine hK9 _ _ (heldE HM) ?_; clear hK9 K9
 refine k_mv 12 (heldE HM) ?_
 refine k_mv 13 (heldE HM) ?_
 refine wpAnyL_done Zk ?_ _
 first | (go_upto_region 20 with fail) | (go_step; go_upto_region 20 with fail)
 refine start_M [] HM Zk (fun w0x H9 => ?_)
 replace HM := H9; clear H9
 refine k_mv 0 (heldE HM) ?_
 refine k_mv 1 (heldE HM) ?_
 refine k_mv 2 (heldE HM) ?_
 refine k_ld 3 [] (heldE HM) ?_
 refine k_ld 4 [] (heldE HM) ?_
 refine t_eq (i := 5) (v := ?_) [] rfl rfl rfl Zk (fun _ _ _ h => h) (heldE HM) ?_ ?_; rotate_left 1; (focus ((refine y_cmps .eql false (.inl rfl) (E) rfl Zk (x := ?_) (y := ?_) (t := ?_) ?_ ?_ ?_ ?_; rotate_left 3; (focus rfl); (focus rfl); (focus ((conv => lhs; whnf) <;> rfl)); ((conv => lhs; whnf) <;> rfl)))); ((try simp only [Za]); (try simp only [Zx]); (try simp only [Zy]))
 refine k_pick 6 (heldE HM) ?_
 refine k_mv 7 (heldE HM) ?_
 refine k_mv 8 (heldE HM) ?_
 refine wpAnyL_done Zk ?_ _
 go_wp2_with fail
 go_ret2
 exact ⟨rfl, HM.low⟩) : P := h
theorem z9_167 {P : Prop} (h : P := by
 obtain ⟨b4, rfl⟩ := HM.nm0
 obtain ⟨b1, rfl⟩ := HM.nm1
 replace HM : Mem w [] [(b1, x.c), (b4, B.c)] _ := HM.pick
 refine start_M2 [] HM ((Sub.keep Sub.nil)) Zk (fun w0x H9 => ?_)
 replace HM := H9; clear H9
 refine k_fa 0 (heldE HM) ?_
 refine k_ld 1 [] (heldE HM) ?_
 refine k_fa 2 (heldE HM) ?_
 refine k_fa 3 (heldE HM) ?_
 refine k_ld 4 [] (heldE HM) ?_
 refine k_fa 5 (heldE HM) ?_
 refine k_ld 6 [] (heldE HM) ?_
 refine k_fa 10 (heldE HM) ?_
 refine j_one 7 fun K9 hK9 => ?_
 refine j_bs1 (c0 := cf) HM ?_ (z0 := z9); clear HM; intro b9 w9 HM
 refine hK9 _ _ (heldE HM) ?_; clear hK9 K9; ((try simp only [Za]); (try simp only [Zx]); (try simp only [Zy]))
 refine j_one 8 fun K9 hK9 => ?_
 (refine o_callg (Q _ _ ((SlAt.made1 b9 z9).rd HM Zs)) rfl ?_ ?_; (focus (refine h_call1 (ts := ?_) (x1 := ?_) ?_ Zk ?_; rotate_left 2; (focus rfl); rfl)); rintro e9 w1 ⟨rfl, hL⟩; replace HM := HM.call hL; clear hL; refine ⟨_, rfl, ?_⟩)
 refine hK9 _ _ (heldE HM) ?_; clear hK9 K9; ((try simp only [Za]); (try simp only [Zx]); (try simp only [Zy]))
 refine k_bin 9 (heldE HM) ?_
 refine j_one 11 fun K9 hK9 => ?_
 refine j_st HM ?_; clear HM; intro w1 HM
 refine hK9 _ _ (heldE HM) ?_; clear hK9 K9
 refine k_mv 12 (heldE HM) ?_
 refine k_mv 13 (heldE HM) ?_
 refine wpAnyL_done Zk ?_ _
 first | (go_upto_region 20 with fail) | (go_step; go_upto_region 20 with fail)
 refine start_M [] HM Zk (fun w0x H9 => ?_)
 replace HM := H9; clear H9
 refine k_mv 0 (heldE HM) ?_
 refine k_mv 1 (heldE HM) ?_
 refine k_mv 2 (heldE HM) ?_
 refine k_off 3 (heldE HM) ?_
 refine k_off 4 (heldE HM) ?_
 refine k_off 5 (heldE HM) ?_
 refine k_pick 6 (heldE HM) ?_
 refine k_mv 7 (heldE HM) ?_
 refine k_mv 8 (heldE HM) ?_
 refine wpAnyL_done Zk ?_ _
 go_wp2_with fail
 go_ret2
 exact ⟨rfl, HM.low⟩) : P := h
theorem z9_168 {P : Prop} (h : P := by
 refine start_M [] HM Zk (fun w0x H9 => ?_)
 replace HM := H9; clear H9
 refine k_mv 0 (heldE HM) ?_
 refine k_mv 1 (heldE HM) ?_
 refine k_mv 2 (heldE HM) ?_
 refine k_ld 3 [] (heldE HM) ?_
 refine k_ld 4 [] (heldE HM) ?_
 refine t_eq (i := 5) (v := ?_) [] rfl rfl rfl Zk (fun _ _ _ h => h) (heldE HM) ?_ ?_; rotate_left 1; (focus ((refine y_cmps .eql true (.inl rfl) (E) rfl Zk (x := ?_) (y := ?_) (t := ?_) ?_ ?_ ?_ ?_; rotate_left 3; (focus rfl); (focus rfl); (focus ((conv => lhs; whnf) <;> rfl)); ((conv => lhs; whnf) <;> rfl)))); ((try simp only [Za]); (try simp only [Zx]); (try simp only [Zy]))
 refine k_pick 6 (heldE HM) ?_
 refine k_mv 7 (heldE HM) ?_
 refine k_mv 8 (heldE HM) ?_
 refine wpAnyL_done Zk ?_ _
 go_wp2_with fail
 go_ret2
 exact ⟨rfl, HM.low⟩) : P := h
theorem z9_169 {P : Prop} (h : P := by
 refine start_M [] HM Zk (fun w0x H9 => ?_)
 replace HM := H9; clear H9
 refine k_mv 0 (heldE HM) ?_
 refine k_mv 1 (heldE HM) ?_
 refine k_mv 2 (heldE HM) ?_
 refine k_ld 3 [] (heldE HM) ?_
 refine k_ld 4 [] (heldE HM) ?_
 refine t_eq (i := 5) (v := ?_) [] rfl rfl rfl Zk (fun _ _ _ h => h) (heldE HM) ?_ ?_; rotate_left 1; (focus ((refine y_cmps .eql false (.inl rfl) (E) rfl Zk (x := ?_) (y := ?_) (t := ?_) ?_ ?_ ?_ ?_; rotate_left 3; (focus rfl); (focus rfl); (focus ((conv => lhs; whnf) <;> rfl)); ((conv => lhs; whnf) <;> rfl)))); ((try simp only [Za]); (try simp only [Zx]); (try simp only [Zy]))
 refine k_pick 6 (heldE HM) ?_
 refine k_mv 7 (heldE HM) ?_
 refine k_mv 8 (heldE HM) ?_
 refine wpAnyL_done Zk ?_ _
 go_wp2_with fail
 go_ret2
 exact ⟨rfl, HM.low⟩) : P := h
theorem z9_170 {P : Prop} (h : P := by
 refine k_pick 14 (heldE HM) ?_
 refine j_one 16 fun K9 hK9 => ?_
 refine j_st HM ?_; clear HM; intro w1 HM
 refine hK9 _ _ (heldE HM) ?_; clear hK9 K9
 refine k_mv 17 (heldE HM) ?_
 refine k_mv 18 (heldE HM) ?_
 refine wpAnyL_done Zk ?_ _
 first | (go_upto_region 20 with (first | ((with_reducible refine g_ld ?_); refine a_ld HM ?_) | ((with_reducible refine g_st ?_); refine a_st HM ?_; clear HM; intro w1 HM))) | (go_step; go_upto_region 20 with fail)
 refine start_M [] HM Zk (fun w0x H9 => ?_)
 replace HM := H9; clear H9
 refine k_mv 0 (heldE HM) ?_
 refine k_mv 1 (heldE HM) ?_
 refine k_mv 2 (heldE HM) ?_
 refine k_off 3 (heldE HM) ?_
 refine k_off 4 (heldE HM) ?_
 refine k_off 5 (heldE HM) ?_
 refine k_pick 6 (heldE HM) ?_
 refine k_mv 7 (heldE HM) ?_
 refine k_mv 8 (heldE HM) ?_
 refine wpAnyL_done Zk ?_ _
 go_wp2_with fail
 go_ret2
 exact ⟨rfl, HM.low⟩) : P := h
theorem z9_171 {P : Prop} (h : P := by
 refine wpAnyL_done Zk ?_ _
 first | (go_upto_region 20 with fail) | (go_step; go_upto_region 20 with fail)
 refine start_M [] HM Zk (fun w0x H9 => ?_)
 replace HM := H9; clear H9
 refine k_mv 0 (heldE HM) ?_
 refine k_mv 1 (heldE HM) ?_
 refine k_mv 2 (heldE HM) ?_
 refine k_ld 3 [] (heldE HM) ?_
 refine k_ld 4 [] (heldE HM) ?_
 refine t_eq (i := 5) (v := ?_) [] rfl rfl rfl Zk (fun _ _ _ h => h) (heldE HM) ?_ ?_; rotate_left 1; (focus ((refine y_cmps .eql true (.inl rfl) (E) rfl Zk (x := ?_) (y := ?_) (t := ?_) ?_ ?_ ?_ ?_; rotate_left 3; (focus rfl); (focus rfl); (focus ((conv => lhs; whnf) <;> rfl)); ((conv => lhs; whnf) <;> rfl)))); ((try simp only [Za]); (try simp only [Zx]); (try simp only [Zy]))
 refine k_pick 6 (heldE HM) ?_
 refine k_mv 7 (heldE HM) ?_
 refine k_mv 8 (heldE HM) ?_
 refine wpAnyL_done Zk ?_ _
 go_wp2_with fail
 go_ret2
 exact ⟨rfl, HM.low⟩) : P := h
theorem z9_172 {P : Prop} (h : P := by
 refine wpAnyL_done Zk ?_ _
 first | (go_upto_region 20 with fail) | (go_step; go_upto_region 20 with fail)
 refine start_M [] HM Zk (fun w0x H9 => ?_)
 replace HM := H9; clear H9
 refine k_mv 0 (heldE HM) ?_
 refine k_mv 1 (heldE HM) ?_
 refine k_mv 2 (heldE HM) ?_
 refine k_ld 3 [] (heldE HM) ?_
 refine k_ld 4 [] (heldE HM) ?_
 refine t_eq (i := 5) (v := ?_) [] rfl rfl rfl Zk (fun _ _ _ h => h) (heldE HM) ?_ ?_; rotate_left 1; (focus ((refine y_cmps .eql false (.inl rfl) (E) rfl Zk (x := ?_) (y := ?_) (t := ?_) ?_ ?_ ?_ ?_; rotate_left 3; (focus rfl); (focus rfl); (focus ((conv => lhs; whnf) <;> rfl)); ((conv => lhs; whnf) <;> rfl)))); ((try simp only [Za]); (try simp only [Zx]); (try simp only [Zy]))
 refine k_pick 6 (heldE HM) ?_
 refine k_mv 7 (heldE HM) ?_
 refine k_mv 8 (heldE HM) ?_
 refine wpAnyL_done Zk ?_ _
 go_wp2_with fail
 go_ret2
 exact ⟨rfl, HM.low⟩) : P := h
theorem z9_173 {P : Prop} (h : P := by
 refine wpAnyL_done Zk ?_ _
 first | (go_upto_region 20 with fail) | (go_step; go_upto_region 20 with fail)
 refine start_M [] HM Zk (fun w0x H9 => ?_)
 replace HM := H9; clear H9
 refine k_mv 0 (heldE HM) ?_
 refine k_mv 1 (heldE HM) ?_
 refine k_mv 2 (heldE HM) ?_
 refine k_off 3 (heldE HM) ?_
 refine k_off 4 (heldE HM) ?_
 refine k_off 5 (heldE HM) ?_
 refine k_pick 6 (heldE HM) ?_
 refine k_mv 7 (heldE HM) ?_
 refine k_mv 8 (heldE HM) ?_
 refine wpAnyL_done Zk ?_ _
 go_wp2_with fail
 go_ret2
 exact ⟨rfl, HM.low⟩) : P := h
theorem z9_174 {P : Prop} (h : P := by
 generalize x.right = v at HV ⊢
 generalize JR.b x x.onlyD = b1 at *
 have hc : (decide (0 ≤ x.day) = true ∧ decide (x.day ≤ 73048) = true ∧ b1 = true ∧ true = v) ∨
     (decide (0 ≤ x.day) = true ∧ decide (x.day ≤ 73048) = true ∧ b1 = false ∧ false = v) ∨
     (decide (0 ≤ x.day) = true ∧ decide (x.day ≤ 73048) = false ∧ false = v) ∨
     (decide (0 ≤ x.day) = false ∧ false = v) := by
  clear HM
  by_cases h1 : 0 ≤ x.day
  ·skip
   by_cases h2 : x.day ≤ 73048
   ·skip
    cases b1 with
    | true =>
     exact .inl (⟨Zt h1, Zt h2, rfl, by rw [HV.out]; simp [h1, h2]⟩)
    | false =>
     exact .inr (.inl (⟨Zt h1, Zt h2, rfl, by rw [HV.out]; simp [h1, h2]⟩))
   ·skip
    exact .inr (.inr (.inl (⟨Zt h1, Zf h2, by rw [HV.out]; simp [h1, h2]⟩)))
  ·skip
   exact .inr (.inr (.inr (⟨Zf h1, by rw [HV.out]; simp [h1]⟩)))
 clear HV
 rcases hc with ⟨g0, g1, rfl, rfl⟩ | ⟨g0, g1, rfl, rfl⟩ | ⟨g0, g1, rfl⟩ | ⟨g0, rfl⟩
 ·go_enter Tryz.func66, Tryz.ntmps66
  go_upto_region 19 with (first | ((with_reducible refine g_bld ?_); refine a_rbl (v := .agg B.c) ?_ (hy := h_bg1 rfl Zw (by with_reducible exact (HB)))) | ((with_reducible refine g_ld ?_); refine a_ld HM ?_) | ((with_reducible refine g_st ?_); refine a_st HM ?_; clear HM; intro w1 HM) | ((with_reducible refine g_al ?_); refine a_al HM ?_; clear HM; intro bk w1 HM) | ((with_reducible refine g_bx ?_); refine a_bx HM ?_; clear HM; intro bk w1 HM))
  obtain ⟨b4, rfl⟩ := HM.nm0
  obtain ⟨b1, rfl⟩ := HM.nm1
  replace HM : Mem w [] [(b1, x.c), (b4, B.c)] _ := HM.pick
  refine start_M2 [] HM ((Sub.keep Sub.nil)) Zk (fun w0x H9 => ?_)
  replace HM := H9; clear H9
  refine k_fa 0 (heldE HM) ?_
  refine k_ld 1 [] (heldE HM) ?_
  refine k_fa 2 (heldE HM) ?_
  refine k_ld 3 [] (heldE HM) ?_
  refine k_bin 4 (heldE HM) ?_
  refine k_mv 5 (heldE HM) ?_
  refine k_fa 6 (heldE HM) ?_
  refine k_ld 7 [] (heldE HM) ?_
  refine k_bin 8 (heldE HM) ?_
  refine k_pick 9 (heldE HM) ?_
  refine k_fa 10 (heldE HM) ?_
  refine j_one 11 fun K9 hK9 => ?_
  refine j_st HM ?_; clear HM; intro w1 HM
  refine hK9 _ _ (heldE HM) ?_; clear hK9 K9
  refine k_mv 12 (heldE HM) ?_
  refine wpAnyL_done Zk ?_ _
  first | (go_upto_region 20 with fail) | (go_step; go_upto_region 20 with fail)
  refine start_M [] HM Zk (fun w0x H9 => ?_)
  replace HM := H9; clear H9
  refine k_mv 0 (heldE HM) ?_
  refine k_mv 1 (heldE HM) ?_
  refine k_mv 2 (heldE HM) ?_
  refine k_ld 3 [] (heldE HM) ?_
  refine k_ld 4 [] (heldE HM) ?_
  refine t_eq (i := 5) (v := ?_) [] rfl rfl rfl Zk (fun _ _ _ h => h) (heldE HM) ?_ ?_; rotate_left 1; (focus ((refine y_cmps .eql true (.inl rfl) (E) rfl Zk (x := ?_) (y := ?_) (t := ?_) ?_ ?_ ?_ ?_; rotate_left 3; (focus rfl); (focus rfl); (focus ((conv => lhs; whnf) <;> rfl)); ((conv => lhs; whnf) <;> rfl)))); ((try simp only [Za]); (try simp only [Zx]); (try simp only [Zy]))
  refine k_pick 6 (heldE HM) ?_
  refine k_mv 7 (heldE HM) ?_
  refine k_mv 8 (heldE HM) ?_
  refine wpAnyL_done Zk ?_ _
  go_wp2_with fail
  go_ret2
  exact ⟨rfl, HM.low⟩
 ·go_enter Tryz.func66, Tryz.ntmps66
  go_upto_region 19 with (first | ((with_reducible refine g_bld ?_); refine a_rbl (v := .agg B.c) ?_ (hy := h_bg1 rfl Zw (by with_reducible exact (HB)))) | ((with_reducible refine g_ld ?_); refine a_ld HM ?_) | ((with_reducible refine g_st ?_); refine a_st HM ?_; clear HM; intro w1 HM) | ((with_reducible refine g_al ?_); refine a_al HM ?_; clear HM; intro bk w1 HM) | ((with_reducible refine g_bx ?_); refine a_bx HM ?_; clear HM; intro bk w1 HM))
  obtain ⟨b4, rfl⟩ := HM.nm0
  obtain ⟨b1, rfl⟩ := HM.nm1
  replace HM : Mem w [] [(b1, x.c), (b4, B.c)] _ := HM.pick
  refine start_M2 [] HM ((Sub.keep Sub.nil)) Zk (fun w0x H9 => ?_)
  replace HM := H9; clear H9
  refine k_fa 0 (heldE HM) ?_
  refine k_ld 1 [] (heldE HM) ?_
  refine k_fa 2 (heldE HM) ?_
  refine k_ld 3 [] (heldE HM) ?_
  refine k_bin 4 (heldE HM) ?_
  refine k_mv 5 (heldE HM) ?_
  refine k_fa 6 (heldE HM) ?_
  refine k_ld 7 [] (heldE HM) ?_
  refine k_bin 8 (heldE HM) ?_
  refine k_pick 9 (heldE HM) ?_
  refine k_fa 10 (heldE HM) ?_
  refine j_one 11 fun K9 hK9 => ?_
  refine j_st HM ?_; clear HM; intro w1 HM
  refine hK9 _ _ (heldE HM) ?_; clear hK9 K9
  refine k_mv 12 (heldE HM) ?_
  refine wpAnyL_done Zk ?_ _
  first | (go_upto_region 20 with fail) | (go_step; go_upto_region 20 with fail)
  refine start_M [] HM Zk (fun w0x H9 => ?_)
  replace HM := H9; clear H9
  refine k_mv 0 (heldE HM) ?_
  refine k_mv 1 (heldE HM) ?_
  refine k_mv 2 (heldE HM) ?_
  refine k_ld 3 [] (heldE HM) ?_
  refine k_ld 4 [] (heldE HM) ?_
  refine t_eq (i := 5) (v := ?_) [] rfl rfl rfl Zk (fun _ _ _ h => h) (heldE HM) ?_ ?_; rotate_left 1; (focus ((refine y_cmps .eql false (.inl rfl) (E) rfl Zk (x := ?_) (y := ?_) (t := ?_) ?_ ?_ ?_ ?_; rotate_left 3; (focus rfl); (focus rfl); (focus ((conv => lhs; whnf) <;> rfl)); ((conv => lhs; whnf) <;> rfl)))); ((try simp only [Za]); (try simp only [Zx]); (try simp only [Zy]))
  refine k_pick 6 (heldE HM) ?_
  refine k_mv 7 (heldE HM) ?_
  refine k_mv 8 (heldE HM) ?_
  refine wpAnyL_done Zk ?_ _
  go_wp2_with fail
  go_ret2
  exact ⟨rfl, HM.low⟩
 ·go_enter Tryz.func66, Tryz.ntmps66
  go_upto_region 19 with (first | ((with_reducible refine g_bld ?_); refine a_rbl (v := .agg B.c) ?_ (hy := h_bg1 rfl Zw (by with_reducible exact (HB)))) | ((with_reducible refine g_ld ?_); refine a_ld HM ?_) | ((with_reducible refine g_st ?_); refine a_st HM ?_; clear HM; intro w1 HM) | ((with_reducible refine g_al ?_); refine a_al HM ?_; clear HM; intro bk w1 HM) | ((with_reducible refine g_bx ?_); refine a_bx HM ?_; clear HM; intro bk w1 HM))
  obtain ⟨b4, rfl⟩ := HM.nm0
  obtain ⟨b1, rfl⟩ := HM.nm1
  replace HM : Mem w [] [(b1, x.c), (b4, B.c)] _ := HM.pick
  refine start_M2 [] HM ((Sub.keep Sub.nil)) Zk (fun w0x H9 => ?_)
  replace HM := H9; clear H9
  refine k_fa 0 (heldE HM) ?_
  refine k_ld 1 [] (heldE HM) ?_
  refine k_fa 2 (heldE HM) ?_
  refine k_ld 3 [] (heldE HM) ?_
  refine k_bin 4 (heldE HM) ?_
  refine k_mv 5 (heldE HM) ?_
  refine k_fa 6 (heldE HM) ?_
  refine k_ld 7 [] (heldE HM) ?_
  refine k_bin 8 (heldE HM) ?_
  refine k_pick 9 (heldE HM) ?_
  refine k_fa 10 (heldE HM) ?_
  refine j_one 11 fun K9 hK9 => ?_
  refine j_st HM ?_; clear HM; intro w1 HM
  refine hK9 _ _ (heldE HM) ?_; clear hK9 K9
  refine k_mv 12 (heldE HM) ?_
  refine wpAnyL_done Zk ?_ _
  first | (go_upto_region 20 with fail) | (go_step; go_upto_region 20 with fail)
  refine start_M [] HM Zk (fun w0x H9 => ?_)
  replace HM := H9; clear H9
  refine k_mv 0 (heldE HM) ?_
  refine k_mv 1 (heldE HM) ?_
  refine k_mv 2 (heldE HM) ?_
  refine k_off 3 (heldE HM) ?_
  refine k_off 4 (heldE HM) ?_
  refine k_off 5 (heldE HM) ?_
  refine k_pick 6 (heldE HM) ?_
  refine k_mv 7 (heldE HM) ?_
  refine k_mv 8 (heldE HM) ?_
  refine wpAnyL_done Zk ?_ _
  go_wp2_with fail
  go_ret2
  exact ⟨rfl, HM.low⟩
 ·go_enter Tryz.func66, Tryz.ntmps66
  go_upto_region 19 with (first | ((with_reducible refine g_bld ?_); refine a_rbl (v := .agg B.c) ?_ (hy := h_bg1 rfl Zw (by with_reducible exact (HB)))) | ((with_reducible refine g_ld ?_); refine a_ld HM ?_) | ((with_reducible refine g_st ?_); refine a_st HM ?_; clear HM; intro w1 HM) | ((with_reducible refine g_al ?_); refine a_al HM ?_; clear HM; intro bk w1 HM) | ((with_reducible refine g_bx ?_); refine a_bx HM ?_; clear HM; intro bk w1 HM))
  obtain ⟨b4, rfl⟩ := HM.nm0
  obtain ⟨b1, rfl⟩ := HM.nm1
  replace HM : Mem w [] [(b1, x.c), (b4, B.c)] _ := HM.pick
  refine start_M2 [] HM ((Sub.keep Sub.nil)) Zk (fun w0x H9 => ?_)
  replace HM := H9; clear H9
  refine k_fa 0 (heldE HM) ?_
  refine k_ld 1 [] (heldE HM) ?_
  refine k_fa 2 (heldE HM) ?_
  refine k_ld 3 [] (heldE HM) ?_
  refine k_bin 4 (heldE HM) ?_
  refine k_mv 5 (heldE HM) ?_
  refine k_off 6 (heldE HM) ?_
  refine k_off 7 (heldE HM) ?_
  refine k_off 8 (heldE HM) ?_
  refine k_pick 9 (heldE HM) ?_
  refine k_fa 10 (heldE HM) ?_
  refine j_one 11 fun K9 hK9 => ?_
  refine j_st HM ?_; clear HM; intro w1 HM
  refine hK9 _ _ (heldE HM) ?_; clear hK9 K9
  refine k_mv 12 (heldE HM) ?_
  refine wpAnyL_done Zk ?_ _
  first | (go_upto_region 20 with fail) | (go_step; go_upto_region 20 with fail)
  refine start_M [] HM Zk (fun w0x H9 => ?_)
  replace HM := H9; clear H9
  refine k_mv 0 (heldE HM) ?_
  refine k_mv 1 (heldE HM) ?_
  refine k_mv 2 (heldE HM) ?_
  refine k_off 3 (heldE HM) ?_
  refine k_off 4 (heldE HM) ?_
  refine k_off 5 (heldE HM) ?_
  refine k_pick 6 (heldE HM) ?_
  refine k_mv 7 (heldE HM) ?_
  refine k_mv 8 (heldE HM) ?_
  refine wpAnyL_done Zk ?_ _
  go_wp2_with fail
  go_ret2
  exact ⟨rfl, HM.low⟩) : P := h
theorem z9_175 {P : Prop} (h : P := by
 refine start_M [] HM Zk (fun w0x H9 => ?_)
 replace HM := H9; clear H9
 refine k_mv 0 (heldE HM) ?_
 refine k_mv 1 (heldE HM) ?_
 refine k_mv 2 (heldE HM) ?_
 refine k_off 3 (heldE HM) ?_
 refine k_off 4 (heldE HM) ?_
 refine k_off 5 (heldE HM) ?_
 refine k_pick 6 (heldE HM) ?_
 refine k_mv 7 (heldE HM) ?_
 refine k_mv 8 (heldE HM) ?_
 refine wpAnyL_done Zk ?_ _
 go_wp2_with fail
 go_ret2
 exact ⟨rfl, HM.low⟩) : P := h
end
section
open Jb
theorem JR.only_fnd (x : JR) : x.only.fnd = x.fnd := by
 rw [JR.only_of]
 repeat' split
 all_goals rfl
def JR.onlyD (x : JR) : JR := { x.only with fnd := if x.kd = 3 then x.fnd else { data := #[] } }
theorem JR.b_comm (x y : JR) : JR.b x y = JR.b y x := by
 rw [Bool.eq_iff_iff, JR.b_iff, JR.b_iff]
 exact ⟨Eq.symm, Eq.symm⟩
theorem JR.right_3 {x : JR} (h : x.kd = 3) : x.right = (x.e.right && (name x.fnd && JR.b x x.onlyD)) := by
 have e : x.onlyD = x.only := by
  unfold JR.onlyD
  rw [if_pos h, ← JR.only_fnd]
 unfold JR.right JR.kind
 rw [e, JR.b_comm x x.only, if_pos h, if_neg Zo, if_neg Zo, if_pos h]
 cases name x.fnd <;> cases JR.b x.only x <;> cases x.e.right <;> rfl
theorem JR.right_k {x : JR} (h : x.kd ≠ 3) : x.right = (x.kind && JR.b x x.onlyD) := by
 unfold JR.right
 rw [if_neg h]
 by_cases hf : x.fnd.size = 0
 ·have e : x.onlyD = x.only := by
    unfold JR.onlyD
    rw [if_neg h]
    have hz : ({ data := #[] } : ByteArray) = x.only.fnd := by
     rw [JR.only_fnd]
     have h2 : x.fnd.data.size = 0 := hf
     cases hd : x.fnd with
     | mk d => rw [hd] at h2; simp at h2; rw [h2]
    rw [hz]
  rw [e, JR.b_comm x x.only, Zt hf]
  cases x.kind <;> cases JR.b x.only x <;> rfl
 ·have e : JR.b x x.onlyD = false := by
    cases hb : JR.b x x.onlyD with
    | false => rfl
    | true =>
     have h1 := JR.b_iff.1 hb
     have h2 : x.fnd = { data := #[] } := by
      have := congrArg JR.fnd h1
      unfold JR.onlyD at this
      rw [if_neg h] at this
      exact this
     rw [h2] at hf
     exact absurd rfl hf
  rw [e, Zf hf]
  cases x.kind <;> rfl
theorem rvalid_1 (x : JR) (hw : x.wf) (h : x.kd = 1) (w : World) :
    Calls Tryz.prog 66 #[.agg x.c] w fun e w' => e = .returned (.tuple #[.int .i64 (x.known 0), .bool (x.right)]) ∧ Below w.heap.size w w' := by
 have HM := Mem.start w
 have lx := x.la
 have lk := (JR.f_kd x).la
 have lf := (JR.f_fnd x).la
 have za0 := JR.za
 have kk : (x.kd == 1) = true := beq_iff_eq.2 h
 obtain ⟨B, hB⟩ : ∃ B : JR, B = { JR.zero with kd := x.kd } := ⟨_, rfl⟩
 have HB := fun w => JR.bld (parts := #[(0, .int .i64 x.kd)]) (r := B) (by simp [Value.cells]) (by rw [JR.rows, hB]; rfl) w
 have sB := B.sa JR.zero.size
 have hR : x.onlyD = { B with q := x.q } := by unfold JR.onlyD; rw [JR.only_of, if_pos h, hB]; rw [if_neg (show ¬ x.kd = 3 by omega)]; rfl
 have sF := JR.s_q B x.q
 rw [← hR] at sF
 have E := JR.eq9 x x.onlyD
 have lR := x.onlyD.la
 have hkn : x.known 0 = x.q.kn := by rw [JR.known_of, if_pos h]
 rw [hkn]
 have l1 := (JR.f_q x).la
 have l2 := LA.shift1 (JR.f_q x) Zk (JQ.f_kn x.q) Zk
 have Q := fun sv w hR => rqcheck1 x.q hw.2.1 sv w hR
 have z9 := JQ.size x.q
 have el9 : elemB 115 45 72 336 = true := by kernel_rfl
 generalize JQ.c x.q = cf at *
 clear hB hR hkn
 have HV : Hid (x.right = (x.q.right && JR.b x x.onlyD)) := Zi (by rw [JR.right_k Zo]; unfold JR.kind; rw [if_pos h])
 generalize x.right = v at HV ⊢
 generalize x.q.right = b1 at *
 generalize JR.b x x.onlyD = b2 at *
 have hc : (b1 = true ∧ b2 = true ∧ true = v) ∨
     (b1 = true ∧ b2 = false ∧ false = v) ∨
     (b1 = false ∧ false = v) := by
  clear HM
  cases b1 with
  | true =>
   cases b2 with
   | true =>
    exact .inl (⟨rfl, rfl, by rw [HV.out]; simp⟩)
   | false =>
    exact .inr (.inl (⟨rfl, rfl, by rw [HV.out]; simp⟩))
  | false =>
   exact .inr (.inr (⟨rfl, by rw [HV.out]; simp⟩))
 clear HV
 rcases hc with ⟨rfl, rfl, rfl⟩ | ⟨rfl, rfl, rfl⟩ | ⟨rfl, rfl⟩
 ·go_enter Tryz.func66, Tryz.ntmps66
  go_upto_region 5 with (first | ((with_reducible refine g_bld ?_); refine a_rbl (v := .agg B.c) ?_ (hy := h_bg1 rfl Zw (by with_reducible exact (HB)))) | ((with_reducible refine g_ld ?_); refine a_ld HM ?_) | ((with_reducible refine g_st ?_); refine a_st HM ?_; clear HM; intro w1 HM) | ((with_reducible refine g_al ?_); refine a_al HM ?_; clear HM; intro bk w1 HM) | ((with_reducible refine g_bx ?_); refine a_bx HM ?_; clear HM; intro bk w1 HM))
  exact z9_165
 ·go_enter Tryz.func66, Tryz.ntmps66
  go_upto_region 5 with (first | ((with_reducible refine g_bld ?_); refine a_rbl (v := .agg B.c) ?_ (hy := h_bg1 rfl Zw (by with_reducible exact (HB)))) | ((with_reducible refine g_ld ?_); refine a_ld HM ?_) | ((with_reducible refine g_st ?_); refine a_st HM ?_; clear HM; intro w1 HM) | ((with_reducible refine g_al ?_); refine a_al HM ?_; clear HM; intro bk w1 HM) | ((with_reducible refine g_bx ?_); refine a_bx HM ?_; clear HM; intro bk w1 HM))
  exact z9_166
 ·go_enter Tryz.func66, Tryz.ntmps66
  go_upto_region 5 with (first | ((with_reducible refine g_bld ?_); refine a_rbl (v := .agg B.c) ?_ (hy := h_bg1 rfl Zw (by with_reducible exact (HB)))) | ((with_reducible refine g_ld ?_); refine a_ld HM ?_) | ((with_reducible refine g_st ?_); refine a_st HM ?_; clear HM; intro w1 HM) | ((with_reducible refine g_al ?_); refine a_al HM ?_; clear HM; intro bk w1 HM) | ((with_reducible refine g_bx ?_); refine a_bx HM ?_; clear HM; intro bk w1 HM))
  exact z9_167
theorem rvalid_2 (x : JR) (hw : x.wf) (h : x.kd = 2) (w : World) :
    Calls Tryz.prog 66 #[.agg x.c] w fun e w' => e = .returned (.tuple #[.int .i64 (x.known 0), .bool (x.right)]) ∧ Below w.heap.size w w' := by
 have HM := Mem.start w
 have lx := x.la
 have lk := (JR.f_kd x).la
 have lf := (JR.f_fnd x).la
 have za0 := JR.za
 have k1 : (x.kd == 1) = false := Zb Zo
 have kk : (x.kd == 2) = true := beq_iff_eq.2 h
 obtain ⟨B, hB⟩ : ∃ B : JR, B = { JR.zero with kd := x.kd } := ⟨_, rfl⟩
 have HB := fun w => JR.bld (parts := #[(0, .int .i64 x.kd)]) (r := B) (by simp [Value.cells]) (by rw [JR.rows, hB]; rfl) w
 have sB := B.sa JR.zero.size
 have hR : x.onlyD = { B with a := x.a } := by unfold JR.onlyD; rw [JR.only_of, if_neg (show ¬ x.kd = 1 by omega), if_pos h, hB]; rw [if_neg (show ¬ x.kd = 3 by omega)]; rfl
 have sF := JR.s_a B x.a
 rw [← hR] at sF
 have E := JR.eq9 x x.onlyD
 have lR := x.onlyD.la
 have hkn : x.known 0 = x.a.kn := by rw [JR.known_of, if_neg (show ¬ x.kd = 1 by omega), if_pos h]
 rw [hkn]
 have l1 := (JR.f_a x).la
 have l2 := LA.shift1 (JR.f_a x) Zk (JA.f_kn x.a) Zk
 have Q := fun sv w hR => racheck1 x.a hw.2.2.1 sv w hR
 have z9 := JA.size x.a
 have el9 : elemB 118 47 76 376 = true := by kernel_rfl
 generalize JA.c x.a = cf at *
 clear hB hR hkn
 have HV : Hid (x.right = (x.a.right && JR.b x x.onlyD)) := Zi (by rw [JR.right_k Zo]; unfold JR.kind; rw [if_neg (show ¬ x.kd = 1 by omega), if_pos h])
 generalize x.right = v at HV ⊢
 generalize x.a.right = b1 at *
 generalize JR.b x x.onlyD = b2 at *
 have hc : (b1 = true ∧ b2 = true ∧ true = v) ∨
     (b1 = true ∧ b2 = false ∧ false = v) ∨
     (b1 = false ∧ false = v) := by
  clear HM
  cases b1 with
  | true =>
   cases b2 with
   | true =>
    exact .inl (⟨rfl, rfl, by rw [HV.out]; simp⟩)
   | false =>
    exact .inr (.inl (⟨rfl, rfl, by rw [HV.out]; simp⟩))
  | false =>
   exact .inr (.inr (⟨rfl, by rw [HV.out]; simp⟩))
 clear HV
 rcases hc with ⟨rfl, rfl, rfl⟩ | ⟨rfl, rfl, rfl⟩ | ⟨rfl, rfl⟩
 ·go_enter Tryz.func66, Tryz.ntmps66
  go_upto_region 7 with (first | ((with_reducible refine g_bld ?_); refine a_rbl (v := .agg B.c) ?_ (hy := h_bg1 rfl Zw (by with_reducible exact (HB)))) | ((with_reducible refine g_ld ?_); refine a_ld HM ?_) | ((with_reducible refine g_st ?_); refine a_st HM ?_; clear HM; intro w1 HM) | ((with_reducible refine g_al ?_); refine a_al HM ?_; clear HM; intro bk w1 HM) | ((with_reducible refine g_bx ?_); refine a_bx HM ?_; clear HM; intro bk w1 HM))
  exact z9_165
 ·go_enter Tryz.func66, Tryz.ntmps66
  go_upto_region 7 with (first | ((with_reducible refine g_bld ?_); refine a_rbl (v := .agg B.c) ?_ (hy := h_bg1 rfl Zw (by with_reducible exact (HB)))) | ((with_reducible refine g_ld ?_); refine a_ld HM ?_) | ((with_reducible refine g_st ?_); refine a_st HM ?_; clear HM; intro w1 HM) | ((with_reducible refine g_al ?_); refine a_al HM ?_; clear HM; intro bk w1 HM) | ((with_reducible refine g_bx ?_); refine a_bx HM ?_; clear HM; intro bk w1 HM))
  exact z9_166
 ·go_enter Tryz.func66, Tryz.ntmps66
  go_upto_region 7 with (first | ((with_reducible refine g_bld ?_); refine a_rbl (v := .agg B.c) ?_ (hy := h_bg1 rfl Zw (by with_reducible exact (HB)))) | ((with_reducible refine g_ld ?_); refine a_ld HM ?_) | ((with_reducible refine g_st ?_); refine a_st HM ?_; clear HM; intro w1 HM) | ((with_reducible refine g_al ?_); refine a_al HM ?_; clear HM; intro bk w1 HM) | ((with_reducible refine g_bx ?_); refine a_bx HM ?_; clear HM; intro bk w1 HM))
  exact z9_167
theorem rvalid_3 (x : JR) (hw : x.wf) (h : x.kd = 3) (w : World) :
    Calls Tryz.prog 66 #[.agg x.c] w fun e w' => e = .returned (.tuple #[.int .i64 (x.known 0), .bool (x.right)]) ∧ Below w.heap.size w w' := by
 have HM := Mem.start w
 have lx := x.la
 have lk := (JR.f_kd x).la
 have lf := (JR.f_fnd x).la
 have za0 := JR.za
 have k1 : (x.kd == 1) = false := Zb Zo
 have k2 : (x.kd == 2) = false := Zb Zo
 have kk : (x.kd == 3) = true := beq_iff_eq.2 h
 obtain ⟨B, hB⟩ : ∃ B : JR, B = { JR.zero with kd := x.kd } := ⟨_, rfl⟩
 have HB := fun w => JR.bld (parts := #[(0, .int .i64 x.kd)]) (r := B) (by simp [Value.cells]) (by rw [JR.rows, hB]; rfl) w
 have sB := B.sa JR.zero.size
 have hR : x.onlyD = { B with e := x.e, fnd := x.fnd } := by unfold JR.onlyD; rw [JR.only_of, if_neg (show ¬ x.kd = 1 by omega), if_neg (show ¬ x.kd = 2 by omega), if_pos h, hB]; rw [if_pos h]
 have sF := JR.s_e B x.e
 have sG : SA 9 ({ B with e := x.e } : JR).c 1 (.string x.fnd) x.onlyD.c := by rw [hR]; exact JR.s_fnd { B with e := x.e } x.fnd
 generalize ({ B with e := x.e } : JR).c = c9 at sF sG
 have E := JR.eq9 x x.onlyD
 have lR := x.onlyD.la
 have hkn : x.known 0 = x.e.kn := by rw [JR.known_of, if_neg (show ¬ x.kd = 1 by omega), if_neg (show ¬ x.kd = 2 by omega), if_pos h]
 rw [hkn]
 have l1 := (JR.f_e x).la
 have l2 := LA.shift1 (JR.f_e x) Zk (JE.f_kn x.e) Zk
 have Q := fun sv w hR => rpcheck1 x.e hw.2.2.2.1 sv w hR
 have z9 := JE.size x.e
 have el9 : elemB 121 49 10 104 = true := by kernel_rfl
 generalize JE.c x.e = cf at *
 clear hB hR hkn
 have HV : Hid (x.right = (x.e.right && (name x.fnd && JR.b x x.onlyD))) := Zi (JR.right_3 h)
 generalize x.right = v at HV ⊢
 have C2 := fun w => rname23_any x.fnd w
 generalize x.e.right = b1 at *
 generalize name x.fnd = b2 at *
 generalize JR.b x x.onlyD = b3 at *
 have hc : (b1 = true ∧ b2 = true ∧ b3 = true ∧ true = v) ∨
     (b1 = true ∧ b2 = true ∧ b3 = false ∧ false = v) ∨
     (b1 = true ∧ b2 = false ∧ false = v) ∨
     (b1 = false ∧ false = v) := by
  clear HM C2
  cases b1 with
  | true =>
   cases b2 with
   | true =>
    cases b3 with
    | true =>
     exact .inl (⟨rfl, rfl, rfl, by rw [HV.out]; simp⟩)
    | false =>
     exact .inr (.inl (⟨rfl, rfl, rfl, by rw [HV.out]; simp⟩))
   | false =>
    exact .inr (.inr (.inl (⟨rfl, rfl, by rw [HV.out]; simp⟩)))
  | false =>
   exact .inr (.inr (.inr (⟨rfl, by rw [HV.out]; simp⟩)))
 clear HV
 rcases hc with ⟨rfl, rfl, rfl, rfl⟩ | ⟨rfl, rfl, rfl, rfl⟩ | ⟨rfl, rfl, rfl⟩ | ⟨rfl, rfl⟩
 ·go_enter Tryz.func66, Tryz.ntmps66
  go_upto_region 9 with (first | ((with_reducible refine g_bld ?_); refine a_rbl (v := .agg B.c) ?_ (hy := h_bg1 rfl Zw (by with_reducible exact (HB)))) | ((with_reducible refine g_ld ?_); refine a_ld HM ?_) | ((with_reducible refine g_st ?_); refine a_st HM ?_; clear HM; intro w1 HM) | ((with_reducible refine g_al ?_); refine a_al HM ?_; clear HM; intro bk w1 HM) | ((with_reducible refine g_bx ?_); refine a_bx HM ?_; clear HM; intro bk w1 HM))
  obtain ⟨b4, rfl⟩ := HM.nm0
  obtain ⟨b1, rfl⟩ := HM.nm1
  replace HM : Mem w [] [(b1, x.c), (b4, B.c)] _ := HM.pick
  refine start_M2 [] HM ((Sub.keep Sub.nil)) Zk (fun w0x H9 => ?_)
  replace HM := H9; clear H9
  refine k_fa 0 (heldE HM) ?_
  refine k_ld 1 [] (heldE HM) ?_
  refine k_fa 2 (heldE HM) ?_
  refine k_fa 3 (heldE HM) ?_
  refine k_ld 4 [] (heldE HM) ?_
  refine k_fa 5 (heldE HM) ?_
  refine k_ld 6 [] (heldE HM) ?_
  refine k_fa 15 (heldE HM) ?_
  refine j_one 7 fun K9 hK9 => ?_
  refine j_bs1 (c0 := cf) HM ?_ (z0 := z9); clear HM; intro b9 w9 HM
  refine hK9 _ _ (heldE HM) ?_; clear hK9 K9; ((try simp only [Za]); (try simp only [Zx]); (try simp only [Zy]))
  refine j_one 8 fun K9 hK9 => ?_
  (refine o_callg (Q _ _ ((SlAt.made1 b9 z9).rd HM Zs)) rfl ?_ ?_; (focus (refine h_call1 (ts := ?_) (x1 := ?_) ?_ Zk ?_; rotate_left 2; (focus rfl); rfl)); rintro e9 w1 ⟨rfl, hL⟩; replace HM := HM.call hL; clear hL; refine ⟨_, rfl, ?_⟩)
  refine hK9 _ _ (heldE HM) ?_; clear hK9 K9; ((try simp only [Za]); (try simp only [Zx]); (try simp only [Zy]))
  refine k_bin 9 (heldE HM) ?_
  refine k_mv 10 (heldE HM) ?_
  refine k_fa 11 (heldE HM) ?_
  refine k_ld 12 [] (heldE HM) ?_
  refine j_one 13 fun K9 hK9 => ?_
  refine j_call1 (v := ?_) HM ?_ ?_; rotate_left 1; (focus (with_reducible (exact C2 _))); clear HM; intro w1 HM
  refine hK9 _ _ (heldE HM) ?_; clear hK9 K9
  refine k_pick 14 (heldE HM) ?_
  refine j_one 16 fun K9 hK9 => ?_
  refine j_st HM ?_; clear HM; intro w1 HM
  refine hK9 _ _ (heldE HM) ?_; clear hK9 K9
  refine k_mv 17 (heldE HM) ?_
  refine k_mv 18 (heldE HM) ?_
  refine wpAnyL_done Zk ?_ _
  first | (go_upto_region 20 with (first | ((with_reducible refine g_ld ?_); refine a_ld HM ?_) | ((with_reducible refine g_st ?_); refine a_st HM ?_; clear HM; intro w1 HM))) | (go_step; go_upto_region 20 with fail)
  exact z9_168
 ·go_enter Tryz.func66, Tryz.ntmps66
  go_upto_region 9 with (first | ((with_reducible refine g_bld ?_); refine a_rbl (v := .agg B.c) ?_ (hy := h_bg1 rfl Zw (by with_reducible exact (HB)))) | ((with_reducible refine g_ld ?_); refine a_ld HM ?_) | ((with_reducible refine g_st ?_); refine a_st HM ?_; clear HM; intro w1 HM) | ((with_reducible refine g_al ?_); refine a_al HM ?_; clear HM; intro bk w1 HM) | ((with_reducible refine g_bx ?_); refine a_bx HM ?_; clear HM; intro bk w1 HM))
  obtain ⟨b4, rfl⟩ := HM.nm0
  obtain ⟨b1, rfl⟩ := HM.nm1
  replace HM : Mem w [] [(b1, x.c), (b4, B.c)] _ := HM.pick
  refine start_M2 [] HM ((Sub.keep Sub.nil)) Zk (fun w0x H9 => ?_)
  replace HM := H9; clear H9
  refine k_fa 0 (heldE HM) ?_
  refine k_ld 1 [] (heldE HM) ?_
  refine k_fa 2 (heldE HM) ?_
  refine k_fa 3 (heldE HM) ?_
  refine k_ld 4 [] (heldE HM) ?_
  refine k_fa 5 (heldE HM) ?_
  refine k_ld 6 [] (heldE HM) ?_
  refine k_fa 15 (heldE HM) ?_
  refine j_one 7 fun K9 hK9 => ?_
  refine j_bs1 (c0 := cf) HM ?_ (z0 := z9); clear HM; intro b9 w9 HM
  refine hK9 _ _ (heldE HM) ?_; clear hK9 K9; ((try simp only [Za]); (try simp only [Zx]); (try simp only [Zy]))
  refine j_one 8 fun K9 hK9 => ?_
  (refine o_callg (Q _ _ ((SlAt.made1 b9 z9).rd HM Zs)) rfl ?_ ?_; (focus (refine h_call1 (ts := ?_) (x1 := ?_) ?_ Zk ?_; rotate_left 2; (focus rfl); rfl)); rintro e9 w1 ⟨rfl, hL⟩; replace HM := HM.call hL; clear hL; refine ⟨_, rfl, ?_⟩)
  refine hK9 _ _ (heldE HM) ?_; clear hK9 K9; ((try simp only [Za]); (try simp only [Zx]); (try simp only [Zy]))
  refine k_bin 9 (heldE HM) ?_
  refine k_mv 10 (heldE HM) ?_
  refine k_fa 11 (heldE HM) ?_
  refine k_ld 12 [] (heldE HM) ?_
  refine j_one 13 fun K9 hK9 => ?_
  refine j_call1 (v := ?_) HM ?_ ?_; rotate_left 1; (focus (with_reducible (exact C2 _))); clear HM; intro w1 HM
  refine hK9 _ _ (heldE HM) ?_; clear hK9 K9
  refine k_pick 14 (heldE HM) ?_
  refine j_one 16 fun K9 hK9 => ?_
  refine j_st HM ?_; clear HM; intro w1 HM
  refine hK9 _ _ (heldE HM) ?_; clear hK9 K9
  refine k_mv 17 (heldE HM) ?_
  refine k_mv 18 (heldE HM) ?_
  refine wpAnyL_done Zk ?_ _
  first | (go_upto_region 20 with (first | ((with_reducible refine g_ld ?_); refine a_ld HM ?_) | ((with_reducible refine g_st ?_); refine a_st HM ?_; clear HM; intro w1 HM))) | (go_step; go_upto_region 20 with fail)
  exact z9_169
 ·go_enter Tryz.func66, Tryz.ntmps66
  go_upto_region 9 with (first | ((with_reducible refine g_bld ?_); refine a_rbl (v := .agg B.c) ?_ (hy := h_bg1 rfl Zw (by with_reducible exact (HB)))) | ((with_reducible refine g_ld ?_); refine a_ld HM ?_) | ((with_reducible refine g_st ?_); refine a_st HM ?_; clear HM; intro w1 HM) | ((with_reducible refine g_al ?_); refine a_al HM ?_; clear HM; intro bk w1 HM) | ((with_reducible refine g_bx ?_); refine a_bx HM ?_; clear HM; intro bk w1 HM))
  obtain ⟨b4, rfl⟩ := HM.nm0
  obtain ⟨b1, rfl⟩ := HM.nm1
  replace HM : Mem w [] [(b1, x.c), (b4, B.c)] _ := HM.pick
  refine start_M2 [] HM ((Sub.keep Sub.nil)) Zk (fun w0x H9 => ?_)
  replace HM := H9; clear H9
  refine k_fa 0 (heldE HM) ?_
  refine k_ld 1 [] (heldE HM) ?_
  refine k_fa 2 (heldE HM) ?_
  refine k_fa 3 (heldE HM) ?_
  refine k_ld 4 [] (heldE HM) ?_
  refine k_fa 5 (heldE HM) ?_
  refine k_ld 6 [] (heldE HM) ?_
  refine k_fa 15 (heldE HM) ?_
  refine j_one 7 fun K9 hK9 => ?_
  refine j_bs1 (c0 := cf) HM ?_ (z0 := z9); clear HM; intro b9 w9 HM
  refine hK9 _ _ (heldE HM) ?_; clear hK9 K9; ((try simp only [Za]); (try simp only [Zx]); (try simp only [Zy]))
  refine j_one 8 fun K9 hK9 => ?_
  (refine o_callg (Q _ _ ((SlAt.made1 b9 z9).rd HM Zs)) rfl ?_ ?_; (focus (refine h_call1 (ts := ?_) (x1 := ?_) ?_ Zk ?_; rotate_left 2; (focus rfl); rfl)); rintro e9 w1 ⟨rfl, hL⟩; replace HM := HM.call hL; clear hL; refine ⟨_, rfl, ?_⟩)
  refine hK9 _ _ (heldE HM) ?_; clear hK9 K9; ((try simp only [Za]); (try simp only [Zx]); (try simp only [Zy]))
  refine k_bin 9 (heldE HM) ?_
  refine k_mv 10 (heldE HM) ?_
  refine k_fa 11 (heldE HM) ?_
  refine k_ld 12 [] (heldE HM) ?_
  refine j_one 13 fun K9 hK9 => ?_
  refine j_call1 (v := ?_) HM ?_ ?_; rotate_left 1; (focus (with_reducible (exact C2 _))); clear HM; intro w1 HM
  refine hK9 _ _ (heldE HM) ?_; clear hK9 K9
  exact z9_170
 ·go_enter Tryz.func66, Tryz.ntmps66
  go_upto_region 9 with (first | ((with_reducible refine g_bld ?_); refine a_rbl (v := .agg B.c) ?_ (hy := h_bg1 rfl Zw (by with_reducible exact (HB)))) | ((with_reducible refine g_ld ?_); refine a_ld HM ?_) | ((with_reducible refine g_st ?_); refine a_st HM ?_; clear HM; intro w1 HM) | ((with_reducible refine g_al ?_); refine a_al HM ?_; clear HM; intro bk w1 HM) | ((with_reducible refine g_bx ?_); refine a_bx HM ?_; clear HM; intro bk w1 HM))
  obtain ⟨b4, rfl⟩ := HM.nm0
  obtain ⟨b1, rfl⟩ := HM.nm1
  replace HM : Mem w [] [(b1, x.c), (b4, B.c)] _ := HM.pick
  refine start_M2 [] HM ((Sub.keep Sub.nil)) Zk (fun w0x H9 => ?_)
  replace HM := H9; clear H9
  refine k_fa 0 (heldE HM) ?_
  refine k_ld 1 [] (heldE HM) ?_
  refine k_fa 2 (heldE HM) ?_
  refine k_fa 3 (heldE HM) ?_
  refine k_ld 4 [] (heldE HM) ?_
  refine k_fa 5 (heldE HM) ?_
  refine k_ld 6 [] (heldE HM) ?_
  refine k_fa 15 (heldE HM) ?_
  refine j_one 7 fun K9 hK9 => ?_
  refine j_bs1 (c0 := cf) HM ?_ (z0 := z9); clear HM; intro b9 w9 HM
  refine hK9 _ _ (heldE HM) ?_; clear hK9 K9; ((try simp only [Za]); (try simp only [Zx]); (try simp only [Zy]))
  refine j_one 8 fun K9 hK9 => ?_
  (refine o_callg (Q _ _ ((SlAt.made1 b9 z9).rd HM Zs)) rfl ?_ ?_; (focus (refine h_call1 (ts := ?_) (x1 := ?_) ?_ Zk ?_; rotate_left 2; (focus rfl); rfl)); rintro e9 w1 ⟨rfl, hL⟩; replace HM := HM.call hL; clear hL; refine ⟨_, rfl, ?_⟩)
  refine hK9 _ _ (heldE HM) ?_; clear hK9 K9; ((try simp only [Za]); (try simp only [Zx]); (try simp only [Zy]))
  refine k_bin 9 (heldE HM) ?_
  refine k_mv 10 (heldE HM) ?_
  refine k_off 11 (heldE HM) ?_
  refine k_off 12 (heldE HM) ?_
  refine k_off 13 (heldE HM) ?_
  exact z9_170
theorem rvalid_4 (x : JR) (hw : x.wf) (h : x.kd = 4) (w : World) :
    Calls Tryz.prog 66 #[.agg x.c] w fun e w' => e = .returned (.tuple #[.int .i64 (x.known 0), .bool (x.right)]) ∧ Below w.heap.size w w' := by
 have HM := Mem.start w
 have lx := x.la
 have lk := (JR.f_kd x).la
 have lf := (JR.f_fnd x).la
 have za0 := JR.za
 have k1 : (x.kd == 1) = false := Zb Zo
 have k2 : (x.kd == 2) = false := Zb Zo
 have k3 : (x.kd == 3) = false := Zb Zo
 have kk : (x.kd == 4) = true := beq_iff_eq.2 h
 obtain ⟨B, hB⟩ : ∃ B : JR, B = { JR.zero with kd := x.kd } := ⟨_, rfl⟩
 have HB := fun w => JR.bld (parts := #[(0, .int .i64 x.kd)]) (r := B) (by simp [Value.cells]) (by rw [JR.rows, hB]; rfl) w
 have sB := B.sa JR.zero.size
 have hR : x.onlyD = { B with o := x.o } := by unfold JR.onlyD; rw [JR.only_of, if_neg (show ¬ x.kd = 1 by omega), if_neg (show ¬ x.kd = 2 by omega), if_neg (show ¬ x.kd = 3 by omega), if_pos h, hB]; rw [if_neg (show ¬ x.kd = 3 by omega)]; rfl
 have sF := JR.s_o B x.o
 rw [← hR] at sF
 have E := JR.eq9 x x.onlyD
 have lR := x.onlyD.la
 have hkn : x.known 0 = x.o.kn := by rw [JR.known_of, if_neg (show ¬ x.kd = 1 by omega), if_neg (show ¬ x.kd = 2 by omega), if_neg (show ¬ x.kd = 3 by omega), if_pos h]
 rw [hkn]
 have l1 := (JR.f_o x).la
 have l2 := LA.shift1 (JR.f_o x) Zk (JO.f_kn x.o) Zk
 have Q := fun sv w hR => robook1 x.o hw.2.2.2.2.1 sv w hR
 have z9 := JO.size x.o
 have el9 : elemB 64 53 11 128 = true := by kernel_rfl
 generalize JO.c x.o = cf at *
 clear hB hR hkn
 have HV : Hid (x.right = (x.o.right && JR.b x x.onlyD)) := Zi (by rw [JR.right_k Zo]; unfold JR.kind; rw [if_neg (show ¬ x.kd = 1 by omega), if_neg (show ¬ x.kd = 2 by omega), if_neg (show ¬ x.kd = 3 by omega), if_pos h])
 generalize x.right = v at HV ⊢
 generalize x.o.right = b1 at *
 generalize JR.b x x.onlyD = b2 at *
 have hc : (b1 = true ∧ b2 = true ∧ true = v) ∨
     (b1 = true ∧ b2 = false ∧ false = v) ∨
     (b1 = false ∧ false = v) := by
  clear HM
  cases b1 with
  | true =>
   cases b2 with
   | true =>
    exact .inl (⟨rfl, rfl, by rw [HV.out]; simp⟩)
   | false =>
    exact .inr (.inl (⟨rfl, rfl, by rw [HV.out]; simp⟩))
  | false =>
   exact .inr (.inr (⟨rfl, by rw [HV.out]; simp⟩))
 clear HV
 rcases hc with ⟨rfl, rfl, rfl⟩ | ⟨rfl, rfl, rfl⟩ | ⟨rfl, rfl⟩
 ·go_enter Tryz.func66, Tryz.ntmps66
  go_upto_region 12 with (first | ((with_reducible refine g_bld ?_); refine a_rbl (v := .agg B.c) ?_ (hy := h_bg1 rfl Zw (by with_reducible exact (HB)))) | ((with_reducible refine g_ld ?_); refine a_ld HM ?_) | ((with_reducible refine g_st ?_); refine a_st HM ?_; clear HM; intro w1 HM) | ((with_reducible refine g_al ?_); refine a_al HM ?_; clear HM; intro bk w1 HM) | ((with_reducible refine g_bx ?_); refine a_bx HM ?_; clear HM; intro bk w1 HM))
  exact z9_165
 ·go_enter Tryz.func66, Tryz.ntmps66
  go_upto_region 12 with (first | ((with_reducible refine g_bld ?_); refine a_rbl (v := .agg B.c) ?_ (hy := h_bg1 rfl Zw (by with_reducible exact (HB)))) | ((with_reducible refine g_ld ?_); refine a_ld HM ?_) | ((with_reducible refine g_st ?_); refine a_st HM ?_; clear HM; intro w1 HM) | ((with_reducible refine g_al ?_); refine a_al HM ?_; clear HM; intro bk w1 HM) | ((with_reducible refine g_bx ?_); refine a_bx HM ?_; clear HM; intro bk w1 HM))
  exact z9_166
 ·go_enter Tryz.func66, Tryz.ntmps66
  go_upto_region 12 with (first | ((with_reducible refine g_bld ?_); refine a_rbl (v := .agg B.c) ?_ (hy := h_bg1 rfl Zw (by with_reducible exact (HB)))) | ((with_reducible refine g_ld ?_); refine a_ld HM ?_) | ((with_reducible refine g_st ?_); refine a_st HM ?_; clear HM; intro w1 HM) | ((with_reducible refine g_al ?_); refine a_al HM ?_; clear HM; intro bk w1 HM) | ((with_reducible refine g_bx ?_); refine a_bx HM ?_; clear HM; intro bk w1 HM))
  exact z9_167
theorem rvalid_5 (x : JR) (hw : x.wf) (h : x.kd = 5) (w : World) :
    Calls Tryz.prog 66 #[.agg x.c] w fun e w' => e = .returned (.tuple #[.int .i64 (x.known 0), .bool (x.right)]) ∧ Below w.heap.size w w' := by
 have HM := Mem.start w
 have lx := x.la
 have lk := (JR.f_kd x).la
 have lf := (JR.f_fnd x).la
 have za0 := JR.za
 have k1 : (x.kd == 1) = false := Zb Zo
 have k2 : (x.kd == 2) = false := Zb Zo
 have k3 : (x.kd == 3) = false := Zb Zo
 have k4 : (x.kd == 4) = false := Zb Zo
 have kk : (x.kd == 5) = true := beq_iff_eq.2 h
 obtain ⟨B, hB⟩ : ∃ B : JR, B = { JR.zero with kd := x.kd } := ⟨_, rfl⟩
 have HB := fun w => JR.bld (parts := #[(0, .int .i64 x.kd)]) (r := B) (by simp [Value.cells]) (by rw [JR.rows, hB]; rfl) w
 have sB := B.sa JR.zero.size
 have hR : x.onlyD = { B with t := x.t } := by unfold JR.onlyD; rw [JR.only_of, if_neg (show ¬ x.kd = 1 by omega), if_neg (show ¬ x.kd = 2 by omega), if_neg (show ¬ x.kd = 3 by omega), if_neg (show ¬ x.kd = 4 by omega), if_pos h, hB]; rw [if_neg (show ¬ x.kd = 3 by omega)]; rfl
 have sF := JR.s_t B x.t
 rw [← hR] at sF
 have E := JR.eq9 x x.onlyD
 have lR := x.onlyD.la
 have hkn : x.known 0 = x.t.kn := by rw [JR.known_of, if_neg (show ¬ x.kd = 1 by omega), if_neg (show ¬ x.kd = 2 by omega), if_neg (show ¬ x.kd = 3 by omega), if_neg (show ¬ x.kd = 4 by omega), if_pos h]
 rw [hkn]
 have l1 := (JR.f_t x).la
 have l2 := LA.shift1 (JR.f_t x) Zk (JT.f_kn x.t) Zk
 have Q := fun w => rtr_any x.t hw.2.2.2.2.2.1 w
 generalize JT.c x.t = cf at *
 clear hB hR hkn
 have HV : Hid (x.right = (x.t.right && JR.b x x.onlyD)) := Zi (by rw [JR.right_k Zo]; unfold JR.kind; rw [if_neg (show ¬ x.kd = 1 by omega), if_neg (show ¬ x.kd = 2 by omega), if_neg (show ¬ x.kd = 3 by omega), if_neg (show ¬ x.kd = 4 by omega), if_pos h])
 generalize x.right = v at HV ⊢
 generalize x.t.right = b1 at *
 generalize JR.b x x.onlyD = b2 at *
 have hc : (b1 = true ∧ b2 = true ∧ true = v) ∨
     (b1 = true ∧ b2 = false ∧ false = v) ∨
     (b1 = false ∧ false = v) := by
  clear HM
  cases b1 with
  | true =>
   cases b2 with
   | true =>
    exact .inl (⟨rfl, rfl, by rw [HV.out]; simp⟩)
   | false =>
    exact .inr (.inl (⟨rfl, rfl, by rw [HV.out]; simp⟩))
  | false =>
   exact .inr (.inr (⟨rfl, by rw [HV.out]; simp⟩))
 clear HV
 rcases hc with ⟨rfl, rfl, rfl⟩ | ⟨rfl, rfl, rfl⟩ | ⟨rfl, rfl⟩
 ·go_enter Tryz.func66, Tryz.ntmps66
  go_upto_region 14 with (first | ((with_reducible refine g_bld ?_); refine a_rbl (v := .agg B.c) ?_ (hy := h_bg1 rfl Zw (by with_reducible exact (HB)))) | ((with_reducible refine g_ld ?_); refine a_ld HM ?_) | ((with_reducible refine g_st ?_); refine a_st HM ?_; clear HM; intro w1 HM) | ((with_reducible refine g_al ?_); refine a_al HM ?_; clear HM; intro bk w1 HM) | ((with_reducible refine g_bx ?_); refine a_bx HM ?_; clear HM; intro bk w1 HM))
  obtain ⟨b4, rfl⟩ := HM.nm0
  obtain ⟨b1, rfl⟩ := HM.nm1
  replace HM : Mem w [] [(b1, x.c), (b4, B.c)] _ := HM.pick
  refine start_M2 [] HM ((Sub.keep Sub.nil)) Zk (fun w0x H9 => ?_)
  replace HM := H9; clear H9
  refine k_fa 0 (heldE HM) ?_
  refine k_ld 1 [] (heldE HM) ?_
  refine k_fa 2 (heldE HM) ?_
  refine k_fa 3 (heldE HM) ?_
  refine k_ld 4 [] (heldE HM) ?_
  refine k_fa 5 (heldE HM) ?_
  refine k_ld 6 [] (heldE HM) ?_
  refine k_fa 8 (heldE HM) ?_
  refine j_one 7 fun K9 hK9 => ?_
  refine j_call1 (v := ?_) HM ?_ ?_; rotate_left 1; (focus (with_reducible (exact Q _))); clear HM; intro w1 HM
  refine hK9 _ _ (heldE HM) ?_; clear hK9 K9
  refine j_one 9 fun K9 hK9 => ?_
  refine j_st HM ?_; clear HM; intro w1 HM
  refine hK9 _ _ (heldE HM) ?_; clear hK9 K9
  refine k_mv 10 (heldE HM) ?_
  refine k_mv 11 (heldE HM) ?_
  exact z9_171
 ·go_enter Tryz.func66, Tryz.ntmps66
  go_upto_region 14 with (first | ((with_reducible refine g_bld ?_); refine a_rbl (v := .agg B.c) ?_ (hy := h_bg1 rfl Zw (by with_reducible exact (HB)))) | ((with_reducible refine g_ld ?_); refine a_ld HM ?_) | ((with_reducible refine g_st ?_); refine a_st HM ?_; clear HM; intro w1 HM) | ((with_reducible refine g_al ?_); refine a_al HM ?_; clear HM; intro bk w1 HM) | ((with_reducible refine g_bx ?_); refine a_bx HM ?_; clear HM; intro bk w1 HM))
  obtain ⟨b4, rfl⟩ := HM.nm0
  obtain ⟨b1, rfl⟩ := HM.nm1
  replace HM : Mem w [] [(b1, x.c), (b4, B.c)] _ := HM.pick
  refine start_M2 [] HM ((Sub.keep Sub.nil)) Zk (fun w0x H9 => ?_)
  replace HM := H9; clear H9
  refine k_fa 0 (heldE HM) ?_
  refine k_ld 1 [] (heldE HM) ?_
  refine k_fa 2 (heldE HM) ?_
  refine k_fa 3 (heldE HM) ?_
  refine k_ld 4 [] (heldE HM) ?_
  refine k_fa 5 (heldE HM) ?_
  refine k_ld 6 [] (heldE HM) ?_
  refine k_fa 8 (heldE HM) ?_
  refine j_one 7 fun K9 hK9 => ?_
  refine j_call1 (v := ?_) HM ?_ ?_; rotate_left 1; (focus (with_reducible (exact Q _))); clear HM; intro w1 HM
  refine hK9 _ _ (heldE HM) ?_; clear hK9 K9
  refine j_one 9 fun K9 hK9 => ?_
  refine j_st HM ?_; clear HM; intro w1 HM
  refine hK9 _ _ (heldE HM) ?_; clear hK9 K9
  refine k_mv 10 (heldE HM) ?_
  refine k_mv 11 (heldE HM) ?_
  exact z9_172
 ·go_enter Tryz.func66, Tryz.ntmps66
  go_upto_region 14 with (first | ((with_reducible refine g_bld ?_); refine a_rbl (v := .agg B.c) ?_ (hy := h_bg1 rfl Zw (by with_reducible exact (HB)))) | ((with_reducible refine g_ld ?_); refine a_ld HM ?_) | ((with_reducible refine g_st ?_); refine a_st HM ?_; clear HM; intro w1 HM) | ((with_reducible refine g_al ?_); refine a_al HM ?_; clear HM; intro bk w1 HM) | ((with_reducible refine g_bx ?_); refine a_bx HM ?_; clear HM; intro bk w1 HM))
  obtain ⟨b4, rfl⟩ := HM.nm0
  obtain ⟨b1, rfl⟩ := HM.nm1
  replace HM : Mem w [] [(b1, x.c), (b4, B.c)] _ := HM.pick
  refine start_M2 [] HM ((Sub.keep Sub.nil)) Zk (fun w0x H9 => ?_)
  replace HM := H9; clear H9
  refine k_fa 0 (heldE HM) ?_
  refine k_ld 1 [] (heldE HM) ?_
  refine k_fa 2 (heldE HM) ?_
  refine k_fa 3 (heldE HM) ?_
  refine k_ld 4 [] (heldE HM) ?_
  refine k_fa 5 (heldE HM) ?_
  refine k_ld 6 [] (heldE HM) ?_
  refine k_fa 8 (heldE HM) ?_
  refine j_one 7 fun K9 hK9 => ?_
  refine j_call1 (v := ?_) HM ?_ ?_; rotate_left 1; (focus (with_reducible (exact Q _))); clear HM; intro w1 HM
  refine hK9 _ _ (heldE HM) ?_; clear hK9 K9
  refine j_one 9 fun K9 hK9 => ?_
  refine j_st HM ?_; clear HM; intro w1 HM
  refine hK9 _ _ (heldE HM) ?_; clear hK9 K9
  refine k_mv 10 (heldE HM) ?_
  refine k_mv 11 (heldE HM) ?_
  exact z9_173
theorem rvalid_6 (x : JR) (hw : x.wf) (h : x.kd = 6) (w : World) :
    Calls Tryz.prog 66 #[.agg x.c] w fun e w' => e = .returned (.tuple #[.int .i64 (x.known 0), .bool (x.right)]) ∧ Below w.heap.size w w' := by
 have HM := Mem.start w
 have lx := x.la
 have lk := (JR.f_kd x).la
 have lf := (JR.f_fnd x).la
 have za0 := JR.za
 have k1 : (x.kd == 1) = false := Zb Zo
 have k2 : (x.kd == 2) = false := Zb Zo
 have k3 : (x.kd == 3) = false := Zb Zo
 have k4 : (x.kd == 4) = false := Zb Zo
 have k5 : (x.kd == 5) = false := Zb Zo
 have kk : (x.kd == 6) = true := beq_iff_eq.2 h
 obtain ⟨B, hB⟩ : ∃ B : JR, B = { JR.zero with kd := x.kd } := ⟨_, rfl⟩
 have HB := fun w => JR.bld (parts := #[(0, .int .i64 x.kd)]) (r := B) (by simp [Value.cells]) (by rw [JR.rows, hB]; rfl) w
 have sB := B.sa JR.zero.size
 have hR : x.onlyD = { B with s := x.s } := by unfold JR.onlyD; rw [JR.only_of, if_neg (show ¬ x.kd = 1 by omega), if_neg (show ¬ x.kd = 2 by omega), if_neg (show ¬ x.kd = 3 by omega), if_neg (show ¬ x.kd = 4 by omega), if_neg (show ¬ x.kd = 5 by omega), if_pos h, hB]; rw [if_neg (show ¬ x.kd = 3 by omega)]; rfl
 have sF := JR.s_s B x.s
 rw [← hR] at sF
 have E := JR.eq9 x x.onlyD
 have lR := x.onlyD.la
 have hkn : x.known 0 = x.s.kn := by rw [JR.known_of, if_neg (show ¬ x.kd = 1 by omega), if_neg (show ¬ x.kd = 2 by omega), if_neg (show ¬ x.kd = 3 by omega), if_neg (show ¬ x.kd = 4 by omega), if_neg (show ¬ x.kd = 5 by omega), if_pos h]
 rw [hkn]
 have l1 := (JR.f_s x).la
 have l2 := LA.shift1 (JR.f_s x) Zk (JS.f_kn x.s) Zk
 have Q := fun sv w hR => rscheck1 x.s hw.2.2.2.2.2.2 sv w hR
 have z9 := JS.size x.s
 have el9 : elemB 109 57 6 64 = true := by kernel_rfl
 generalize JS.c x.s = cf at *
 clear hB hR hkn
 have HV : Hid (x.right = (x.s.right && JR.b x x.onlyD)) := Zi (by rw [JR.right_k Zo]; unfold JR.kind; rw [if_neg (show ¬ x.kd = 1 by omega), if_neg (show ¬ x.kd = 2 by omega), if_neg (show ¬ x.kd = 3 by omega), if_neg (show ¬ x.kd = 4 by omega), if_neg (show ¬ x.kd = 5 by omega), if_pos h])
 generalize x.right = v at HV ⊢
 generalize x.s.right = b1 at *
 generalize JR.b x x.onlyD = b2 at *
 have hc : (b1 = true ∧ b2 = true ∧ true = v) ∨
     (b1 = true ∧ b2 = false ∧ false = v) ∨
     (b1 = false ∧ false = v) := by
  clear HM
  cases b1 with
  | true =>
   cases b2 with
   | true =>
    exact .inl (⟨rfl, rfl, by rw [HV.out]; simp⟩)
   | false =>
    exact .inr (.inl (⟨rfl, rfl, by rw [HV.out]; simp⟩))
  | false =>
   exact .inr (.inr (⟨rfl, by rw [HV.out]; simp⟩))
 clear HV
 rcases hc with ⟨rfl, rfl, rfl⟩ | ⟨rfl, rfl, rfl⟩ | ⟨rfl, rfl⟩
 ·go_enter Tryz.func66, Tryz.ntmps66
  go_upto_region 16 with (first | ((with_reducible refine g_bld ?_); refine a_rbl (v := .agg B.c) ?_ (hy := h_bg1 rfl Zw (by with_reducible exact (HB)))) | ((with_reducible refine g_ld ?_); refine a_ld HM ?_) | ((with_reducible refine g_st ?_); refine a_st HM ?_; clear HM; intro w1 HM) | ((with_reducible refine g_al ?_); refine a_al HM ?_; clear HM; intro bk w1 HM) | ((with_reducible refine g_bx ?_); refine a_bx HM ?_; clear HM; intro bk w1 HM))
  exact z9_165
 ·go_enter Tryz.func66, Tryz.ntmps66
  go_upto_region 16 with (first | ((with_reducible refine g_bld ?_); refine a_rbl (v := .agg B.c) ?_ (hy := h_bg1 rfl Zw (by with_reducible exact (HB)))) | ((with_reducible refine g_ld ?_); refine a_ld HM ?_) | ((with_reducible refine g_st ?_); refine a_st HM ?_; clear HM; intro w1 HM) | ((with_reducible refine g_al ?_); refine a_al HM ?_; clear HM; intro bk w1 HM) | ((with_reducible refine g_bx ?_); refine a_bx HM ?_; clear HM; intro bk w1 HM))
  exact z9_166
 ·go_enter Tryz.func66, Tryz.ntmps66
  go_upto_region 16 with (first | ((with_reducible refine g_bld ?_); refine a_rbl (v := .agg B.c) ?_ (hy := h_bg1 rfl Zw (by with_reducible exact (HB)))) | ((with_reducible refine g_ld ?_); refine a_ld HM ?_) | ((with_reducible refine g_st ?_); refine a_st HM ?_; clear HM; intro w1 HM) | ((with_reducible refine g_al ?_); refine a_al HM ?_; clear HM; intro bk w1 HM) | ((with_reducible refine g_bx ?_); refine a_bx HM ?_; clear HM; intro bk w1 HM))
  exact z9_167
theorem rvalid_7 (x : JR) (hw : x.wf) (h : x.kd = 7) (w : World) :
    Calls Tryz.prog 66 #[.agg x.c] w fun e w' => e = .returned (.tuple #[.int .i64 (x.known 0), .bool (x.right)]) ∧ Below w.heap.size w w' := by
 have HM := Mem.start w
 have lx := x.la
 have lk := (JR.f_kd x).la
 have lf := (JR.f_fnd x).la
 have za0 := JR.za
 have k1 : (x.kd == 1) = false := Zb Zo
 have k2 : (x.kd == 2) = false := Zb Zo
 have k3 : (x.kd == 3) = false := Zb Zo
 have k4 : (x.kd == 4) = false := Zb Zo
 have k5 : (x.kd == 5) = false := Zb Zo
 have k6 : (x.kd == 6) = false := Zb Zo
 have kk : (x.kd == 7) = true := beq_iff_eq.2 h
 obtain ⟨B, hB⟩ : ∃ B : JR, B = { JR.zero with kd := x.kd } := ⟨_, rfl⟩
 have HB := fun w => JR.bld (parts := #[(0, .int .i64 x.kd)]) (r := B) (by simp [Value.cells]) (by rw [JR.rows, hB]; rfl) w
 have sB := B.sa JR.zero.size
 have hR : x.onlyD = { B with day := x.day } := by unfold JR.onlyD; rw [JR.only_of, if_neg (show ¬ x.kd = 1 by omega), if_neg (show ¬ x.kd = 2 by omega), if_neg (show ¬ x.kd = 3 by omega), if_neg (show ¬ x.kd = 4 by omega), if_neg (show ¬ x.kd = 5 by omega), if_neg (show ¬ x.kd = 6 by omega), if_pos (.inl h), hB]; rw [if_neg (show ¬ x.kd = 3 by omega)]; rfl
 have sF := JR.s_day B x.day
 rw [← hR] at sF
 have E := JR.eq9 x x.onlyD
 have lR := x.onlyD.la
 have hkn : x.known 0 = 0 := by rw [JR.known_of, if_neg (show ¬ x.kd = 1 by omega), if_neg (show ¬ x.kd = 2 by omega), if_neg (show ¬ x.kd = 3 by omega), if_neg (show ¬ x.kd = 4 by omega), if_neg (show ¬ x.kd = 5 by omega), if_neg (show ¬ x.kd = 6 by omega)]
 rw [hkn]
 have l1 := (JR.f_day x).la
 clear hB hR hkn
 have HV : Hid (x.right = ((decide (0 ≤ x.day) && decide (x.day ≤ 73048)) && JR.b x x.onlyD)) := Zi (by rw [JR.right_k Zo]; unfold JR.kind; rw [if_neg (show ¬ x.kd = 1 by omega), if_neg (show ¬ x.kd = 2 by omega), if_neg (show ¬ x.kd = 3 by omega), if_neg (show ¬ x.kd = 4 by omega), if_neg (show ¬ x.kd = 5 by omega), if_neg (show ¬ x.kd = 6 by omega), if_pos (.inl h), isDay_w])
 exact z9_174
theorem rvalid_8 (x : JR) (hw : x.wf) (h : x.kd = 8) (w : World) :
    Calls Tryz.prog 66 #[.agg x.c] w fun e w' => e = .returned (.tuple #[.int .i64 (x.known 0), .bool (x.right)]) ∧ Below w.heap.size w w' := by
 have HM := Mem.start w
 have lx := x.la
 have lk := (JR.f_kd x).la
 have lf := (JR.f_fnd x).la
 have za0 := JR.za
 have k1 : (x.kd == 1) = false := Zb Zo
 have k2 : (x.kd == 2) = false := Zb Zo
 have k3 : (x.kd == 3) = false := Zb Zo
 have k4 : (x.kd == 4) = false := Zb Zo
 have k5 : (x.kd == 5) = false := Zb Zo
 have k6 : (x.kd == 6) = false := Zb Zo
 have k7 : (x.kd == 7) = false := Zb Zo
 have kk : (x.kd == 8) = true := beq_iff_eq.2 h
 obtain ⟨B, hB⟩ : ∃ B : JR, B = { JR.zero with kd := x.kd } := ⟨_, rfl⟩
 have HB := fun w => JR.bld (parts := #[(0, .int .i64 x.kd)]) (r := B) (by simp [Value.cells]) (by rw [JR.rows, hB]; rfl) w
 have sB := B.sa JR.zero.size
 have hR : x.onlyD = { B with day := x.day } := by unfold JR.onlyD; rw [JR.only_of, if_neg (show ¬ x.kd = 1 by omega), if_neg (show ¬ x.kd = 2 by omega), if_neg (show ¬ x.kd = 3 by omega), if_neg (show ¬ x.kd = 4 by omega), if_neg (show ¬ x.kd = 5 by omega), if_neg (show ¬ x.kd = 6 by omega), if_pos (.inr h), hB]; rw [if_neg (show ¬ x.kd = 3 by omega)]; rfl
 have sF := JR.s_day B x.day
 rw [← hR] at sF
 have E := JR.eq9 x x.onlyD
 have lR := x.onlyD.la
 have hkn : x.known 0 = 0 := by rw [JR.known_of, if_neg (show ¬ x.kd = 1 by omega), if_neg (show ¬ x.kd = 2 by omega), if_neg (show ¬ x.kd = 3 by omega), if_neg (show ¬ x.kd = 4 by omega), if_neg (show ¬ x.kd = 5 by omega), if_neg (show ¬ x.kd = 6 by omega)]
 rw [hkn]
 have l1 := (JR.f_day x).la
 clear hB hR hkn
 have HV : Hid (x.right = ((decide (0 ≤ x.day) && decide (x.day ≤ 73048)) && JR.b x x.onlyD)) := Zi (by rw [JR.right_k Zo]; unfold JR.kind; rw [if_neg (show ¬ x.kd = 1 by omega), if_neg (show ¬ x.kd = 2 by omega), if_neg (show ¬ x.kd = 3 by omega), if_neg (show ¬ x.kd = 4 by omega), if_neg (show ¬ x.kd = 5 by omega), if_neg (show ¬ x.kd = 6 by omega), if_pos (.inr h), isDay_w])
 exact z9_174
theorem rvalid_0 (x : JR) (h : ∀ k : Int, 1 ≤ k → k ≤ 8 → x.kd ≠ k) (w : World) :
    Calls Tryz.prog 66 #[.agg x.c] w fun e w' => e = .returned (.tuple #[.int .i64 (x.known 0), .bool (x.right)]) ∧ Below w.heap.size w w' := by
 have HM := Mem.start w
 have lk := (JR.f_kd x).la
 have za0 := JR.za
 have k1 : (x.kd == 1) = false := Zb (h 1 Zo Zo)
 have k2 : (x.kd == 2) = false := Zb (h 2 Zo Zo)
 have k3 : (x.kd == 3) = false := Zb (h 3 Zo Zo)
 have k4 : (x.kd == 4) = false := Zb (h 4 Zo Zo)
 have k5 : (x.kd == 5) = false := Zb (h 5 Zo Zo)
 have k6 : (x.kd == 6) = false := Zb (h 6 Zo Zo)
 have k7 : (x.kd == 7) = false := Zb (h 7 Zo Zo)
 have k8 : (x.kd == 8) = false := Zb (h 8 Zo Zo)
 obtain ⟨B, hB⟩ : ∃ B : JR, B = { JR.zero with kd := x.kd } := ⟨_, rfl⟩
 have HB := fun w => JR.bld (parts := #[(0, .int .i64 x.kd)]) (r := B) (by simp [Value.cells]) (by rw [JR.rows, hB]; rfl) w
 have sB := B.sa JR.zero.size
 have hv : x.right = false := by
  rw [JR.right_k (h 3 Zo Zo)]
  unfold JR.kind
  rw [if_neg (h 1 Zo Zo), if_neg (h 2 Zo Zo), if_neg (h 3 Zo Zo), if_neg (h 4 Zo Zo), if_neg (h 5 Zo Zo), if_neg (h 6 Zo Zo), if_neg (fun g => g.elim (h 7 Zo Zo) (h 8 Zo Zo))]
  rfl
 have hkn : x.known 0 = 0 := by rw [JR.known_of, if_neg (h 1 Zo Zo), if_neg (h 2 Zo Zo), if_neg (h 3 Zo Zo), if_neg (h 4 Zo Zo), if_neg (h 5 Zo Zo), if_neg (h 6 Zo Zo)]
 rw [hv, hkn]
 clear hv hkn hB h
 go_enter Tryz.func66, Tryz.ntmps66
 go_upto_region 20 with (first | ((with_reducible refine g_bld ?_); refine a_rbl (v := .agg B.c) ?_ (hy := h_bg1 rfl Zw (by with_reducible exact (HB)))) | ((with_reducible refine g_ld ?_); refine a_ld HM ?_) | ((with_reducible refine g_st ?_); refine a_st HM ?_; clear HM; intro w1 HM) | ((with_reducible refine g_al ?_); refine a_al HM ?_; clear HM; intro bk w1 HM) | ((with_reducible refine g_bx ?_); refine a_bx HM ?_; clear HM; intro bk w1 HM))
 exact z9_175
theorem rvalid_any (x : JR) (hw : x.wf) (w : World) :
    Calls Tryz.prog 66 #[.agg x.c] w fun e w' => e = .returned (.tuple #[.int .i64 (x.known 0), .bool (x.right)]) ∧ Below w.heap.size w w' := by
 by_cases h1 : x.kd = 1
 ·exact rvalid_1 x hw h1 w
 by_cases h2 : x.kd = 2
 ·exact rvalid_2 x hw h2 w
 by_cases h3 : x.kd = 3
 ·exact rvalid_3 x hw h3 w
 by_cases h4 : x.kd = 4
 ·exact rvalid_4 x hw h4 w
 by_cases h5 : x.kd = 5
 ·exact rvalid_5 x hw h5 w
 by_cases h6 : x.kd = 6
 ·exact rvalid_6 x hw h6 w
 by_cases h7 : x.kd = 7
 ·exact rvalid_7 x hw h7 w
 by_cases h8 : x.kd = 8
 ·exact rvalid_8 x hw h8 w
 exact rvalid_0 x (fun k h1 h2 => by omega) w
end
end Go.Proofs.YtkiempioeffhbaaGreatDoor
