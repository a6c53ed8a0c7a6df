/- Walks. -/
import Derived.Test.YtkiempioeffhbaaGreatDoorPt33
namespace Go.Proofs.YtkiempioeffhbaaGreatDoor
set_option maxHeartbeats 16000000
open Go.RowKit
set_option maxRecDepth 8000
set_option linter.unusedSimpArgs false
set_option linter.unusedVariables false
section
theorem z9_144 {P : Prop} (h : P := by
 clear hv h
 go_enter Tryz.func57, Tryz.ntmps57
 go_upto_region 1 with (first | ((with_reducible refine g_al ?_); refine a_al HM ?_; clear HM; intro bk w1 HM) | ((with_reducible refine g_bx ?_); refine a_bx HM ?_; clear HM; intro bk w1 HM))
 obtain ⟨b2, rfl⟩ := HM.nm0
 refine start_M [5] HM Zk (fun w0x H9 => ?_)
 replace HM := H9; clear H9
 refine k_fa 0 (heldE HM) ?_
 refine k_ld 1 [5, 6] (heldE HM) ?_
 refine k_fa 2 (heldE HM) ?_
 refine j_two 3 5 ?_ ?_
 ·refine j_ld HM ?_
  refine ⟨(heldE HM), ?_⟩
  refine k_bin 4 (heldE HM) ?_
  refine j_one 5 fun K9 hK9 => ?_
  refine j_st HM ?_; clear HM; intro w1 HM
  refine hK9 _ _ heldN ?_; clear hK9 K9
  refine k_mv 6 heldN ?_
  refine wpAnyL_done Zk ?_ _
  (go_wp2_with fail; refine bodyPost_ret (r_ct (b := b2) (k := 0) rfl rfl (HM.get Zl) lR) rfl (by exact ⟨rfl, HM.low⟩))
 ·refine j_st HM ?_; clear HM; intro w1 HM
  refine ⟨heldN, ?_⟩
  refine j_one 3 fun K9 hK9 => ?_
  refine j_ld HM ?_
  refine hK9 _ _ heldN ?_; clear hK9 K9
  refine k_bin 4 heldN ?_
  refine k_mv 6 heldN ?_
  refine wpAnyL_done Zk ?_ _
  (go_wp2_with fail; refine bodyPost_ret (r_ct (b := b2) (k := 0) rfl rfl (HM.get Zl) lR) rfl (by exact ⟨rfl, HM.low⟩))) : P := h
theorem z9_145 {P : Prop} (h : P := by
 clear hv h
 go_enter Tryz.func60, Tryz.ntmps60
 go_upto_region 1 with (first | ((with_reducible refine g_al ?_); refine a_al HM ?_; clear HM; intro bk w1 HM) | ((with_reducible refine g_bx ?_); refine a_bx HM ?_; clear HM; intro bk w1 HM))
 obtain ⟨b2, rfl⟩ := HM.nm0
 refine start_M [5] HM Zk (fun w0x H9 => ?_)
 replace HM := H9; clear H9
 refine k_fa 0 (heldE HM) ?_
 refine k_ld 1 [5, 6] (heldE HM) ?_
 refine k_fa 2 (heldE HM) ?_
 refine j_two 3 5 ?_ ?_
 ·refine j_ld HM ?_
  refine ⟨(heldE HM), ?_⟩
  refine k_bin 4 (heldE HM) ?_
  refine j_one 5 fun K9 hK9 => ?_
  refine j_st HM ?_; clear HM; intro w1 HM
  refine hK9 _ _ heldN ?_; clear hK9 K9
  refine k_mv 6 heldN ?_
  refine wpAnyL_done Zk ?_ _
  (go_wp2_with fail; refine bodyPost_ret (r_ct (b := b2) (k := 0) rfl rfl (HM.get Zl) lR) rfl (by exact ⟨rfl, HM.low⟩))
 ·refine j_st HM ?_; clear HM; intro w1 HM
  refine ⟨heldN, ?_⟩
  refine j_one 3 fun K9 hK9 => ?_
  refine j_ld HM ?_
  refine hK9 _ _ heldN ?_; clear hK9 K9
  refine k_bin 4 heldN ?_
  refine k_mv 6 heldN ?_
  refine wpAnyL_done Zk ?_ _
  (go_wp2_with fail; refine bodyPost_ret (r_ct (b := b2) (k := 0) rfl rfl (HM.get Zl) lR) rfl (by exact ⟨rfl, HM.low⟩))) : P := h
theorem z9_146 {P : Prop} (h : P := by
 clear hv h
 go_enter Tryz.func33, Tryz.ntmps33
 go_upto_region 1 with (first | ((with_reducible refine g_al ?_); refine a_al HM ?_; clear HM; intro bk w1 HM) | ((with_reducible refine g_bx ?_); refine a_bx HM ?_; clear HM; intro bk w1 HM))
 obtain ⟨b2, rfl⟩ := HM.nm0
 refine start_M [5] HM Zk (fun w0x H9 => ?_)
 replace HM := H9; clear H9
 refine k_fa 0 (heldE HM) ?_
 refine k_ld 1 [5, 6] (heldE HM) ?_
 refine k_fa 2 (heldE HM) ?_
 refine j_two 3 5 ?_ ?_
 ·refine j_ld HM ?_
  refine ⟨(heldE HM), ?_⟩
  refine k_bin 4 (heldE HM) ?_
  refine j_one 5 fun K9 hK9 => ?_
  refine j_st HM ?_; clear HM; intro w1 HM
  refine hK9 _ _ heldN ?_; clear hK9 K9
  refine k_mv 6 heldN ?_
  refine wpAnyL_done Zk ?_ _
  (go_wp2_with fail; refine bodyPost_ret (r_ct (b := b2) (k := 0) rfl rfl (HM.get Zl) lR) rfl (by exact ⟨rfl, HM.low⟩))
 ·refine j_st HM ?_; clear HM; intro w1 HM
  refine ⟨heldN, ?_⟩
  refine j_one 3 fun K9 hK9 => ?_
  refine j_ld HM ?_
  refine hK9 _ _ heldN ?_; clear hK9 K9
  refine k_bin 4 heldN ?_
  refine k_mv 6 heldN ?_
  refine wpAnyL_done Zk ?_ _
  (go_wp2_with fail; refine bodyPost_ret (r_ct (b := b2) (k := 0) rfl rfl (HM.get Zl) lR) rfl (by exact ⟨rfl, HM.low⟩))) : P := h
theorem z9_147 {P : Prop} (h : P := by
 clear hv h
 go_enter Tryz.func52, Tryz.ntmps52
 go_upto_region 1 with (first | ((with_reducible refine g_al ?_); refine a_al HM ?_; clear HM; intro bk w1 HM) | ((with_reducible refine g_bx ?_); refine a_bx HM ?_; clear HM; intro bk w1 HM))
 obtain ⟨b2, rfl⟩ := HM.nm0
 refine start_M [5] HM Zk (fun w0x H9 => ?_)
 replace HM := H9; clear H9
 refine k_fa 0 (heldE HM) ?_
 refine k_ld 1 [5, 6] (heldE HM) ?_
 refine k_fa 2 (heldE HM) ?_
 refine j_two 3 5 ?_ ?_
 ·refine j_ld HM ?_
  refine ⟨(heldE HM), ?_⟩
  refine k_bin 4 (heldE HM) ?_
  refine j_one 5 fun K9 hK9 => ?_
  refine j_st HM ?_; clear HM; intro w1 HM
  refine hK9 _ _ heldN ?_; clear hK9 K9
  refine k_mv 6 heldN ?_
  refine wpAnyL_done Zk ?_ _
  (go_wp2_with fail; refine bodyPost_ret (r_ct (b := b2) (k := 0) rfl rfl (HM.get Zl) lR) rfl (by exact ⟨rfl, HM.low⟩))
 ·refine j_st HM ?_; clear HM; intro w1 HM
  refine ⟨heldN, ?_⟩
  refine j_one 3 fun K9 hK9 => ?_
  refine j_ld HM ?_
  refine hK9 _ _ heldN ?_; clear hK9 K9
  refine k_bin 4 heldN ?_
  refine k_mv 6 heldN ?_
  refine wpAnyL_done Zk ?_ _
  (go_wp2_with fail; refine bodyPost_ret (r_ct (b := b2) (k := 0) rfl rfl (HM.get Zl) lR) rfl (by exact ⟨rfl, HM.low⟩))) : P := h
theorem z9_148 {P : Prop} (h : P := by
 refine k_pick 10 (heldE HM) ?_
 refine j_one 11 fun K9 hK9 => ?_
 refine j_st HM ?_; clear HM; intro w1 HM
 refine hK9 _ _ heldN ?_; clear hK9 K9
 refine k_mv 12 heldN ?_
 refine wpAnyL_done Zk ?_ _
 (go_wp2_with fail; refine bodyPost_ret (r_ct (b := b2) (k := 0) rfl rfl (HM.get Zl) lR) rfl (by exact ⟨rfl, HM.low⟩))) : P := h
theorem z9_149 {P : Prop} (h : P := by
 go_enter Tryz.func62, Tryz.ntmps62
 go_upto_region 1 with (first | ((with_reducible refine g_al ?_); refine a_al HM ?_; clear HM; intro bk w1 HM) | ((with_reducible refine g_bx ?_); refine a_bx HM ?_; clear HM; intro bk w1 HM))
 obtain ⟨b2, rfl⟩ := HM.nm0
 refine start_M [11] HM Zk (fun w0x H9 => ?_)
 replace HM := H9; clear H9
 refine k_fa 0 (heldE HM) ?_
 refine k_ld 1 [11, 12] (heldE HM) ?_
 refine k_fa 2 (heldE HM) ?_
 refine k_ld 3 [4, 5, 6, 7, 8, 9, 10, 11, 12] (heldE HM) ?_
 refine k_bin 4 (heldE HM) ?_
 refine k_mv 5 (heldE HM) ?_
 refine k_fa 6 (heldE HM) ?_
 refine three_L (i := 7) (j := 8) (k := 11) Zk (op_L rfl (by rfl) ?_) (op_L rfl (by rfl) ?_) (op_L rfl (by rfl) ?_)
 ·refine j_ld HM ?_
  refine ⟨(heldE HM), ?_⟩
  refine j_two 8 11 ?_ ?_
  ·refine j_ld HM ?_
   refine ⟨(heldE HM), ?_⟩
   refine k_bin 9 (heldE HM) ?_
   refine k_pick 10 (heldE HM) ?_
   refine j_one 11 fun K9 hK9 => ?_
   refine j_st HM ?_; clear HM; intro w1 HM
   refine hK9 _ _ heldN ?_; clear hK9 K9
   refine k_mv 12 heldN ?_
   refine wpAnyL_done Zk ?_ _
   (go_wp2_with fail; refine bodyPost_ret (r_ct (b := b2) (k := 0) rfl rfl (HM.get Zl) lR) rfl (by exact ⟨rfl, HM.low⟩))
  ·refine j_st HM ?_; clear HM; intro w1 HM
   refine ⟨heldN, ?_⟩
   refine j_one 8 fun K9 hK9 => ?_
   refine j_ld HM ?_
   refine hK9 _ _ heldN ?_; clear hK9 K9
   refine k_bin 9 heldN ?_
   refine k_pick 10 heldN ?_
   refine k_mv 12 heldN ?_
   refine wpAnyL_done Zk ?_ _
   (go_wp2_with fail; refine bodyPost_ret (r_ct (b := b2) (k := 0) rfl rfl (HM.get Zl) lR) rfl (by exact ⟨rfl, HM.low⟩))
 ·refine j_ld HM ?_
  refine ⟨(heldE HM), ?_⟩
  refine j_two 7 11 ?_ ?_
  ·refine j_ld HM ?_
   refine ⟨(heldE HM), ?_⟩
   refine k_bin 9 (heldE HM) ?_
   refine k_pick 10 (heldE HM) ?_
   refine j_one 11 fun K9 hK9 => ?_
   refine j_st HM ?_; clear HM; intro w1 HM
   refine hK9 _ _ heldN ?_; clear hK9 K9
   refine k_mv 12 heldN ?_
   refine wpAnyL_done Zk ?_ _
   (go_wp2_with fail; refine bodyPost_ret (r_ct (b := b2) (k := 0) rfl rfl (HM.get Zl) lR) rfl (by exact ⟨rfl, HM.low⟩))
  ·refine j_st HM ?_; clear HM; intro w1 HM
   refine ⟨heldN, ?_⟩
   refine j_one 7 fun K9 hK9 => ?_
   refine j_ld HM ?_
   refine hK9 _ _ heldN ?_; clear hK9 K9
   refine k_bin 9 heldN ?_
   refine k_pick 10 heldN ?_
   refine k_mv 12 heldN ?_
   refine wpAnyL_done Zk ?_ _
   (go_wp2_with fail; refine bodyPost_ret (r_ct (b := b2) (k := 0) rfl rfl (HM.get Zl) lR) rfl (by exact ⟨rfl, HM.low⟩))
 ·refine j_st HM ?_; clear HM; intro w1 HM
  refine ⟨heldN, ?_⟩
  refine j_two 7 8 ?_ ?_
  ·refine j_ld HM ?_
   refine ⟨heldN, ?_⟩
   refine j_one 8 fun K9 hK9 => ?_
   refine j_ld HM ?_
   refine hK9 _ _ heldN ?_; clear hK9 K9
   refine k_bin 9 heldN ?_
   refine k_pick 10 heldN ?_
   refine k_mv 12 heldN ?_
   refine wpAnyL_done Zk ?_ _
   (go_wp2_with fail; refine bodyPost_ret (r_ct (b := b2) (k := 0) rfl rfl (HM.get Zl) lR) rfl (by exact ⟨rfl, HM.low⟩))
  ·refine j_ld HM ?_
   refine ⟨heldN, ?_⟩
   refine j_one 7 fun K9 hK9 => ?_
   refine j_ld HM ?_
   refine hK9 _ _ heldN ?_; clear hK9 K9
   refine k_bin 9 heldN ?_
   refine k_pick 10 heldN ?_
   refine k_mv 12 heldN ?_
   refine wpAnyL_done Zk ?_ _
   (go_wp2_with fail; refine bodyPost_ret (r_ct (b := b2) (k := 0) rfl rfl (HM.get Zl) lR) rfl (by exact ⟨rfl, HM.low⟩))) : P := h
theorem z9_150 {P : Prop} (h : P := by
 refine k_pick 16 (heldE HM) ?_
 refine j_one 17 fun K9 hK9 => ?_
 refine j_st HM ?_; clear HM; intro w1 HM
 refine hK9 _ _ heldN ?_; clear hK9 K9
 refine k_mv 18 heldN ?_
 refine wpAnyL_done Zk ?_ _
 (go_wp2_with fail; refine bodyPost_ret (r_ct (b := b2) (k := 0) rfl rfl (HM.get Zl) lR) rfl (by exact ⟨rfl, HM.low⟩))) : P := h
theorem z9_151 {P : Prop} (h : P := by
 go_enter Tryz.func65, Tryz.ntmps65
 go_upto_region 1 with (first | ((with_reducible refine g_al ?_); refine a_al HM ?_; clear HM; intro bk w1 HM) | ((with_reducible refine g_bx ?_); refine a_bx HM ?_; clear HM; intro bk w1 HM))
 obtain ⟨b2, rfl⟩ := HM.nm0
 refine start_M [17] HM Zk (fun w0x H9 => ?_)
 replace HM := H9; clear H9
 refine k_fa 0 (heldE HM) ?_
 refine k_ld 1 [17, 18] (heldE HM) ?_
 refine k_fa 2 (heldE HM) ?_
 refine k_ld 3 [4, 5, 6, 7, 8, 9, 10, 11, 12, 13, 14, 15, 16, 17, 18] (heldE HM) ?_
 refine k_bin 4 (heldE HM) ?_
 refine k_mv 5 (heldE HM) ?_
 refine k_fa 6 (heldE HM) ?_
 refine k_fa 7 (heldE HM) ?_
 refine k_ld 8 [9, 10, 11, 12, 13, 14, 15, 16, 17, 18] (heldE HM) ?_
 refine k_mv 9 (heldE HM) ?_
 refine k_fa 10 (heldE HM) ?_
 refine k_fa 11 (heldE HM) ?_
 refine three_L (i := 12) (j := 13) (k := 17) Zk (op_L rfl (by rfl) ?_) (op_L rfl (by rfl) ?_) (op_L rfl (by rfl) ?_)
 ·refine j_ld HM ?_
  refine ⟨(heldE HM), ?_⟩
  refine j_two 13 17 ?_ ?_
  ·refine j_ld HM ?_
   refine ⟨(heldE HM), ?_⟩
   refine k_bin 14 (heldE HM) ?_
   refine k_pick 15 (heldE HM) ?_
   refine k_pick 16 (heldE HM) ?_
   refine j_one 17 fun K9 hK9 => ?_
   refine j_st HM ?_; clear HM; intro w1 HM
   refine hK9 _ _ heldN ?_; clear hK9 K9
   refine k_mv 18 heldN ?_
   refine wpAnyL_done Zk ?_ _
   (go_wp2_with fail; refine bodyPost_ret (r_ct (b := b2) (k := 0) rfl rfl (HM.get Zl) lR) rfl (by exact ⟨rfl, HM.low⟩))
  ·refine j_st HM ?_; clear HM; intro w1 HM
   refine ⟨heldN, ?_⟩
   refine j_one 13 fun K9 hK9 => ?_
   refine j_ld HM ?_
   refine hK9 _ _ heldN ?_; clear hK9 K9
   refine k_bin 14 heldN ?_
   refine k_pick 15 heldN ?_
   refine k_pick 16 heldN ?_
   refine k_mv 18 heldN ?_
   refine wpAnyL_done Zk ?_ _
   (go_wp2_with fail; refine bodyPost_ret (r_ct (b := b2) (k := 0) rfl rfl (HM.get Zl) lR) rfl (by exact ⟨rfl, HM.low⟩))
 ·refine j_ld HM ?_
  refine ⟨(heldE HM), ?_⟩
  refine j_two 12 17 ?_ ?_
  ·refine j_ld HM ?_
   refine ⟨(heldE HM), ?_⟩
   refine k_bin 14 (heldE HM) ?_
   refine k_pick 15 (heldE HM) ?_
   refine k_pick 16 (heldE HM) ?_
   refine j_one 17 fun K9 hK9 => ?_
   refine j_st HM ?_; clear HM; intro w1 HM
   refine hK9 _ _ heldN ?_; clear hK9 K9
   refine k_mv 18 heldN ?_
   refine wpAnyL_done Zk ?_ _
   (go_wp2_with fail; refine bodyPost_ret (r_ct (b := b2) (k := 0) rfl rfl (HM.get Zl) lR) rfl (by exact ⟨rfl, HM.low⟩))
  ·refine j_st HM ?_; clear HM; intro w1 HM
   refine ⟨heldN, ?_⟩
   refine j_one 12 fun K9 hK9 => ?_
   refine j_ld HM ?_
   refine hK9 _ _ heldN ?_; clear hK9 K9
   refine k_bin 14 heldN ?_
   refine k_pick 15 heldN ?_
   refine k_pick 16 heldN ?_
   refine k_mv 18 heldN ?_
   refine wpAnyL_done Zk ?_ _
   (go_wp2_with fail; refine bodyPost_ret (r_ct (b := b2) (k := 0) rfl rfl (HM.get Zl) lR) rfl (by exact ⟨rfl, HM.low⟩))
 ·refine j_st HM ?_; clear HM; intro w1 HM
  refine ⟨heldN, ?_⟩
  refine j_two 12 13 ?_ ?_
  ·refine j_ld HM ?_
   refine ⟨heldN, ?_⟩
   refine j_one 13 fun K9 hK9 => ?_
   refine j_ld HM ?_
   refine hK9 _ _ heldN ?_; clear hK9 K9
   refine k_bin 14 heldN ?_
   refine k_pick 15 heldN ?_
   refine k_pick 16 heldN ?_
   refine k_mv 18 heldN ?_
   refine wpAnyL_done Zk ?_ _
   (go_wp2_with fail; refine bodyPost_ret (r_ct (b := b2) (k := 0) rfl rfl (HM.get Zl) lR) rfl (by exact ⟨rfl, HM.low⟩))
  ·refine j_ld HM ?_
   refine ⟨heldN, ?_⟩
   refine j_one 12 fun K9 hK9 => ?_
   refine j_ld HM ?_
   refine hK9 _ _ heldN ?_; clear hK9 K9
   refine k_bin 14 heldN ?_
   refine k_pick 15 heldN ?_
   refine k_pick 16 heldN ?_
   refine k_mv 18 heldN ?_
   refine wpAnyL_done Zk ?_ _
   (go_wp2_with fail; refine bodyPost_ret (r_ct (b := b2) (k := 0) rfl rfl (HM.get Zl) lR) rfl (by exact ⟨rfl, HM.low⟩))) : P := h
theorem z9_152 {P : Prop} (h : P := by
 refine k_pick 15 (heldE HM) ?_
 refine k_pick 16 (heldE HM) ?_
 refine j_one 17 fun K9 hK9 => ?_
 refine j_st HM ?_; clear HM; intro w1 HM
 refine hK9 _ _ heldN ?_; clear hK9 K9
 refine k_mv 18 heldN ?_
 refine wpAnyL_done Zk ?_ _
 (go_wp2_with fail; refine bodyPost_ret (r_ct (b := b2) (k := 0) rfl rfl (HM.get Zl) lR) rfl (by exact ⟨rfl, HM.low⟩))) : P := h
end
section
open Jb
theorem tk_q (r : JR) (v : Bool) (hv : v = decide (r.kd = 1)) (w : World) :
    Calls Tryz.prog 57 #[.agg r.c] w fun e w' => e = .returned (.tuple #[.agg r.q.c, .bool v]) ∧ Below w.heap.size w w' := by
 have HM := Mem.start w
 have lF := (JR.f_q r).la
 have lk := (JR.f_kd r).la
 have za0 := JQ.za
 have sF := r.q.sa JQ.zero.size
 have lR := r.q.la
 by_cases h : r.kd = 1
 ·obtain rfl : v = true := by rw [hv, Zt h]
  have hk : (r.kd == 1) = true := beq_iff_eq.2 h
  exact z9_144
 ·obtain rfl : v = false := by rw [hv, Zf h]
  have hk : (r.kd == 1) = false := Zb h
  exact z9_144
theorem tk_a (r : JR) (v : Bool) (hv : v = decide (r.kd = 2)) (w : World) :
    Calls Tryz.prog 60 #[.agg r.c] w fun e w' => e = .returned (.tuple #[.agg r.a.c, .bool v]) ∧ Below w.heap.size w w' := by
 have HM := Mem.start w
 have lF := (JR.f_a r).la
 have lk := (JR.f_kd r).la
 have za0 := JA.za
 have sF := r.a.sa JA.zero.size
 have lR := r.a.la
 by_cases h : r.kd = 2
 ·obtain rfl : v = true := by rw [hv, Zt h]
  have hk : (r.kd == 2) = true := beq_iff_eq.2 h
  exact z9_145
 ·obtain rfl : v = false := by rw [hv, Zf h]
  have hk : (r.kd == 2) = false := Zb h
  exact z9_145
theorem tk_o (r : JR) (v : Bool) (hv : v = decide (r.kd = 4)) (w : World) :
    Calls Tryz.prog 33 #[.agg r.c] w fun e w' => e = .returned (.tuple #[.agg r.o.c, .bool v]) ∧ Below w.heap.size w w' := by
 have HM := Mem.start w
 have lF := (JR.f_o r).la
 have lk := (JR.f_kd r).la
 have za0 := JO.za
 have sF := r.o.sa JO.zero.size
 have lR := r.o.la
 by_cases h : r.kd = 4
 ·obtain rfl : v = true := by rw [hv, Zt h]
  have hk : (r.kd == 4) = true := beq_iff_eq.2 h
  exact z9_146
 ·obtain rfl : v = false := by rw [hv, Zf h]
  have hk : (r.kd == 4) = false := Zb h
  exact z9_146
theorem tk_s (r : JR) (v : Bool) (hv : v = decide (r.kd = 6)) (w : World) :
    Calls Tryz.prog 52 #[.agg r.c] w fun e w' => e = .returned (.tuple #[.agg r.s.c, .bool v]) ∧ Below w.heap.size w w' := by
 have HM := Mem.start w
 have lF := (JR.f_s r).la
 have lk := (JR.f_kd r).la
 have za0 := JS.za
 have sF := r.s.sa JS.zero.size
 have lR := r.s.la
 by_cases h : r.kd = 6
 ·obtain rfl : v = true := by rw [hv, Zt h]
  have hk : (r.kd == 6) = true := beq_iff_eq.2 h
  exact z9_147
 ·obtain rfl : v = false := by rw [hv, Zf h]
  have hk : (r.kd == 6) = false := Zb h
  exact z9_147
theorem tk_e (r : JR) (fund : ByteArray) (bf : Nat) (v : Bool) (hv : v = (fun r => decide (r.kd = 3) && (r.fnd == fund)) r) (w : World) (hB : Blk w bf #[.string fund]) :
    Calls Tryz.prog 62 #[.agg r.c, .pointer (some ⟨bf, 0, none⟩)] w fun e w' => e = .returned (.tuple #[.agg r.e.c, .bool v]) ∧ Below w.heap.size w w' := by
 have HM := Mem.start w
 have HBF := Zi hB
 have lfu : LA 9 #[Value.string fund] 0 (.string fund) := LA.one Zk rfl
 have lF := (JR.f_e r).la
 have lk := (JR.f_kd r).la
 have za0 := JE.za
 have sF := r.e.sa JE.zero.size
 have lR := r.e.la
 have HS1 := Jb.str_l r.fnd fund
 have HS2 := Jb.str_d r.fnd fund
 clear hB
 have lfn := (JR.f_fnd r).la
 replace hv : v = (decide (r.kd = 3) && (r.fnd == fund)) := hv
 generalize (r.fnd == fund) = b9 at *
 by_cases h : r.kd = 3
 case neg =>
  obtain rfl : v = false := by rw [hv]; simp [h]
  have hk : (r.kd == 3) = false := Zb h
  clear hv h HS1 HS2
  go_enter Tryz.func62, Tryz.ntmps62
  go_upto_region 1 with (first | ((with_reducible refine g_al ?_); refine a_al HM ?_; clear HM; intro bk w1 HM) | ((with_reducible refine g_bx ?_); refine a_bx HM ?_; clear HM; intro bk w1 HM))
  obtain ⟨b2, rfl⟩ := HM.nm0
  refine start_M [11] HM Zk (fun w0x H9 => ?_)
  replace HM := H9; clear H9
  refine k_fa 0 (heldE HM) ?_
  refine k_ld 1 [11, 12] (heldE HM) ?_
  refine k_fa 2 (heldE HM) ?_
  refine k_ld 3 [4, 5, 6, 7, 8, 9, 10, 11, 12] (heldE HM) ?_
  refine k_bin 4 (heldE HM) ?_
  refine k_mv 5 (heldE HM) ?_
  refine k_off 6 (heldE HM) ?_
  refine k_off 7 (heldE HM) ?_
  refine k_off 8 (heldE HM) ?_
  refine k_off 9 (heldE HM) ?_
  exact z9_148
 case pos =>
  have hk : (r.kd == 3) = true := beq_iff_eq.2 h
  obtain rfl : v = b9 := by rw [hv]; simp [h]
  clear hv h
  cases v
  ·exact z9_149
  ·exact z9_149
theorem tk_t (r : JR) (fund : ByteArray) (bf : Nat) (v : Bool) (hv : v = (fun r => decide (r.kd = 5) && (r.t.vd || r.t.fnd == fund)) r) (w : World) (hB : Blk w bf #[.string fund]) :
    Calls Tryz.prog 65 #[.agg r.c, .pointer (some ⟨bf, 0, none⟩)] w fun e w' => e = .returned (.tuple #[.agg r.t.c, .bool v]) ∧ Below w.heap.size w w' := by
 have HM := Mem.start w
 have HBF := Zi hB
 have lfu : LA 9 #[Value.string fund] 0 (.string fund) := LA.one Zk rfl
 have lF := (JR.f_t r).la
 have lk := (JR.f_kd r).la
 have za0 := JT.za
 have sF := r.t.sa JT.zero.size
 have lR := r.t.la
 have HS1 := Jb.str_l r.t.fnd fund
 have HS2 := Jb.str_d r.t.fnd fund
 clear hB
 have lvd := LA.shift1 (JR.f_t r) Zk (JT.f_vd r.t) Zk
 have lfn := LA.shift1 (JR.f_t r) Zk (JT.f_fnd r.t) Zk
 replace hv : v = (decide (r.kd = 5) && (r.t.vd || r.t.fnd == fund)) := hv
 generalize (r.t.fnd == fund) = b9 at *
 generalize r.t.vd = vd at *
 by_cases h : r.kd = 5
 case neg =>
  obtain rfl : v = false := by rw [hv]; simp [h]
  have hk : (r.kd == 5) = false := Zb h
  clear hv h HS1 HS2
  go_enter Tryz.func65, Tryz.ntmps65
  go_upto_region 1 with (first | ((with_reducible refine g_al ?_); refine a_al HM ?_; clear HM; intro bk w1 HM) | ((with_reducible refine g_bx ?_); refine a_bx HM ?_; clear HM; intro bk w1 HM))
  obtain ⟨b2, rfl⟩ := HM.nm0
  refine start_M [17] HM Zk (fun w0x H9 => ?_)
  replace HM := H9; clear H9
  refine k_fa 0 (heldE HM) ?_
  refine k_ld 1 [17, 18] (heldE HM) ?_
  refine k_fa 2 (heldE HM) ?_
  refine k_ld 3 [4, 5, 6, 7, 8, 9, 10, 11, 12, 13, 14, 15, 16, 17, 18] (heldE HM) ?_
  refine k_bin 4 (heldE HM) ?_
  refine k_mv 5 (heldE HM) ?_
  refine k_off 6 (heldE HM) ?_
  refine k_off 7 (heldE HM) ?_
  refine k_off 8 (heldE HM) ?_
  refine k_off 9 (heldE HM) ?_
  refine k_off 10 (heldE HM) ?_
  refine k_off 11 (heldE HM) ?_
  refine k_off 12 (heldE HM) ?_
  refine k_off 13 (heldE HM) ?_
  refine k_off 14 (heldE HM) ?_
  refine k_off 15 (heldE HM) ?_
  exact z9_150
 case pos =>
  have hk : (r.kd == 5) = true := beq_iff_eq.2 h
  cases vd
  ·obtain rfl : v = b9 := by rw [hv]; simp [h]
   clear hv h
   cases v
   ·exact z9_151
   ·exact z9_151
  ·obtain rfl : v = true := by rw [hv]; simp [h]
   clear hv h
   go_enter Tryz.func65, Tryz.ntmps65
   go_upto_region 1 with (first | ((with_reducible refine g_al ?_); refine a_al HM ?_; clear HM; intro bk w1 HM) | ((with_reducible refine g_bx ?_); refine a_bx HM ?_; clear HM; intro bk w1 HM))
   obtain ⟨b2, rfl⟩ := HM.nm0
   refine start_M [17] HM Zk (fun w0x H9 => ?_)
   replace HM := H9; clear H9
   refine k_fa 0 (heldE HM) ?_
   refine k_ld 1 [17, 18] (heldE HM) ?_
   refine k_fa 2 (heldE HM) ?_
   refine k_ld 3 [4, 5, 6, 7, 8, 9, 10, 11, 12, 13, 14, 15, 16, 17, 18] (heldE HM) ?_
   refine k_bin 4 (heldE HM) ?_
   refine k_mv 5 (heldE HM) ?_
   refine k_fa 6 (heldE HM) ?_
   refine k_fa 7 (heldE HM) ?_
   refine k_ld 8 [9, 10, 11, 12, 13, 14, 15, 16, 17, 18] (heldE HM) ?_
   refine k_mv 9 (heldE HM) ?_
   refine k_off 10 (heldE HM) ?_
   refine k_off 11 (heldE HM) ?_
   refine k_off 12 (heldE HM) ?_
   refine k_off 13 (heldE HM) ?_
   refine k_off 14 (heldE HM) ?_
   exact z9_152
end
section
theorem z9_153 {P : Prop} (h : P := by
 go_wp2_with (go_at_call 29; (with_reducible refine Zc HM (C1 _ HM.low) ?_; clear HM; intro w2 HM))
 go_ret2
 exact ⟨⟨_, rfl, Zi (RdS.nil0 _ _)⟩, HM.low⟩) : P := h
theorem z9_154 {P : Prop} (h : P := by
 obtain rfl : i = m := by omega
 go_wp2_with fail
 go_ret2
 exact ⟨⟨_, rfl, Zi (HS.out.rd HM (fun p hp => hp))⟩, HM.low⟩) : P := h
end
section
open Jb
theorem jcol_q (sv : Value) (L : List JR) (k : Int) (sel : JR → Bool) (w : World) (hR : RdR w sv L) (hT : ∀ (r : JR) (v : Bool) (w' : World), Below w.heap.size w w' → v = sel r → Calls Tryz.prog 57 #[.agg r.c] w' fun e w'' => e = .returned (.tuple #[.agg r.q.c, .bool v]) ∧ Below w'.heap.size w' w'') :
    Calls Tryz.prog 56 #[sv, .int .i64 k, .func (.func 57) #[] #[]] w fun e w' => (∃ s, e = .returned (.tuple #[s, .int .i64 (Jb.err L k)]) ∧ Hid (RdS 72 w' s (if Jb.err L k = 0 then ((Jb.take L k sel).map fun r => r.q.c) else []))) ∧ Below w.heap.size w w' := by
 have HM := Mem.start w
 have C1 := fun w' hB => jerr_any sv L k w' (hR.below hB)
 obtain ⟨A, cap, rfl⟩ := hR.form
 have HR := Zi hR
 have HT := Zi hT
 by_cases he : Jb.err L k = 0
 case neg =>
  rw [if_neg he]
  generalize Jb.err L k = e0 at *
  have he1 : (e0 != 0) = true := bne_iff_ne.2 he
  clear hR hT HR HT
  go_enter Tryz.func56, Tryz.ntmps56
  exact z9_153
 case pos =>
  obtain ⟨hL, hk1, hk2⟩ := Jb.err_ok he
  rw [if_pos he]
  rw [he] at C1 ⊢
  obtain ⟨m, hm⟩ : ∃ m : Nat, m = min k.toNat L.length := ⟨_, rfl⟩
  have hmin : min k (L.length : Int) = (m : Int) := by omega
  rw [Jb.take_min L k sel hm]
  obtain ⟨sv2, hrun, hrd⟩ := run_take hR.1 jr_el (k := m) (by rw [List.length_map]; omega)
  obtain ⟨A2, cap2, e2⟩ := RdS.form1 (hrd w hR.1)
  have hlen2 : ((L.map JR.c).take m).length = m := by rw [List.length_take, List.length_map]; omega
  rw [hlen2] at e2
  subst e2
  have HRUN := Zi hrun
  have HRD := Zi hrd
  have hmL : m ≤ L.length := by omega
  have hm4 : m ≤ 4096 := by omega
  have za0 := JR.za
  have zaT := JQ.za
  have elT : elemB 115 45 72 336 = true := by kernel_rfl
  clear hR hT hrun hrd hm hlen2 he hk1 hk2
  go_enter Tryz.func56, Tryz.ntmps56
  go_wp2_with (first | (go_at_call 29; (with_reducible refine Zc HM (C1 _ HM.low) ?_; clear HM; intro w2 HM)) | ((with_reducible refine g_sl ?_); refine a_sl ?_ (fun w9 => by simpa [Act.eval] using HRUN.out w9)))
  go_loopw [9, 27] (fun ov iv wr => ∃ (i : Nat) (B : List (Nat × Array Value)), iv = .int .i64 (i : Nat) ∧ i ≤ m ∧ Hid (SlAt 72 ov (((L.take i).filter sel).map fun r => r.q.c) B) ∧ Mem w [] B wr) (fun _ iv _ => m - (intOf iv).toNat)
  case atStart => exact ⟨0, [], rfl, by omega, Zi .nil, HM⟩
  case round =>
   clear HM
   obtain ⟨i, B, rfl, hi, HS, HM⟩ := hrel
   by_cases hlt : i < m
   ·have hlt1 : (i : Int) < m := by omega
    obtain ⟨r, hr⟩ : ∃ r, L[i]? = some r := ⟨_, List.getElem?_eq_getElem Zo⟩
    obtain ⟨b, off, cs, cap', e9, hb9, hc9⟩ := RdS.get (HRD.out _ HR.out.1) (k := i) (c := r.c) (by rw [List.getElem?_take_of_lt hlt, List.getElem?_map, hr]; rfl)
    injection e9 with e91 e92 e93
    subst e91
    have l0 : LA 59 cs (off + i * 189) (.agg r.c) := la_in (n := 189) Zk Zk r.size hc9 Zd
    have HB := Zi hb9
    have sx := r.sa JR.zero.size
    have lx := r.la
    have sT := r.q.sa JQ.zero.size
    have lT := r.q.la
    have zT := JQ.size r.q
    have oT := JQ.one r.q
    have HST := Zi (Jb.filt_step L sel (fun r => r.q.c) hr)
    have hlen := Jb.filt_len L sel (fun r => r.q.c) (i := i) Zo
    clear hb9 hc9 e92 e93
    cases hs : sel r with
    | true =>
     have T1 := fun w' hB => HT.out r true w' hB hs.symm
     have HST2 : Hid (((L.take (i + 1)).filter sel).map (fun r => r.q.c) = ((L.take i).filter sel).map (fun r => r.q.c) ++ [r.q.c]) := Zi (by rw [HST.out, hs]; rfl)
     have hone : ∀ c ∈ [r.q.c], c.all (·.oneCell') = true := by simpa using oT
     clear hs hr HST
     go_wp2_with (first | (go_at_call 57; (with_reducible refine Zc HM (T1 _ HM.low) ?_; clear HM; intro w2 HM)) | ((with_reducible refine g_bs1 ?_); refine a_bs1 (c0 := r.q.c) HM ?_ (z0 := zT); clear HM; intro b9 w9 HM) | ((with_reducible refine g_app ?_); refine a_app (m := [r.q.c]) (F := fun X => X) HM HS.out ((SlAt.made1 b9 zT).rd HM Zs) ?_ hone (hlen := by simp only [List.length_singleton]; omega); clear HM; intro s9 B9 w9 HS9 HM) | ((with_reducible refine g_ld ?_); refine a_ld HM ?_) | ((with_reducible refine g_st ?_); refine a_st HM ?_; clear HM; intro w1 HM) | ((with_reducible refine g_al ?_); refine a_al HM ?_; clear HM; intro bk w1 HM))
     go_roundw
     case rel => exact ⟨i + 1, B9, by go_num, by omega, Zi (by rw [HST2.out]; exact HS9), HM⟩
     case measure => simp [intOf]; omega
    | false =>
     have T1 := fun w' hB => HT.out r false w' hB hs.symm
     have HST2 : Hid (((L.take (i + 1)).filter sel).map (fun r => r.q.c) = ((L.take i).filter sel).map (fun r => r.q.c)) := Zi (by rw [HST.out, hs]; simp)
     clear hs hr HST
     go_wp2_with (first | (go_at_call 57; (with_reducible refine Zc HM (T1 _ HM.low) ?_; clear HM; intro w2 HM)) | ((with_reducible refine g_ld ?_); refine a_ld HM ?_) | ((with_reducible refine g_st ?_); refine a_st HM ?_; clear HM; intro w1 HM) | ((with_reducible refine g_al ?_); refine a_al HM ?_; clear HM; intro bk w1 HM))
     go_roundw
     case rel => exact ⟨i + 1, B, by go_num, by omega, Zi (by rw [HST2.out]; exact HS.out), HM.tail.tail⟩
     case measure => simp [intOf]; omega
   ·exact z9_154
theorem jcol_a (sv : Value) (L : List JR) (k : Int) (sel : JR → Bool) (w : World) (hR : RdR w sv L) (hT : ∀ (r : JR) (v : Bool) (w' : World), Below w.heap.size w w' → v = sel r → Calls Tryz.prog 60 #[.agg r.c] w' fun e w'' => e = .returned (.tuple #[.agg r.a.c, .bool v]) ∧ Below w'.heap.size w' w'') :
    Calls Tryz.prog 59 #[sv, .int .i64 k, .func (.func 60) #[] #[]] w fun e w' => (∃ s, e = .returned (.tuple #[s, .int .i64 (Jb.err L k)]) ∧ Hid (RdS 76 w' s (if Jb.err L k = 0 then ((Jb.take L k sel).map fun r => r.a.c) else []))) ∧ Below w.heap.size w w' := by
 have HM := Mem.start w
 have C1 := fun w' hB => jerr_any sv L k w' (hR.below hB)
 obtain ⟨A, cap, rfl⟩ := hR.form
 have HR := Zi hR
 have HT := Zi hT
 by_cases he : Jb.err L k = 0
 case neg =>
  rw [if_neg he]
  generalize Jb.err L k = e0 at *
  have he1 : (e0 != 0) = true := bne_iff_ne.2 he
  clear hR hT HR HT
  go_enter Tryz.func59, Tryz.ntmps59
  exact z9_153
 case pos =>
  obtain ⟨hL, hk1, hk2⟩ := Jb.err_ok he
  rw [if_pos he]
  rw [he] at C1 ⊢
  obtain ⟨m, hm⟩ : ∃ m : Nat, m = min k.toNat L.length := ⟨_, rfl⟩
  have hmin : min k (L.length : Int) = (m : Int) := by omega
  rw [Jb.take_min L k sel hm]
  obtain ⟨sv2, hrun, hrd⟩ := run_take hR.1 jr_el (k := m) (by rw [List.length_map]; omega)
  obtain ⟨A2, cap2, e2⟩ := RdS.form1 (hrd w hR.1)
  have hlen2 : ((L.map JR.c).take m).length = m := by rw [List.length_take, List.length_map]; omega
  rw [hlen2] at e2
  subst e2
  have HRUN := Zi hrun
  have HRD := Zi hrd
  have hmL : m ≤ L.length := by omega
  have hm4 : m ≤ 4096 := by omega
  have za0 := JR.za
  have zaT := JA.za
  have elT : elemB 118 47 76 376 = true := by kernel_rfl
  clear hR hT hrun hrd hm hlen2 he hk1 hk2
  go_enter Tryz.func59, Tryz.ntmps59
  go_wp2_with (first | (go_at_call 29; (with_reducible refine Zc HM (C1 _ HM.low) ?_; clear HM; intro w2 HM)) | ((with_reducible refine g_sl ?_); refine a_sl ?_ (fun w9 => by simpa [Act.eval] using HRUN.out w9)))
  go_loopw [9, 27] (fun ov iv wr => ∃ (i : Nat) (B : List (Nat × Array Value)), iv = .int .i64 (i : Nat) ∧ i ≤ m ∧ Hid (SlAt 76 ov (((L.take i).filter sel).map fun r => r.a.c) B) ∧ Mem w [] B wr) (fun _ iv _ => m - (intOf iv).toNat)
  case atStart => exact ⟨0, [], rfl, by omega, Zi .nil, HM⟩
  case round =>
   clear HM
   obtain ⟨i, B, rfl, hi, HS, HM⟩ := hrel
   by_cases hlt : i < m
   ·have hlt1 : (i : Int) < m := by omega
    obtain ⟨r, hr⟩ : ∃ r, L[i]? = some r := ⟨_, List.getElem?_eq_getElem Zo⟩
    obtain ⟨b, off, cs, cap', e9, hb9, hc9⟩ := RdS.get (HRD.out _ HR.out.1) (k := i) (c := r.c) (by rw [List.getElem?_take_of_lt hlt, List.getElem?_map, hr]; rfl)
    injection e9 with e91 e92 e93
    subst e91
    have l0 : LA 59 cs (off + i * 189) (.agg r.c) := la_in (n := 189) Zk Zk r.size hc9 Zd
    have HB := Zi hb9
    have sx := r.sa JR.zero.size
    have lx := r.la
    have sT := r.a.sa JA.zero.size
    have lT := r.a.la
    have zT := JA.size r.a
    have oT := JA.one r.a
    have HST := Zi (Jb.filt_step L sel (fun r => r.a.c) hr)
    have hlen := Jb.filt_len L sel (fun r => r.a.c) (i := i) Zo
    clear hb9 hc9 e92 e93
    cases hs : sel r with
    | true =>
     have T1 := fun w' hB => HT.out r true w' hB hs.symm
     have HST2 : Hid (((L.take (i + 1)).filter sel).map (fun r => r.a.c) = ((L.take i).filter sel).map (fun r => r.a.c) ++ [r.a.c]) := Zi (by rw [HST.out, hs]; rfl)
     have hone : ∀ c ∈ [r.a.c], c.all (·.oneCell') = true := by simpa using oT
     clear hs hr HST
     go_wp2_with (first | (go_at_call 60; (with_reducible refine Zc HM (T1 _ HM.low) ?_; clear HM; intro w2 HM)) | ((with_reducible refine g_bs1 ?_); refine a_bs1 (c0 := r.a.c) HM ?_ (z0 := zT); clear HM; intro b9 w9 HM) | ((with_reducible refine g_app ?_); refine a_app (m := [r.a.c]) (F := fun X => X) HM HS.out ((SlAt.made1 b9 zT).rd HM Zs) ?_ hone (hlen := by simp only [List.length_singleton]; omega); clear HM; intro s9 B9 w9 HS9 HM) | ((with_reducible refine g_ld ?_); refine a_ld HM ?_) | ((with_reducible refine g_st ?_); refine a_st HM ?_; clear HM; intro w1 HM) | ((with_reducible refine g_al ?_); refine a_al HM ?_; clear HM; intro bk w1 HM))
     go_roundw
     case rel => exact ⟨i + 1, B9, by go_num, by omega, Zi (by rw [HST2.out]; exact HS9), HM⟩
     case measure => simp [intOf]; omega
    | false =>
     have T1 := fun w' hB => HT.out r false w' hB hs.symm
     have HST2 : Hid (((L.take (i + 1)).filter sel).map (fun r => r.a.c) = ((L.take i).filter sel).map (fun r => r.a.c)) := Zi (by rw [HST.out, hs]; simp)
     clear hs hr HST
     go_wp2_with (first | (go_at_call 60; (with_reducible refine Zc HM (T1 _ HM.low) ?_; clear HM; intro w2 HM)) | ((with_reducible refine g_ld ?_); refine a_ld HM ?_) | ((with_reducible refine g_st ?_); refine a_st HM ?_; clear HM; intro w1 HM) | ((with_reducible refine g_al ?_); refine a_al HM ?_; clear HM; intro bk w1 HM))
     go_roundw
     case rel => exact ⟨i + 1, B, by go_num, by omega, Zi (by rw [HST2.out]; exact HS.out), HM.tail.tail⟩
     case measure => simp [intOf]; omega
   ·exact z9_154
theorem jcol_e (sv : Value) (L : List JR) (k : Int) (sel : JR → Bool) (bf : Nat) (w : World) (hR : RdR w sv L) (hT : ∀ (r : JR) (v : Bool) (w' : World), Below w.heap.size w w' → v = sel r → Calls Tryz.prog 62 #[.agg r.c, .pointer (some ⟨bf, 0, none⟩)] w' fun e w'' => e = .returned (.tuple #[.agg r.e.c, .bool v]) ∧ Below w'.heap.size w' w'') :
    Calls Tryz.prog 61 #[sv, .int .i64 k, .func (.func 62) #[] #[.pointer (some ⟨bf, 0, none⟩)]] w fun e w' => (∃ s, e = .returned (.tuple #[s, .int .i64 (Jb.err L k)]) ∧ Hid (RdS 10 w' s (if Jb.err L k = 0 then ((Jb.take L k sel).map fun r => r.e.c) else []))) ∧ Below w.heap.size w w' := by
 have HM := Mem.start w
 have C1 := fun w' hB => jerr_any sv L k w' (hR.below hB)
 obtain ⟨A, cap, rfl⟩ := hR.form
 have HR := Zi hR
 have HT := Zi hT
 by_cases he : Jb.err L k = 0
 case neg =>
  rw [if_neg he]
  generalize Jb.err L k = e0 at *
  have he1 : (e0 != 0) = true := bne_iff_ne.2 he
  clear hR hT HR HT
  go_enter Tryz.func61, Tryz.ntmps61
  exact z9_153
 case pos =>
  obtain ⟨hL, hk1, hk2⟩ := Jb.err_ok he
  rw [if_pos he]
  rw [he] at C1 ⊢
  obtain ⟨m, hm⟩ : ∃ m : Nat, m = min k.toNat L.length := ⟨_, rfl⟩
  have hmin : min k (L.length : Int) = (m : Int) := by omega
  rw [Jb.take_min L k sel hm]
  obtain ⟨sv2, hrun, hrd⟩ := run_take hR.1 jr_el (k := m) (by rw [List.length_map]; omega)
  obtain ⟨A2, cap2, e2⟩ := RdS.form1 (hrd w hR.1)
  have hlen2 : ((L.map JR.c).take m).length = m := by rw [List.length_take, List.length_map]; omega
  rw [hlen2] at e2
  subst e2
  have HRUN := Zi hrun
  have HRD := Zi hrd
  have hmL : m ≤ L.length := by omega
  have hm4 : m ≤ 4096 := by omega
  have za0 := JR.za
  have zaT := JE.za
  have elT : elemB 121 49 10 104 = true := by kernel_rfl
  clear hR hT hrun hrd hm hlen2 he hk1 hk2
  go_enter Tryz.func61, Tryz.ntmps61
  go_wp2_with (first | (go_at_call 29; (with_reducible refine Zc HM (C1 _ HM.low) ?_; clear HM; intro w2 HM)) | ((with_reducible refine g_sl ?_); refine a_sl ?_ (fun w9 => by simpa [Act.eval] using HRUN.out w9)))
  go_loopw [9, 27] (fun ov iv wr => ∃ (i : Nat) (B : List (Nat × Array Value)), iv = .int .i64 (i : Nat) ∧ i ≤ m ∧ Hid (SlAt 10 ov (((L.take i).filter sel).map fun r => r.e.c) B) ∧ Mem w [] B wr) (fun _ iv _ => m - (intOf iv).toNat)
  case atStart => exact ⟨0, [], rfl, by omega, Zi .nil, HM⟩
  case round =>
   clear HM
   obtain ⟨i, B, rfl, hi, HS, HM⟩ := hrel
   by_cases hlt : i < m
   ·have hlt1 : (i : Int) < m := by omega
    obtain ⟨r, hr⟩ : ∃ r, L[i]? = some r := ⟨_, List.getElem?_eq_getElem Zo⟩
    obtain ⟨b, off, cs, cap', e9, hb9, hc9⟩ := RdS.get (HRD.out _ HR.out.1) (k := i) (c := r.c) (by rw [List.getElem?_take_of_lt hlt, List.getElem?_map, hr]; rfl)
    injection e9 with e91 e92 e93
    subst e91
    have l0 : LA 59 cs (off + i * 189) (.agg r.c) := la_in (n := 189) Zk Zk r.size hc9 Zd
    have HB := Zi hb9
    have sx := r.sa JR.zero.size
    have lx := r.la
    have sT := r.e.sa JE.zero.size
    have lT := r.e.la
    have zT := JE.size r.e
    have oT := JE.one r.e
    have HST := Zi (Jb.filt_step L sel (fun r => r.e.c) hr)
    have hlen := Jb.filt_len L sel (fun r => r.e.c) (i := i) Zo
    clear hb9 hc9 e92 e93
    cases hs : sel r with
    | true =>
     have T1 := fun w' hB => HT.out r true w' hB hs.symm
     have HST2 : Hid (((L.take (i + 1)).filter sel).map (fun r => r.e.c) = ((L.take i).filter sel).map (fun r => r.e.c) ++ [r.e.c]) := Zi (by rw [HST.out, hs]; rfl)
     have hone : ∀ c ∈ [r.e.c], c.all (·.oneCell') = true := by simpa using oT
     clear hs hr HST
     go_wp2_with (first | (go_at_call 62; (with_reducible refine Zc HM (T1 _ HM.low) ?_; clear HM; intro w2 HM)) | ((with_reducible refine g_bs1 ?_); refine a_bs1 (c0 := r.e.c) HM ?_ (z0 := zT); clear HM; intro b9 w9 HM) | ((with_reducible refine g_app ?_); refine a_app (m := [r.e.c]) (F := fun X => X) HM HS.out ((SlAt.made1 b9 zT).rd HM Zs) ?_ hone (hlen := by simp only [List.length_singleton]; omega); clear HM; intro s9 B9 w9 HS9 HM) | ((with_reducible refine g_ld ?_); refine a_ld HM ?_) | ((with_reducible refine g_st ?_); refine a_st HM ?_; clear HM; intro w1 HM) | ((with_reducible refine g_al ?_); refine a_al HM ?_; clear HM; intro bk w1 HM))
     go_roundw
     case rel => exact ⟨i + 1, B9, by go_num, by omega, Zi (by rw [HST2.out]; exact HS9), HM⟩
     case measure => simp [intOf]; omega
    | false =>
     have T1 := fun w' hB => HT.out r false w' hB hs.symm
     have HST2 : Hid (((L.take (i + 1)).filter sel).map (fun r => r.e.c) = ((L.take i).filter sel).map (fun r => r.e.c)) := Zi (by rw [HST.out, hs]; simp)
     clear hs hr HST
     go_wp2_with (first | (go_at_call 62; (with_reducible refine Zc HM (T1 _ HM.low) ?_; clear HM; intro w2 HM)) | ((with_reducible refine g_ld ?_); refine a_ld HM ?_) | ((with_reducible refine g_st ?_); refine a_st HM ?_; clear HM; intro w1 HM) | ((with_reducible refine g_al ?_); refine a_al HM ?_; clear HM; intro bk w1 HM))
     go_roundw
     case rel => exact ⟨i + 1, B, by go_num, by omega, Zi (by rw [HST2.out]; exact HS.out), HM.tail.tail⟩
     case measure => simp [intOf]; omega
   ·exact z9_154
theorem jcol_o (sv : Value) (L : List JR) (k : Int) (sel : JR → Bool) (w : World) (hR : RdR w sv L) (hT : ∀ (r : JR) (v : Bool) (w' : World), Below w.heap.size w w' → v = sel r → Calls Tryz.prog 33 #[.agg r.c] w' fun e w'' => e = .returned (.tuple #[.agg r.o.c, .bool v]) ∧ Below w'.heap.size w' w'') :
    Calls Tryz.prog 32 #[sv, .int .i64 k, .func (.func 33) #[] #[]] w fun e w' => (∃ s, e = .returned (.tuple #[s, .int .i64 (Jb.err L k)]) ∧ Hid (RdS 11 w' s (if Jb.err L k = 0 then ((Jb.take L k sel).map fun r => r.o.c) else []))) ∧ Below w.heap.size w w' := by
 have HM := Mem.start w
 have C1 := fun w' hB => jerr_any sv L k w' (hR.below hB)
 obtain ⟨A, cap, rfl⟩ := hR.form
 have HR := Zi hR
 have HT := Zi hT
 by_cases he : Jb.err L k = 0
 case neg =>
  rw [if_neg he]
  generalize Jb.err L k = e0 at *
  have he1 : (e0 != 0) = true := bne_iff_ne.2 he
  clear hR hT HR HT
  go_enter Tryz.func32, Tryz.ntmps32
  exact z9_153
 case pos =>
  obtain ⟨hL, hk1, hk2⟩ := Jb.err_ok he
  rw [if_pos he]
  rw [he] at C1 ⊢
  obtain ⟨m, hm⟩ : ∃ m : Nat, m = min k.toNat L.length := ⟨_, rfl⟩
  have hmin : min k (L.length : Int) = (m : Int) := by omega
  rw [Jb.take_min L k sel hm]
  obtain ⟨sv2, hrun, hrd⟩ := run_take hR.1 jr_el (k := m) (by rw [List.length_map]; omega)
  obtain ⟨A2, cap2, e2⟩ := RdS.form1 (hrd w hR.1)
  have hlen2 : ((L.map JR.c).take m).length = m := by rw [List.length_take, List.length_map]; omega
  rw [hlen2] at e2
  subst e2
  have HRUN := Zi hrun
  have HRD := Zi hrd
  have hmL : m ≤ L.length := by omega
  have hm4 : m ≤ 4096 := by omega
  have za0 := JR.za
  have zaT := JO.za
  have elT : elemB 64 53 11 128 = true := by kernel_rfl
  clear hR hT hrun hrd hm hlen2 he hk1 hk2
  go_enter Tryz.func32, Tryz.ntmps32
  go_wp2_with (first | (go_at_call 29; (with_reducible refine Zc HM (C1 _ HM.low) ?_; clear HM; intro w2 HM)) | ((with_reducible refine g_sl ?_); refine a_sl ?_ (fun w9 => by simpa [Act.eval] using HRUN.out w9)))
  go_loopw [9, 27] (fun ov iv wr => ∃ (i : Nat) (B : List (Nat × Array Value)), iv = .int .i64 (i : Nat) ∧ i ≤ m ∧ Hid (SlAt 11 ov (((L.take i).filter sel).map fun r => r.o.c) B) ∧ Mem w [] B wr) (fun _ iv _ => m - (intOf iv).toNat)
  case atStart => exact ⟨0, [], rfl, by omega, Zi .nil, HM⟩
  case round =>
   clear HM
   obtain ⟨i, B, rfl, hi, HS, HM⟩ := hrel
   by_cases hlt : i < m
   ·have hlt1 : (i : Int) < m := by omega
    obtain ⟨r, hr⟩ : ∃ r, L[i]? = some r := ⟨_, List.getElem?_eq_getElem Zo⟩
    obtain ⟨b, off, cs, cap', e9, hb9, hc9⟩ := RdS.get (HRD.out _ HR.out.1) (k := i) (c := r.c) (by rw [List.getElem?_take_of_lt hlt, List.getElem?_map, hr]; rfl)
    injection e9 with e91 e92 e93
    subst e91
    have l0 : LA 59 cs (off + i * 189) (.agg r.c) := la_in (n := 189) Zk Zk r.size hc9 Zd
    have HB := Zi hb9
    have sx := r.sa JR.zero.size
    have lx := r.la
    have sT := r.o.sa JO.zero.size
    have lT := r.o.la
    have zT := JO.size r.o
    have oT := JO.one r.o
    have HST := Zi (Jb.filt_step L sel (fun r => r.o.c) hr)
    have hlen := Jb.filt_len L sel (fun r => r.o.c) (i := i) Zo
    clear hb9 hc9 e92 e93
    cases hs : sel r with
    | true =>
     have T1 := fun w' hB => HT.out r true w' hB hs.symm
     have HST2 : Hid (((L.take (i + 1)).filter sel).map (fun r => r.o.c) = ((L.take i).filter sel).map (fun r => r.o.c) ++ [r.o.c]) := Zi (by rw [HST.out, hs]; rfl)
     have hone : ∀ c ∈ [r.o.c], c.all (·.oneCell') = true := by simpa using oT
     clear hs hr HST
     go_wp2_with (first | (go_at_call 33; (with_reducible refine Zc HM (T1 _ HM.low) ?_; clear HM; intro w2 HM)) | ((with_reducible refine g_bs1 ?_); refine a_bs1 (c0 := r.o.c) HM ?_ (z0 := zT); clear HM; intro b9 w9 HM) | ((with_reducible refine g_app ?_); refine a_app (m := [r.o.c]) (F := fun X => X) HM HS.out ((SlAt.made1 b9 zT).rd HM Zs) ?_ hone (hlen := by simp only [List.length_singleton]; omega); clear HM; intro s9 B9 w9 HS9 HM) | ((with_reducible refine g_ld ?_); refine a_ld HM ?_) | ((with_reducible refine g_st ?_); refine a_st HM ?_; clear HM; intro w1 HM) | ((with_reducible refine g_al ?_); refine a_al HM ?_; clear HM; intro bk w1 HM))
     go_roundw
     case rel => exact ⟨i + 1, B9, by go_num, by omega, Zi (by rw [HST2.out]; exact HS9), HM⟩
     case measure => simp [intOf]; omega
    | false =>
     have T1 := fun w' hB => HT.out r false w' hB hs.symm
     have HST2 : Hid (((L.take (i + 1)).filter sel).map (fun r => r.o.c) = ((L.take i).filter sel).map (fun r => r.o.c)) := Zi (by rw [HST.out, hs]; simp)
     clear hs hr HST
     go_wp2_with (first | (go_at_call 33; (with_reducible refine Zc HM (T1 _ HM.low) ?_; clear HM; intro w2 HM)) | ((with_reducible refine g_ld ?_); refine a_ld HM ?_) | ((with_reducible refine g_st ?_); refine a_st HM ?_; clear HM; intro w1 HM) | ((with_reducible refine g_al ?_); refine a_al HM ?_; clear HM; intro bk w1 HM))
     go_roundw
     case rel => exact ⟨i + 1, B, by go_num, by omega, Zi (by rw [HST2.out]; exact HS.out), HM.tail.tail⟩
     case measure => simp [intOf]; omega
   ·exact z9_154
theorem jcol_t (sv : Value) (L : List JR) (k : Int) (sel : JR → Bool) (bf : Nat) (w : World) (hR : RdR w sv L) (hT : ∀ (r : JR) (v : Bool) (w' : World), Below w.heap.size w w' → v = sel r → Calls Tryz.prog 65 #[.agg r.c, .pointer (some ⟨bf, 0, none⟩)] w' fun e w'' => e = .returned (.tuple #[.agg r.t.c, .bool v]) ∧ Below w'.heap.size w' w'') :
    Calls Tryz.prog 64 #[sv, .int .i64 k, .func (.func 65) #[] #[.pointer (some ⟨bf, 0, none⟩)]] w fun e w' => (∃ s, e = .returned (.tuple #[s, .int .i64 (Jb.err L k)]) ∧ Hid (RdS 11 w' s (if Jb.err L k = 0 then ((Jb.take L k sel).map fun r => r.t.c) else []))) ∧ Below w.heap.size w w' := by
 have HM := Mem.start w
 have C1 := fun w' hB => jerr_any sv L k w' (hR.below hB)
 obtain ⟨A, cap, rfl⟩ := hR.form
 have HR := Zi hR
 have HT := Zi hT
 by_cases he : Jb.err L k = 0
 case neg =>
  rw [if_neg he]
  generalize Jb.err L k = e0 at *
  have he1 : (e0 != 0) = true := bne_iff_ne.2 he
  clear hR hT HR HT
  go_enter Tryz.func64, Tryz.ntmps64
  exact z9_153
 case pos =>
  obtain ⟨hL, hk1, hk2⟩ := Jb.err_ok he
  rw [if_pos he]
  rw [he] at C1 ⊢
  obtain ⟨m, hm⟩ : ∃ m : Nat, m = min k.toNat L.length := ⟨_, rfl⟩
  have hmin : min k (L.length : Int) = (m : Int) := by omega
  rw [Jb.take_min L k sel hm]
  obtain ⟨sv2, hrun, hrd⟩ := run_take hR.1 jr_el (k := m) (by rw [List.length_map]; omega)
  obtain ⟨A2, cap2, e2⟩ := RdS.form1 (hrd w hR.1)
  have hlen2 : ((L.map JR.c).take m).length = m := by rw [List.length_take, List.length_map]; omega
  rw [hlen2] at e2
  subst e2
  have HRUN := Zi hrun
  have HRD := Zi hrd
  have hmL : m ≤ L.length := by omega
  have hm4 : m ≤ 4096 := by omega
  have za0 := JR.za
  have zaT := JT.za
  have elT : elemB 124 55 11 144 = true := by kernel_rfl
  clear hR hT hrun hrd hm hlen2 he hk1 hk2
  go_enter Tryz.func64, Tryz.ntmps64
  go_wp2_with (first | (go_at_call 29; (with_reducible refine Zc HM (C1 _ HM.low) ?_; clear HM; intro w2 HM)) | ((with_reducible refine g_sl ?_); refine a_sl ?_ (fun w9 => by simpa [Act.eval] using HRUN.out w9)))
  go_loopw [9, 27] (fun ov iv wr => ∃ (i : Nat) (B : List (Nat × Array Value)), iv = .int .i64 (i : Nat) ∧ i ≤ m ∧ Hid (SlAt 11 ov (((L.take i).filter sel).map fun r => r.t.c) B) ∧ Mem w [] B wr) (fun _ iv _ => m - (intOf iv).toNat)
  case atStart => exact ⟨0, [], rfl, by omega, Zi .nil, HM⟩
  case round =>
   clear HM
   obtain ⟨i, B, rfl, hi, HS, HM⟩ := hrel
   by_cases hlt : i < m
   ·have hlt1 : (i : Int) < m := by omega
    obtain ⟨r, hr⟩ : ∃ r, L[i]? = some r := ⟨_, List.getElem?_eq_getElem Zo⟩
    obtain ⟨b, off, cs, cap', e9, hb9, hc9⟩ := RdS.get (HRD.out _ HR.out.1) (k := i) (c := r.c) (by rw [List.getElem?_take_of_lt hlt, List.getElem?_map, hr]; rfl)
    injection e9 with e91 e92 e93
    subst e91
    have l0 : LA 59 cs (off + i * 189) (.agg r.c) := la_in (n := 189) Zk Zk r.size hc9 Zd
    have HB := Zi hb9
    have sx := r.sa JR.zero.size
    have lx := r.la
    have sT := r.t.sa JT.zero.size
    have lT := r.t.la
    have zT := JT.size r.t
    have oT := JT.one r.t
    have HST := Zi (Jb.filt_step L sel (fun r => r.t.c) hr)
    have hlen := Jb.filt_len L sel (fun r => r.t.c) (i := i) Zo
    clear hb9 hc9 e92 e93
    cases hs : sel r with
    | true =>
     have T1 := fun w' hB => HT.out r true w' hB hs.symm
     have HST2 : Hid (((L.take (i + 1)).filter sel).map (fun r => r.t.c) = ((L.take i).filter sel).map (fun r => r.t.c) ++ [r.t.c]) := Zi (by rw [HST.out, hs]; rfl)
     have hone : ∀ c ∈ [r.t.c], c.all (·.oneCell') = true := by simpa using oT
     clear hs hr HST
     go_wp2_with (first | (go_at_call 65; (with_reducible refine Zc HM (T1 _ HM.low) ?_; clear HM; intro w2 HM)) | ((with_reducible refine g_bs1 ?_); refine a_bs1 (c0 := r.t.c) HM ?_ (z0 := zT); clear HM; intro b9 w9 HM) | ((with_reducible refine g_app ?_); refine a_app (m := [r.t.c]) (F := fun X => X) HM HS.out ((SlAt.made1 b9 zT).rd HM Zs) ?_ hone (hlen := by simp only [List.length_singleton]; omega); clear HM; intro s9 B9 w9 HS9 HM) | ((with_reducible refine g_ld ?_); refine a_ld HM ?_) | ((with_reducible refine g_st ?_); refine a_st HM ?_; clear HM; intro w1 HM) | ((with_reducible refine g_al ?_); refine a_al HM ?_; clear HM; intro bk w1 HM))
     go_roundw
     case rel => exact ⟨i + 1, B9, by go_num, by omega, Zi (by rw [HST2.out]; exact HS9), HM⟩
     case measure => simp [intOf]; omega
    | false =>
     have T1 := fun w' hB => HT.out r false w' hB hs.symm
     have HST2 : Hid (((L.take (i + 1)).filter sel).map (fun r => r.t.c) = ((L.take i).filter sel).map (fun r => r.t.c)) := Zi (by rw [HST.out, hs]; simp)
     clear hs hr HST
     go_wp2_with (first | (go_at_call 65; (with_reducible refine Zc HM (T1 _ HM.low) ?_; clear HM; intro w2 HM)) | ((with_reducible refine g_ld ?_); refine a_ld HM ?_) | ((with_reducible refine g_st ?_); refine a_st HM ?_; clear HM; intro w1 HM) | ((with_reducible refine g_al ?_); refine a_al HM ?_; clear HM; intro bk w1 HM))
     go_roundw
     case rel => exact ⟨i + 1, B, by go_num, by omega, Zi (by rw [HST2.out]; exact HS.out), HM.tail.tail⟩
     case measure => simp [intOf]; omega
   ·exact z9_154
theorem jcol_s (sv : Value) (L : List JR) (k : Int) (sel : JR → Bool) (w : World) (hR : RdR w sv L) (hT : ∀ (r : JR) (v : Bool) (w' : World), Below w.heap.size w w' → v = sel r → Calls Tryz.prog 52 #[.agg r.c] w' fun e w'' => e = .returned (.tuple #[.agg r.s.c, .bool v]) ∧ Below w'.heap.size w' w'') :
    Calls Tryz.prog 51 #[sv, .int .i64 k, .func (.func 52) #[] #[]] w fun e w' => (∃ s, e = .returned (.tuple #[s, .int .i64 (Jb.err L k)]) ∧ Hid (RdS 6 w' s (if Jb.err L k = 0 then ((Jb.take L k sel).map fun r => r.s.c) else []))) ∧ Below w.heap.size w w' := by
 have HM := Mem.start w
 have C1 := fun w' hB => jerr_any sv L k w' (hR.below hB)
 obtain ⟨A, cap, rfl⟩ := hR.form
 have HR := Zi hR
 have HT := Zi hT
 by_cases he : Jb.err L k = 0
 case neg =>
  rw [if_neg he]
  generalize Jb.err L k = e0 at *
  have he1 : (e0 != 0) = true := bne_iff_ne.2 he
  clear hR hT HR HT
  go_enter Tryz.func51, Tryz.ntmps51
  exact z9_153
 case pos =>
  obtain ⟨hL, hk1, hk2⟩ := Jb.err_ok he
  rw [if_pos he]
  rw [he] at C1 ⊢
  obtain ⟨m, hm⟩ : ∃ m : Nat, m = min k.toNat L.length := ⟨_, rfl⟩
  have hmin : min k (L.length : Int) = (m : Int) := by omega
  rw [Jb.take_min L k sel hm]
  obtain ⟨sv2, hrun, hrd⟩ := run_take hR.1 jr_el (k := m) (by rw [List.length_map]; omega)
  obtain ⟨A2, cap2, e2⟩ := RdS.form1 (hrd w hR.1)
  have hlen2 : ((L.map JR.c).take m).length = m := by rw [List.length_take, List.length_map]; omega
  rw [hlen2] at e2
  subst e2
  have HRUN := Zi hrun
  have HRD := Zi hrd
  have hmL : m ≤ L.length := by omega
  have hm4 : m ≤ 4096 := by omega
  have za0 := JR.za
  have zaT := JS.za
  have elT : elemB 109 57 6 64 = true := by kernel_rfl
  clear hR hT hrun hrd hm hlen2 he hk1 hk2
  go_enter Tryz.func51, Tryz.ntmps51
  go_wp2_with (first | (go_at_call 29; (with_reducible refine Zc HM (C1 _ HM.low) ?_; clear HM; intro w2 HM)) | ((with_reducible refine g_sl ?_); refine a_sl ?_ (fun w9 => by simpa [Act.eval] using HRUN.out w9)))
  go_loopw [9, 27] (fun ov iv wr => ∃ (i : Nat) (B : List (Nat × Array Value)), iv = .int .i64 (i : Nat) ∧ i ≤ m ∧ Hid (SlAt 6 ov (((L.take i).filter sel).map fun r => r.s.c) B) ∧ Mem w [] B wr) (fun _ iv _ => m - (intOf iv).toNat)
  case atStart => exact ⟨0, [], rfl, by omega, Zi .nil, HM⟩
  case round =>
   clear HM
   obtain ⟨i, B, rfl, hi, HS, HM⟩ := hrel
   by_cases hlt : i < m
   ·have hlt1 : (i : Int) < m := by omega
    obtain ⟨r, hr⟩ : ∃ r, L[i]? = some r := ⟨_, List.getElem?_eq_getElem Zo⟩
    obtain ⟨b, off, cs, cap', e9, hb9, hc9⟩ := RdS.get (HRD.out _ HR.out.1) (k := i) (c := r.c) (by rw [List.getElem?_take_of_lt hlt, List.getElem?_map, hr]; rfl)
    injection e9 with e91 e92 e93
    subst e91
    have l0 : LA 59 cs (off + i * 189) (.agg r.c) := la_in (n := 189) Zk Zk r.size hc9 Zd
    have HB := Zi hb9
    have sx := r.sa JR.zero.size
    have lx := r.la
    have sT := r.s.sa JS.zero.size
    have lT := r.s.la
    have zT := JS.size r.s
    have oT := JS.one r.s
    have HST := Zi (Jb.filt_step L sel (fun r => r.s.c) hr)
    have hlen := Jb.filt_len L sel (fun r => r.s.c) (i := i) Zo
    clear hb9 hc9 e92 e93
    cases hs : sel r with
    | true =>
     have T1 := fun w' hB => HT.out r true w' hB hs.symm
     have HST2 : Hid (((L.take (i + 1)).filter sel).map (fun r => r.s.c) = ((L.take i).filter sel).map (fun r => r.s.c) ++ [r.s.c]) := Zi (by rw [HST.out, hs]; rfl)
     have hone : ∀ c ∈ [r.s.c], c.all (·.oneCell') = true := by simpa using oT
     clear hs hr HST
     go_wp2_with (first | (go_at_call 52; (with_reducible refine Zc HM (T1 _ HM.low) ?_; clear HM; intro w2 HM)) | ((with_reducible refine g_bs1 ?_); refine a_bs1 (c0 := r.s.c) HM ?_ (z0 := zT); clear HM; intro b9 w9 HM) | ((with_reducible refine g_app ?_); refine a_app (m := [r.s.c]) (F := fun X => X) HM HS.out ((SlAt.made1 b9 zT).rd HM Zs) ?_ hone (hlen := by simp only [List.length_singleton]; omega); clear HM; intro s9 B9 w9 HS9 HM) | ((with_reducible refine g_ld ?_); refine a_ld HM ?_) | ((with_reducible refine g_st ?_); refine a_st HM ?_; clear HM; intro w1 HM) | ((with_reducible refine g_al ?_); refine a_al HM ?_; clear HM; intro bk w1 HM))
     go_roundw
     case rel => exact ⟨i + 1, B9, by go_num, by omega, Zi (by rw [HST2.out]; exact HS9), HM⟩
     case measure => simp [intOf]; omega
    | false =>
     have T1 := fun w' hB => HT.out r false w' hB hs.symm
     have HST2 : Hid (((L.take (i + 1)).filter sel).map (fun r => r.s.c) = ((L.take i).filter sel).map (fun r => r.s.c)) := Zi (by rw [HST.out, hs]; simp)
     clear hs hr HST
     go_wp2_with (first | (go_at_call 52; (with_reducible refine Zc HM (T1 _ HM.low) ?_; clear HM; intro w2 HM)) | ((with_reducible refine g_ld ?_); refine a_ld HM ?_) | ((with_reducible refine g_st ?_); refine a_st HM ?_; clear HM; intro w1 HM) | ((with_reducible refine g_al ?_); refine a_al HM ?_; clear HM; intro bk w1 HM))
     go_roundw
     case rel => exact ⟨i + 1, B, by go_num, by omega, Zi (by rw [HST2.out]; exact HS.out), HM.tail.tail⟩
     case measure => simp [intOf]; omega
   ·exact z9_154
end
end Go.Proofs.YtkiempioeffhbaaGreatDoor
