/- Walks. -/
import Derived.Test.YtkiempioeffhbaaGreatDoorPg29
import Derived.Test.YtkiempioeffhbaaGreatDoorPg30
namespace Go.Proofs.YtkiempioeffhbaaGreatDoor
set_option maxHeartbeats 16000000
open Go.RowKit
set_option maxRecDepth 8000
set_option linter.unusedSimpArgs false
set_option linter.unusedVariables false
section
theorem YPgbe2 {P : Prop} (h : P := by
 go_ret
 exact ⟨rfl, HM.low⟩) : P := h
theorem z9_82 {P : Prop} (h : P := by
 obtain rfl : i = 1 := by omega
 obtain rfl : v = true := by
  rcases HI.out with h | h
  ·omega
  ·exact h
 go_wp2_with fail
 exact YPgbe2) : P := h
end
section
open Jb
theorem acheck1 (x : JA) (hw : x.wf) (sv : Value) (w : World) (hR : RdS 76 w sv [x.c]) :
    Calls Tryz.prog 69 #[sv] w fun e w' => e = .returned (.int .i64 (if x.right = true then 0 else 170)) ∧ Below w.heap.size w w' := by
 have HM := Mem.start w
 obtain ⟨A, cap, rfl⟩ := hR.form9
 have HR := Zi hR
 have za0 := JA.za
 have sx := x.sa JA.zero.size
 have lx := x.la
 have C1 := fun w => avalid17_any x hw w
 have MK : ∀ w, RdS 76 w (.slice A 1 cap) [x.c] → x.right = true → Calls Tryz.prog 88 #[.slice A 1 cap] w fun e w' => (∃ s m, e = .returned s ∧ Hid (As.Rd w' s [m]) ∧ Hid (As.err [m] = 0)) ∧ Below w.heap.size w w' := fun w hR hv => amk_any x _ w hR hv
 have HBC := fun w => ch_build x.c x.size w
 generalize x.right = v at *
 clear hR
 go_enter Tryz.func69, Tryz.ntmps69
 go_wp2_with fail
 go_loopw [7] (fun iv wr => ∃ (i : Nat), iv = .int .i64 (i : Nat) ∧ i ≤ 1 ∧ Hid (i = 0 ∨ v = true) ∧ Mem w [] [] wr) (fun iv _ => 1 - (intOf iv).toNat)
 case atStart => exact ⟨0, rfl, by omega, Zi (.inl rfl), HM⟩
 case round =>
  clear HM
  obtain ⟨i, rfl, hi, HI, HM⟩ := hrel
  by_cases hlt : i < 1
  ·have hlt1 : (i : Int) < 1 := by omega
   obtain ⟨b, off, cs, rfl, HB, l0, -⟩ := HR.out.one1 (T := 47) Zk Zk x.size Zd hlt
   cases v with
   | true =>
    go_wp2_with (first | (go_at_call 87; (with_reducible refine Zc HM (C1 _) ?_; clear HM; intro w2 HM)) | ((with_reducible refine g_bld ?_); refine a_rbl (v := .agg x.c) ?_ (hy := h_bg1 rfl Zw (by with_reducible exact (HBC)))) | ((with_reducible refine g_ld ?_); refine a_ld HM ?_) | ((with_reducible refine g_st ?_); refine a_st HM ?_; clear HM; intro w1 HM) | ((with_reducible refine g_al ?_); refine a_al HM ?_; clear HM; intro bk w1 HM))
    go_roundw
    case rel => exact ⟨i + 1, by go_num, by omega, Zi (.inr (by trivial)), HM.pick⟩
    case measure => simp [intOf]; omega
   | false =>
    go_wp2_with (first | (go_at_call 87; (with_reducible refine Zc HM (C1 _) ?_; clear HM; intro w2 HM)) | ((with_reducible refine g_bld ?_); refine a_rbl (v := .agg x.c) ?_ (hy := h_bg1 rfl Zw (by with_reducible exact (HBC)))) | ((with_reducible refine g_ld ?_); refine a_ld HM ?_) | ((with_reducible refine g_st ?_); refine a_st HM ?_; clear HM; intro w1 HM) | ((with_reducible refine g_al ?_); refine a_al HM ?_; clear HM; intro bk w1 HM))
    go_ret
    exact ⟨rfl, HM.low⟩
  ·obtain rfl : i = 1 := by omega
   obtain rfl : v = true := by
    rcases HI.out with h | h
    ·omega
    ·exact h
   go_wp2_with (first | (go_at_call 88; refine (MK _ (HR.out.below HM.low) rfl).mono ?_; rintro e9 w2 ⟨⟨s9, m9, rfl, HS9, HE9⟩, hL⟩; replace HM := HM.call hL; clear hL) | (go_at_call 85; refine (check_any s9 [m9] _ HS9.out 0 (Zi HE9.out.symm)).mono ?_; rintro e9 w2 ⟨rfl, hL⟩; replace HM := HM.call hL; clear hL))
   exact YPgbe2
theorem obook1 (x : JO) (hw : x.wf) (sv : Value) (w : World) (hR : RdS 11 w sv [x.c]) :
    Calls Tryz.prog 71 #[sv] w fun e w' => e = .returned (.int .i64 (if x.right = true then 0 else 230)) ∧ Below w.heap.size w w' := by
 have HM := Mem.start w
 obtain ⟨A, cap, rfl⟩ := hR.form9
 have HR := Zi hR
 have za0 := JO.za
 have sx := x.sa JO.zero.size
 have lx := x.la
 have C1 := fun w => ocheck_any x hw w
 have lkn := (JO.f_kn x).la
 have HKN : Hid (x.right = true → 1 ≤ x.kn) := Zi (fun h => by
  unfold JO.right at h
  rw [known_w] at h
  simp only [Bool.and_eq_true, decide_eq_true_eq] at h
  exact h.1.2.2.2.1)
 generalize x.right = v at *
 clear hR
 go_enter Tryz.func71, Tryz.ntmps71
 go_wp2_with fail
 go_loopw [3, 11] (fun kv iv wr => ∃ (i : Nat) (k0 : Int), kv = .int .i64 k0 ∧ iv = .int .i64 (i : Nat) ∧ i ≤ 1 ∧ Hid (i = 0 → k0 = 0) ∧ Hid (i = 0 ∨ v = true) ∧ Mem w [] [] wr) (fun _ iv _ => 1 - (intOf iv).toNat)
 case atStart => exact ⟨0, 0, rfl, rfl, by omega, Zi (fun _ => rfl), Zi (.inl rfl), HM⟩
 case round =>
  clear HM
  obtain ⟨i, k0, rfl, rfl, hi, HK, HI, HM⟩ := hrel
  by_cases hlt : i < 1
  ·have hlt1 : (i : Int) < 1 := by omega
   obtain ⟨b, off, cs, rfl, HB, l0, -⟩ := HR.out.one1 (T := 53) Zk Zk x.size Zd hlt
   cases v with
   | true =>
    have hk : decide (x.kn ≤ k0) = false := Zf (by have := HK.out Zo; have := HKN.out rfl; omega)
    go_wp2_with (first | (go_at_call 93; (with_reducible refine Zc HM (C1 _) ?_; clear HM; intro w2 HM)) | ((with_reducible refine g_ld ?_); refine a_ld HM ?_) | ((with_reducible refine g_st ?_); refine a_st HM ?_; clear HM; intro w1 HM) | ((with_reducible refine g_al ?_); refine a_al HM ?_; clear HM; intro bk w1 HM))
    go_roundw
    case rel => exact ⟨i + 1, x.kn, rfl, by go_num, by omega, Zi (fun h => by omega), Zi (.inr (by trivial)), HM.pick⟩
    case measure => simp [intOf]; omega
   | false =>
    go_wp2_with (first | (go_at_call 93; (with_reducible refine Zc HM (C1 _) ?_; clear HM; intro w2 HM)) | ((with_reducible refine g_ld ?_); refine a_ld HM ?_) | ((with_reducible refine g_st ?_); refine a_st HM ?_; clear HM; intro w1 HM) | ((with_reducible refine g_al ?_); refine a_al HM ?_; clear HM; intro bk w1 HM))
    go_ret
    exact ⟨rfl, HM.low⟩
  ·exact z9_82
theorem scheck1 (x : JS) (hw : x.wf) (sv : Value) (w : World) (hR : RdS 6 w sv [x.c]) :
    Calls Tryz.prog 73 #[sv] w fun e w' => e = .returned (.int .i64 (if x.right = true then 0 else 280)) ∧ Below w.heap.size w w' := by
 have HM := Mem.start w
 obtain ⟨A, cap, rfl⟩ := hR.form9
 have HR := Zi hR
 have za0 := JS.za
 have sx := x.sa JS.zero.size
 have lx := x.la
 have C1 := fun w => srt_any x hw w
 generalize x.right = v at *
 clear hR
 go_enter Tryz.func73, Tryz.ntmps73
 go_wp2_with fail
 go_loopw [10] (fun iv wr => ∃ (i : Nat), iv = .int .i64 (i : Nat) ∧ i ≤ 1 ∧ Hid (i = 0 ∨ v = true) ∧ Mem w [] [] wr) (fun iv _ => 1 - (intOf iv).toNat)
 case atStart => exact ⟨0, rfl, by omega, Zi (.inl rfl), HM⟩
 case round =>
  clear HM
  obtain ⟨i, rfl, hi, HI, HM⟩ := hrel
  by_cases hlt : i < 1
  ·have hlt1 : (i : Int) < 1 := by omega
   have hi0 : decide ((0 : Int) < i) = false := Zf Zo
   have hi0n : decide (0 < i) = false := Zf Zo
   obtain ⟨b, off, cs, rfl, HB, l0, -⟩ := HR.out.one1 (T := 57) Zk Zk x.size Zd hlt
   cases v with
   | true =>
    go_upto_region 6 with (first | ((with_reducible refine g_ld ?_); refine a_ld HM ?_) | ((with_reducible refine g_st ?_); refine a_st HM ?_; clear HM; intro w1 HM) | ((with_reducible refine g_al ?_); refine a_al HM ?_; clear HM; intro bk w1 HM))
    refine start_M [] HM Zk (fun w0x H9 => ?_)
    replace HM := H9; clear H9
    refine k_ld 0 [] (heldE HM) ?_
    refine j_one 1 fun K9 hK9 => ?_
    refine j_call1 (v := ?_) HM ?_ ?_; rotate_left 1; (focus (with_reducible (exact C1 _))); clear HM; intro w1 HM
    refine hK9 _ _ (heldE HM) ?_; clear hK9 K9
    refine k_not 2 (heldE HM) ?_
    refine k_mv 3 (heldE HM) ?_
    refine k_mv 4 (heldE HM) ?_
    refine k_bin 5 (heldE HM) ?_
    refine k_mv 6 (heldE HM) ?_
    refine k_off 7 (heldE HM) ?_
    refine k_off 8 (heldE HM) ?_
    refine k_off 9 (heldE HM) ?_
    refine k_off 10 (heldE HM) ?_
    refine k_off 11 (heldE HM) ?_
    refine k_off 12 (heldE HM) ?_
    refine k_off 13 (heldE HM) ?_
    refine k_off 14 (heldE HM) ?_
    refine k_off 15 (heldE HM) ?_
    refine k_pick 16 (heldE HM) ?_
    refine k_pick 17 (heldE HM) ?_
    refine wpAnyL_done Zk ?_ _
    (go_wp2_with fail; go_roundw; (case rel => exact ⟨i + 1, by go_num, by omega, Zi (.inr (by trivial)), HM.pick⟩); (case measure => simp [intOf]; omega))
   | false =>
    go_upto_region 6 with (first | ((with_reducible refine g_ld ?_); refine a_ld HM ?_) | ((with_reducible refine g_st ?_); refine a_st HM ?_; clear HM; intro w1 HM) | ((with_reducible refine g_al ?_); refine a_al HM ?_; clear HM; intro bk w1 HM))
    refine start_M [] HM Zk (fun w0x H9 => ?_)
    replace HM := H9; clear H9
    refine k_ld 0 [] (heldE HM) ?_
    refine j_one 1 fun K9 hK9 => ?_
    refine j_call1 (v := ?_) HM ?_ ?_; rotate_left 1; (focus (with_reducible (exact C1 _))); clear HM; intro w1 HM
    refine hK9 _ _ (heldE HM) ?_; clear hK9 K9
    refine k_not 2 (heldE HM) ?_
    refine k_mv 3 (heldE HM) ?_
    refine k_off 4 (heldE HM) ?_
    refine k_off 5 (heldE HM) ?_
    refine k_off 6 (heldE HM) ?_
    refine k_off 7 (heldE HM) ?_
    refine k_off 8 (heldE HM) ?_
    refine k_off 9 (heldE HM) ?_
    refine k_off 10 (heldE HM) ?_
    refine k_off 11 (heldE HM) ?_
    refine k_off 12 (heldE HM) ?_
    refine k_off 13 (heldE HM) ?_
    refine k_off 14 (heldE HM) ?_
    refine k_off 15 (heldE HM) ?_
    refine k_off 16 (heldE HM) ?_
    refine k_pick 17 (heldE HM) ?_
    refine wpAnyL_done Zk ?_ _
    (go_wp2_with fail; go_ret; exact ⟨rfl, HM.low⟩)
  ·exact z9_82
end
section
theorem z9_83 {P : Prop} (h : P := by
 go_enter Tryz.func47, Tryz.ntmps47
 go_upto_region 1 with ((with_reducible refine g_bx ?_); refine a_bx HM ?_; clear HM; intro bk w1 HM)
 refine start_M [] HM Zk (fun w0x H9 => ?_)
 replace HM := H9; clear H9
 refine k_fa 0 (heldE HM) ?_
 refine k_ld 1 [] (heldE HM) ?_
 refine k_bin 2 (heldE HM) ?_
 refine k_mv 3 (heldE HM) ?_
 refine k_fa 4 (heldE HM) ?_
 refine k_ld 5 [] (heldE HM) ?_
 refine j_one 6 fun K9 hK9 => ?_
 refine j_call1 (v := ?_) HM ?_ ?_; rotate_left 1; (focus (with_reducible (first | exact C1 _ | exact C9 _))); clear HM; intro w1 HM
 refine hK9 _ _ (heldE HM) ?_; clear hK9 K9
 refine k_not 7 (heldE HM) ?_
 refine k_pick 8 (heldE HM) ?_
 refine k_mv 9 (heldE HM) ?_
 refine k_fa 10 (heldE HM) ?_
 refine k_ld 11 [] (heldE HM) ?_
 refine k_bin 12 (heldE HM) ?_
 refine k_mv 13 (heldE HM) ?_
 refine k_off 14 (heldE HM) ?_
 refine k_off 15 (heldE HM) ?_
 refine k_off 16 (heldE HM) ?_
 refine k_pick 17 (heldE HM) ?_
 refine k_pick 18 (heldE HM) ?_
 refine k_mv 19 (heldE HM) ?_
 refine k_ld 20 [] (heldE HM) ?_
 refine k_ld 22 [] (heldE HM) ?_
 refine j_one 21 fun K9 hK9 => ?_
 refine j_call1 (v := ?_) HM ?_ ?_; rotate_left 1; (focus (with_reducible (first | exact C1 _ | exact C9 _))); clear HM; intro w1 HM
 refine hK9 _ _ (heldE HM) ?_; clear hK9 K9
 refine t_eq (i := 23) (v := ?_) [] rfl rfl rfl Zk (fun _ _ _ h => h) (heldE HM) ?_ ?_; rotate_left 1; (focus ((refine y_cmps .neq false (.inr rfl) (E) rfl Zk (x := ?_) (y := ?_) (t := ?_) ?_ ?_ ?_ ?_; rotate_left 3; (focus rfl); (focus rfl); (focus ((conv => lhs; whnf) <;> rfl)); ((conv => lhs; whnf) <;> rfl)))); ((try simp only [Za]); (try simp only [Zx]); (try simp only [Zy]))
 refine k_pick 24 (heldE HM) ?_
 refine wpAnyL_done Zk ?_ _
 go_wp2_with (first | ((with_reducible refine g_bs1 ?_); refine a_bs1 (c0 := ce) HM ?_; clear HM; intro b9 w9 HM) | (go_at_call 70; refine (Q3 _ _ ((SlAt.made1 b9 z3).rd HM Zs)).mono ?_; rintro e9 w2 ⟨rfl, hL⟩; replace HM := HM.call hL; clear hL) | ((with_reducible refine g_ld ?_); refine a_ld HM ?_))
 exact YPgbe2) : P := h
theorem z9_84 {P : Prop} (h : P := by
 refine k_pick 17 (heldE HM) ?_
 refine k_pick 18 (heldE HM) ?_
 refine k_mv 19 (heldE HM) ?_
 refine k_ld 20 [] (heldE HM) ?_
 refine k_ld 22 [] (heldE HM) ?_
 refine j_one 21 fun K9 hK9 => ?_
 refine j_call1 (v := ?_) HM ?_ ?_; rotate_left 1; (focus (with_reducible (first | exact C1 _ | exact C9 _))); clear HM; intro w1 HM
 refine hK9 _ _ (heldE HM) ?_; clear hK9 K9
 refine t_eq (i := 23) (v := ?_) [] rfl rfl rfl Zk (fun _ _ _ h => h) (heldE HM) ?_ ?_; rotate_left 1; (focus ((refine y_cmps .neq true (.inr rfl) (E) rfl Zk (x := ?_) (y := ?_) (t := ?_) ?_ ?_ ?_ ?_; rotate_left 3; (focus rfl); (focus rfl); (focus ((conv => lhs; whnf) <;> rfl)); ((conv => lhs; whnf) <;> rfl)))); ((try simp only [Za]); (try simp only [Zx]); (try simp only [Zy]))
 refine k_pick 24 (heldE HM) ?_
 refine wpAnyL_done Zk ?_ _
 go_wp2_with fail
 exact YPgbe2) : P := h
theorem z9_85 {P : Prop} (h : P := by
 refine k_pick 18 (heldE HM) ?_
 refine k_mv 19 (heldE HM) ?_
 refine k_off 20 (heldE HM) ?_
 refine k_off 21 (heldE HM) ?_
 refine k_off 22 (heldE HM) ?_
 refine k_off 23 (heldE HM) ?_
 refine k_pick 24 (heldE HM) ?_
 refine wpAnyL_done Zk ?_ _
 go_wp2_with fail
 exact YPgbe2) : P := h
theorem z9_86 {P : Prop} (h : P := by
 go_enter Tryz.func47, Tryz.ntmps47
 go_upto_region 1 with ((with_reducible refine g_bx ?_); refine a_bx HM ?_; clear HM; intro bk w1 HM)
 refine start_M [] HM Zk (fun w0x H9 => ?_)
 replace HM := H9; clear H9
 refine k_fa 0 (heldE HM) ?_
 refine k_ld 1 [] (heldE HM) ?_
 refine k_bin 2 (heldE HM) ?_
 refine k_mv 3 (heldE HM) ?_
 refine k_off 4 (heldE HM) ?_
 refine k_off 5 (heldE HM) ?_
 refine k_off 6 (heldE HM) ?_
 refine k_off 7 (heldE HM) ?_
 refine k_pick 8 (heldE HM) ?_
 refine k_mv 9 (heldE HM) ?_
 refine k_fa 10 (heldE HM) ?_
 refine k_ld 11 [] (heldE HM) ?_
 refine k_bin 12 (heldE HM) ?_
 refine k_mv 13 (heldE HM) ?_
 refine k_fa 14 (heldE HM) ?_
 refine k_ld 15 [] (heldE HM) ?_
 refine k_bin 16 (heldE HM) ?_
 refine k_pick 17 (heldE HM) ?_
 refine k_pick 18 (heldE HM) ?_
 refine k_mv 19 (heldE HM) ?_
 refine k_ld 20 [] (heldE HM) ?_
 refine k_ld 22 [] (heldE HM) ?_
 refine j_one 21 fun K9 hK9 => ?_
 refine j_call1 (v := ?_) HM ?_ ?_; rotate_left 1; (focus (with_reducible (first | exact C1 _ | exact C9 _))); clear HM; intro w1 HM
 refine hK9 _ _ (heldE HM) ?_; clear hK9 K9
 refine t_eq (i := 23) (v := ?_) [] rfl rfl rfl Zk (fun _ _ _ h => h) (heldE HM) ?_ ?_; rotate_left 1; (focus ((refine y_cmps .neq false (.inr rfl) (E) rfl Zk (x := ?_) (y := ?_) (t := ?_) ?_ ?_ ?_ ?_; rotate_left 3; (focus rfl); (focus rfl); (focus ((conv => lhs; whnf) <;> rfl)); ((conv => lhs; whnf) <;> rfl)))); ((try simp only [Za]); (try simp only [Zx]); (try simp only [Zy]))
 refine k_pick 24 (heldE HM) ?_
 refine wpAnyL_done Zk ?_ _
 go_wp2_with (first | ((with_reducible refine g_bs1 ?_); refine a_bs1 (c0 := cq) HM ?_; clear HM; intro b9 w9 HM) | (go_at_call 68; refine (Q1 _ _ ((SlAt.made1 b9 z1).rd HM Zs)).mono ?_; rintro e9 w2 ⟨rfl, hL⟩; replace HM := HM.call hL; clear hL) | ((with_reducible refine g_ld ?_); refine a_ld HM ?_))
 exact YPgbe2) : P := h
theorem z9_87 {P : Prop} (h : P := by
 go_enter Tryz.func47, Tryz.ntmps47
 go_upto_region 1 with ((with_reducible refine g_bx ?_); refine a_bx HM ?_; clear HM; intro bk w1 HM)
 refine start_M [] HM Zk (fun w0x H9 => ?_)
 replace HM := H9; clear H9
 refine k_fa 0 (heldE HM) ?_
 refine k_ld 1 [] (heldE HM) ?_
 refine k_bin 2 (heldE HM) ?_
 refine k_mv 3 (heldE HM) ?_
 refine k_off 4 (heldE HM) ?_
 refine k_off 5 (heldE HM) ?_
 refine k_off 6 (heldE HM) ?_
 refine k_off 7 (heldE HM) ?_
 refine k_pick 8 (heldE HM) ?_
 refine k_mv 9 (heldE HM) ?_
 refine k_fa 10 (heldE HM) ?_
 refine k_ld 11 [] (heldE HM) ?_
 refine k_bin 12 (heldE HM) ?_
 refine k_mv 13 (heldE HM) ?_
 refine k_fa 14 (heldE HM) ?_
 refine k_ld 15 [] (heldE HM) ?_
 refine k_bin 16 (heldE HM) ?_
 refine k_pick 17 (heldE HM) ?_
 refine k_pick 18 (heldE HM) ?_
 refine k_mv 19 (heldE HM) ?_
 refine k_ld 20 [] (heldE HM) ?_
 refine k_ld 22 [] (heldE HM) ?_
 refine j_one 21 fun K9 hK9 => ?_
 refine j_call1 (v := ?_) HM ?_ ?_; rotate_left 1; (focus (with_reducible (first | exact C1 _ | exact C9 _))); clear HM; intro w1 HM
 refine hK9 _ _ (heldE HM) ?_; clear hK9 K9
 refine t_eq (i := 23) (v := ?_) [] rfl rfl rfl Zk (fun _ _ _ h => h) (heldE HM) ?_ ?_; rotate_left 1; (focus ((refine y_cmps .neq false (.inr rfl) (E) rfl Zk (x := ?_) (y := ?_) (t := ?_) ?_ ?_ ?_ ?_; rotate_left 3; (focus rfl); (focus rfl); (focus ((conv => lhs; whnf) <;> rfl)); ((conv => lhs; whnf) <;> rfl)))); ((try simp only [Za]); (try simp only [Zx]); (try simp only [Zy]))
 refine k_pick 24 (heldE HM) ?_
 refine wpAnyL_done Zk ?_ _
 go_wp2_with (first | ((with_reducible refine g_bs1 ?_); refine a_bs1 (c0 := ca) HM ?_; clear HM; intro b9 w9 HM) | (go_at_call 69; refine (Q2 _ _ ((SlAt.made1 b9 z2).rd HM Zs)).mono ?_; rintro e9 w2 ⟨rfl, hL⟩; replace HM := HM.call hL; clear hL) | ((with_reducible refine g_ld ?_); refine a_ld HM ?_))
 exact YPgbe2) : P := h
theorem z9_88 {P : Prop} (h : P := by
 go_enter Tryz.func47, Tryz.ntmps47
 go_upto_region 1 with ((with_reducible refine g_bx ?_); refine a_bx HM ?_; clear HM; intro bk w1 HM)
 refine start_M [] HM Zk (fun w0x H9 => ?_)
 replace HM := H9; clear H9
 refine k_fa 0 (heldE HM) ?_
 refine k_ld 1 [] (heldE HM) ?_
 refine k_bin 2 (heldE HM) ?_
 refine k_mv 3 (heldE HM) ?_
 refine k_off 4 (heldE HM) ?_
 refine k_off 5 (heldE HM) ?_
 refine k_off 6 (heldE HM) ?_
 refine k_off 7 (heldE HM) ?_
 refine k_pick 8 (heldE HM) ?_
 refine k_mv 9 (heldE HM) ?_
 refine k_fa 10 (heldE HM) ?_
 refine k_ld 11 [] (heldE HM) ?_
 refine k_bin 12 (heldE HM) ?_
 refine k_mv 13 (heldE HM) ?_
 refine k_fa 14 (heldE HM) ?_
 refine k_ld 15 [] (heldE HM) ?_
 refine k_bin 16 (heldE HM) ?_
 refine k_pick 17 (heldE HM) ?_
 refine k_pick 18 (heldE HM) ?_
 refine k_mv 19 (heldE HM) ?_
 refine k_ld 20 [] (heldE HM) ?_
 refine k_ld 22 [] (heldE HM) ?_
 refine j_one 21 fun K9 hK9 => ?_
 refine j_call1 (v := ?_) HM ?_ ?_; rotate_left 1; (focus (with_reducible (first | exact C1 _ | exact C9 _))); clear HM; intro w1 HM
 refine hK9 _ _ (heldE HM) ?_; clear hK9 K9
 refine t_eq (i := 23) (v := ?_) [] rfl rfl rfl Zk (fun _ _ _ h => h) (heldE HM) ?_ ?_; rotate_left 1; (focus ((refine y_cmps .neq false (.inr rfl) (E) rfl Zk (x := ?_) (y := ?_) (t := ?_) ?_ ?_ ?_ ?_; rotate_left 3; (focus rfl); (focus rfl); (focus ((conv => lhs; whnf) <;> rfl)); ((conv => lhs; whnf) <;> rfl)))); ((try simp only [Za]); (try simp only [Zx]); (try simp only [Zy]))
 refine k_pick 24 (heldE HM) ?_
 refine wpAnyL_done Zk ?_ _
 go_wp2_with (first | ((with_reducible refine g_bs1 ?_); refine a_bs1 (c0 := co) HM ?_; clear HM; intro b9 w9 HM) | (go_at_call 71; refine (Q4 _ _ ((SlAt.made1 b9 z4).rd HM Zs)).mono ?_; rintro e9 w2 ⟨rfl, hL⟩; replace HM := HM.call hL; clear hL) | ((with_reducible refine g_ld ?_); refine a_ld HM ?_))
 exact YPgbe2) : P := h
theorem z9_89 {P : Prop} (h : P := by
 go_enter Tryz.func47, Tryz.ntmps47
 go_upto_region 1 with ((with_reducible refine g_bx ?_); refine a_bx HM ?_; clear HM; intro bk w1 HM)
 refine start_M [] HM Zk (fun w0x H9 => ?_)
 replace HM := H9; clear H9
 refine k_fa 0 (heldE HM) ?_
 refine k_ld 1 [] (heldE HM) ?_
 refine k_bin 2 (heldE HM) ?_
 refine k_mv 3 (heldE HM) ?_
 refine k_off 4 (heldE HM) ?_
 refine k_off 5 (heldE HM) ?_
 refine k_off 6 (heldE HM) ?_
 refine k_off 7 (heldE HM) ?_
 refine k_pick 8 (heldE HM) ?_
 refine k_mv 9 (heldE HM) ?_
 refine k_fa 10 (heldE HM) ?_
 refine k_ld 11 [] (heldE HM) ?_
 refine k_bin 12 (heldE HM) ?_
 refine k_mv 13 (heldE HM) ?_
 refine k_fa 14 (heldE HM) ?_
 refine k_ld 15 [] (heldE HM) ?_
 refine k_bin 16 (heldE HM) ?_
 refine k_pick 17 (heldE HM) ?_
 refine k_pick 18 (heldE HM) ?_
 refine k_mv 19 (heldE HM) ?_
 refine k_ld 20 [] (heldE HM) ?_
 refine k_ld 22 [] (heldE HM) ?_
 refine j_one 21 fun K9 hK9 => ?_
 refine j_call1 (v := ?_) HM ?_ ?_; rotate_left 1; (focus (with_reducible (first | exact C1 _ | exact C9 _))); clear HM; intro w1 HM
 refine hK9 _ _ (heldE HM) ?_; clear hK9 K9
 refine t_eq (i := 23) (v := ?_) [] rfl rfl rfl Zk (fun _ _ _ h => h) (heldE HM) ?_ ?_; rotate_left 1; (focus ((refine y_cmps .neq false (.inr rfl) (E) rfl Zk (x := ?_) (y := ?_) (t := ?_) ?_ ?_ ?_ ?_; rotate_left 3; (focus rfl); (focus rfl); (focus ((conv => lhs; whnf) <;> rfl)); ((conv => lhs; whnf) <;> rfl)))); ((try simp only [Za]); (try simp only [Zx]); (try simp only [Zy]))
 refine k_pick 24 (heldE HM) ?_
 refine wpAnyL_done Zk ?_ _
 go_wp2_with (first | (go_at_call 72; (with_reducible refine Zc HM (Q5 _) ?_; clear HM; intro w2 HM)) | ((with_reducible refine g_ld ?_); refine a_ld HM ?_))
 exact YPgbe2) : P := h
theorem z9_90 {P : Prop} (h : P := by
 go_enter Tryz.func47, Tryz.ntmps47
 go_upto_region 1 with ((with_reducible refine g_bx ?_); refine a_bx HM ?_; clear HM; intro bk w1 HM)
 refine start_M [] HM Zk (fun w0x H9 => ?_)
 replace HM := H9; clear H9
 refine k_fa 0 (heldE HM) ?_
 refine k_ld 1 [] (heldE HM) ?_
 refine k_bin 2 (heldE HM) ?_
 refine k_mv 3 (heldE HM) ?_
 refine k_off 4 (heldE HM) ?_
 refine k_off 5 (heldE HM) ?_
 refine k_off 6 (heldE HM) ?_
 refine k_off 7 (heldE HM) ?_
 refine k_pick 8 (heldE HM) ?_
 refine k_mv 9 (heldE HM) ?_
 refine k_fa 10 (heldE HM) ?_
 refine k_ld 11 [] (heldE HM) ?_
 refine k_bin 12 (heldE HM) ?_
 refine k_mv 13 (heldE HM) ?_
 refine k_fa 14 (heldE HM) ?_
 refine k_ld 15 [] (heldE HM) ?_
 refine k_bin 16 (heldE HM) ?_
 refine k_pick 17 (heldE HM) ?_
 refine k_pick 18 (heldE HM) ?_
 refine k_mv 19 (heldE HM) ?_
 refine k_ld 20 [] (heldE HM) ?_
 refine k_ld 22 [] (heldE HM) ?_
 refine j_one 21 fun K9 hK9 => ?_
 refine j_call1 (v := ?_) HM ?_ ?_; rotate_left 1; (focus (with_reducible (first | exact C1 _ | exact C9 _))); clear HM; intro w1 HM
 refine hK9 _ _ (heldE HM) ?_; clear hK9 K9
 refine t_eq (i := 23) (v := ?_) [] rfl rfl rfl Zk (fun _ _ _ h => h) (heldE HM) ?_ ?_; rotate_left 1; (focus ((refine y_cmps .neq false (.inr rfl) (E) rfl Zk (x := ?_) (y := ?_) (t := ?_) ?_ ?_ ?_ ?_; rotate_left 3; (focus rfl); (focus rfl); (focus ((conv => lhs; whnf) <;> rfl)); ((conv => lhs; whnf) <;> rfl)))); ((try simp only [Za]); (try simp only [Zx]); (try simp only [Zy]))
 refine k_pick 24 (heldE HM) ?_
 refine wpAnyL_done Zk ?_ _
 go_wp2_with (first | ((with_reducible refine g_bs1 ?_); refine a_bs1 (c0 := cs) HM ?_; clear HM; intro b9 w9 HM) | (go_at_call 73; refine (Q6 _ _ ((SlAt.made1 b9 z6).rd HM Zs)).mono ?_; rintro e9 w2 ⟨rfl, hL⟩; replace HM := HM.call hL; clear hL) | ((with_reducible refine g_ld ?_); refine a_ld HM ?_))
 exact YPgbe2) : P := h
theorem YPgbe0 {P : Prop} (h : P := by
 refine start_M [] HM Zk (fun w0x H9 => ?_)
 replace HM := H9; clear H9
 refine k_fa 0 (heldE HM) ?_
 refine k_ld 1 [] (heldE HM) ?_
 refine k_bin 2 (heldE HM) ?_
 refine k_mv 3 (heldE HM) ?_
 refine k_off 4 (heldE HM) ?_
 refine k_off 5 (heldE HM) ?_
 refine k_off 6 (heldE HM) ?_
 refine k_off 7 (heldE HM) ?_
 refine k_pick 8 (heldE HM) ?_
 refine k_mv 9 (heldE HM) ?_
 refine k_fa 10 (heldE HM) ?_
 refine k_ld 11 [] (heldE HM) ?_
 refine k_bin 12 (heldE HM) ?_
 refine k_mv 13 (heldE HM) ?_
 refine k_fa 14 (heldE HM) ?_
 refine k_ld 15 [] (heldE HM) ?_
 refine k_bin 16 (heldE HM) ?_
 refine k_pick 17 (heldE HM) ?_
 refine k_pick 18 (heldE HM) ?_
 refine k_mv 19 (heldE HM) ?_
 refine k_ld 20 [] (heldE HM) ?_
 refine k_ld 22 [] (heldE HM) ?_
 refine j_one 21 fun K9 hK9 => ?_
 refine j_call1 (v := ?_) HM ?_ ?_; rotate_left 1; (focus (with_reducible (first | exact C1 _ | exact C9 _))); clear HM; intro w1 HM
 refine hK9 _ _ (heldE HM) ?_; clear hK9 K9
 refine t_eq (i := 23) (v := ?_) [] rfl rfl rfl Zk (fun _ _ _ h => h) (heldE HM) ?_ ?_; rotate_left 1; (focus ((refine y_cmps .neq false (.inr rfl) (E) rfl Zk (x := ?_) (y := ?_) (t := ?_) ?_ ?_ ?_ ?_; rotate_left 3; (focus rfl); (focus rfl); (focus ((conv => lhs; whnf) <;> rfl)); ((conv => lhs; whnf) <;> rfl)))); ((try simp only [Za]); (try simp only [Zx]); (try simp only [Zy]))
 refine k_pick 24 (heldE HM) ?_
 refine wpAnyL_done Zk ?_ _
 go_wp2_with ((with_reducible refine g_ld ?_); refine a_ld HM ?_)
 exact YPgbe2) : P := h
theorem z9_91 {P : Prop} (h : P := by
 go_enter Tryz.func47, Tryz.ntmps47
 go_upto_region 1 with ((with_reducible refine g_bx ?_); refine a_bx HM ?_; clear HM; intro bk w1 HM)
 exact YPgbe0) : P := h
theorem z9_92 {P : Prop} (h : P := by
 go_upto_region 1 with ((with_reducible refine g_bx ?_); refine a_bx HM ?_; clear HM; intro bk w1 HM)
 exact YPgbe0) : P := h
end
section
open Jb
theorem jright_any (x : JR) (hw : x.wf) (w : World) :
    Calls Tryz.prog 47 #[.agg x.c] w fun e w' => e = .returned (.bool x.right) ∧ Below w.heap.size w w' := by
 have HM := Mem.start w
 have lx := x.la
 have lk := (JR.f_kd x).la
 have lf := (JR.f_fnd x).la
 have ld := (JR.f_day x).la
 have E := JR.eq9 x.only x
 have C9 := fun w => jonly_any x w
 generalize x.only.c = oc at E C9
 have lq := (JR.f_q x).la
 have Q1 := fun sv w hR => qcheck1 x.q hw.2.1 sv w hR
 have z1 := JQ.size x.q
 have el1 : elemB 115 45 72 336 = true := by kernel_rfl
 generalize JQ.c x.q = cq at *
 have la := (JR.f_a x).la
 have Q2 := fun sv w hR => acheck1 x.a hw.2.2.1 sv w hR
 have z2 := JA.size x.a
 have el2 : elemB 118 47 76 376 = true := by kernel_rfl
 generalize JA.c x.a = ca at *
 have le := (JR.f_e x).la
 have Q3 := fun sv w hR => pcheck1 x.e hw.2.2.2.1 sv w hR
 have z3 := JE.size x.e
 have el3 : elemB 121 49 10 104 = true := by kernel_rfl
 generalize JE.c x.e = ce at *
 have lo := (JR.f_o x).la
 have Q4 := fun sv w hR => obook1 x.o hw.2.2.2.2.1 sv w hR
 have z4 := JO.size x.o
 have el4 : elemB 64 53 11 128 = true := by kernel_rfl
 generalize JO.c x.o = co at *
 have lt := (JR.f_t x).la
 have Q5 := fun w => jtr_any x.t hw.2.2.2.2.2.1 w
 generalize JT.c x.t = ct at *
 have ls := (JR.f_s x).la
 have Q6 := fun sv w hR => scheck1 x.s hw.2.2.2.2.2.2 sv w hR
 have z6 := JS.size x.s
 have el6 : elemB 109 57 6 64 = true := by kernel_rfl
 generalize JS.c x.s = cs at *
 have HV : Hid (x.right = ((if x.kd = 3 then name x.fnd else decide (x.fnd.size = 0)) && (JR.b x.only x && (if x.kd = 1 then x.q.right else if x.kd = 2 then x.a.right else if x.kd = 3 then x.e.right else if x.kd = 4 then x.o.right else if x.kd = 5 then x.t.right else if x.kd = 6 then x.s.right else if x.kd = 7 ∨ x.kd = 8 then (decide (0 ≤ x.day) && decide (x.day ≤ 73048)) else false)))) := Zi (by unfold JR.right JR.kind; rw [isDay_w])
 generalize x.right = v at HV ⊢
 have C1 := fun w => oname_any x.fnd hw.1 w
 generalize name x.fnd = b1 at *
 generalize JR.b x.only x = b2 at *
 generalize x.q.right = b3 at *
 generalize x.a.right = b4 at *
 generalize x.e.right = b5 at *
 generalize x.o.right = b6 at *
 generalize x.t.right = b7 at *
 generalize x.s.right = b8 at *
 generalize x.kd = kd at HV lk
 have hc : (kd = 3 ∧ b1 = true ∧ b2 = true ∧ b5 = true ∧ true = v) ∨
     (kd = 3 ∧ b1 = true ∧ b2 = true ∧ b5 = false ∧ false = v) ∨
     (kd = 3 ∧ b1 = true ∧ b2 = false ∧ false = v) ∨
     (kd = 3 ∧ b1 = false ∧ false = v) ∨
     ((kd == 3) = false ∧ x.fnd.toList.isEmpty = true ∧ b2 = true ∧ kd = 1 ∧ b3 = true ∧ true = v) ∨
     ((kd == 3) = false ∧ x.fnd.toList.isEmpty = true ∧ b2 = true ∧ kd = 1 ∧ b3 = false ∧ false = v) ∨
     ((kd == 3) = false ∧ x.fnd.toList.isEmpty = true ∧ b2 = true ∧ (kd == 1) = false ∧ kd = 2 ∧ b4 = true ∧ true = v) ∨
     ((kd == 3) = false ∧ x.fnd.toList.isEmpty = true ∧ b2 = true ∧ (kd == 1) = false ∧ kd = 2 ∧ b4 = false ∧ false = v) ∨
     ((kd == 3) = false ∧ x.fnd.toList.isEmpty = true ∧ b2 = true ∧ (kd == 1) = false ∧ (kd == 2) = false ∧ kd = 4 ∧ b6 = true ∧ true = v) ∨
     ((kd == 3) = false ∧ x.fnd.toList.isEmpty = true ∧ b2 = true ∧ (kd == 1) = false ∧ (kd == 2) = false ∧ kd = 4 ∧ b6 = false ∧ false = v) ∨
     ((kd == 3) = false ∧ x.fnd.toList.isEmpty = true ∧ b2 = true ∧ (kd == 1) = false ∧ (kd == 2) = false ∧ (kd == 4) = false ∧ kd = 5 ∧ b7 = true ∧ true = v) ∨
     ((kd == 3) = false ∧ x.fnd.toList.isEmpty = true ∧ b2 = true ∧ (kd == 1) = false ∧ (kd == 2) = false ∧ (kd == 4) = false ∧ kd = 5 ∧ b7 = false ∧ false = v) ∨
     ((kd == 3) = false ∧ x.fnd.toList.isEmpty = true ∧ b2 = true ∧ (kd == 1) = false ∧ (kd == 2) = false ∧ (kd == 4) = false ∧ (kd == 5) = false ∧ kd = 6 ∧ b8 = true ∧ true = v) ∨
     ((kd == 3) = false ∧ x.fnd.toList.isEmpty = true ∧ b2 = true ∧ (kd == 1) = false ∧ (kd == 2) = false ∧ (kd == 4) = false ∧ (kd == 5) = false ∧ kd = 6 ∧ b8 = false ∧ false = v) ∨
     ((kd == 3) = false ∧ x.fnd.toList.isEmpty = true ∧ b2 = true ∧ (kd == 1) = false ∧ (kd == 2) = false ∧ (kd == 4) = false ∧ (kd == 5) = false ∧ (kd == 6) = false ∧ kd = 7 ∧ decide (0 ≤ x.day) = true ∧ decide (x.day ≤ 73048) = true ∧ true = v) ∨
     ((kd == 3) = false ∧ x.fnd.toList.isEmpty = true ∧ b2 = true ∧ (kd == 1) = false ∧ (kd == 2) = false ∧ (kd == 4) = false ∧ (kd == 5) = false ∧ (kd == 6) = false ∧ kd = 7 ∧ decide (0 ≤ x.day) = true ∧ decide (x.day ≤ 73048) = false ∧ false = v) ∨
     ((kd == 3) = false ∧ x.fnd.toList.isEmpty = true ∧ b2 = true ∧ (kd == 1) = false ∧ (kd == 2) = false ∧ (kd == 4) = false ∧ (kd == 5) = false ∧ (kd == 6) = false ∧ kd = 7 ∧ decide (0 ≤ x.day) = false ∧ false = v) ∨
     ((kd == 3) = false ∧ x.fnd.toList.isEmpty = true ∧ b2 = true ∧ (kd == 1) = false ∧ (kd == 2) = false ∧ (kd == 4) = false ∧ (kd == 5) = false ∧ (kd == 6) = false ∧ (kd == 7) = false ∧ kd = 8 ∧ decide (0 ≤ x.day) = true ∧ decide (x.day ≤ 73048) = true ∧ true = v) ∨
     ((kd == 3) = false ∧ x.fnd.toList.isEmpty = true ∧ b2 = true ∧ (kd == 1) = false ∧ (kd == 2) = false ∧ (kd == 4) = false ∧ (kd == 5) = false ∧ (kd == 6) = false ∧ (kd == 7) = false ∧ kd = 8 ∧ decide (0 ≤ x.day) = true ∧ decide (x.day ≤ 73048) = false ∧ false = v) ∨
     ((kd == 3) = false ∧ x.fnd.toList.isEmpty = true ∧ b2 = true ∧ (kd == 1) = false ∧ (kd == 2) = false ∧ (kd == 4) = false ∧ (kd == 5) = false ∧ (kd == 6) = false ∧ (kd == 7) = false ∧ kd = 8 ∧ decide (0 ≤ x.day) = false ∧ false = v) ∨
     ((kd == 3) = false ∧ x.fnd.toList.isEmpty = true ∧ b2 = true ∧ (kd == 1) = false ∧ (kd == 2) = false ∧ (kd == 4) = false ∧ (kd == 5) = false ∧ (kd == 6) = false ∧ (kd == 7) = false ∧ (kd == 8) = false ∧ false = v) ∨
     ((kd == 3) = false ∧ x.fnd.toList.isEmpty = true ∧ b2 = false ∧ false = v) ∨
     ((kd == 3) = false ∧ x.fnd.toList.isEmpty = false ∧ false = v) := by
  clear HM C1
  by_cases h1 : kd = 3
  ·skip
   subst h1
   cases b1 with
   | true =>
    cases b2 with
    | true =>
     cases b5 with
     | true =>
      exact .inl (⟨rfl, rfl, rfl, rfl, by rw [HV.out]; simp⟩)
     | false =>
      exact .inr (.inl (⟨rfl, rfl, rfl, rfl, by rw [HV.out]; simp⟩))
    | false =>
     exact .inr (.inr (.inl (⟨rfl, rfl, rfl, by rw [HV.out]; simp⟩)))
   | false =>
    exact .inr (.inr (.inr (.inl (⟨rfl, rfl, by rw [HV.out]; simp⟩))))
  ·skip
   by_cases h2 : x.fnd.size = 0
   ·skip
    cases b2 with
    | true =>
     by_cases h3 : kd = 1
     ·skip
      subst h3
      cases b3 with
      | true =>
       exact Zr (.inl (⟨Zb h1, empty_l h2, rfl, rfl, rfl, by rw [HV.out]; simp [h1, h2]⟩))
      | false =>
       exact Zr (.inr (.inl (⟨Zb h1, empty_l h2, rfl, rfl, rfl, by rw [HV.out]; simp [h1, h2]⟩)))
     ·skip
      by_cases h4 : kd = 2
      ·skip
       subst h4
       cases b4 with
       | true =>
        exact Zr (.inr (.inr (.inl (⟨Zb h1, empty_l h2, rfl, Zb h3, rfl, rfl, by rw [HV.out]; simp [h1, h2, h3]⟩))))
       | false =>
        exact Zr (.inr (.inr (.inr (.inl (⟨Zb h1, empty_l h2, rfl, Zb h3, rfl, rfl, by rw [HV.out]; simp [h1, h2, h3]⟩)))))
      ·skip
       by_cases h5 : kd = 4
       ·skip
        subst h5
        cases b6 with
        | true =>
         exact Zr (Zr (.inl (⟨Zb h1, empty_l h2, rfl, Zb h3, Zb h4, rfl, rfl, by rw [HV.out]; simp [h1, h2, h3, h4]⟩)))
        | false =>
         exact Zr (Zr (.inr (.inl (⟨Zb h1, empty_l h2, rfl, Zb h3, Zb h4, rfl, rfl, by rw [HV.out]; simp [h1, h2, h3, h4]⟩))))
       ·skip
        by_cases h6 : kd = 5
        ·skip
         subst h6
         cases b7 with
         | true =>
          exact Zr (Zr (.inr (.inr (.inl (⟨Zb h1, empty_l h2, rfl, Zb h3, Zb h4, Zb h5, rfl, rfl, by rw [HV.out]; simp [h1, h2, h3, h4, h5]⟩)))))
         | false =>
          exact Zr (Zr (.inr (.inr (.inr (.inl (⟨Zb h1, empty_l h2, rfl, Zb h3, Zb h4, Zb h5, rfl, rfl, by rw [HV.out]; simp [h1, h2, h3, h4, h5]⟩))))))
        ·skip
         by_cases h7 : kd = 6
         ·skip
          subst h7
          cases b8 with
          | true =>
           exact Zr (Zr (Zr (.inl (⟨Zb h1, empty_l h2, rfl, Zb h3, Zb h4, Zb h5, Zb h6, rfl, rfl, by rw [HV.out]; simp [h1, h2, h3, h4, h5, h6]⟩))))
          | false =>
           exact Zr (Zr (Zr (.inr (.inl (⟨Zb h1, empty_l h2, rfl, Zb h3, Zb h4, Zb h5, Zb h6, rfl, rfl, by rw [HV.out]; simp [h1, h2, h3, h4, h5, h6]⟩)))))
         ·skip
          by_cases h8 : kd = 7
          ·skip
           subst h8
           by_cases h9 : 0 ≤ x.day
           ·skip
            by_cases h10 : x.day ≤ 73048
            ·skip
             exact Zr (Zr (Zr (.inr (.inr (.inl (⟨Zb h1, empty_l h2, rfl, Zb h3, Zb h4, Zb h5, Zb h6, Zb h7, rfl, Zt h9, Zt h10, by rw [HV.out]; simp [h1, h2, h3, h4, h5, h6, h7, h9, h10]⟩))))))
            ·skip
             exact Zr (Zr (Zr (.inr (.inr (.inr (.inl (⟨Zb h1, empty_l h2, rfl, Zb h3, Zb h4, Zb h5, Zb h6, Zb h7, rfl, Zt h9, Zf h10, by rw [HV.out]; simp [h1, h2, h3, h4, h5, h6, h7, h9, h10]⟩)))))))
           ·skip
            exact Zr (Zr (Zr (Zr (.inl (⟨Zb h1, empty_l h2, rfl, Zb h3, Zb h4, Zb h5, Zb h6, Zb h7, rfl, Zf h9, by rw [HV.out]; simp [h1, h2, h3, h4, h5, h6, h7, h9]⟩)))))
          ·skip
           by_cases h11 : kd = 8
           ·skip
            subst h11
            by_cases h12 : 0 ≤ x.day
            ·skip
             by_cases h13 : x.day ≤ 73048
             ·skip
              exact Zr (Zr (Zr (Zr (.inr (.inl (⟨Zb h1, empty_l h2, rfl, Zb h3, Zb h4, Zb h5, Zb h6, Zb h7, Zb h8, rfl, Zt h12, Zt h13, by rw [HV.out]; simp [h1, h2, h3, h4, h5, h6, h7, h8, h12, h13]⟩))))))
             ·skip
              exact Zr (Zr (Zr (Zr (.inr (.inr (.inl (⟨Zb h1, empty_l h2, rfl, Zb h3, Zb h4, Zb h5, Zb h6, Zb h7, Zb h8, rfl, Zt h12, Zf h13, by rw [HV.out]; simp [h1, h2, h3, h4, h5, h6, h7, h8, h12, h13]⟩)))))))
            ·skip
             exact Zr (Zr (Zr (Zr (.inr (.inr (.inr (.inl (⟨Zb h1, empty_l h2, rfl, Zb h3, Zb h4, Zb h5, Zb h6, Zb h7, Zb h8, rfl, Zf h12, by rw [HV.out]; simp [h1, h2, h3, h4, h5, h6, h7, h8, h12]⟩))))))))
           ·skip
            exact Zr (Zr (Zr (Zr (Zr (.inl (⟨Zb h1, empty_l h2, rfl, Zb h3, Zb h4, Zb h5, Zb h6, Zb h7, Zb h8, Zb h11, by rw [HV.out]; simp [h1, h2, h3, h4, h5, h6, h7, h8, h11]⟩))))))
    | false =>
     exact Zr (Zr (Zr (Zr (Zr (.inr (.inl (⟨Zb h1, empty_l h2, rfl, by rw [HV.out]; simp [h1, h2]⟩)))))))
   ·skip
    exact Zr (Zr (Zr (Zr (Zr (.inr (.inr (⟨Zb h1, some_l h2, by rw [HV.out]; simp [h1, h2]⟩)))))))
 clear HV
 rcases hc with ⟨rfl, rfl, rfl, rfl, rfl⟩ | ⟨rfl, rfl, rfl, rfl, rfl⟩ | ⟨rfl, rfl, rfl, rfl⟩ | ⟨rfl, rfl, rfl⟩ | ⟨g0, g1, rfl, rfl, rfl, rfl⟩ | ⟨g0, g1, rfl, rfl, rfl, rfl⟩ | ⟨g0, g1, rfl, g3, rfl, rfl, rfl⟩ | ⟨g0, g1, rfl, g3, rfl, rfl, rfl⟩ | ⟨g0, g1, rfl, g3, g4, rfl, rfl, rfl⟩ | ⟨g0, g1, rfl, g3, g4, rfl, rfl, rfl⟩ | ⟨g0, g1, rfl, g3, g4, g5, rfl, rfl, rfl⟩ | ⟨g0, g1, rfl, g3, g4, g5, rfl, rfl, rfl⟩ | ⟨g0, g1, rfl, g3, g4, g5, g6, rfl, rfl, rfl⟩ | ⟨g0, g1, rfl, g3, g4, g5, g6, rfl, rfl, rfl⟩ | ⟨g0, g1, rfl, g3, g4, g5, g6, g7, rfl, g9, g10, rfl⟩ | ⟨g0, g1, rfl, g3, g4, g5, g6, g7, rfl, g9, g10, rfl⟩ | ⟨g0, g1, rfl, g3, g4, g5, g6, g7, rfl, g9, rfl⟩ | ⟨g0, g1, rfl, g3, g4, g5, g6, g7, g8, rfl, g10, g11, rfl⟩ | ⟨g0, g1, rfl, g3, g4, g5, g6, g7, g8, rfl, g10, g11, rfl⟩ | ⟨g0, g1, rfl, g3, g4, g5, g6, g7, g8, rfl, g10, rfl⟩ | ⟨g0, g1, rfl, g3, g4, g5, g6, g7, g8, g9, rfl⟩ | ⟨g0, g1, rfl, rfl⟩ | ⟨g0, g1, rfl⟩
 ·exact z9_83
 ·exact z9_83
 ·go_enter Tryz.func47, Tryz.ntmps47
  go_upto_region 1 with ((with_reducible refine g_bx ?_); refine a_bx HM ?_; clear HM; intro bk w1 HM)
  refine start_M [] HM Zk (fun w0x H9 => ?_)
  replace HM := H9; clear H9
  refine k_fa 0 (heldE HM) ?_
  refine k_ld 1 [] (heldE HM) ?_
  refine k_bin 2 (heldE HM) ?_
  refine k_mv 3 (heldE HM) ?_
  refine k_fa 4 (heldE HM) ?_
  refine k_ld 5 [] (heldE HM) ?_
  refine j_one 6 fun K9 hK9 => ?_
  refine j_call1 (v := ?_) HM ?_ ?_; rotate_left 1; (focus (with_reducible (first | exact C1 _ | exact C9 _))); clear HM; intro w1 HM
  refine hK9 _ _ (heldE HM) ?_; clear hK9 K9
  refine k_not 7 (heldE HM) ?_
  refine k_pick 8 (heldE HM) ?_
  refine k_mv 9 (heldE HM) ?_
  refine k_fa 10 (heldE HM) ?_
  refine k_ld 11 [] (heldE HM) ?_
  refine k_bin 12 (heldE HM) ?_
  refine k_mv 13 (heldE HM) ?_
  refine k_off 14 (heldE HM) ?_
  refine k_off 15 (heldE HM) ?_
  refine k_off 16 (heldE HM) ?_
  exact z9_84
 ·go_enter Tryz.func47, Tryz.ntmps47
  go_upto_region 1 with ((with_reducible refine g_bx ?_); refine a_bx HM ?_; clear HM; intro bk w1 HM)
  refine start_M [] HM Zk (fun w0x H9 => ?_)
  replace HM := H9; clear H9
  refine k_fa 0 (heldE HM) ?_
  refine k_ld 1 [] (heldE HM) ?_
  refine k_bin 2 (heldE HM) ?_
  refine k_mv 3 (heldE HM) ?_
  refine k_fa 4 (heldE HM) ?_
  refine k_ld 5 [] (heldE HM) ?_
  refine j_one 6 fun K9 hK9 => ?_
  refine j_call1 (v := ?_) HM ?_ ?_; rotate_left 1; (focus (with_reducible (first | exact C1 _ | exact C9 _))); clear HM; intro w1 HM
  refine hK9 _ _ (heldE HM) ?_; clear hK9 K9
  refine k_not 7 (heldE HM) ?_
  refine k_pick 8 (heldE HM) ?_
  refine k_mv 9 (heldE HM) ?_
  refine k_off 10 (heldE HM) ?_
  refine k_off 11 (heldE HM) ?_
  refine k_off 12 (heldE HM) ?_
  refine k_off 13 (heldE HM) ?_
  refine k_off 14 (heldE HM) ?_
  refine k_off 15 (heldE HM) ?_
  refine k_off 16 (heldE HM) ?_
  refine k_off 17 (heldE HM) ?_
  exact z9_85
 ·exact z9_86
 ·exact z9_86
 ·exact z9_87
 ·exact z9_87
 ·exact z9_88
 ·exact z9_88
 ·exact z9_89
 ·exact z9_89
 ·exact z9_90
 ·exact z9_90
 ·exact z9_91
 ·exact z9_91
 ·exact z9_91
 ·exact z9_91
 ·exact z9_91
 ·exact z9_91
 ·go_enter Tryz.func47, Tryz.ntmps47
  have hn3 : (kd != 3) = true := by rw [bne, g0]; rfl
  exact z9_92
 ·go_enter Tryz.func47, Tryz.ntmps47
  have hn3 : (kd != 3) = true := by rw [bne, g0]; rfl
  go_upto_region 1 with ((with_reducible refine g_bx ?_); refine a_bx HM ?_; clear HM; intro bk w1 HM)
  refine start_M [] HM Zk (fun w0x H9 => ?_)
  replace HM := H9; clear H9
  refine k_fa 0 (heldE HM) ?_
  refine k_ld 1 [] (heldE HM) ?_
  refine k_bin 2 (heldE HM) ?_
  refine k_mv 3 (heldE HM) ?_
  refine k_off 4 (heldE HM) ?_
  refine k_off 5 (heldE HM) ?_
  refine k_off 6 (heldE HM) ?_
  refine k_off 7 (heldE HM) ?_
  refine k_pick 8 (heldE HM) ?_
  refine k_mv 9 (heldE HM) ?_
  refine k_fa 10 (heldE HM) ?_
  refine k_ld 11 [] (heldE HM) ?_
  refine k_bin 12 (heldE HM) ?_
  refine k_mv 13 (heldE HM) ?_
  refine k_fa 14 (heldE HM) ?_
  refine k_ld 15 [] (heldE HM) ?_
  refine k_bin 16 (heldE HM) ?_
  exact z9_84
 ·go_enter Tryz.func47, Tryz.ntmps47
  have hn3 : (kd != 3) = true := by rw [bne, g0]; rfl
  go_upto_region 1 with ((with_reducible refine g_bx ?_); refine a_bx HM ?_; clear HM; intro bk w1 HM)
  refine start_M [] HM Zk (fun w0x H9 => ?_)
  replace HM := H9; clear H9
  refine k_fa 0 (heldE HM) ?_
  refine k_ld 1 [] (heldE HM) ?_
  refine k_bin 2 (heldE HM) ?_
  refine k_mv 3 (heldE HM) ?_
  refine k_off 4 (heldE HM) ?_
  refine k_off 5 (heldE HM) ?_
  refine k_off 6 (heldE HM) ?_
  refine k_off 7 (heldE HM) ?_
  refine k_pick 8 (heldE HM) ?_
  refine k_mv 9 (heldE HM) ?_
  refine k_fa 10 (heldE HM) ?_
  refine k_ld 11 [] (heldE HM) ?_
  refine k_bin 12 (heldE HM) ?_
  refine k_mv 13 (heldE HM) ?_
  refine k_fa 14 (heldE HM) ?_
  refine k_ld 15 [] (heldE HM) ?_
  refine k_bin 16 (heldE HM) ?_
  refine k_pick 17 (heldE HM) ?_
  exact z9_85
end
section
theorem z9_93 {P : Prop} (h : P := by
 go_wp2_with (first | ((first | (go_at_call 47; with_reducible refine (Q1 _).mono ?_) | (go_at_call 48; with_reducible refine (Q2 _).mono ?_)); rintro e9 w2 ⟨rfl, hL⟩; replace HM := HM.call hL; clear hL) | ((with_reducible refine g_ld ?_); refine a_ld HM ?_) | ((with_reducible refine g_st ?_); refine a_st HM ?_; clear HM; intro w1 HM) | ((with_reducible refine g_al ?_); refine a_al HM ?_; clear HM; intro bk w1 HM))
 exact YPgbe2) : P := h
theorem z9_94 {P : Prop} (h : P := by
 go_roundw
 case rel => exact ⟨i + 1, c, last, rfl, rfl, by go_num, by omega, by omega, HS2, HM.pick⟩
 case measure => simp [intOf]; omega) : P := h
theorem z9_95 {P : Prop} (h : P := by
 go_wp2_with (first | ((with_reducible refine g_offw ?_); refine a_offw ?_) | ((first | (go_at_call 47; with_reducible refine (Q1 _).mono ?_) | (go_at_call 48; with_reducible refine (Q2 _).mono ?_)); rintro e9 w2 ⟨rfl, hL⟩; replace HM := HM.call hL; clear hL) | ((with_reducible refine g_ld ?_); refine a_ld HM ?_) | ((with_reducible refine g_st ?_); refine a_st HM ?_; clear HM; intro w1 HM) | ((with_reducible refine g_al ?_); refine a_al HM ?_; clear HM; intro bk w1 HM))
 exact YPgbe2) : P := h
theorem z9_96 {P : Prop} (h : P := by
 clear HE
 go_enter Tryz.func29, Tryz.ntmps29
 go_wp2_with (go_at_call 17; (with_reducible refine Zc HM (C1 _ HM.low) ?_; clear HM; intro w2 HM))
 exact YPgbe2) : P := h
theorem z9_97 {P : Prop} (h : P := by
 go_enter Tryz.func29, Tryz.ntmps29
 go_wp2_with (go_at_call 17; (with_reducible refine Zc HM (C1 _ HM.low) ?_; clear HM; intro w2 HM))
 exact YPgbe2) : P := h
end
section
open Jb
theorem Jb.chk_step {L : List JR} {i : Nat} {r : JR} (h : L[i]? = some r) (last : Int) (c : Nat) : Jb.chk (L.drop i) i last c = (if r.right then (if r.known ((i + 1 : Nat) : Int) = ((i + 1 : Nat) : Int) then (if r.kd = 8 ∧ last < r.day then 371 else if r.kd = 7 then (if r.day ≤ last ∨ 64 < c + 1 then 371 else Jb.chk (L.drop (i + 1)) (i + 1) r.day (c + 1)) else Jb.chk (L.drop (i + 1)) (i + 1) last c) else 371) else 370) := by
 obtain ⟨hi, e⟩ := List.getElem?_eq_some_iff.1 h
 rw [List.drop_eq_getElem_cons hi, e, Jb.chk]
theorem Jb.chk_end {L : List JR} {i : Nat} (h : L.length ≤ i) (last : Int) (c : Nat) : Jb.chk (L.drop i) i last c = 0 := by
 rw [List.drop_of_length_le h, Jb.chk]
def RdR (w : World) (sv : Value) (L : List JR) : Prop := RdS 189 w sv (L.map JR.c) ∧ (∀ r ∈ L, r.wf) ∧ L.length ≤ 9223372036854775807
theorem RdR.below {w w' : World} {sv : Value} {L : List JR} (h : RdR w sv L) (hb : Below w.heap.size w w') : RdR w' sv L := ⟨h.1.below hb, h.2⟩
theorem RdR.form {w : World} {sv : Value} {L : List JR} (h : RdR w sv L) : ∃ A cap, sv = .slice A L.length cap := by
 obtain ⟨A, cap, e⟩ := RdS.form1 h.1
 rw [List.length_map] at e
 exact ⟨A, cap, e⟩
theorem RdR.at_ {w : World} {A : Option Addr} {n cap : Nat} {L : List JR} (h : RdR w (.slice A n cap) L) {i : Nat} {r : JR} (hr : L[i]? = some r) : ∃ b off cs, A = some ⟨b, off, none⟩ ∧ Hid (Rbk w b cs) ∧ LA 59 cs (off + i * 189) (.agg r.c) ∧ Hid (∀ j, j < 189 → cs[off + i * 189 + j]? = r.c[j]?) ∧ r.wf := by
 obtain ⟨b, off, cs, cap', e, hb, hc⟩ := RdS.get h.1 (k := i) (c := r.c) (by rw [List.getElem?_map, hr]; rfl)
 injection e with e1 e2 e3
 exact ⟨b, off, cs, e1, Zi hb, la_in (n := 189) Zk Zk r.size hc Zd, Zi hc, h.2.1 r (List.mem_of_getElem? hr)⟩
theorem jcheck_any (sv : Value) (L : List JR) (w : World) (hR : RdR w sv L) :
    Calls Tryz.prog 17 #[sv] w fun e w' => e = .returned (.int .i64 (Jb.check L)) ∧ Below w.heap.size w w' := by
 have HM := Mem.start w
 obtain ⟨A, cap, rfl⟩ := hR.form
 have HR := Zi hR
 have hLm := hR.2.2
 have HC : Hid (Jb.check L = if 4096 < L.length then 371 else Jb.chk (L.drop 0) 0 (-1) 0) := Zi rfl
 clear hR
 generalize Jb.check L = e at *
 by_cases hl : 4096 < L.length
 ·obtain rfl : e = 371 := by rw [HC.out, if_pos hl]
  have hl1 : (4096 : Int) < L.length := by omega
  have hl2 : decide ((4096 : Int) < L.length) = true := Zt hl1
  go_enter Tryz.func17, Tryz.ntmps17
  go_wp2_with fail
  exact YPgbe2
 have HD : Hid (e = Jb.chk (L.drop 0) 0 (-1) 0) := Zi (by rw [HC.out, if_neg hl])
 have hl1 : ¬ (4096 : Int) < L.length := by omega
 have hl2 : decide ((4096 : Int) < L.length) = false := Zf hl1
 clear HC
 have za0 := JR.za
 go_enter Tryz.func17, Tryz.ntmps17
 go_wp2_with fail
 go_loopw [3, 4, 12] (fun lv cv iv wr => ∃ (i c : Nat) (last : Int), lv = .int .i64 last ∧ cv = .int .i64 (c : Nat) ∧ iv = .int .i64 (i : Nat) ∧ i ≤ L.length ∧ c ≤ i ∧ Hid (e = Jb.chk (L.drop i) i last c) ∧ Mem w [] [] wr) (fun _ _ iv _ => L.length - (intOf iv).toNat)
 case atStart => exact ⟨0, 0, -1, rfl, rfl, rfl, by omega, by omega, HD, HM⟩
 case round =>
  clear HM HD
  obtain ⟨i, c, last, rfl, rfl, rfl, hi, hc, HD, HM⟩ := hrel
  by_cases hlt : i < L.length
  ·have hlt1 : (i : Int) < L.length := by omega
   obtain ⟨r, hr⟩ : ∃ r, L[i]? = some r := ⟨_, List.getElem?_eq_getElem hlt⟩
   obtain ⟨b, off, cs, rfl, HB, l0, -, hw⟩ := HR.out.at_ hr
   have HS := Zi (HD.out.trans (Jb.chk_step hr last c))
   have sx := r.sa JR.zero.size
   have lx := r.la
   have lk := (JR.f_kd r).la
   have ld := (JR.f_day r).la
   have Q1 := fun w => jright_any r hw w
   have Q2 : ∀ w, Calls Tryz.prog 48 #[.agg r.c, .int .i64 ((i : Int) + 1)] w fun e w' => e = .returned (.int .i64 (r.known ((i + 1 : Nat) : Int))) ∧ Below w.heap.size w w' := fun w => jknown_any r ((i + 1 : Nat) : Int) w
   have hi1 : ((i + 1 : Nat) : Int) = (i : Int) + 1 := by omega
   clear hr HD hw
   generalize r.right = v at *
   generalize r.known ((i + 1 : Nat) : Int) = kn at *
   cases v with
   | false =>
    obtain rfl : e = 370 := HS.out
    go_wp2_with (first | (go_at_call 47; (with_reducible refine Zc HM (Q1 _) ?_; clear HM; intro w2 HM)) | ((with_reducible refine g_ld ?_); refine a_ld HM ?_) | ((with_reducible refine g_st ?_); refine a_st HM ?_; clear HM; intro w1 HM) | ((with_reducible refine g_al ?_); refine a_al HM ?_; clear HM; intro bk w1 HM))
    go_ret
    exact ⟨rfl, HM.low⟩
   | true =>
    by_cases hk : kn = ((i + 1 : Nat) : Int)
    case neg =>
     obtain rfl : e = 371 := by rw [HS.out, if_pos rfl, if_neg hk]
     have hk1 : (kn != (i : Int) + 1) = true := bne_iff_ne.2 Zo
     clear hk
     exact z9_93
    case pos =>
     have HS1 := Zi (HS.out.trans (by rw [if_pos rfl, if_pos hk]))
     have hk1 : (kn != (i : Int) + 1) = false := by rw [hk, hi1]; simp
     clear HS hk
     by_cases h8 : r.kd = 8
     ·have h81 : (r.kd == 8) = true := beq_iff_eq.2 h8
      have h71 : (r.kd == 7) = false := Zb Zo
      by_cases hd : last < r.day
      ·obtain rfl : e = 371 := by rw [HS1.out, if_pos ⟨h8, hd⟩]
       have hd1 : decide (last < r.day) = true := Zt hd
       clear h8
       exact z9_93
      ·have HS2 : Hid (e = Jb.chk (L.drop (i + 1)) (i + 1) last c) := Zi (by rw [HS1.out, if_neg (fun g => hd g.2), if_neg Zo])
       have hd1 : decide (last < r.day) = false := Zf hd
       clear h8 HS1
       go_wp2_with (first | ((first | (go_at_call 47; with_reducible refine (Q1 _).mono ?_) | (go_at_call 48; with_reducible refine (Q2 _).mono ?_)); rintro e9 w2 ⟨rfl, hL⟩; replace HM := HM.call hL; clear hL) | ((with_reducible refine g_ld ?_); refine a_ld HM ?_) | ((with_reducible refine g_st ?_); refine a_st HM ?_; clear HM; intro w1 HM) | ((with_reducible refine g_al ?_); refine a_al HM ?_; clear HM; intro bk w1 HM))
       exact z9_94
     ·have h81 : (r.kd == 8) = false := Zb h8
      by_cases h7 : r.kd = 7
      ·have h71 : (r.kd == 7) = true := beq_iff_eq.2 h7
       have HS2 := Zi (HS1.out.trans (by rw [if_neg (fun g => h8 g.1), if_pos h7]))
       clear HS1 h8 h7
       by_cases hd : r.day ≤ last
       ·obtain rfl : e = 371 := by rw [HS2.out, if_pos (.inl hd)]
        have hd1 : decide (r.day ≤ last) = true := Zt hd
        exact z9_95
       ·have hd1 : decide (r.day ≤ last) = false := Zf hd
        by_cases h64 : 64 < c + 1
        ·obtain rfl : e = 371 := by rw [HS2.out, if_pos (.inr h64)]
         have h641 : decide ((64 : Int) < (c : Int) + 1) = true := Zt Zo
         clear h64
         exact z9_95
        ·have HS3 : Hid (e = Jb.chk (L.drop (i + 1)) (i + 1) r.day (c + 1)) := Zi (by rw [HS2.out, if_neg (fun g => g.elim hd h64)])
         have h641 : decide ((64 : Int) < (c : Int) + 1) = false := Zf Zo
         clear h64 HS2
         go_wp2_with (first | ((with_reducible refine g_offw ?_); refine a_offw ?_) | ((first | (go_at_call 47; with_reducible refine (Q1 _).mono ?_) | (go_at_call 48; with_reducible refine (Q2 _).mono ?_)); rintro e9 w2 ⟨rfl, hL⟩; replace HM := HM.call hL; clear hL) | ((with_reducible refine g_ld ?_); refine a_ld HM ?_) | ((with_reducible refine g_st ?_); refine a_st HM ?_; clear HM; intro w1 HM) | ((with_reducible refine g_al ?_); refine a_al HM ?_; clear HM; intro bk w1 HM))
         go_roundw
         case rel => exact ⟨i + 1, c + 1, r.day, rfl, by go_num, by go_num, by omega, by omega, HS3, HM.pick⟩
         case measure => simp [intOf]; omega
      ·have h71 : (r.kd == 7) = false := Zb h7
       have HS2 : Hid (e = Jb.chk (L.drop (i + 1)) (i + 1) last c) := Zi (by rw [HS1.out, if_neg (fun g => h8 g.1), if_neg h7])
       clear HS1 h8 h7
       go_wp2_with (first | ((with_reducible refine g_offw ?_); refine a_offw ?_) | ((first | (go_at_call 47; with_reducible refine (Q1 _).mono ?_) | (go_at_call 48; with_reducible refine (Q2 _).mono ?_)); rintro e9 w2 ⟨rfl, hL⟩; replace HM := HM.call hL; clear hL) | ((with_reducible refine g_ld ?_); refine a_ld HM ?_) | ((with_reducible refine g_st ?_); refine a_st HM ?_; clear HM; intro w1 HM) | ((with_reducible refine g_al ?_); refine a_al HM ?_; clear HM; intro bk w1 HM))
       exact z9_94
  ·obtain rfl : i = L.length := by omega
   obtain rfl : e = 0 := HD.out.trans (Jb.chk_end (Nat.le_refl _) _ _)
   go_wp2_with fail
   exact YPgbe2
theorem jerr_any (sv : Value) (L : List JR) (k : Int) (w : World) (hR : RdR w sv L) :
    Calls Tryz.prog 29 #[sv, .int .i64 k] w fun e w' => e = .returned (.int .i64 (Jb.err L k)) ∧ Below w.heap.size w w' := by
 have HM := Mem.start w
 have C1 := fun w' hB => jcheck_any sv L w' (hR.below hB)
 have HE : Hid (Jb.err L k = if Jb.check L = 0 then (if (decide (1 ≤ k) && decide (k ≤ 2147483647)) = true then 0 else 240) else Jb.check L) := Zi rfl
 generalize Jb.err L k = e at *
 generalize Jb.check L = c at *
 by_cases hc : c = 0
 ·subst hc
  by_cases h1 : 1 ≤ k
  ·have d1 : decide (k < 1) = false := Zf Zo
   by_cases h2 : k ≤ 2147483647
   ·have d2 : decide ((2147483647 : Int) < k) = false := Zf Zo
    obtain rfl : e = 0 := by rw [HE.out, if_pos rfl, Zt h1, Zt h2]; rfl
    exact z9_96
   ·have d2 : decide ((2147483647 : Int) < k) = true := Zt Zo
    obtain rfl : e = 240 := by rw [HE.out, if_pos rfl, Zt h1, Zf h2]; rfl
    exact z9_96
  ·have d1 : decide (k < 1) = true := Zt Zo
   obtain rfl : e = 240 := by rw [HE.out, if_pos rfl, Zf h1]; rfl
   exact z9_96
 ·obtain rfl : e = c := by rw [HE.out, if_neg hc]
  have hc1 : (e != 0) = true := bne_iff_ne.2 hc
  clear HE hc
  exact z9_97
end
section
theorem z9_98 {P : Prop} (h : P := by
 by_cases h : k.toNat ≤ L.length
 ·rw [Nat.min_eq_left h]
 ·rw [Nat.min_eq_right Zo, List.take_of_length_le Zo, List.take_length]) : P := h
end
section
open Jb
def Jb.take (L : List JR) (k : Int) (sel : JR → Bool) : List JR := (L.take k.toNat).filter sel
theorem Jb.err_ok {L : List JR} {k : Int} (h : Jb.err L k = 0) : L.length ≤ 4096 ∧ 1 ≤ k ∧ k ≤ 2147483647 := by
 unfold Jb.err at h
 by_cases hc : Jb.check L = 0
 ·rw [if_pos hc, known_w] at h
  have hk : (decide (1 ≤ k) && decide (k ≤ 2147483647)) = true := by
   cases hk : (decide (1 ≤ k) && decide (k ≤ 2147483647)) with
   | true => rfl
   | false => rw [hk] at h; cases h
  simp only [Bool.and_eq_true, decide_eq_true_eq] at hk
  refine ⟨?_, hk.1, hk.2⟩
  unfold Jb.check at hc
  by_cases hl : 4096 < L.length
  ·rw [if_pos hl] at hc; cases hc
  ·omega
 ·rw [if_neg hc] at h; exact absurd h hc
theorem Jb.take_min (L : List JR) (k : Int) (sel : JR → Bool) {m : Nat} (hm : m = min k.toNat L.length) : Jb.take L k sel = (L.take m).filter sel := by
 unfold Jb.take
 rw [hm]
 congr 1
 exact z9_98
theorem RdS.nil0 (n : Nat) (w : World) : RdS n w (.slice none 0 0) [] := ⟨by simp, none, 0, rfl, Nat.le_refl _, .inl rfl⟩
theorem Jb.filt_step {α : Type} (L : List JR) (sel : JR → Bool) (f : JR → α) {i : Nat} {r : JR} (h : L[i]? = some r) : ((L.take (i + 1)).filter sel).map f = ((L.take i).filter sel).map f ++ (if sel r then [f r] else []) := by
 rw [List.take_add_one, h, List.filter_append, List.map_append]
 cases hs : sel r <;> simp [hs]
theorem Jb.filt_len {α : Type} (L : List JR) (sel : JR → Bool) (f : JR → α) {i : Nat} (hi : i ≤ 4096) : (((L.take i).filter sel).map f).length ≤ 4096 := by
 rw [List.length_map]
 refine Nat.le_trans (List.length_filter_le _ _) ?_
 rw [List.length_take]; omega
theorem below_seq {w w2 w3 : World} (h : Below w.heap.size w w2) (k : Below w2.heap.size w2 w3) : Below w.heap.size w w3 :=
 ⟨k.os.trans h.os, k.tape.trans h.tape, k.output.trans h.output, Nat.le_trans h.size k.size, fun b hb => (k.block b (Nat.lt_of_lt_of_le hb h.size)).trans (h.block b hb)⟩
theorem jr_el : elemB 25 59 189 1184 = true := by kernel_rfl
end
section
theorem YPgbe3 {P : Prop} (h : P := by
 refine k_mv 6 heldN ?_
 refine wpAnyL_done Zk ?_ _
 (go_wp2_with fail; refine bodyPost_ret (r_ct (b := b2) (k := 0) rfl rfl (HM.get Zl) lR) rfl (by exact ⟨rfl, HM.low⟩))) : P := h
theorem YPgbe1 {P : Prop} (h : P := by
 go_upto_region 1 with (first | ((with_reducible refine g_al ?_); refine a_al HM ?_; clear HM; intro bk w1 HM) | ((with_reducible refine g_bx ?_); refine a_bx HM ?_; clear HM; intro bk w1 HM))
 obtain ⟨b2, rfl⟩ := HM.nm0
 refine start_M [5] HM Zk (fun w0x H9 => ?_)
 replace HM := H9; clear H9
 refine k_fa 0 (heldE HM) ?_
 refine k_ld 1 [5, 6] (heldE HM) ?_
 refine k_fa 2 (heldE HM) ?_
 refine j_two 3 5 ?_ ?_
 ·refine j_ld HM ?_
  refine ⟨(heldE HM), ?_⟩
  refine k_bin 4 (heldE HM) ?_
  refine j_one 5 fun K9 hK9 => ?_
  refine j_st HM ?_; clear HM; intro w1 HM
  refine hK9 _ _ heldN ?_; clear hK9 K9
  exact YPgbe3
 ·refine j_st HM ?_; clear HM; intro w1 HM
  refine ⟨heldN, ?_⟩
  refine j_one 3 fun K9 hK9 => ?_
  refine j_ld HM ?_
  refine hK9 _ _ heldN ?_; clear hK9 K9
  refine k_bin 4 heldN ?_
  exact YPgbe3) : P := h
theorem z9_99 {P : Prop} (h : P := by
 clear hv h
 go_enter Tryz.func33, Tryz.ntmps33
 exact YPgbe1) : P := h
theorem z9_100 {P : Prop} (h : P := by
 clear hv h
 go_enter Tryz.func52, Tryz.ntmps52
 exact YPgbe1) : P := h
end
section
open Jb
theorem tk_o (r : JR) (v : Bool) (hv : v = decide (r.kd = 4)) (w : World) :
    Calls Tryz.prog 33 #[.agg r.c] w fun e w' => e = .returned (.tuple #[.agg r.o.c, .bool v]) ∧ Below w.heap.size w w' := by
 have HM := Mem.start w
 have lF := (JR.f_o r).la
 have lk := (JR.f_kd r).la
 have za0 := JO.za
 have sF := r.o.sa JO.zero.size
 have lR := r.o.la
 by_cases h : r.kd = 4
 ·obtain rfl : v = true := by rw [hv, Zt h]
  have hk : (r.kd == 4) = true := beq_iff_eq.2 h
  exact z9_99
 ·obtain rfl : v = false := by rw [hv, Zf h]
  have hk : (r.kd == 4) = false := Zb h
  exact z9_99
theorem tk_s (r : JR) (v : Bool) (hv : v = decide (r.kd = 6)) (w : World) :
    Calls Tryz.prog 52 #[.agg r.c] w fun e w' => e = .returned (.tuple #[.agg r.s.c, .bool v]) ∧ Below w.heap.size w w' := by
 have HM := Mem.start w
 have lF := (JR.f_s r).la
 have lk := (JR.f_kd r).la
 have za0 := JS.za
 have sF := r.s.sa JS.zero.size
 have lR := r.s.la
 by_cases h : r.kd = 6
 ·obtain rfl : v = true := by rw [hv, Zt h]
  have hk : (r.kd == 6) = true := beq_iff_eq.2 h
  exact z9_100
 ·obtain rfl : v = false := by rw [hv, Zf h]
  have hk : (r.kd == 6) = false := Zb h
  exact z9_100
end
end Go.Proofs.YtkiempioeffhbaaGreatDoor
