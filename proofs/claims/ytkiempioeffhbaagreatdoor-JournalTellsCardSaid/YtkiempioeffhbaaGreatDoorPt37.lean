/- Walks. -/
import Derived.Test.YtkiempioeffhbaaGreatDoorPt32
import Derived.Test.YtkiempioeffhbaaGreatDoorPt36
namespace Go.Proofs.YtkiempioeffhbaaGreatDoor
set_option maxHeartbeats 16000000
open Go.RowKit
set_option maxRecDepth 8000
set_option linter.unusedSimpArgs false
set_option linter.unusedVariables false
section
theorem z9_164 {P : Prop} (h : P := by
 obtain rfl : i = 1 := by omega
 obtain rfl : v = true := by
  rcases HI.out with h | h
  ·omega
  ·exact h
 go_wp2_with fail
 go_ret
 exact ⟨rfl, HM.low⟩) : P := h
end
section
open Jb
theorem racheck1 (x : JA) (hw : x.wf) (sv : Value) (w : World) (hR : RdS 76 w sv [x.c]) :
    Calls Tryz.prog 79 #[sv] w fun e w' => e = .returned (.int .i64 (if x.right = true then 0 else 170)) ∧ Below w.heap.size w w' := by
 have HM := Mem.start w
 obtain ⟨A, cap, rfl⟩ := hR.form9
 have HR := Zi hR
 have za0 := JA.za
 have sx := x.sa JA.zero.size
 have lx := x.la
 have C1 := fun w => ract_any x hw w
 have MK : ∀ w, RdS 76 w (.slice A 1 cap) [x.c] → x.right = true → Calls Tryz.prog 103 #[.slice A 1 cap] w fun e w' => (∃ s m, e = .returned s ∧ Hid (As.Rd w' s [m]) ∧ Hid (As.err [m] = 0)) ∧ Below w.heap.size w w' := fun w hR hv => ramk_any x _ w hR hv
 generalize x.right = v at *
 clear hR
 go_enter Tryz.func79, Tryz.ntmps79
 go_wp2_with fail
 go_loopw [3] (fun iv wr => ∃ (i : Nat), iv = .int .i64 (i : Nat) ∧ i ≤ 1 ∧ Hid (i = 0 ∨ v = true) ∧ Mem w [] [] wr) (fun iv _ => 1 - (intOf iv).toNat)
 case atStart => exact ⟨0, rfl, by omega, Zi (.inl rfl), HM⟩
 case round =>
  clear HM
  obtain ⟨i, rfl, hi, HI, HM⟩ := hrel
  by_cases hlt : i < 1
  ·have hlt1 : (i : Int) < 1 := by omega
   obtain ⟨b, off, cs, rfl, HB, l0, -⟩ := HR.out.one1 (T := 47) Zk Zk x.size Zd hlt
   cases v with
   | true =>
    go_wp2_with (first | (go_at_call 102; (with_reducible refine Zc HM (C1 _) ?_; clear HM; intro w2 HM)) | ((with_reducible refine g_ld ?_); refine a_ld HM ?_))
    go_roundw
    case rel => exact ⟨i + 1, by go_num, by omega, Zi (.inr (by trivial)), HM.pick⟩
    case measure => simp [intOf]; omega
   | false =>
    go_wp2_with (first | (go_at_call 102; (with_reducible refine Zc HM (C1 _) ?_; clear HM; intro w2 HM)) | ((with_reducible refine g_ld ?_); refine a_ld HM ?_))
    go_ret
    exact ⟨rfl, HM.low⟩
  ·obtain rfl : i = 1 := by omega
   obtain rfl : v = true := by
    rcases HI.out with h | h
    ·omega
    ·exact h
   go_wp2_with (first | (go_at_call 103; refine (MK _ (HR.out.below HM.low) rfl).mono ?_; rintro e9 w2 ⟨⟨s9, m9, rfl, HS9, HE9⟩, hL⟩; replace HM := HM.call hL; clear hL) | (go_at_call 100; refine (rcheck_any s9 [m9] _ HS9.out 0 (Zi HE9.out.symm)).mono ?_; rintro e9 w2 ⟨rfl, hL⟩; replace HM := HM.call hL; clear hL))
   go_ret
   exact ⟨rfl, HM.low⟩
theorem rpcheck1 (x : JE) (hw : x.wf) (sv : Value) (w : World) (hR : RdS 10 w sv [x.c]) :
    Calls Tryz.prog 80 #[sv] w fun e w' => e = .returned (.int .i64 (if x.right = true then 0 else 180)) ∧ Below w.heap.size w w' := by
 have HM := Mem.start w
 obtain ⟨A, cap, rfl⟩ := hR.form9
 have HR := Zi hR
 have za0 := JE.za
 have sx := x.sa JE.zero.size
 have lx := x.la
 have C1 := fun w => rent_any x hw w
 have MK : ∀ w, RdS 10 w (.slice A 1 cap) [x.c] → x.right = true → Calls Tryz.prog 105 #[.slice A 1 cap] w fun e w' => (∃ s m, e = .returned s ∧ Hid (As.Rd w' s [m]) ∧ Hid (As.err [m] = 0)) ∧ Below w.heap.size w w' := fun w hR hv => rpmk_any x _ w hR hv
 generalize x.right = v at *
 clear hR
 go_enter Tryz.func80, Tryz.ntmps80
 go_wp2_with fail
 go_loopw [3] (fun iv wr => ∃ (i : Nat), iv = .int .i64 (i : Nat) ∧ i ≤ 1 ∧ Hid (i = 0 ∨ v = true) ∧ Mem w [] [] wr) (fun iv _ => 1 - (intOf iv).toNat)
 case atStart => exact ⟨0, rfl, by omega, Zi (.inl rfl), HM⟩
 case round =>
  clear HM
  obtain ⟨i, rfl, hi, HI, HM⟩ := hrel
  by_cases hlt : i < 1
  ·have hlt1 : (i : Int) < 1 := by omega
   obtain ⟨b, off, cs, rfl, HB, l0, -⟩ := HR.out.one1 (T := 49) Zk Zk x.size Zd hlt
   cases v with
   | true =>
    go_wp2_with (first | (go_at_call 104; (with_reducible refine Zc HM (C1 _) ?_; clear HM; intro w2 HM)) | ((with_reducible refine g_ld ?_); refine a_ld HM ?_))
    go_roundw
    case rel => exact ⟨i + 1, by go_num, by omega, Zi (.inr (by trivial)), HM.pick⟩
    case measure => simp [intOf]; omega
   | false =>
    go_wp2_with (first | (go_at_call 104; (with_reducible refine Zc HM (C1 _) ?_; clear HM; intro w2 HM)) | ((with_reducible refine g_ld ?_); refine a_ld HM ?_))
    go_ret
    exact ⟨rfl, HM.low⟩
  ·obtain rfl : i = 1 := by omega
   obtain rfl : v = true := by
    rcases HI.out with h | h
    ·omega
    ·exact h
   go_wp2_with (first | (go_at_call 105; refine (MK _ (HR.out.below HM.low) rfl).mono ?_; rintro e9 w2 ⟨⟨s9, m9, rfl, HS9, HE9⟩, hL⟩; replace HM := HM.call hL; clear hL) | (go_at_call 100; refine (rcheck_any s9 [m9] _ HS9.out 0 (Zi HE9.out.symm)).mono ?_; rintro e9 w2 ⟨rfl, hL⟩; replace HM := HM.call hL; clear hL))
   go_ret
   exact ⟨rfl, HM.low⟩
theorem robook1 (x : JO) (hw : x.wf) (sv : Value) (w : World) (hR : RdS 11 w sv [x.c]) :
    Calls Tryz.prog 15 #[sv] w fun e w' => e = .returned (.int .i64 (if x.right = true then 0 else 230)) ∧ Below w.heap.size w w' := by
 have HM := Mem.start w
 obtain ⟨A, cap, rfl⟩ := hR.form9
 have HR := Zi hR
 have za0 := JO.za
 have sx := x.sa JO.zero.size
 have lx := x.la
 have C1 := fun w => rcheck23_any x hw w
 generalize x.right = v at *
 clear hR
 go_enter Tryz.func15, Tryz.ntmps15
 go_wp2_with fail
 go_loopw [3] (fun iv wr => ∃ (i : Nat), iv = .int .i64 (i : Nat) ∧ i ≤ 1 ∧ Hid (i = 0 ∨ v = true) ∧ Mem w [] [] wr) (fun iv _ => 1 - (intOf iv).toNat)
 case atStart => exact ⟨0, rfl, by omega, Zi (.inl rfl), HM⟩
 case round =>
  clear HM
  obtain ⟨i, rfl, hi, HI, HM⟩ := hrel
  by_cases hlt : i < 1
  ·have hlt1 : (i : Int) < 1 := by omega
   have hi0 : decide ((0 : Int) < i) = false := Zf Zo
   have hi0n : decide (0 < i) = false := Zf Zo
   obtain ⟨b, off, cs, rfl, HB, l0, -⟩ := HR.out.one1 (T := 53) Zk Zk x.size Zd hlt
   cases v with
   | true =>
    go_upto_region 9 with (first | (go_at_call 34; (with_reducible refine Zc HM (C1 _) ?_; clear HM; intro w2 HM)) | ((with_reducible refine g_ld ?_); refine a_ld HM ?_))
    refine start_M [] HM Zk (fun w0x H9 => ?_)
    replace HM := H9; clear H9
    refine k_mv 0 (heldE HM) ?_
    refine k_bin 1 (heldE HM) ?_
    refine k_mv 2 (heldE HM) ?_
    refine k_off 3 (heldE HM) ?_
    refine k_off 4 (heldE HM) ?_
    refine k_off 5 (heldE HM) ?_
    refine k_off 6 (heldE HM) ?_
    refine k_off 7 (heldE HM) ?_
    refine k_off 8 (heldE HM) ?_
    refine k_off 9 (heldE HM) ?_
    refine k_off 10 (heldE HM) ?_
    refine k_off 11 (heldE HM) ?_
    refine k_off 12 (heldE HM) ?_
    refine k_off 13 (heldE HM) ?_
    refine k_off 14 (heldE HM) ?_
    refine k_pick 15 (heldE HM) ?_
    refine wpAnyL_done Zk ?_ _
    (go_wp2_with fail; go_roundw; (case rel => exact ⟨i + 1, by go_num, by omega, Zi (.inr (by trivial)), HM.pick⟩); (case measure => simp [intOf]; omega))
   | false =>
    go_wp2_with (first | (go_at_call 34; (with_reducible refine Zc HM (C1 _) ?_; clear HM; intro w2 HM)) | ((with_reducible refine g_ld ?_); refine a_ld HM ?_))
    go_ret
    exact ⟨rfl, HM.low⟩
  ·exact z9_164
end
end Go.Proofs.YtkiempioeffhbaaGreatDoor
