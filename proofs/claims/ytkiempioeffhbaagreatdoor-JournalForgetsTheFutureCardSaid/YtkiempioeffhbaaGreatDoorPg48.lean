/- Walks. -/
import Derived.Test.YtkiempioeffhbaaGreatDoorPg44
import Derived.Test.YtkiempioeffhbaaGreatDoorPg47
namespace Go.Proofs.YtkiempioeffhbaaGreatDoor
set_option maxHeartbeats 16000000
open Go.RowKit
set_option maxRecDepth 8000
set_option linter.unusedSimpArgs false
set_option linter.unusedVariables false
section
theorem z9_159 {P : Prop} (h : P := by
 obtain ⟨h1, h2⟩ := Sc.md_in (v := v) (n := n) Zo
 exact ⟨(Sc.md v n).toNat, by omega, Zi Zo⟩) : P := h
end
section
open Jb
theorem Sc.md_nat2 (v : Int) {n : Nat} (h : 1 ≤ n) : ∃ m : Nat, m < n ∧ Hid ((m : Int) = Sc.md v n) := by
 exact z9_159
theorem jforget_any (A : Option Addr) (xs : List Int) (c0 : Nat) (k : Int) (W : World) (hI : IntsAt W A xs) (hxl : xs.length ≤ 9223372036854775807) (_ : -9223372036854775808 ≤ k) (_ : k < 9223372036854775808) :
    Calls Tryz.prog 4 #[.slice A xs.length c0, .int .i64 k] W fun e w' => e = .returned (.bool true) ∧ Below W.heap.size W w' := by
 have HM := Mem.start W
 have HI := Zi hI
 clear hI
 go_enter Tryz.func4, Tryz.ntmps4
 go_upto_region 2 with (first | (go_at_call 7; (with_reducible refine (snew_any _ _ _ _).mono ?_); rintro e9 w2 ⟨tb, rfl, HM1⟩; replace HM := HM.join HM1; clear HM1) | ((with_reducible refine g_ld ?_); refine a_ld HM ?_))
 replace HM : Mem W [] [(tb, #[Value.slice A xs.length c0, Value.int IntKind.i64 0])] w2 := HM
 have HC : Hid (TapeC W 0 #[.slice A xs.length c0, .int .i64 0]) := ⟨A, xs, c0, 0, rfl, by omega, by omega, HI.out, hxl⟩
 clear HI
 go_wp2_with fail
 refine (ssetup_new (tb := tb) HM .here HC.out (Below.refl _ _) Zs).mono ?_
 rintro e9 w3 ⟨u, FK, m', c', B, rfl, HS, hc, HM1⟩
 replace HM := HM.joinT .here HM1
 replace HM : Mem W [] ((tb, c') :: B) w3 := HM.swapA
 clear HM1 HC
 go_wp2_with fail
 refine (sjournal_new (tb := tb) HM .here hc (Below.refl _ _) Zs u FK 24 Zd Zd HS).mono ?_
 rintro e9 w4 ⟨s, l, day, last, B2, m2, c2, rfl, HSl, HJ, h3, hc2, HM2⟩
 replace HM := HM.joinT .here HM2
 have hll := HJ.len
 have HW := Zi HJ.wf
 have HR := Zi (HSl.rd HM (fun p hp => List.mem_append_left _ hp))
 have HRR : Hid (RdR w4 s l) := Zi ⟨HR.out, HW.out, by omega⟩
 have HB := Zi HM.low
 have hck := HJ.check
 obtain ⟨m, hm, HZ⟩ := Sc.md_nat2 k (n := l.length) Zo
 have hm1 : (m : Int) < l.length := by omega
 have herr : Jb.err l (1 + (m : Int)) = 0 := Jb.err_in hck Zo Zo
 have herp : Jb.err (l.take (m + 1)) 1000 = 0 := Jb.err_in (Jb.check_pre hck _) Zo Zo
 have hbk := Jb.bk_pre hck HW.out hm
 obtain ⟨sv2, hrun, hrd⟩ := run_take HRR.out.1 jr_el (k := m + 1) (by rw [List.length_map]; omega)
 have ek : ((m + 1 : Nat) : Int) = 1 + (m : Int) := by omega
 rw [ek] at hrun
 have hpre : ∀ w', RdR w' s l → RdR w' sv2 (l.take (m + 1)) := by
  intro w' h
  refine ⟨?_, fun r hr => h.2.1 r (List.mem_of_mem_take hr), ?_⟩
  ·rw [List.map_take]; exact hrd w' h.1
  ·rw [List.length_take]; omega
 have HRUN := Zi hrun
 have C1 := fun w' (hB : Below w4.heap.size w4 w') => jclos_any s l (1 + (m : Int)) w' (HRR.out.below hB)
 have C2 := fun w' (hB : Below w4.heap.size w4 w') => jclos_any sv2 (l.take (m + 1)) 1000 w' (hpre w' (HRR.out.below hB))
 have C3 := fun w' (hB : Below w4.heap.size w4 w') => get_o s l (1 + (m : Int)) w' (HRR.out.below hB)
 have C4 := fun w' (hB : Below w4.heap.size w4 w') => get_o sv2 (l.take (m + 1)) 1000 w' (hpre w' (HRR.out.below hB))
 rw [herr, if_pos rfl] at C1
 rw [herp, if_pos rfl, Jb.clos_pre hm Zo] at C2
 rw [herr, if_pos rfl] at C3
 rw [herp, if_pos rfl, Jb.take_pre hm Zo] at C4
 obtain ⟨O, hO⟩ : ∃ O, O = (Jb.take l (1 + (m : Int)) (fun r => decide (r.kd = 4))).map (·.o) := ⟨_, rfl⟩
 have hOm : (Jb.take l (1 + (m : Int)) (fun r => decide (r.kd = 4))).map (fun r => r.o.c) = O.map JO.c := by rw [hO, List.map_map]; rfl
 rw [hOm] at C3 C4
 rw [← hO] at hbk
 have hOl : O.length ≤ 4096 := by
  rw [hO, List.length_map]
  exact Jb.take_len Zo
 obtain ⟨X, hX⟩ : ∃ X, X = Jb.clos l (1 + (m : Int)) := ⟨_, rfl⟩
 have hXl : X.length ≤ 100000 := by
  rw [hX, Jb.clos_min l (1 + (m : Int)) (m := m + 1) Zo]
  have := Jb.clo_len (l.take (m + 1)) 0 []
  rw [List.length_take] at this
  simp only [List.length_nil] at this
  omega
 rw [← hX] at C1 C2
 obtain ⟨As, cap, rfl⟩ := HRR.out.form
 have HBK := Zi hbk
 clear HM HSl HM2 hc2 HS hc HJ hck hrun hrd hpre herr herp hO hOm hX HR HW hbk ek
 have HM := Mem.start w4
 go_wp2_with fail
 refine (smod_any k l.length m _ Zo Zo HZ).mono ?_
 rintro e9 w5 ⟨rfl, rfl⟩
 go_wp2_with fail
 refine (C1 _ HM.low).mono ?_
 rintro e9 w5 ⟨⟨s1, rfl, HX1⟩, hB1⟩
 replace HM := HM.call hB1
 go_wp2_with (first | ((with_reducible refine g_sl ?_); refine a_sl ?_ (fun w9 => by simpa [Act.eval] using HRUN.out w9)) | ((with_reducible refine g_ld ?_); refine a_ld HM ?_))
 refine (C2 _ HM.low).mono ?_
 rintro e9 w6 ⟨⟨s2, rfl, HX2⟩, hB2⟩
 replace HM := HM.call hB2
 go_wp2_with fail
 refine (C3 _ HM.low).mono ?_
 rintro e9 w7 ⟨⟨s3, rfl, HO3⟩, hB3⟩
 replace HM := HM.call hB3
 go_wp2_with (first | ((with_reducible refine g_sl ?_); refine a_sl ?_ (fun w9 => by simpa [Act.eval] using HRUN.out w9)) | ((with_reducible refine g_ld ?_); refine a_ld HM ?_))
 refine (C4 _ HM.low).mono ?_
 rintro e9 w8 ⟨⟨s4, rfl, HO4⟩, hB4⟩
 have HL8 := Zi (below_seq HB.out (HM.call hB4).low)
 have HA1 := Zi (((HX1.out.below hB2).below hB3).below hB4)
 have HA2 := Zi ((HX2.out.below hB3).below hB4)
 have HA3 := Zi (HO3.out.below hB4)
 have HA4 := HO4
 clear HM hB1 hB2 hB3 hB4 HX1 HX2 HO3 HO4 C1 C2 C3 C4 HRUN HRR HB
 have HM := Mem.start w8
 obtain ⟨A3, c3, e3⟩ := RdS.form1 HA3.out
 obtain ⟨A4, c4, e4⟩ := RdS.form1 HA4.out
 rw [List.length_map] at e3 e4
 subst e3 e4
 have hne : ((O.length : Int) != O.length) = false := by simp
 go_wp2_with (first | (go_at_call 14; refine (same37_any s1 s2 X _ (HA1.out.below HM.low) (HA2.out.below HM.low) hXl).mono ?_; rintro e9 w9 ⟨rfl, hL⟩; replace HM := HM.call hL; clear hL) | ((with_reducible refine g_ld ?_); refine a_ld HM ?_))
 clear hne
 go_loopw [15] (fun iv wr => ∃ (i : Nat), iv = .int .i64 (i : Nat) ∧ i ≤ O.length ∧ Mem w8 [] [] wr) (fun iv _ => O.length - (intOf iv).toNat)
 case atStart => exact ⟨0, rfl, by omega, HM⟩
 case round =>
  clear HM
  obtain ⟨i, rfl, hi, HM⟩ := hrel
  by_cases hlt : i < O.length
  ·have hlt1 : (i : Int) < O.length := by omega
   obtain ⟨x, hx⟩ : ∃ x, O[i]? = some x := ⟨_, List.getElem?_eq_getElem hlt⟩
   obtain ⟨hw, hr, hk⟩ := HBK.out.at_ hx
   obtain ⟨b1, off1, cs1, cp1, e1, hb1, hc1⟩ := RdS.get HA3.out (k := i) (c := x.c) (by rw [List.getElem?_map, hx]; rfl)
   obtain ⟨b2, off2, cs2, cp2, e2, hb2, hc2⟩ := RdS.get HA4.out (k := i) (c := x.c) (by rw [List.getElem?_map, hx]; rfl)
   injection e1 with e11 e12 e13
   injection e2 with e21 e22 e23
   subst e11 e21
   have k1 : LA 53 cs1 (off1 + i * 11) (.agg x.c) := la_in (n := 11) Zk Zk x.size hc1 Zd
   have k2 : LA 53 cs2 (off2 + i * 11) (.agg x.c) := la_in (n := 11) Zk Zk x.size hc2 Zd
   have k3 : LA 3 cs1 (off1 + i * 11 + 9) (.int .i64 x.kn) := LA.inRow x.f_kn Zk hc1 Zd
   have HB1 := Zi hb1
   have HB2 := Zi hb2
   have E := JO.eq9 x x
   rw [JO.b_self] at E
   have hgt : decide (1 + (m : Int) < x.kn) = false := Zf Zo
   clear hb1 hb2 hc1 hc2 e12 e13 e22 e23 hw hr hk
   rcases Nat.eq_zero_or_pos i with h0 | h0
   ·have hi0 : decide ((0 : Int) < i) = false := Zf Zo
    have hi0n : decide (0 < i) = false := Zf Zo
    clear h0 hx
    go_upto_region 13 with ((with_reducible refine g_ld ?_); refine a_ld HM ?_)
    refine start_M2 [] HM (Sub.nil) Zk (fun w0x H9 => ?_)
    replace HM := H9; clear H9
    refine k_mv 0 (heldE HM) ?_
    refine k_mv 1 (heldE HM) ?_
    refine k_ia 2 (heldE HM) ?_
    refine k_ld 3 [] (heldE HM) ?_
    refine k_mv 4 (heldE HM) ?_
    refine k_mv 5 (heldE HM) ?_
    refine k_ia 6 (heldE HM) ?_
    refine k_ld 7 [] (heldE HM) ?_
    refine t_eq (i := 8) (v := ?_) [] rfl rfl rfl Zk (fun _ _ _ h => h) (heldE HM) ?_ ?_; rotate_left 1; (focus ((refine y_cmps .neq false (.inr rfl) (E) rfl Zk (x := ?_) (y := ?_) (t := ?_) ?_ ?_ ?_ ?_; rotate_left 3; (focus rfl); (focus rfl); (focus ((conv => lhs; whnf) <;> rfl)); ((conv => lhs; whnf) <;> rfl)))); ((try simp only [Za]); (try simp only [Zx]); (try simp only [Zy]))
    refine k_mv 9 (heldE HM) ?_
    refine k_mv 10 (heldE HM) ?_
    refine k_mv 11 (heldE HM) ?_
    refine k_ia 12 (heldE HM) ?_
    refine k_fa 13 (heldE HM) ?_
    refine k_ld 14 [] (heldE HM) ?_
    refine k_mv 15 (heldE HM) ?_
    refine k_bin 16 (heldE HM) ?_
    refine k_pick 17 (heldE HM) ?_
    refine k_mv 18 (heldE HM) ?_
    refine k_mv 19 (heldE HM) ?_
    refine k_bin 20 (heldE HM) ?_
    refine k_mv 21 (heldE HM) ?_
    refine k_off 22 (heldE HM) ?_
    refine k_off 23 (heldE HM) ?_
    refine k_off 24 (heldE HM) ?_
    refine k_off 25 (heldE HM) ?_
    refine k_off 26 (heldE HM) ?_
    refine k_off 27 (heldE HM) ?_
    refine k_off 28 (heldE HM) ?_
    refine k_off 29 (heldE HM) ?_
    refine k_off 30 (heldE HM) ?_
    refine k_off 31 (heldE HM) ?_
    refine k_off 32 (heldE HM) ?_
    refine k_off 33 (heldE HM) ?_
    refine k_pick 34 (heldE HM) ?_
    refine k_pick 35 (heldE HM) ?_
    exact z9_105
   ·obtain ⟨j, rfl⟩ : ∃ j, i = j + 1 := ⟨i - 1, by omega⟩
    obtain ⟨y, hy⟩ : ∃ y, O[j]? = some y := ⟨_, List.getElem?_eq_getElem Zo⟩
    have hyx := HBK.out.lt hy hx
    obtain ⟨b3, off3, cs3, cp3, e3, hb3, hc3⟩ := RdS.get HA3.out (k := j) (c := y.c) (by rw [List.getElem?_map, hy]; rfl)
    injection e3 with e31 e32 e33
    injection e31 with e31
    injection e31 with e31 e34
    subst e31 e34
    have ecs : cs3 = cs1 := by
     obtain ⟨t1, f1, g1⟩ := HB1.out
     obtain ⟨t2, f2, g2⟩ := hb3
     exact z9_157
    subst ecs
    have k4 : LA 3 cs3 (off1 + j * 11 + 9) (.int .i64 y.kn) := LA.inRow y.f_kn Zk hc3 Zd
    have hge : decide (x.kn ≤ y.kn) = false := Zf Zo
    have hi0 : decide ((0 : Int) < ((j + 1 : Nat) : Int)) = true := Zt Zo
    have hj9 : j < 9223372036854775807 := by omega
    have hjl : (j : Int) < O.length := by omega
    clear h0 hx hy hyx hb3 hc3 e32 e33
    go_upto_region 13 with ((with_reducible refine g_ld ?_); refine a_ld HM ?_)
    refine start_M2 [] HM (Sub.nil) Zk (fun w0x H9 => ?_)
    replace HM := H9; clear H9
    refine k_mv 0 (heldE HM) ?_
    refine k_mv 1 (heldE HM) ?_
    refine k_ia 2 (heldE HM) ?_
    refine k_ld 3 [] (heldE HM) ?_
    refine k_mv 4 (heldE HM) ?_
    refine k_mv 5 (heldE HM) ?_
    refine k_ia 6 (heldE HM) ?_
    refine k_ld 7 [] (heldE HM) ?_
    refine t_eq (i := 8) (v := ?_) [] rfl rfl rfl Zk (fun _ _ _ h => h) (heldE HM) ?_ ?_; rotate_left 1; (focus ((refine y_cmps .neq false (.inr rfl) (E) rfl Zk (x := ?_) (y := ?_) (t := ?_) ?_ ?_ ?_ ?_; rotate_left 3; (focus rfl); (focus rfl); (focus ((conv => lhs; whnf) <;> rfl)); ((conv => lhs; whnf) <;> rfl)))); ((try simp only [Za]); (try simp only [Zx]); (try simp only [Zy]))
    refine k_mv 9 (heldE HM) ?_
    refine k_mv 10 (heldE HM) ?_
    refine k_mv 11 (heldE HM) ?_
    refine k_ia 12 (heldE HM) ?_
    refine k_fa 13 (heldE HM) ?_
    refine k_ld 14 [] (heldE HM) ?_
    refine k_mv 15 (heldE HM) ?_
    refine k_bin 16 (heldE HM) ?_
    refine k_pick 17 (heldE HM) ?_
    refine k_mv 18 (heldE HM) ?_
    refine k_mv 19 (heldE HM) ?_
    refine k_bin 20 (heldE HM) ?_
    refine k_mv 21 (heldE HM) ?_
    refine k_mv 22 (heldE HM) ?_
    refine k_mv 23 (heldE HM) ?_
    refine t_pure (i := 24) (v := .int .i64 (j : Nat)) rfl rfl Zk (fun _ _ _ h => h) (heldE HM) Zv ?_ ?_; (focus (exact h_bin rfl Zw Zw (v_prev9 hj9))); ((try simp only [Za]); (try simp only [Zx]); (try simp only [Zy]))
    refine k_ia 25 (heldE HM) ?_
    refine k_fa 26 (heldE HM) ?_
    refine k_ld 27 [] (heldE HM) ?_
    refine k_mv 28 (heldE HM) ?_
    refine k_mv 29 (heldE HM) ?_
    refine k_ia 30 (heldE HM) ?_
    refine k_fa 31 (heldE HM) ?_
    refine k_ld 32 [] (heldE HM) ?_
    refine k_bin 33 (heldE HM) ?_
    refine k_pick 34 (heldE HM) ?_
    refine k_pick 35 (heldE HM) ?_
    refine wpAnyL_done Zk ?_ _
    go_wp2_with fail
    go_roundw
    case rel => exact ⟨j + 1 + 1, by go_num, by omega, HM⟩
    case measure => simp [intOf]; omega
  ·obtain rfl : i = O.length := by omega
   go_wp2_with (first | (go_at_call 15; refine (robook_any O (1 + (m : Int)) HBK.out hOl _ _ (HA3.out.below HM.low)).mono ?_; rintro e9 w9 ⟨rfl, hL⟩; replace HM := HM.call hL; clear hL) | (go_at_call 12; (with_reducible refine Zc HM (awake37_any _) ?_; clear HM; intro w2 HM)) | ((with_reducible refine g_ld ?_); refine a_ld HM ?_))
   go_ret
   exact ⟨rfl, below_seq HL8.out HM.low⟩
end
end Go.Proofs.YtkiempioeffhbaaGreatDoor
