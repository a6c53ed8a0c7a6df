/- Walks. -/
import Derived.Test.YtkiempioeffhbaaGreatDoorPg44
namespace Go.Proofs.YtkiempioeffhbaaGreatDoor
set_option maxHeartbeats 16000000
open Go.RowKit
set_option maxRecDepth 8000
set_option linter.unusedSimpArgs false
set_option linter.unusedVariables false
section
theorem z9_153 {P : Prop} (h : P := by
 obtain ⟨h1, h2⟩ := Sc.md_in (v := v) (n := n) Zo
 exact ⟨(Sc.md v n).toNat, by omega, Zi Zo⟩) : P := h
theorem z9_154 {P : Prop} (h : P := by
 rw [g1] at g2
 injection g2 with g2
 injection g2 with g2
 exact g2.symm) : P := h
theorem z9_155 {P : Prop} (h : P := by
 refine k_pick 18 (heldE HM) ?_
 refine wpAnyL_done Zk ?_ _
 go_wp2_with fail
 go_roundw
 case rel => exact ⟨j + 1, as_, rfl, by go_num, by omega, by omega, HST2, HM⟩
 case measure => simp [intOf]; omega) : P := h
end
section
open Jb
theorem Sc.md_nat (v : Int) {n : Nat} (h : 1 ≤ n) : ∃ m : Nat, m < n ∧ Hid ((m : Int) = Sc.md v n) := by
 exact z9_153
theorem jcorr_any (A : Option Addr) (xs : List Int) (c0 : Nat) (k : Int) (W : World) (hI : IntsAt W A xs) (hxl : xs.length ≤ 9223372036854775807) (_ : -9223372036854775808 ≤ k) (_ : k < 9223372036854775808) :
    Calls Tryz.prog 3 #[.slice A xs.length c0, .int .i64 k] W fun e w' => e = .returned (.bool true) ∧ Below W.heap.size W w' := by
 have HM := Mem.start W
 have HI := Zi hI
 clear hI
 go_enter Tryz.func3, Tryz.ntmps3
 go_upto_region 2 with (go_at_call 7; (with_reducible refine (snew_any _ _ _ _).mono ?_); rintro e9 w2 ⟨tb, rfl, HM1⟩; replace HM := HM.join HM1; clear HM1)
 replace HM : Mem W [] [(tb, #[Value.slice A xs.length c0, Value.int IntKind.i64 0])] w2 := HM
 have HC : Hid (TapeC W 0 #[.slice A xs.length c0, .int .i64 0]) := ⟨A, xs, c0, 0, rfl, by omega, by omega, HI.out, hxl⟩
 clear HI
 go_wp2_with fail
 refine (ssetup_new (tb := tb) HM .here HC.out (Below.refl _ _) Zs).mono ?_
 rintro e9 w3 ⟨u, FK, m', c', B, rfl, HS, hc, HM1⟩
 replace HM := HM.joinT .here HM1
 replace HM : Mem W [] ((tb, c') :: B) w3 := HM.swapA
 clear HM1 HC
 go_wp2_with fail
 refine (sjournal_new (tb := tb) HM .here hc (Below.refl _ _) Zs u FK 30 Zd Zd HS).mono ?_
 rintro e9 w4 ⟨s, l, day, last, B2, m2, c2, rfl, HSl, HJ, h3, hc2, HM2⟩
 replace HM := HM.joinT .here HM2
 have hll := HJ.len
 have HW := Zi HJ.wf
 have HR := Zi (HSl.rd HM (fun p hp => List.mem_append_left _ hp))
 have HRR : Hid (RdR w4 s l) := Zi ⟨HR.out, HW.out, by omega⟩
 have HB := Zi HM.low
 have hck := HJ.check
 have hat := Zi (Jb.chk_at l 0 (-1) 0 HJ.ok)
 obtain ⟨m, hm, HZ⟩ := Sc.md_nat k (n := l.length) Zo
 have hm1 : (m : Int) < l.length := by omega
 have herr : Jb.err l (1 + (m : Int)) = 0 := by
  unfold Jb.err Jb.known
  rw [hck, if_pos rfl, Zt (show 1 ≤ 1 + (m : Int) by omega), Zt (show 1 + (m : Int) ≤ 2147483647 by omega)]; rfl
 have C1 := fun w' hB => jclos_any s l (1 + (m : Int)) w' (HRR.out.below hB)
 rw [herr, if_pos rfl] at C1
 clear HM HSl HM2 hc2 HS hc HJ hck
 have HM := Mem.start w4
 obtain ⟨As, cap, rfl⟩ := HRR.out.form
 go_wp2_with fail
 refine (smod_any k l.length m _ Zo Zo HZ).mono ?_
 rintro e9 w5 ⟨rfl, rfl⟩
 go_wp2_with fail
 refine (C1 _ HM.low).mono ?_
 rintro e9 w5 ⟨⟨s7, rfl, HX⟩, hB2⟩
 obtain ⟨M, hM⟩ : ∃ M, M = l.take (m + 1) := ⟨_, rfl⟩
 have hMl : M.length = m + 1 := by rw [hM, List.length_take]; omega
 have hcl : Jb.clos l (1 + (m : Int)) = Jb.clo M 0 [] := by rw [hM]; exact Jb.clos_min l _ Zo
 rw [hcl] at HX
 obtain ⟨O, hO⟩ : ∃ O, O = Jb.clo M 0 [] := ⟨_, rfl⟩
 rw [← hO] at HX
 have hOl : O.length ≤ 41 := by
  have := Jb.clo_len M 0 []
  rw [← hO] at this
  simp only [List.length_nil] at this
  omega
 obtain ⟨AX, cx, rfl⟩ := HX.out.form1
 rw [List.length_map] at *
 have HRR5 := Zi (HRR.out.below hB2)
 have HB5 := Zi (below_seq HB.out hB2)
 have HO := Zi hO
 have HMl := Zi hMl
 have HM9 := Zi hM
 clear HM hB2 C1 hM hO hcl HR HRR HB
 have HM := Mem.start w5
 go_wp2_with fail
 go_loopw [9, 10] (fun nv iv wr => ∃ (i n : Nat), nv = .int .i64 (n : Nat) ∧ iv = .int .i64 (i : Nat) ∧ i ≤ m + 1 ∧ n ≤ i ∧ n ≤ O.length ∧ Hid (O.drop n = Jb.clo (M.drop i) i []) ∧ Mem w5 [] [] wr) (fun _ iv _ => m + 1 - (intOf iv).toNat)
 case atStart => exact ⟨0, 0, rfl, rfl, by omega, by omega, by omega, Zi (by rw [HO.out]; rfl), HM⟩
 case round =>
  clear HM
  obtain ⟨i, n, rfl, rfl, hi, hni, hnO9, HD, HM⟩ := hrel
  by_cases hlt : i < m + 1
  ·have hlt1 : (i : Int) < 1 + (m : Int) := by omega
   obtain ⟨r, hr⟩ : ∃ r, M[i]? = some r := ⟨_, List.getElem?_eq_getElem (by rw [HMl.out]; exact hlt)⟩
   have hrl : l[i]? = some r := by
    have h := hr
    rw [HM9.out, List.getElem?_take_of_lt hlt] at h
    exact h
   obtain ⟨b, off, cs, rfl, HBk, lr, hin, hwf⟩ := HRR5.out.at_ hrl
   have lk : LA 3 cs (off + i * 189) (.int .i64 r.kd) := by simpa using (JR.f_kd r).in_ Zk hin.out (by decide : (0 : Nat) < 189)
   have ld : LA 3 cs (off + i * 189 + 2) (.int .i64 r.day) := (JR.f_day r).in_ Zk hin.out Zd
   have HRI := Zi hr
   have hil : (i : Int) < l.length := by omega
   clear lr hwf hin hr hrl
   by_cases h7 : r.kd = 7
   case neg =>
    have h71 : (r.kd != 7) = true := bne_iff_ne.2 h7
    have HD2 := Zi (HD.out.trans (Jb.clo_other HRI.out h7))
    clear h7
    go_wp2_with ((with_reducible refine g_ld ?_); refine a_ld HM ?_)
    go_roundw
    case rel => exact ⟨i + 1, n, rfl, by go_num, by omega, by omega, hnO9, HD2, HM⟩
    case measure => simp [intOf]; omega
   case pos =>
    have h71 : (r.kd != 7) = false := bne_eq_false_iff_eq.2 h7
    have HD2 := Zi (HD.out.trans (Jb.clo_close HRI.out h7))
    clear h7
    obtain ⟨C, hC⟩ : ∃ C, C = Jb.corA (M.drop (i + 1)) (i + 1) ⟨r.day, ((i + 1 : Nat) : Int), ((i + 1 : Nat) : Int)⟩ := ⟨_, rfl⟩
    have HC0 := Zi hC
    have HD3 := HD2
    rw [← hC] at HD3
    clear hC HD2 HD
    go_wp2_with ((with_reducible refine g_ld ?_); refine a_ld HM ?_)
    go_loopw [11, 12] (fun av jv wr => ∃ (j : Nat) (as_ : Int), av = .int .i64 as_ ∧ jv = .int .i64 (j : Nat) ∧ i + 1 ≤ j ∧ j ≤ m + 1 ∧ Hid (C = Jb.corA (M.drop j) j ⟨r.day, ((i + 1 : Nat) : Int), as_⟩) ∧ Mem w5 [] [] wr) (fun _ jv _ => m + 1 - (intOf jv).toNat)
    case atStart => exact ⟨i + 1, ((i + 1 : Nat) : Int), by first | go_num | (congr 1; omega), by first | go_num | (congr 1; omega), by omega, by omega, HC0, HM⟩
    case round =>
     clear HM
     obtain ⟨j, as_, rfl, rfl, hj1, hj2, HCJ, HM⟩ := hrel
     by_cases hjt : j < m + 1
     ·have hjt1 : (j : Int) < 1 + (m : Int) := by omega
      obtain ⟨r2, hr2⟩ : ∃ r2, M[j]? = some r2 := ⟨_, List.getElem?_eq_getElem (by rw [HMl.out]; exact hjt)⟩
      have hrl : l[j]? = some r2 := by
       have h := hr2
       rw [HM9.out, List.getElem?_take_of_lt hjt] at h
       exact h
      obtain ⟨b2, off2, cs2, e2, HBk2, lr, hin, hwf⟩ := HRR5.out.at_ hrl
      injection e2 with e2
      injection e2 with e2 e3
      subst e2 e3
      have ecs : cs2 = cs := by
       obtain ⟨t1, f1, g1⟩ := HBk.out
       obtain ⟨t2, f2, g2⟩ := HBk2.out
       exact z9_154
      subst ecs
      have lk2 : LA 3 cs2 (off + j * 189) (.int .i64 r2.kd) := by simpa using (JR.f_kd r2).in_ Zk hin.out (by decide : (0 : Nat) < 189)
      have ld2 : LA 3 cs2 (off + j * 189 + 2) (.int .i64 r2.day) := (JR.f_day r2).in_ Zk hin.out Zd
      have HST := Zi (HCJ.out.trans (Jb.corA_step hr2 _))
      have hjl : (j : Int) < l.length := by omega
      clear lr hwf hin hr2 hrl HBk2
      by_cases h8 : r2.kd = 8
      case neg =>
       have h81 : (r2.kd == 8) = false := Zb h8
       have HST2 : Hid (C = Jb.corA (M.drop (j + 1)) (j + 1) ⟨r.day, ((i + 1 : Nat) : Int), as_⟩) := Zi (by rw [HST.out, if_neg (fun h => h8 h.1)])
       clear h8
       go_upto_region 16 with fail
       refine start_M2 [] HM (Sub.nil) Zk (fun w0x H9 => ?_)
       replace HM := H9; clear H9
       refine k_mv 0 (heldE HM) ?_
       refine k_mv 1 (heldE HM) ?_
       refine k_ia 2 (heldE HM) ?_
       refine k_fa 3 (heldE HM) ?_
       refine k_ld 4 [] (heldE HM) ?_
       refine k_bin 5 (heldE HM) ?_
       refine k_mv 6 (heldE HM) ?_
       refine k_off 7 (heldE HM) ?_
       refine k_off 8 (heldE HM) ?_
       refine k_off 9 (heldE HM) ?_
       refine k_off 10 (heldE HM) ?_
       refine k_off 11 (heldE HM) ?_
       refine k_off 12 (heldE HM) ?_
       refine k_off 13 (heldE HM) ?_
       refine k_off 14 (heldE HM) ?_
       refine k_off 15 (heldE HM) ?_
       refine k_off 16 (heldE HM) ?_
       refine k_off 17 (heldE HM) ?_
       exact z9_155
      case pos =>
       have h81 : (r2.kd == 8) = true := beq_iff_eq.2 h8
       by_cases hd : r2.day ≤ r.day
       case neg =>
        have hd1 : decide (r2.day ≤ r.day) = false := Zf hd
        have HST2 : Hid (C = Jb.corA (M.drop (j + 1)) (j + 1) ⟨r.day, ((i + 1 : Nat) : Int), as_⟩) := Zi (by rw [HST.out, if_neg (fun h => hd h.2)])
        clear h8 hd
        go_upto_region 16 with fail
        refine start_M2 [] HM (Sub.nil) Zk (fun w0x H9 => ?_)
        replace HM := H9; clear H9
        refine k_mv 0 (heldE HM) ?_
        refine k_mv 1 (heldE HM) ?_
        refine k_ia 2 (heldE HM) ?_
        refine k_fa 3 (heldE HM) ?_
        refine k_ld 4 [] (heldE HM) ?_
        refine k_bin 5 (heldE HM) ?_
        refine k_mv 6 (heldE HM) ?_
        refine k_mv 7 (heldE HM) ?_
        refine k_mv 8 (heldE HM) ?_
        refine k_ia 9 (heldE HM) ?_
        refine k_fa 10 (heldE HM) ?_
        refine k_ld 11 [] (heldE HM) ?_
        refine k_mv 12 (heldE HM) ?_
        refine k_mv 13 (heldE HM) ?_
        refine k_ia 14 (heldE HM) ?_
        refine k_fa 15 (heldE HM) ?_
        refine k_ld 16 [] (heldE HM) ?_
        refine k_bin 17 (heldE HM) ?_
        exact z9_155
       case pos =>
        have hd1 : decide (r2.day ≤ r.day) = true := Zt hd
        have HST2 : Hid (C = Jb.corA (M.drop (j + 1)) (j + 1) ⟨r.day, ((i + 1 : Nat) : Int), ((j + 1 : Nat) : Int)⟩) := Zi (by rw [HST.out, if_pos ⟨h8, hd⟩])
        clear h8 hd
        go_upto_region 16 with fail
        refine start_M2 [] HM (Sub.nil) Zk (fun w0x H9 => ?_)
        replace HM := H9; clear H9
        refine k_mv 0 (heldE HM) ?_
        refine k_mv 1 (heldE HM) ?_
        refine k_ia 2 (heldE HM) ?_
        refine k_fa 3 (heldE HM) ?_
        refine k_ld 4 [] (heldE HM) ?_
        refine k_bin 5 (heldE HM) ?_
        refine k_mv 6 (heldE HM) ?_
        refine k_mv 7 (heldE HM) ?_
        refine k_mv 8 (heldE HM) ?_
        refine k_ia 9 (heldE HM) ?_
        refine k_fa 10 (heldE HM) ?_
        refine k_ld 11 [] (heldE HM) ?_
        refine k_mv 12 (heldE HM) ?_
        refine k_mv 13 (heldE HM) ?_
        refine k_ia 14 (heldE HM) ?_
        refine k_fa 15 (heldE HM) ?_
        refine k_ld 16 [] (heldE HM) ?_
        refine k_bin 17 (heldE HM) ?_
        refine k_pick 18 (heldE HM) ?_
        refine wpAnyL_done Zk ?_ _
        go_wp2_with fail
        go_roundw
        case rel => exact ⟨j + 1, ((j + 1 : Nat) : Int), by first | go_num | (congr 1; omega), by go_num, by omega, by omega, HST2, HM⟩
        case measure => simp [intOf]; omega
     ·obtain rfl : j = m + 1 := by omega
      have hCe : C = ⟨r.day, ((i + 1 : Nat) : Int), as_⟩ := HCJ.out.trans (Jb.corA_end (by rw [HMl.out]; exact Nat.le_refl _) _)
      have hnO : O[n]? = some (⟨r.day, ((i + 1 : Nat) : Int), as_⟩ : JC) := by
       have h := congrArg (fun z => z[0]?) HD3
       simp only [List.getElem?_drop, List.getElem?_cons_zero, Nat.add_zero] at h
       rw [h, hCe]
      have hnl := (List.getElem?_eq_some_iff.1 hnO).1
      have HD4 : Hid (O.drop (n + 1) = Jb.clo (M.drop (i + 1)) (i + 1) []) := Zi (by
       have h := congrArg List.tail HD3
       rw [List.tail_drop] at h
       exact h)
      obtain ⟨b3, off3, cs3, cap3, e3, hb3, hc3⟩ := RdS.get HX.out (k := n) (c := JC.c ⟨r.day, ((i + 1 : Nat) : Int), as_⟩) (by rw [List.getElem?_map, hnO]; rfl)
      injection e3 with e31 e32 e33
      subst e31
      have k3 : LA 61 cs3 (off3 + n * 3) (.agg (JC.c ⟨r.day, ((i + 1 : Nat) : Int), as_⟩)) := la_in (n := 3) Zk Zk (JC.size _) hc3 Zd
      have HB3 := Zi hb3
      have E := JC.eq9 ⟨r.day, ((i + 1 : Nat) : Int), as_⟩ ⟨r.day, ((i + 1 : Nat) : Int), as_⟩
      rw [JC.b_self] at E
      have HBC := fun w => JC.build r.day ((i + 1 : Nat) : Int) as_ w
      have hdl : decide ((O.length : Int) ≤ n) = false := Zf Zo
      have hnl1 : (n : Int) < O.length := by omega
      clear hb3 hc3 e32 e33 hnO hCe HD3 HCJ
      have ek : ((i + 1 : Nat) : Int) = (i : Int) + 1 := by omega
      rw [ek] at k3 E
      have HBD : ∀ w, (Instr.build 61 #[(0, .int .i64 r.day), (1, .int .i64 ((i : Int) + 1)), (2, .int .i64 as_)]).run Tryz.prog w = .ok (.agg (JC.c ⟨r.day, (i : Int) + 1, as_⟩)) w := fun w => JC.build r.day ((i : Int) + 1) as_ w
      clear HBC ek
      go_upto_region 18 with fail
      refine start_M2 [] HM (Sub.nil) Zk (fun w0x H9 => ?_)
      replace HM := H9; clear H9
      refine k_mv 0 (heldE HM) ?_
      refine k_mv 1 (heldE HM) ?_
      refine k_pv 2 (heldE HM) ?_
      refine t_pure (i := 3) (v := .bool false) rfl rfl Zk (fun _ _ _ h => h) (heldE HM) Zv ?_ ?_; (focus (exact h_bin rfl Zw Zw (fun w9 => by go_simp; first | done | omega))); ((try simp only [Za]); (try simp only [Zx]); (try simp only [Zy]))
      refine k_mv 4 (heldE HM) ?_
      refine k_mv 5 (heldE HM) ?_
      refine k_mv 6 (heldE HM) ?_
      refine k_ia 7 (heldE HM) ?_
      refine k_ld 8 [] (heldE HM) ?_
      refine k_mv 9 (heldE HM) ?_
      refine k_mv 10 (heldE HM) ?_
      refine k_ia 11 (heldE HM) ?_
      refine k_fa 12 (heldE HM) ?_
      refine k_ld 13 [] (heldE HM) ?_
      refine k_mv 14 (heldE HM) ?_
      refine k_add 15 (heldE HM) ?_
      refine k_mv 16 (heldE HM) ?_
      refine t_pure (i := 17) (v := .agg (JC.c ⟨r.day, (i : Int) + 1, as_⟩)) rfl rfl Zk (fun _ _ _ h => h) (heldE HM) Zv ?_ ?_; (focus (exact h_bg3 rfl Zw Zw Zw HBD)); ((try simp only [Za]); (try simp only [Zx]); (try simp only [Zy]))
      refine t_eq (i := 18) (v := ?_) [] rfl rfl rfl Zk (fun _ _ _ h => h) (heldE HM) ?_ ?_; rotate_left 1; (focus ((refine y_cmps .neq false (.inr rfl) (E) rfl Zk (x := ?_) (y := ?_) (t := ?_) ?_ ?_ ?_ ?_; rotate_left 3; (focus rfl); (focus rfl); (focus ((conv => lhs; whnf) <;> rfl)); ((conv => lhs; whnf) <;> rfl)))); ((try simp only [Za]); (try simp only [Zx]); (try simp only [Zy]))
      refine k_pick 19 (heldE HM) ?_
      refine wpAnyL_done Zk ?_ _
      go_wp2_with fail
      go_roundw
      case rel => exact ⟨i + 1, n + 1, by go_num, by go_num, by omega, by omega, by omega, HD4, HM⟩
      case measure => simp [intOf]; omega
  ·obtain rfl : i = m + 1 := by omega
   have hnn : n = O.length := by
    have h := HD.out
    rw [List.drop_eq_nil_of_le (show M.length ≤ m + 1 by rw [HMl.out]; exact Nat.le_refl _)] at h
    have h2 := congrArg List.length h
    rw [List.length_drop, show (Jb.clo ([] : List JR) (m + 1) []).length = 0 from rfl] at h2
    omega
   subst hnn
   have hqq : ((O.length : Int) == O.length) = true := beq_self_eq_true _
   go_wp2_with (go_at_call 12; (with_reducible refine Zc HM (awake37_any _) ?_; clear HM; intro w2 HM))
   go_ret
   exact ⟨rfl, below_seq HB5.out HM.low⟩
end
end Go.Proofs.YtkiempioeffhbaaGreatDoor
