/- Walks. -/
import Derived.Test.YtkiempioeffhbaaGreatDoorPg22
namespace Go.Proofs.YtkiempioeffhbaaGreatDoor
set_option maxHeartbeats 16000000
open Go.RowKit
set_option maxRecDepth 8000
set_option linter.unusedSimpArgs false
set_option linter.unusedVariables false
section
theorem z9_66 {P : Prop} (h : P := by
 rw [Zf h, Zf Zo]) : P := h
theorem z9_67 {P : Prop} (h : P := by
 go_wp2_with (go_at_call 147; refine (C _).mono ?_; rintro e w' ⟨rfl, rfl⟩)
 go_ret
 exact ⟨rfl, rfl⟩) : P := h
end
section
open Jb
theorem pwithin_any (n lo hi : Int) (v : Bool) (hv : Hid (v = (decide (lo ≤ n) && decide (n ≤ hi)))) (w : World) :
    Calls Tryz.prog 118 #[.int .i64 n, .int .i64 lo, .int .i64 hi] w fun e w' => e = .returned (.bool v) ∧ w = w' := by
 go_enter Tryz.func118, Tryz.ntmps118
 by_cases h1 : lo ≤ n <;> by_cases h2 : n ≤ hi
 all_goals
  have HV : Hid (v = _) := hv
  have hv2 := HV.out
  simp only [h1, h2, decide_true, decide_false, Bool.and_true, Bool.and_false, Bool.false_and, Bool.true_and] at hv2
  subst hv2
  clear HV hv
  go_wp2
  go_ret
  exact ⟨rfl, rfl⟩
theorem Jb.code_w (s : ByteArray) : code s = (decide ((3 : Int) ≤ (s.size : Int)) && (decide ((s.size : Int) ≤ 3) && Jb.all (okc false) s)) := by
 unfold code
 rw [← Bool.and_assoc]
 congr 1
 by_cases h : s.size = 3
 ·rw [h]; rfl
 ·rw [Zf h]
  by_cases h2 : (3 : Int) ≤ (s.size : Int)
  ·rw [Zf (show ¬ (s.size : Int) ≤ 3 by omega), Bool.and_false]
  ·rw [Zf h2, Bool.false_and]
theorem Jb.paper_w (s : ByteArray) : paper s = (decide ((1 : Int) ≤ (s.size : Int)) && (decide ((s.size : Int) ≤ 12) && Jb.all (okc true) s)) := by
 unfold paper
 congr 1
 ·by_cases h : 1 ≤ s.size
  ·rw [Zt h, Zt Zo]
  ·exact z9_66
 ·congr 1
  by_cases h : s.size ≤ 12
  ·rw [Zt h, Zt Zo]
  ·exact z9_66
theorem pins_any (s : ByteArray) (hs : s.size ≤ 9223372036854775807) (w : World) :
    Calls Tryz.prog 120 #[.string s] w fun e w' => e = .returned (.bool (paper s)) ∧ w = w' := by
 have C := fun w => pcap_any s 1 12 true hs (paper s) (Zi (paper_w s)) w
 generalize paper s = v at *
 go_enter Tryz.func120, Tryz.ntmps120
 exact z9_67
theorem pcur_any (s : ByteArray) (hs : s.size ≤ 9223372036854775807) (w : World) :
    Calls Tryz.prog 119 #[.string s] w fun e w' => e = .returned (.bool (code s)) ∧ w = w' := by
 have C := fun w => pcap_any s 3 3 false hs (code s) (Zi (code_w s)) w
 generalize code s = v at *
 go_enter Tryz.func119, Tryz.ntmps119
 exact z9_67
theorem je_right_w (x : JE) : x.right = (((decide (1 ≤ (x.key.size : Int)) && decide ((x.key.size : Int) ≤ 64)) && (decide (1 ≤ x.kn) && decide (x.kn ≤ 2147483647))) && (if x.vd then JE.b x { JE.zero with key := x.key, kn := x.kn, vd := true } else ((decide (0 ≤ x.day) && decide (x.day ≤ x.stl)) && (decide (x.stl ≤ 73048) && ((decide ((-1000000000000000) ≤ x.amt) && decide (x.amt ≤ 1000000000000000)) && code x.cur))) && (if x.kd = 1 then paper x.ins && (decide (x.qty ≠ 0) && (decide ((-1000000000000000) ≤ x.qty) && decide (x.qty ≤ 1000000000000000))) else if x.kd = 2 then decide (x.ins.size = 0) && decide (x.qty = 0) else false))) := by
 unfold JE.right
 congr 1
 ·rw [← Bool.and_assoc]
  congr 1
  by_cases h : 1 ≤ x.key.size <;> by_cases h2 : x.key.size ≤ 64
  ·rw [Zt h, Zt h2, Zt Zo, Zt Zo]
  ·rw [Zt h, Zf h2, Zt Zo, Zf Zo]
  ·rw [Zf h, Zt h2, Zf Zo, Zt Zo]
  ·rw [Zf h, Zf h2, Zf Zo, Zf Zo]
 ·congr 1
  congr 1
  simp only [Bool.and_assoc]
theorem pval_any (x : JE) (hw : x.wf) (w : World) :
    Calls Tryz.prog 91 #[.agg x.c] w fun e w' => e = .returned (.bool x.right) ∧ Below w.heap.size w w' := by
 have HM := Mem.start w
 have flkd := (JE.f_kd x).la
 have flkey := (JE.f_key x).la
 have flday := (JE.f_day x).la
 have flstl := (JE.f_stl x).la
 have flins := (JE.f_ins x).la
 have flqty := (JE.f_qty x).la
 have flamt := (JE.f_amt x).la
 have flcur := (JE.f_cur x).la
 have flkn := (JE.f_kn x).la
 have flvd := (JE.f_vd x).la
 have lx := x.la
 have E1 := JE.eq9 x { JE.zero with key := x.key, kn := x.kn, vd := true }
 have HB := fun w => JE.bld (parts := #[(1, .string x.key), (8, .int .i64 x.kn), (9, .bool true)]) (r := { JE.zero with key := x.key, kn := x.kn, vd := true }) (by simp [Value.cells]) (by rw [JE.rows]; rfl) w
 generalize JE.c { JE.zero with key := x.key, kn := x.kn, vd := true } = Y9 at E1 HB
 have HV : Hid (x.right = (((decide (1 ≤ (x.key.size : Int)) && decide ((x.key.size : Int) ≤ 64)) && (decide (1 ≤ x.kn) && decide (x.kn ≤ 2147483647))) && (if x.vd then JE.b x { JE.zero with key := x.key, kn := x.kn, vd := true } else ((decide (0 ≤ x.day) && decide (x.day ≤ x.stl)) && (decide (x.stl ≤ 73048) && ((decide ((-1000000000000000) ≤ x.amt) && decide (x.amt ≤ 1000000000000000)) && code x.cur))) && (if x.kd = 1 then paper x.ins && (decide (x.qty ≠ 0) && (decide ((-1000000000000000) ≤ x.qty) && decide (x.qty ≤ 1000000000000000))) else if x.kd = 2 then decide (x.ins.size = 0) && decide (x.qty = 0) else false)))) := Zi (je_right_w x)
 generalize x.right = v at HV ⊢
 have C1 := fun w => belt (pwithin_any (x.key.size : Int) 1 64 (decide (1 ≤ (x.key.size : Int)) && decide ((x.key.size : Int) ≤ 64)) (Zi rfl) w)
 have C2 := fun w => belt (pwithin_any x.kn 1 2147483647 (decide (1 ≤ x.kn) && decide (x.kn ≤ 2147483647)) (Zi rfl) w)
 have C4 := fun w => belt (pwithin_any x.day 0 x.stl (decide (0 ≤ x.day) && decide (x.day ≤ x.stl)) (Zi rfl) w)
 have C5 := fun w => belt (pwithin_any x.amt (-1000000000000000) 1000000000000000 (decide ((-1000000000000000) ≤ x.amt) && decide (x.amt ≤ 1000000000000000)) (Zi rfl) w)
 have C6 := fun w => belt (pcur_any x.cur (by have := hw; simp only [JE.wf] at this; omega) w)
 have C7 := fun w => belt (pins_any x.ins (by have := hw; simp only [JE.wf] at this; omega) w)
 have C8 := fun w => belt (pwithin_any x.qty (-1000000000000000) 1000000000000000 (decide ((-1000000000000000) ≤ x.qty) && decide (x.qty ≤ 1000000000000000)) (Zi rfl) w)
 generalize (decide (1 ≤ (x.key.size : Int)) && decide ((x.key.size : Int) ≤ 64)) = b1 at *
 generalize (decide (1 ≤ x.kn) && decide (x.kn ≤ 2147483647)) = b2 at *
 generalize JE.b x { JE.zero with key := x.key, kn := x.kn, vd := true } = b3 at *
 generalize (decide (0 ≤ x.day) && decide (x.day ≤ x.stl)) = b4 at *
 generalize (decide ((-1000000000000000) ≤ x.amt) && decide (x.amt ≤ 1000000000000000)) = b5 at *
 generalize code x.cur = b6 at *
 generalize paper x.ins = b7 at *
 generalize (decide ((-1000000000000000) ≤ x.qty) && decide (x.qty ≤ 1000000000000000)) = b8 at *
 generalize x.vd = vd at HV flvd
 generalize x.kd = kd at HV flkd
 have hc : (b1 = true ∧ b2 = true ∧ vd = true ∧ b3 = v) ∨
     (b1 = true ∧ b2 = true ∧ vd = false ∧ b4 = true ∧ decide (73048 < x.stl) = false ∧ b5 = true ∧ b6 = true ∧ kd = 1 ∧ b7 = true ∧ (x.qty != 0) = true ∧ b8 = true ∧ true = v) ∨
     (b1 = true ∧ b2 = true ∧ vd = false ∧ b4 = true ∧ decide (73048 < x.stl) = false ∧ b5 = true ∧ b6 = true ∧ kd = 1 ∧ b7 = true ∧ (x.qty != 0) = true ∧ b8 = false ∧ false = v) ∨
     (b1 = true ∧ b2 = true ∧ vd = false ∧ b4 = true ∧ decide (73048 < x.stl) = false ∧ b5 = true ∧ b6 = true ∧ kd = 1 ∧ b7 = true ∧ (x.qty != 0) = false ∧ false = v) ∨
     (b1 = true ∧ b2 = true ∧ vd = false ∧ b4 = true ∧ decide (73048 < x.stl) = false ∧ b5 = true ∧ b6 = true ∧ kd = 1 ∧ b7 = false ∧ false = v) ∨
     (b1 = true ∧ b2 = true ∧ vd = false ∧ b4 = true ∧ decide (73048 < x.stl) = false ∧ b5 = true ∧ b6 = true ∧ (kd == 1) = false ∧ kd = 2 ∧ x.ins.toList.isEmpty = true ∧ (x.qty == 0) = true ∧ true = v) ∨
     (b1 = true ∧ b2 = true ∧ vd = false ∧ b4 = true ∧ decide (73048 < x.stl) = false ∧ b5 = true ∧ b6 = true ∧ (kd == 1) = false ∧ kd = 2 ∧ x.ins.toList.isEmpty = true ∧ (x.qty == 0) = false ∧ false = v) ∨
     (b1 = true ∧ b2 = true ∧ vd = false ∧ b4 = true ∧ decide (73048 < x.stl) = false ∧ b5 = true ∧ b6 = true ∧ (kd == 1) = false ∧ kd = 2 ∧ x.ins.toList.isEmpty = false ∧ false = v) ∨
     (b1 = true ∧ b2 = true ∧ vd = false ∧ b4 = true ∧ decide (73048 < x.stl) = false ∧ b5 = true ∧ b6 = true ∧ (kd == 1) = false ∧ (kd == 2) = false ∧ false = v) ∨
     (b1 = true ∧ b2 = true ∧ vd = false ∧ b4 = true ∧ decide (73048 < x.stl) = false ∧ b5 = true ∧ b6 = false ∧ false = v) ∨
     (b1 = true ∧ b2 = true ∧ vd = false ∧ b4 = true ∧ decide (73048 < x.stl) = false ∧ b5 = false ∧ false = v) ∨
     (b1 = true ∧ b2 = true ∧ vd = false ∧ b4 = true ∧ decide (73048 < x.stl) = true ∧ false = v) ∨
     (b1 = true ∧ b2 = true ∧ vd = false ∧ b4 = false ∧ false = v) ∨
     (b1 = true ∧ b2 = false ∧ false = v) ∨
     (b1 = false ∧ false = v) := by
  clear HM C1 C2 C4 C5 C6 C7 C8
  cases b1 with
  | true =>
   cases b2 with
   | true =>
    cases vd with
    | true =>
     exact .inl (⟨rfl, rfl, rfl, by rw [HV.out]; simp⟩)
    | false =>
     cases b4 with
     | true =>
      by_cases h1 : x.stl ≤ 73048
      ·skip
       cases b5 with
       | true =>
        cases b6 with
        | true =>
         by_cases h2 : kd = 1
         ·skip
          subst h2
          cases b7 with
          | true =>
           by_cases h3 : x.qty ≠ 0
           ·skip
            cases b8 with
            | true =>
             exact .inr (.inl (⟨rfl, rfl, rfl, rfl, Zn h1, rfl, rfl, rfl, rfl, bne_iff_ne.2 h3, rfl, by rw [HV.out]; simp [h1, h3]⟩))
            | false =>
             exact .inr (.inr (.inl (⟨rfl, rfl, rfl, rfl, Zn h1, rfl, rfl, rfl, rfl, bne_iff_ne.2 h3, rfl, by rw [HV.out]; simp [h1, h3]⟩)))
           ·skip
            exact .inr (.inr (.inr (.inl (⟨rfl, rfl, rfl, rfl, Zn h1, rfl, rfl, rfl, rfl, bne_eq_false_iff_eq.2 (Decidable.not_not.1 h3), by rw [HV.out]; simp [h1, h3]⟩))))
          | false =>
           exact Zr (.inl (⟨rfl, rfl, rfl, rfl, Zn h1, rfl, rfl, rfl, rfl, by rw [HV.out]; simp [h1]⟩))
         ·skip
          by_cases h4 : kd = 2
          ·skip
           subst h4
           by_cases h5 : x.ins.size = 0
           ·skip
            by_cases h6 : x.qty = 0
            ·skip
             exact Zr (.inr (.inl (⟨rfl, rfl, rfl, rfl, Zn h1, rfl, rfl, Zb h2, rfl, empty_l h5, beq_iff_eq.2 h6, by rw [HV.out]; simp [h1, h2, h5, h6]⟩)))
            ·skip
             exact Zr (.inr (.inr (.inl (⟨rfl, rfl, rfl, rfl, Zn h1, rfl, rfl, Zb h2, rfl, empty_l h5, Zb h6, by rw [HV.out]; simp [h1, h2, h5, h6]⟩))))
           ·skip
            exact Zr (.inr (.inr (.inr (.inl (⟨rfl, rfl, rfl, rfl, Zn h1, rfl, rfl, Zb h2, rfl, some_l h5, by rw [HV.out]; simp [h1, h2, h5]⟩)))))
          ·skip
           exact Zr (Zr (.inl (⟨rfl, rfl, rfl, rfl, Zn h1, rfl, rfl, Zb h2, Zb h4, by rw [HV.out]; simp [h1, h2, h4]⟩)))
        | false =>
         exact Zr (Zr (.inr (.inl (⟨rfl, rfl, rfl, rfl, Zn h1, rfl, rfl, by rw [HV.out]; simp [h1]⟩))))
       | false =>
        exact Zr (Zr (.inr (.inr (.inl (⟨rfl, rfl, rfl, rfl, Zn h1, rfl, by rw [HV.out]; simp [h1]⟩)))))
      ·skip
       exact Zr (Zr (.inr (.inr (.inr (.inl (⟨rfl, rfl, rfl, rfl, Zt (Int.not_le.1 h1), by rw [HV.out]; simp [h1]⟩))))))
     | false =>
      exact Zr (Zr (Zr (.inl (⟨rfl, rfl, rfl, rfl, by rw [HV.out]; simp⟩))))
   | false =>
    exact Zr (Zr (Zr (.inr (.inl (⟨rfl, rfl, by rw [HV.out]; simp⟩)))))
  | false =>
   exact Zr (Zr (Zr (.inr (.inr (⟨rfl, by rw [HV.out]; simp⟩)))))
 clear HV
 rcases hc with ⟨rfl, rfl, rfl, rfl⟩ | ⟨rfl, rfl, rfl, rfl, g4, rfl, rfl, rfl, rfl, g9, rfl, rfl⟩ | ⟨rfl, rfl, rfl, rfl, g4, rfl, rfl, rfl, rfl, g9, rfl, rfl⟩ | ⟨rfl, rfl, rfl, rfl, g4, rfl, rfl, rfl, rfl, g9, rfl⟩ | ⟨rfl, rfl, rfl, rfl, g4, rfl, rfl, rfl, rfl, rfl⟩ | ⟨rfl, rfl, rfl, rfl, g4, rfl, rfl, g7, rfl, g9, g10, rfl⟩ | ⟨rfl, rfl, rfl, rfl, g4, rfl, rfl, g7, rfl, g9, g10, rfl⟩ | ⟨rfl, rfl, rfl, rfl, g4, rfl, rfl, g7, rfl, g9, rfl⟩ | ⟨rfl, rfl, rfl, rfl, g4, rfl, rfl, g7, g8, rfl⟩ | ⟨rfl, rfl, rfl, rfl, g4, rfl, rfl, rfl⟩ | ⟨rfl, rfl, rfl, rfl, g4, rfl, rfl⟩ | ⟨rfl, rfl, rfl, rfl, g4, rfl⟩ | ⟨rfl, rfl, rfl, rfl, rfl⟩ | ⟨rfl, rfl, rfl⟩ | ⟨rfl, rfl⟩
 all_goals
  go_enter Tryz.func91, Tryz.ntmps91
  go_wp2_with (first | ((with_reducible refine g_offw ?_); refine a_offw ?_) | ((first | (go_at_call 118; with_reducible refine (C1 _).mono ?_) | (go_at_call 118; with_reducible refine (C2 _).mono ?_) | (go_at_call 118; with_reducible refine (C4 _).mono ?_) | (go_at_call 118; with_reducible refine (C5 _).mono ?_) | (go_at_call 119; with_reducible refine (C6 _).mono ?_) | (go_at_call 120; with_reducible refine (C7 _).mono ?_) | (go_at_call 118; with_reducible refine (C8 _).mono ?_)); rintro e9 w2 ⟨rfl, hL⟩; replace HM := HM.call hL; clear hL) | ((with_reducible refine g_bld ?_); refine a_rbl (v := .agg Y9) ?_ (hy := h_bg3 rfl Zw Zw Zw (by with_reducible exact (HB)))) | ((with_reducible refine g_bin ?_); refine a_seqb (E1) Zk ?_) | ((with_reducible refine g_ld ?_); refine a_ld HM ?_) | ((with_reducible refine g_bx ?_); refine a_bx HM ?_; clear HM; intro bk w1 HM))
  go_ret
  exact ⟨rfl, HM.low⟩
theorem Jb.code_3 (s : ByteArray) (h3 : s.size = 3) : code s = (cap (byt s 0) && (cap (byt s 1) && cap (byt s 2))) := by
 unfold code Jb.all
 rw [Zt h3, h3, Bool.true_and]
 simp [List.range, List.range.loop, okc]
end
section
theorem z9_68 {P : Prop} (h : P := by
 obtain ⟨s, M, t, N, hM, hN, hb, e⟩ := HO.out
 rw [e]
 exact Sign_bad s M t N hM hN (Zi hb.symm) w) : P := h
theorem z9_69 {P : Prop} (h : P := by
 obtain ⟨s, M, t, N, hM, hN, hb, e⟩ := HO.out
 rw [e, qA_rZ, rZ_ratA]
 exact Cmp_bad s M t N _ _ _ _ hM hN (Ac.nl fy) (Ac.dl fy) (by rw [hb]; rfl) w) : P := h
theorem z9_70 {P : Prop} (h : P := by
 rw [Zt h1, Zt h2, Bool.true_and, Bool.true_and] at hv
 subst hv
 clear h1
 refine start_M [] HM Zk (fun w0x H9 => ?_)
 replace HM := H9; clear H9
 refine k_ld 0 [] (heldE HM) ?_
 refine j_one 1 fun K9 hK9 => ?_
 refine j_call1 (v := ?_) HM ?_ ?_; rotate_left 1; (focus (with_reducible (first | exact WH _ | exact CQ _))); clear HM; intro w1 HM
 refine hK9 _ _ (heldE HM) ?_; clear hK9 K9
 refine j_one 2 fun K9 hK9 => ?_
 refine j_call2 (v := ?_) HM ?_ ?_; rotate_left 1; (focus (with_reducible (first | exact WH _ | exact CQ _))); clear HM; intro w1 HM
 refine hK9 _ _ (heldE HM) ?_; clear hK9 K9
 refine k_mv 3 (heldE HM) ?_
 refine k_ext 4 (heldE HM) ?_
 refine k_ext 5 (heldE HM) ?_
 refine k_mv 6 (heldE HM) ?_
 refine k_mv 7 (heldE HM) ?_
 refine wpAnyL_done Zk ?_ _
 (go_wp2_with fail; go_ret; exact ⟨rfl, HM.low⟩)) : P := h
theorem z9_71 {P : Prop} (h : P := by
 rw [Zt h1, Zf h2, Bool.true_and, Bool.false_and] at hv
 subst hv
 clear h1
 refine start_M [] HM Zk (fun w0x H9 => ?_)
 replace HM := H9; clear H9
 refine k_ld 0 [] (heldE HM) ?_
 refine j_one 1 fun K9 hK9 => ?_
 refine j_call1 (v := ?_) HM ?_ ?_; rotate_left 1; (focus (with_reducible (first | exact WH _ | exact CQ _))); clear HM; intro w1 HM
 refine hK9 _ _ (heldE HM) ?_; clear hK9 K9
 refine j_one 2 fun K9 hK9 => ?_
 refine j_call2 (v := ?_) HM ?_ ?_; rotate_left 1; (focus (with_reducible (first | exact WH _ | exact CQ _))); clear HM; intro w1 HM
 refine hK9 _ _ (heldE HM) ?_; clear hK9 K9
 refine k_mv 3 (heldE HM) ?_
 refine k_ext 4 (heldE HM) ?_
 refine k_ext 5 (heldE HM) ?_
 refine k_mv 6 (heldE HM) ?_
 refine k_mv 7 (heldE HM) ?_
 refine wpAnyL_done Zk ?_ _
 (go_wp2_with fail; go_ret; exact ⟨rfl, HM.low⟩)) : P := h
theorem z9_72 {P : Prop} (h : P := by
 have he : (e == 0) = false := Zb h1
 rw [Zf h1, Bool.false_and] at hv
 subst hv
 clear h1
 refine start_M [] HM Zk (fun w0x H9 => ?_)
 replace HM := H9; clear H9
 refine k_ld 0 [] (heldE HM) ?_
 refine j_one 1 fun K9 hK9 => ?_
 refine j_call1 (v := ?_) HM ?_ ?_; rotate_left 1; (focus (with_reducible (first | exact WH _ | exact CQ _))); clear HM; intro w1 HM
 refine hK9 _ _ (heldE HM) ?_; clear hK9 K9
 refine j_one 2 fun K9 hK9 => ?_
 refine j_call2 (v := ?_) HM ?_ ?_; rotate_left 1; (focus (with_reducible (first | exact WH _ | exact CQ _))); clear HM; intro w1 HM
 refine hK9 _ _ (heldE HM) ?_; clear hK9 K9
 refine k_mv 3 (heldE HM) ?_
 refine k_ext 4 (heldE HM) ?_
 refine k_ext 5 (heldE HM) ?_
 refine k_mv 6 (heldE HM) ?_
 refine k_mv 7 (heldE HM) ?_
 refine wpAnyL_done Zk ?_ _
 (go_wp2_with fail; go_ret; exact ⟨rfl, HM.low⟩)) : P := h
end
section
open Jb
def Jb.btw : Option Rat → Int → Bool
 | none, _ => false
 | some x, m => decide (0 ≤ x.num) && decide (Rt.cmp x ((m : Int) : Rat) ≤ 0)
theorem Jb.fit_int {m : Int} (h1 : -9223372036854775808 ≤ m) (h2 : m < 9223372036854775808) : Rt.Fit ((m : Int) : Rat) := by
 constructor
 ·rw [Rat.num_intCast]
  have := Bg.p2_mono (show 64 ≤ 480 by decide)
  have e : Bg.p2 64 = 18446744073709551616 := by unfold Bg.p2; rfl
  omega
 ·rw [Rat.den_intCast]
  have := Bg.p2_mono (show 1 ≤ 480 by decide)
  have e : Bg.p2 1 = 2 := by unfold Bg.p2; rfl
  omega
theorem Rr.c_inj {x y : Rr} (h : x.c = y.c) (w : World) : x = y := by
 have e1 := Rr.eqT 1 x y w
 have e2 := Rr.eqT 1 x x w
 rw [← h] at e1
 rw [e1] at e2
 injection e2 with e3
 exact Rr.b_iff.1 (e3.trans (Rr.b_iff.2 rfl))
def Rr.q (x : Rat) (hx : Rt.Fit x) : Rr := ⟨decide (x.num < 0), x.num.natAbs, false, x.den, Ac.nl hx, by have := Ac.dl hx; rwa [Int.natAbs_natCast] at this⟩
theorem Rr.q_c (x : Rat) (hx : Rt.Fit x) : (Rr.q x hx).c = Rt.qA x := by
 rw [Rr.c_eq, qA_rZ, rZ_ratA, Int.natAbs_natCast, Zf (show ¬ ((x.den : Nat) : Int) < 0 by omega)]; rfl
theorem Rt.qA_inj {x y : Rat} (hx : Rt.Fit x) (hy : Rt.Fit y) (h : Rt.qA x = Rt.qA y) (w : World) : x = y := by
 have e := Rr.c_inj (x := Rr.q x hx) (y := Rr.q y hy) (by rw [Rr.q_c, Rr.q_c, h]) w
 have hM : x.num.natAbs = y.num.natAbs := congrArg Rr.M e
 have hs : decide (x.num < 0) = decide (y.num < 0) := congrArg Rr.s e
 have hN : x.den = y.den := congrArg Rr.N e
 refine Rat.ext ?_ hN
 by_cases h1 : x.num < 0
 ·rw [Zt h1] at hs
  have h2 := of_decide_eq_true hs.symm
  omega
 ·rw [Zf h1] at hs
  have h2 := of_decide_eq_false hs.symm
  omega
theorem Rt.vc_fun {o o' : Option Rat} {c : Array Value} (h : Rt.Vc o c) (h' : Rt.Vc o' c) (w : World) : o = o' := by
 have key : ∀ {x : Rat} {c : Array Value}, Rt.Vc (some x) c → Rt.Vc none c → False := by
  intro x c h1 h2
  obtain ⟨hx, rfl⟩ := h1
  obtain ⟨s, M, t, N, hM, hN, hk, e⟩ := h2
  have e2 := Rr.c_inj (x := Rr.q x hx) (y := ⟨s, M, t, N, hM, hN⟩) (by rw [Rr.q_c, Rr.c_eq, e]) w
  have h3 := hx.okz
  unfold Rt.okz at h3
  have es : decide (x.num < 0) = s := congrArg Rr.s e2
  have eM : x.num.natAbs = M := congrArg Rr.M e2
  have et : false = t := congrArg Rr.t e2
  have eN : x.den = N := congrArg Rr.N e2
  rw [Int.natAbs_natCast, Zf (show ¬ ((x.den : Nat) : Int) < 0 by omega), es, eM, eN, et] at h3
  rw [h3] at hk; cases hk
 cases o with
 | none => cases o' with
  | none => rfl
  | some y => exact (key h' h).elim
 | some x => cases o' with
  | none => exact (key h h').elim
  | some y => rw [Rt.qA_inj h.1 h'.1 (h.2.symm.trans h'.2) w]
def Jb.prcP : Option Rat → Prop
 | none => False
 | some x => Ac.Txt x ∧ 0 ≤ x ∧ x ≤ ((1000000000 : Int) : Rat)
theorem Jb.price_iff {r : Rr} {o : Option Rat} (h : Rt.Vc o r.c) (w : World) : price r = true ↔ prcP o := by
 unfold price
 rw [@decide_eq_true_eq _ (Classical.propDecidable _)]
 constructor
 ·rintro ⟨x, hv, h1, h2, h3⟩
  rw [Rt.vc_fun h hv w]
  exact ⟨h1, h2, h3⟩
 ·intro h2
  cases o with
  | none => exact h2.elim
  | some x => exact ⟨x, h, h2⟩
theorem Jb.rat0_c : rat0.c = Rt.qA 0 := by
 rw [← Rr.q_c 0 Rt.fit_zero, Rr.c_eq, Rr.c_eq]; rfl
theorem Jb.rat0_iff {r : Rr} {o : Option Rat} (h : Rt.Vc o r.c) (w : World) : Rr.b r rat0 = true ↔ o = some 0 := by
 rw [Rr.b_iff]
 constructor
 ·rintro rfl
  exact Rt.vc_fun h (o' := some 0) ⟨Rt.fit_zero, rat0_c⟩ w
 ·rintro rfl
  exact Rr.c_inj (h.2.trans rat0_c.symm) w
theorem Jb.pay_v {r : Rr} {x : Rat} (h : Rt.Vc (some x) r.c) {e : Int} (he : Jb.tx (some x) e) (w : World) :
    price r = (decide (e = 0) && (decide (0 ≤ x.num.sign) && decide (Rt.cmp x ((1000000000 : Int) : Rat) ≤ 0))) ∧
    (price r && !Rr.b r rat0) = (decide (e = 0) && (decide (0 < x.num.sign) && decide (Rt.cmp x ((1000000000 : Int) : Rat) ≤ 0))) := by
 have hp := price_iff h w
 have hz := rat0_iff h w
 have hc : Rt.cmp x ((1000000000 : Int) : Rat) ≤ 0 ↔ x ≤ ((1000000000 : Int) : Rat) := by
  rcases Rt.cmp_cases x ((1000000000 : Int) : Rat) with ⟨h, h2⟩ | ⟨h, h2⟩ | ⟨h, h2⟩
  ·rw [h]; exact ⟨fun _ => Rat.le_of_lt h2, fun _ => by decide⟩
  ·rw [h, h2]; exact ⟨fun _ => Rat.le_refl, fun _ => by decide⟩
  ·rw [h]; exact ⟨fun h3 => absurd h3 Zd, fun h3 => absurd h2 (Rat.not_lt.2 h3)⟩
 by_cases h0 : 0 ≤ x.num
 ·have hy := he h0
  have hs : 0 ≤ x.num.sign := Int.sign_nonneg_iff.2 h0
  have hx0 : 0 ≤ x := Rat.num_nonneg.1 h0
  have e1 : price r = (decide (e = 0) && (decide (0 ≤ x.num.sign) && decide (Rt.cmp x ((1000000000 : Int) : Rat) ≤ 0))) := by
   rw [Bool.eq_iff_iff, hp, Zt hs, Bool.true_and, Bool.and_eq_true, decide_eq_true_eq, decide_eq_true_eq, hc]
   exact ⟨fun h => ⟨hy.2 h.1, h.2.2⟩, fun h => ⟨hy.1 h.1, hx0, h.2⟩⟩
  refine ⟨e1, ?_⟩
  rw [e1]
  by_cases hx : x = 0
  ·have hb : Rr.b r rat0 = true := hz.2 (by rw [hx])
   rw [hb, hx]; simp
  ·have hb : Rr.b r rat0 = false := by
     cases hb : Rr.b r rat0 with
     | false => rfl
     | true => exact absurd (Option.some.inj (hz.1 hb)) hx
   have hn : x.num ≠ 0 := fun h => hx (Rat.num_eq_zero.1 h)
   have hs1 : 0 < x.num.sign := Int.sign_pos_iff.2 Zo
   rw [hb, Zt hs, Zt hs1]; simp
 ·have hs : ¬ 0 ≤ x.num.sign := fun h => h0 (Int.sign_nonneg_iff.1 h)
  have hs1 : ¬ 0 < x.num.sign := fun h => hs (Int.le_of_lt h)
  have e1 : price r = false := by
   cases h9 : price r with
   | false => rfl
   | true => exact absurd (Rat.num_nonneg.2 (hp.1 h9).2.1) h0
  rw [e1, Zf hs, Zf hs1]; simp
theorem Jb.price_no {r : Rr} (h : Rt.Vc none r.c) (w : World) : price r = false := by
 cases h9 : price r with
 | false => rfl
 | true => exact ((price_iff h w).1 h9).elim
theorem Jb.fit_9 : Rt.Fit ((1000000000 : Int) : Rat) := fit_int Zd Zd
theorem qprice_any (r : Rr) (w : World) :
    Calls Tryz.prog 110 #[.agg r.c] w fun e w' => e = .returned (.bool (price r && !Rr.b r rat0)) ∧ Below w.heap.size w w' := by
 obtain ⟨o, ho⟩ := r.vc
 have HM := Mem.start w
 have k0 := r.la
 have HO := Zi ho
 have TX := fun w => text_o o r.c HO.out w
 obtain ⟨y, hy⟩ : ∃ y : Rat, Hid (y = ((1000000000 : Int) : Rat)) := ⟨_, Zi rfl⟩
 have fy : Rt.Fit y := by rw [hy.out]; exact fit_9
 have WH := fun w => whole_q 1000000000 y Zd Zd hy w
 cases o with
 | none =>
  have hv : (price r && !Rr.b r rat0) = false := by rw [price_no ho w]; rfl
  rw [hv]
  have SB : ∀ w, Calls Tryz.prog 142 #[.agg r.c] w fun r w' => r = .returned (.tuple #[.int .i64 0, .int .i64 20]) ∧ Below w.heap.size w w' := fun w => by
   exact z9_68
  have CB : ∀ w, Calls Tryz.prog 143 #[.agg r.c, .agg (Rt.qA y)] w fun r w' => r = .returned (.tuple #[.int .i64 0, .int .i64 20]) ∧ Below w.heap.size w w' := fun w => by
   exact z9_69
  clear hv ho
  go_enter Tryz.func110, Tryz.ntmps110
  go_upto_region 3 with (first | (go_at_call 141; refine (TX _).mono ?_; rintro e9 w2 ⟨⟨s, e, rfl, HE⟩, hL⟩; replace HM := HM.call hL; clear hL) | (go_at_call 142; (with_reducible refine Zc HM (SB _) ?_; clear HM; intro w2 HM)) | ((with_reducible refine g_ld ?_); refine a_ld HM ?_) | ((with_reducible refine g_bx ?_); refine a_bx HM ?_; clear HM; intro bk w1 HM))
  have he : (e == 0) = false := Zb HE.out
  refine start_M [] HM Zk (fun w0x H9 => ?_)
  replace HM := H9; clear H9
  refine k_ld 0 [] (heldE HM) ?_
  refine j_one 1 fun K9 hK9 => ?_
  refine j_call1 (v := ?_) HM ?_ ?_; rotate_left 1; (focus (with_reducible (first | exact WH _ | exact CB _))); clear HM; intro w1 HM
  refine hK9 _ _ (heldE HM) ?_; clear hK9 K9
  refine j_one 2 fun K9 hK9 => ?_
  refine j_call2 (v := ?_) HM ?_ ?_; rotate_left 1; (focus (with_reducible (first | exact WH _ | exact CB _))); clear HM; intro w1 HM
  refine hK9 _ _ (heldE HM) ?_; clear hK9 K9
  refine k_mv 3 (heldE HM) ?_
  refine k_ext 4 (heldE HM) ?_
  refine k_ext 5 (heldE HM) ?_
  refine k_mv 6 (heldE HM) ?_
  refine k_mv 7 (heldE HM) ?_
  refine wpAnyL_done Zk ?_ _
  (go_wp2_with fail; go_ret; exact ⟨rfl, HM.low⟩)
 | some x =>
  obtain ⟨hx, hc⟩ := ho
  obtain ⟨g, hg⟩ := Zh (x.num.sign)
  obtain ⟨g2, hg2⟩ := Zh (Rt.cmp x y)
  have SQ : ∀ w, Calls Tryz.prog 142 #[.agg r.c] w fun r w' => r = .returned (.tuple #[.int .i64 g, .int .i64 0]) ∧ Below w.heap.size w w' := fun w => by rw [hc]; exact sign_q x g hx hg w
  have CQ : ∀ w, Calls Tryz.prog 143 #[.agg r.c, .agg (Rt.qA y)] w fun r w' => r = .returned (.tuple #[.int .i64 g2, .int .i64 0]) ∧ Below w.heap.size w w' := fun w => by rw [hc]; exact cmp_q x y g2 hx fy hg2 w
  have HPV : ∀ e, Hid (Jb.tx (some x) e) → Hid ((price r && !Rr.b r rat0) = (decide (e = 0) && (decide (0 < g) && decide (g2 ≤ 0)))) := fun e he => Zi (by
   have := (pay_v HO.out he.out w).2
   rw [hg.out, hg2.out, hy.out]; exact this)
  generalize (price r && !Rr.b r rat0) = v at HPV ⊢
  clear hc hg hg2 hy
  go_enter Tryz.func110, Tryz.ntmps110
  go_upto_region 3 with (first | (go_at_call 141; refine (TX _).mono ?_; rintro e9 w2 ⟨⟨s, e, rfl, HE⟩, hL⟩; replace HM := HM.call hL; clear hL) | (go_at_call 142; (with_reducible refine Zc HM (SQ _) ?_; clear HM; intro w2 HM)) | ((with_reducible refine g_ld ?_); refine a_ld HM ?_) | ((with_reducible refine g_bx ?_); refine a_bx HM ?_; clear HM; intro bk w1 HM))
  have hv := (HPV e HE).out
  clear HPV HE TX
  by_cases h1 : e = 0
  ·have he : (e == 0) = true := beq_iff_eq.2 h1
   by_cases h2 : 0 < g
   ·exact z9_70
   ·exact z9_71
  ·exact z9_72
theorem apay_any (r : Rr) (w : World) :
    Calls Tryz.prog 113 #[.agg r.c] w fun e w' => e = .returned (.bool (price r)) ∧ Below w.heap.size w w' := by
 obtain ⟨o, ho⟩ := r.vc
 have HM := Mem.start w
 have k0 := r.la
 have HO := Zi ho
 have TX := fun w => text_o o r.c HO.out w
 obtain ⟨y, hy⟩ : ∃ y : Rat, Hid (y = ((1000000000 : Int) : Rat)) := ⟨_, Zi rfl⟩
 have fy : Rt.Fit y := by rw [hy.out]; exact fit_9
 have WH := fun w => whole_q 1000000000 y Zd Zd hy w
 cases o with
 | none =>
  have hv : (price r) = false := by rw [price_no ho w]
  rw [hv]
  have SB : ∀ w, Calls Tryz.prog 142 #[.agg r.c] w fun r w' => r = .returned (.tuple #[.int .i64 0, .int .i64 20]) ∧ Below w.heap.size w w' := fun w => by
   exact z9_68
  have CB : ∀ w, Calls Tryz.prog 143 #[.agg r.c, .agg (Rt.qA y)] w fun r w' => r = .returned (.tuple #[.int .i64 0, .int .i64 20]) ∧ Below w.heap.size w w' := fun w => by
   exact z9_69
  clear hv ho
  go_enter Tryz.func113, Tryz.ntmps113
  go_upto_region 3 with (first | (go_at_call 141; refine (TX _).mono ?_; rintro e9 w2 ⟨⟨s, e, rfl, HE⟩, hL⟩; replace HM := HM.call hL; clear hL) | (go_at_call 142; (with_reducible refine Zc HM (SB _) ?_; clear HM; intro w2 HM)) | ((with_reducible refine g_ld ?_); refine a_ld HM ?_) | ((with_reducible refine g_bx ?_); refine a_bx HM ?_; clear HM; intro bk w1 HM))
  have he : (e == 0) = false := Zb HE.out
  refine start_M [] HM Zk (fun w0x H9 => ?_)
  replace HM := H9; clear H9
  refine k_ld 0 [] (heldE HM) ?_
  refine j_one 1 fun K9 hK9 => ?_
  refine j_call1 (v := ?_) HM ?_ ?_; rotate_left 1; (focus (with_reducible (first | exact WH _ | exact CB _))); clear HM; intro w1 HM
  refine hK9 _ _ (heldE HM) ?_; clear hK9 K9
  refine j_one 2 fun K9 hK9 => ?_
  refine j_call2 (v := ?_) HM ?_ ?_; rotate_left 1; (focus (with_reducible (first | exact WH _ | exact CB _))); clear HM; intro w1 HM
  refine hK9 _ _ (heldE HM) ?_; clear hK9 K9
  refine k_mv 3 (heldE HM) ?_
  refine k_ext 4 (heldE HM) ?_
  refine k_ext 5 (heldE HM) ?_
  refine k_mv 6 (heldE HM) ?_
  refine k_mv 7 (heldE HM) ?_
  refine wpAnyL_done Zk ?_ _
  (go_wp2_with fail; go_ret; exact ⟨rfl, HM.low⟩)
 | some x =>
  obtain ⟨hx, hc⟩ := ho
  obtain ⟨g, hg⟩ := Zh (x.num.sign)
  obtain ⟨g2, hg2⟩ := Zh (Rt.cmp x y)
  have SQ : ∀ w, Calls Tryz.prog 142 #[.agg r.c] w fun r w' => r = .returned (.tuple #[.int .i64 g, .int .i64 0]) ∧ Below w.heap.size w w' := fun w => by rw [hc]; exact sign_q x g hx hg w
  have CQ : ∀ w, Calls Tryz.prog 143 #[.agg r.c, .agg (Rt.qA y)] w fun r w' => r = .returned (.tuple #[.int .i64 g2, .int .i64 0]) ∧ Below w.heap.size w w' := fun w => by rw [hc]; exact cmp_q x y g2 hx fy hg2 w
  have HPV : ∀ e, Hid (Jb.tx (some x) e) → Hid ((price r) = (decide (e = 0) && (decide (0 ≤ g) && decide (g2 ≤ 0)))) := fun e he => Zi (by
   have := (pay_v HO.out he.out w).1
   rw [hg.out, hg2.out, hy.out]; exact this)
  generalize (price r) = v at HPV ⊢
  clear hc hg hg2 hy
  go_enter Tryz.func113, Tryz.ntmps113
  go_upto_region 3 with (first | (go_at_call 141; refine (TX _).mono ?_; rintro e9 w2 ⟨⟨s, e, rfl, HE⟩, hL⟩; replace HM := HM.call hL; clear hL) | (go_at_call 142; (with_reducible refine Zc HM (SQ _) ?_; clear HM; intro w2 HM)) | ((with_reducible refine g_ld ?_); refine a_ld HM ?_) | ((with_reducible refine g_bx ?_); refine a_bx HM ?_; clear HM; intro bk w1 HM))
  have hv := (HPV e HE).out
  clear HPV HE TX
  by_cases h1 : e = 0
  ·have he : (e == 0) = true := beq_iff_eq.2 h1
   by_cases h2 : 0 ≤ g
   ·exact z9_70
   ·exact z9_71
  ·exact z9_72
end
section
theorem z9_73 {P : Prop} (h : P := by
 clear h
 go_enter Tryz.func108, Tryz.ntmps108
 go_wp2_with (go_at_call 140; refine (C _).mono ?_; rintro e w' ⟨rfl, rfl⟩)
 go_ret
 exact ⟨rfl, rfl⟩) : P := h
theorem z9_74 {P : Prop} (h : P := by
 subst hv
 go_enter Tryz.func109, Tryz.ntmps109
 go_wp2_with (go_at_call 140; refine (C _).mono ?_; rintro e w' ⟨rfl, rfl⟩)
 go_ret
 exact ⟨rfl, rfl⟩) : P := h
end
section
open Jb
theorem qins_any (s : ByteArray) (hs : s.size ≤ 9223372036854775807) (w : World) :
    Calls Tryz.prog 108 #[.string s] w fun e w' => e = .returned (.bool (paper s)) ∧ w = w' := by
 obtain ⟨b, hb⟩ := Zh ((decide (1 ≤ s.size) && Jb.all (okc true) s))
 have C := fun w => qcap_any s hs b hb w
 have hv : Hid (paper s = (b && decide (s.size ≤ 12))) := Zi (by
  rw [hb.out]; unfold paper
  rw [Bool.and_assoc, Bool.and_comm (Jb.all _ _)])
 generalize paper s = v at hv ⊢
 clear hb
 cases b with
 | false =>
  obtain rfl : v = false := hv.out
  go_enter Tryz.func108, Tryz.ntmps108
  go_wp2_with (go_at_call 140; refine (C _).mono ?_; rintro e w' ⟨rfl, rfl⟩)
  go_ret
  exact ⟨rfl, rfl⟩
 | true =>
  by_cases h : s.size ≤ 12
  ·obtain rfl : v = true := by rw [hv.out, Zt h]; rfl
   have h2 : (s.size : Int) ≤ 12 := by omega
   exact z9_73
  ·obtain rfl : v = false := by rw [hv.out, Zf h]; rfl
   have h2 : decide ((s.size : Int) ≤ 12) = false := Zf Zo
   exact z9_73
theorem Jb.okc_cap {i c : Nat} (hi : i ≠ 0) (h : okc true i c = true) : cap c = decide ((65 : Int) ≤ (c : Int)) := by
 unfold okc cap dig at h
 unfold cap
 by_cases h1 : 65 ≤ c <;> by_cases h2 : c ≤ 90 <;> by_cases h3 : 48 ≤ c <;> by_cases h4 : c ≤ 57 <;> simp_all <;> omega
theorem Jb.okc_cap0 {c : Nat} (h : okc true 0 c = true) : cap c = true := by
 unfold okc at h
 simpa using h
theorem qcur_any (s : ByteArray) (hs : s.size ≤ 9223372036854775807) (w : World) :
    Calls Tryz.prog 109 #[.string s] w fun e w' => e = .returned (.bool (code s)) ∧ w = w' := by
 obtain ⟨b, hb⟩ := Zh ((decide (1 ≤ s.size) && Jb.all (okc true) s))
 have C := fun w => qcap_any s hs b hb w
 by_cases h3 : s.size = 3
 ·have hn : ((s.size : Int) == 3) = true := by rw [h3]; rfl
  have i1 : 1 < s.size := by omega
  have i2 : 2 < s.size := by omega
  cases hbb : b with
  | false =>
   have hv : code s = false := by
    cases hc : code s with
    | false => rfl
    | true =>
     unfold code at hc
     rw [Zt h3, Bool.true_and] at hc
     have ha : Jb.all (okc true) s = true := all_iff.2 fun i hi => by
      have := all_iff.1 hc i hi
      unfold okc at this ⊢
      simp at this
      simp [this]
     have := hb.out
     rw [hbb, ha, Zt Zo] at this
     cases this
   rw [hv]
   subst hbb
   clear hb h3 hv
   go_enter Tryz.func109, Tryz.ntmps109
   go_wp2_with (go_at_call 140; refine (C _).mono ?_; rintro e w' ⟨rfl, rfl⟩)
   go_ret
   exact ⟨rfl, rfl⟩
  | true =>
   have ha : Jb.all (okc true) s = true := by
    have := hb.out
    rw [hbb] at this
    exact (Bool.and_eq_true _ _ ▸ this.symm).2
   have e0 := okc_cap0 (by have := all_iff.1 ha 0 Zo; rwa [byt_at Zo] at this)
   have e1 := okc_cap (i := 1) Zd (by have := all_iff.1 ha 1 Zo; rwa [byt_at i1] at this)
   have e2 := okc_cap (i := 2) Zd (by have := all_iff.1 ha 2 Zo; rwa [byt_at i2] at this)
   have hv := code_3 s h3
   rw [byt_at (by omega : 0 < s.size), byt_at i1, byt_at i2, e0, e1, e2, Bool.true_and] at hv
   generalize code s = v at hv ⊢
   subst hbb
   clear hb h3 ha e0 e1 e2
   by_cases g1 : (65 : Int) ≤ (s[1].toNat : Nat)
   ·by_cases g2 : (65 : Int) ≤ (s[2].toNat : Nat)
    ·rw [Zt g1, Zt g2] at hv
     exact z9_74
    ·rw [Zt g1, Zf g2] at hv
     have g3 := Zf g2
     exact z9_74
   ·rw [Zf g1, Bool.false_and] at hv
    have g3 := Zf g1
    exact z9_74
 ·have hv : code s = false := by unfold code; rw [Zf h3]; rfl
  have hn : ((s.size : Int) == 3) = false := Zb Zo
  rw [hv]
  clear h3 hv hb
  cases b
  all_goals
   go_enter Tryz.func109, Tryz.ntmps109
   go_wp2_with (go_at_call 140; refine (C _).mono ?_; rintro e w' ⟨rfl, rfl⟩)
   go_ret
   exact ⟨rfl, rfl⟩
theorem qkn_any (n : Int) (v : Bool) (hv : Hid (v = (decide (1 ≤ n) && decide (n ≤ 2147483647)))) (w : World) :
    Calls Tryz.prog 84 #[.int .i64 n] w fun e w' => e = .returned (.bool v) ∧ w = w' := by
 go_enter Tryz.func84, Tryz.ntmps84
 by_cases h1 : 1 ≤ n <;> by_cases h2 : n ≤ 2147483647
 all_goals
  have HV : Hid (v = _) := hv
  have hv2 := HV.out
  simp only [h1, h2, decide_true, decide_false, Bool.and_true, Bool.and_false, Bool.false_and, Bool.true_and] at hv2
  subst hv2
  clear HV hv
  go_wp2
  go_ret
  exact ⟨rfl, rfl⟩
noncomputable def JQ.line (q : JQ) : Bool := Nm.usableB q.src && (paper q.ins && (code q.cur && ((decide (0 ≤ q.day) && decide (q.day ≤ 73048)) && (if q.vd then Rr.b q.prc Rr.zero else (price q.prc && !Rr.b q.prc rat0)))))
theorem JQ.right_w (q : JQ) : q.right = (q.line && Jb.known q.kn) := by
 unfold JQ.right JQ.line
 rw [isDay_w]
 generalize Nm.usableB q.src = a
 generalize paper q.ins = b
 generalize code q.cur = c
 generalize (decide (0 ≤ q.day) && decide (q.day ≤ 73048)) = d
 generalize Jb.known q.kn = e
 generalize (if q.vd = true then Rr.b q.prc Rr.zero else (price q.prc && !Rr.b q.prc rat0)) = f
 cases a <;> cases b <;> cases c <;> cases d <;> cases e <;> cases f <;> rfl
theorem qline_any (x : JQ) (hw : x.wf) (w : World) :
    Calls Tryz.prog 83 #[.agg x.c] w fun e w' => e = .returned (.bool x.line) ∧ Below w.heap.size w w' := by
 have HM := Mem.start w
 have flsrc := (JQ.f_src x).la
 have flins := (JQ.f_ins x).la
 have flcur := (JQ.f_cur x).la
 have flday := (JQ.f_day x).la
 have flprc := (JQ.f_prc x).la
 have flkn := (JQ.f_kn x).la
 have flvd := (JQ.f_vd x).la
 have ez : (Value.agg Tryz.zeroCells43) = .agg (Bg.rZ 0 0) := by kernel_rfl
 have E1 := Rr.eqT 9996 x.prc Rr.zero
 rw [Rr.zero_c, rZ_zero, ← ez] at E1
 clear ez
 have HV : Hid (x.line = (Nm.usableB x.src && (paper x.ins && (code x.cur && ((decide (0 ≤ x.day) && decide (x.day ≤ 73048)) && (if x.vd then Rr.b x.prc Rr.zero else (price x.prc && !Rr.b x.prc rat0))))))) := Zi (rfl)
 generalize x.line = v at HV ⊢
 have C1 := fun w => tname_any x.src (by have := hw; simp only [JQ.wf] at this; omega) w
 have C2 := fun w => belt (qins_any x.ins (by have := hw; simp only [JQ.wf] at this; omega) w)
 have C3 := fun w => belt (qcur_any x.cur (by have := hw; simp only [JQ.wf] at this; omega) w)
 have C5 := fun w => qprice_any x.prc w
 generalize Nm.usableB x.src = b1 at *
 generalize paper x.ins = b2 at *
 generalize code x.cur = b3 at *
 generalize Rr.b x.prc Rr.zero = b4 at *
 generalize (price x.prc && !Rr.b x.prc rat0) = b5 at *
 generalize x.vd = vd at HV flvd
 have hc : (b1 = true ∧ b2 = true ∧ b3 = true ∧ decide (x.day < 0) = false ∧ decide (73048 < x.day) = false ∧ vd = true ∧ b4 = v) ∨
     (b1 = true ∧ b2 = true ∧ b3 = true ∧ decide (x.day < 0) = false ∧ decide (73048 < x.day) = false ∧ vd = false ∧ b5 = v) ∨
     (b1 = true ∧ b2 = true ∧ b3 = true ∧ decide (x.day < 0) = false ∧ decide (73048 < x.day) = true ∧ false = v) ∨
     (b1 = true ∧ b2 = true ∧ b3 = true ∧ decide (x.day < 0) = true ∧ false = v) ∨
     (b1 = true ∧ b2 = true ∧ b3 = false ∧ false = v) ∨
     (b1 = true ∧ b2 = false ∧ false = v) ∨
     (b1 = false ∧ false = v) := by
  clear HM C1 C2 C3 C5
  cases b1 with
  | true =>
   cases b2 with
   | true =>
    cases b3 with
    | true =>
     by_cases h1 : 0 ≤ x.day
     ·skip
      by_cases h2 : x.day ≤ 73048
      ·skip
       cases vd with
       | true =>
        exact .inl (⟨rfl, rfl, rfl, Zn h1, Zn h2, rfl, by rw [HV.out]; simp [h1, h2]⟩)
       | false =>
        exact .inr (.inl (⟨rfl, rfl, rfl, Zn h1, Zn h2, rfl, by rw [HV.out]; simp [h1, h2]⟩))
      ·skip
       exact .inr (.inr (.inl (⟨rfl, rfl, rfl, Zn h1, Zt (Int.not_le.1 h2), by rw [HV.out]; simp [h1, h2]⟩)))
     ·skip
      exact .inr (.inr (.inr (.inl (⟨rfl, rfl, rfl, Zt (Int.not_le.1 h1), by rw [HV.out]; simp [h1]⟩))))
    | false =>
     exact Zr (.inl (⟨rfl, rfl, rfl, by rw [HV.out]; simp⟩))
   | false =>
    exact Zr (.inr (.inl (⟨rfl, rfl, by rw [HV.out]; simp⟩)))
  | false =>
   exact Zr (.inr (.inr (⟨rfl, by rw [HV.out]; simp⟩)))
 clear HV
 rcases hc with ⟨rfl, rfl, rfl, g3, g4, rfl, rfl⟩ | ⟨rfl, rfl, rfl, g3, g4, rfl, rfl⟩ | ⟨rfl, rfl, rfl, g3, g4, rfl⟩ | ⟨rfl, rfl, rfl, g3, rfl⟩ | ⟨rfl, rfl, rfl, rfl⟩ | ⟨rfl, rfl, rfl⟩ | ⟨rfl, rfl⟩
 all_goals
  go_enter Tryz.func83, Tryz.ntmps83
  go_wp2_with (first | ((with_reducible refine g_offw ?_); refine a_offw ?_) | ((first | (go_at_call 107; with_reducible refine (C1 _).mono ?_) | (go_at_call 108; with_reducible refine (C2 _).mono ?_) | (go_at_call 109; with_reducible refine (C3 _).mono ?_) | (go_at_call 110; with_reducible refine (C5 _).mono ?_)); rintro e9 w2 ⟨rfl, hL⟩; replace HM := HM.call hL; clear hL) | ((with_reducible refine g_bin ?_); refine a_seqb (E1) Zk ?_) | ((with_reducible refine g_ld ?_); refine a_ld HM ?_) | ((with_reducible refine g_bx ?_); refine a_bx HM ?_; clear HM; intro bk w1 HM))
  go_ret
  exact ⟨rfl, HM.low⟩
end
section
open Jb
theorem ains_any (s : ByteArray) (hs : s.size ≤ 9223372036854775807) (w : World) :
    Calls Tryz.prog 112 #[.string s] w fun e w' => e = .returned (.bool (paper s)) ∧ w = w' := by
 have C := fun w => acap_any s 1 12 true hs (paper s) (Zi (paper_w s)) w
 generalize paper s = v at *
 go_enter Tryz.func112, Tryz.ntmps112
 go_wp2_with (go_at_call 114; refine (C _).mono ?_; rintro e w' ⟨rfl, rfl⟩)
 go_ret
 exact ⟨rfl, rfl⟩
theorem afac_any (n : Int) (v : Bool) (hv : Hid (v = (decide (1 ≤ n) && decide (n ≤ 1000000)))) (w : World) :
    Calls Tryz.prog 115 #[.int .i64 n] w fun e w' => e = .returned (.bool v) ∧ w = w' := by
 go_enter Tryz.func115, Tryz.ntmps115
 by_cases h1 : 1 ≤ n <;> by_cases h2 : n ≤ 1000000
 all_goals
  have HV : Hid (v = _) := hv
  have hv2 := HV.out
  simp only [h1, h2, decide_true, decide_false, Bool.and_true, Bool.and_false, Bool.false_and, Bool.true_and] at hv2
  subst hv2
  clear HV hv
  go_wp2
  go_ret
  exact ⟨rfl, rfl⟩
theorem csh_sign (r : Rr) (w : World) : ∃ (nc : Array Value) (g : Int), nc.size = 33 ∧ Hid (r.c.extract 0 33 = nc) ∧ Hid (LA 41 r.c 0 (.agg nc)) ∧ Hid (∀ w, Calls Tryz.prog 116 #[.agg nc] w fun e w' => e = .returned (.int .i64 g) ∧ Below w.heap.size w w') ∧ Hid (price r = true → decide (0 < g) = !Rr.b r rat0) := by
 refine ⟨Bg.intA r.s r.M, (Bg.toZ r.s r.M).sign, Bg.intA_size _ _, Zi (by rw [Rr.c_eq]; exact ratA_num _ _ _ _), Zi (by rw [Rr.c_eq]; exact la_rnum _ _ _ _), Zi fun w => sign_any r.s r.M r.hM _ (Zi rfl) w, Zi fun hp => ?_⟩
 obtain ⟨o, ho⟩ := r.vc
 have h1 := (price_iff ho w).1 hp
 cases o with
 | none => exact h1.elim
 | some x =>
  have e := Rr.c_inj (x := r) (y := Rr.q x ho.1) (by rw [Rr.q_c, ho.2]) w
  have hn : (0 : Int) ≤ x.num := Rat.num_nonneg.2 h1.2.1
  have es : r.s = false := by
   rw [e]; exact Zf Zo
  have eM : r.M = x.num.natAbs := by rw [e]; rfl
  have ez : Bg.toZ r.s r.M = x.num := by rw [es, eM]; unfold Bg.toZ; simp; omega
  rw [ez]
  have hz := rat0_iff ho w
  by_cases hx : x = 0
  ·rw [hz.2 (by rw [hx]), hx]; rfl
  ·have hb : Rr.b r rat0 = false := by
     cases hb : Rr.b r rat0 with
     | false => rfl
     | true => exact absurd (Option.some.inj (hz.1 hb)) hx
   have hn0 : x.num ≠ 0 := fun h => hx (Rat.num_eq_zero.1 h)
   rw [hb, Zt (Int.sign_pos_iff.2 Zo)]; rfl
theorem LA.shift {T : TypeId} {c d : Array Value} {k n : Nat} {v : Value} {U : TypeId} (hT : aggT T = some true) (hs : sizT T = some n) (h : FA U c k (.agg d)) (hU : aggT U = some true) {e : Array Value} (hv : v = .agg e) (he : e.size = n) (h2 : LA T d 0 v) (hn : n ≤ d.size) (h0 : 0 < n) (hd : d.extract 0 n = e) : LA T c k v := by
 subst hv
 rcases h with ⟨h9, _⟩ | ⟨_, cs, h3, h4, h5, h6⟩
 ·rw [hU] at h9; cases h9
 ·injection h6 with h6
  subst h6
  refine la_in hT hs he (fun j hj => ?_) h0
  have e1 : (d.extract 0 n)[j]? = d[j]? := by rw [Array.getElem?_extract, if_pos Zo, Nat.zero_add]
  have e2 : (c.extract k (k + d.size))[j]? = c[k + j]? := by rw [Array.getElem?_extract, if_pos Zo]
  rw [← hd, e1, ← h5, e2]
theorem Jb.str_l (a b : ByteArray) : (a.toList == b.toList) = (a == b) := by
 rw [Bool.eq_iff_iff, beq_iff_eq, jb_str, Lib.toList_data, Lib.toList_data]
 exact ⟨fun h => by cases a; cases b; simp_all [Array.toList_inj], fun h => by rw [h]⟩
theorem Jb.str_d (a b : ByteArray) : decide (a.toList = b.toList) = (a == b) := by
 rw [← str_l]
 by_cases h : a.toList = b.toList
 ·rw [Zt h, beq_iff_eq.2 h]
 ·rw [Zf h, Zb h]
theorem ja_key_w (x : JA) : (decide (1 ≤ x.key.size) && (decide (x.key.size ≤ 64) && Jb.known x.kn)) = (!decide ((x.key.size : Int) = 0) && (decide ((x.key.size : Int) ≤ 64) && (decide (1 ≤ x.kn) && decide (x.kn ≤ 2147483647)))) := by
 rw [known_w]
 congr 1
 ·by_cases h : 1 ≤ x.key.size
  ·rw [Zt h, Zf Zo]; rfl
  ·rw [Zf h, Zt Zo]; rfl
 ·congr 1
  by_cases h : x.key.size ≤ 64
  ·rw [Zt h, Zt Zo]
  ·exact z9_66
theorem ja_right_p (x : JA) (g9 : Int) (hg : price x.csh = true → decide (0 < g9) = !Rr.b x.csh rat0) : x.right = ((!decide ((x.key.size : Int) = 0) && (decide ((x.key.size : Int) ≤ 64) && (decide (1 ≤ x.kn) && decide (x.kn ≤ 2147483647)))) && (if x.vd then JA.b x { JA.zero with key := x.key, kn := x.kn, vd := true } else (paper x.ins && ((decide (0 ≤ x.day) && decide (x.day ≤ 73048)) && (price x.csh && code x.cur))) && (if x.kd = 1 then decide (x.into.size = 0) && ((decide (1 ≤ x.nm) && decide (x.nm ≤ 1000000)) && (decide (1 ≤ x.dn) && decide (x.dn ≤ 1000000))) else if x.kd = 2 then decide (x.into.size = 0) && (decide (x.nm = 0) && (decide (x.dn = 0) && decide (0 < g9))) else if x.kd = 3 then paper x.into && (!(x.into == x.ins) && ((decide (1 ≤ x.nm) && decide (x.nm ≤ 1000000)) && (decide (1 ≤ x.dn) && decide (x.dn ≤ 1000000)))) else false))) := by
 unfold JA.right
 rw [ja_key_w, isDay_w]
 congr 1
 split
 ·rfl
 ·cases hp : price x.csh with
  | false => simp
  | true => rw [hg hp]; rfl
theorem ch_zero (w : World) : (zeroValue 173).run Tryz.prog w = (zeroValue 47).run Tryz.prog w := by kernel_rfl
theorem ch_und : Tryz.prog.underlying 173 = some (.struct (Tryz.prog.fieldsOf 173)) := by kernel_rfl
theorem ch_places (w : World) : ((Tryz.prog.fieldsOf 173).mapM (fun f => do pure (f.offset, ← sizeOf f.type)) : Sem (Array (Nat × Nat))).run Tryz.prog w = .ok [(0, 76)].toArray w := by kernel_rfl
theorem ch_build (c : Array Value) (hc : c.size = 76) (w : World) : (Instr.build 173 #[(0, .agg c)]).run Tryz.prog w = .ok (.agg c) w :=
 run_build_flds (l := [JA.zero.c]) ch_und (fun w => by rw [ch_zero, JA.zeroF]; simp [rowsOf]) ch_places (by simp [shapeOf, offs, List.range, List.range.loop, JA.size]) (by simp [Value.cells, hc]) (by simp [setsL, rowsOf, Value.cells]) w
end
section
open Jb
theorem jtr_any (x : JT) (hw : x.wf) (w : World) :
    Calls Tryz.prog 72 #[.agg x.c] w fun e w' => e = .returned (.bool x.right) ∧ Below w.heap.size w w' := by
 have HM := Mem.start w
 have flkey := (JT.f_key x).la
 have flfnd := (JT.f_fnd x).la
 have flcls := (JT.f_cls x).la
 have flfr := (JT.f_fr x).la
 have fltw := (JT.f_tw x).la
 have flun := (JT.f_un x).la
 have flday := (JT.f_day x).la
 have flkn := (JT.f_kn x).la
 have flvd := (JT.f_vd x).la
 have lx := x.la
 have E1 := JT.eq9 x { JT.zero with key := x.key, kn := x.kn, vd := true }
 have HB := fun w => JT.bld (parts := #[(0, .string x.key), (7, .int .i64 x.kn), (8, .bool true)]) (r := { JT.zero with key := x.key, kn := x.kn, vd := true }) (by simp [Value.cells]) (by rw [JT.rows]; rfl) w
 generalize JT.c { JT.zero with key := x.key, kn := x.kn, vd := true } = Y9 at E1 HB
 have HV : Hid (x.right = ((name x.key && (decide (1 ≤ x.kn) && decide (x.kn ≤ 2147483647))) && (if x.vd then JT.b x { JT.zero with key := x.key, kn := x.kn, vd := true } else (name x.fnd && (name x.cls && (JK.right x.fr && (JK.right x.tw && ((decide (1 ≤ x.un) && decide (x.un ≤ 1000000000000000)) && (decide (0 ≤ x.day) && decide (x.day ≤ 73048)))))))))) := Zi (by unfold JT.right; rw [isDay_w]; rfl)
 generalize x.right = v at HV ⊢
 have C1 := fun w => oname_any x.key (by have := hw; simp only [JT.wf, JK.wf] at this; omega) w
 have C2 := fun w => oname_any x.fnd (by have := hw; simp only [JT.wf, JK.wf] at this; omega) w
 have C3 := fun w => oname_any x.cls (by have := hw; simp only [JT.wf, JK.wf] at this; omega) w
 have C4 := fun w => oacc_any x.fr hw.2.2.2.1 w
 have C5 := fun w => oacc_any x.tw hw.2.2.2.2 w
 generalize name x.key = b1 at *
 generalize name x.fnd = b2 at *
 generalize name x.cls = b3 at *
 generalize JK.right x.fr = b4 at *
 generalize JK.right x.tw = b5 at *
 generalize JT.b x { JT.zero with key := x.key, kn := x.kn, vd := true } = b6 at *
 generalize x.vd = vd at HV flvd
 have hc : (b1 = true ∧ decide (x.kn < 1) = false ∧ decide (2147483647 < x.kn) = false ∧ vd = true ∧ b6 = v) ∨
     (b1 = true ∧ decide (x.kn < 1) = false ∧ decide (2147483647 < x.kn) = false ∧ vd = false ∧ b2 = true ∧ b3 = true ∧ b4 = true ∧ b5 = true ∧ decide (1 ≤ x.un) = true ∧ decide (x.un ≤ 1000000000000000) = true ∧ decide (0 ≤ x.day) = true ∧ decide (x.day ≤ 73048) = true ∧ true = v) ∨
     (b1 = true ∧ decide (x.kn < 1) = false ∧ decide (2147483647 < x.kn) = false ∧ vd = false ∧ b2 = true ∧ b3 = true ∧ b4 = true ∧ b5 = true ∧ decide (1 ≤ x.un) = true ∧ decide (x.un ≤ 1000000000000000) = true ∧ decide (0 ≤ x.day) = true ∧ decide (x.day ≤ 73048) = false ∧ false = v) ∨
     (b1 = true ∧ decide (x.kn < 1) = false ∧ decide (2147483647 < x.kn) = false ∧ vd = false ∧ b2 = true ∧ b3 = true ∧ b4 = true ∧ b5 = true ∧ decide (1 ≤ x.un) = true ∧ decide (x.un ≤ 1000000000000000) = true ∧ decide (0 ≤ x.day) = false ∧ false = v) ∨
     (b1 = true ∧ decide (x.kn < 1) = false ∧ decide (2147483647 < x.kn) = false ∧ vd = false ∧ b2 = true ∧ b3 = true ∧ b4 = true ∧ b5 = true ∧ decide (1 ≤ x.un) = true ∧ decide (x.un ≤ 1000000000000000) = false ∧ false = v) ∨
     (b1 = true ∧ decide (x.kn < 1) = false ∧ decide (2147483647 < x.kn) = false ∧ vd = false ∧ b2 = true ∧ b3 = true ∧ b4 = true ∧ b5 = true ∧ decide (1 ≤ x.un) = false ∧ false = v) ∨
     (b1 = true ∧ decide (x.kn < 1) = false ∧ decide (2147483647 < x.kn) = false ∧ vd = false ∧ b2 = true ∧ b3 = true ∧ b4 = true ∧ b5 = false ∧ false = v) ∨
     (b1 = true ∧ decide (x.kn < 1) = false ∧ decide (2147483647 < x.kn) = false ∧ vd = false ∧ b2 = true ∧ b3 = true ∧ b4 = false ∧ false = v) ∨
     (b1 = true ∧ decide (x.kn < 1) = false ∧ decide (2147483647 < x.kn) = false ∧ vd = false ∧ b2 = true ∧ b3 = false ∧ false = v) ∨
     (b1 = true ∧ decide (x.kn < 1) = false ∧ decide (2147483647 < x.kn) = false ∧ vd = false ∧ b2 = false ∧ false = v) ∨
     (b1 = true ∧ decide (x.kn < 1) = false ∧ decide (2147483647 < x.kn) = true ∧ false = v) ∨
     (b1 = true ∧ decide (x.kn < 1) = true ∧ false = v) ∨
     (b1 = false ∧ false = v) := by
  clear HM C1 C2 C3 C4 C5
  cases b1 with
  | true =>
   by_cases h1 : 1 ≤ x.kn
   ·skip
    by_cases h2 : x.kn ≤ 2147483647
    ·skip
     cases vd with
     | true =>
      exact .inl (⟨rfl, Zn h1, Zn h2, rfl, by rw [HV.out]; simp [h1, h2]⟩)
     | false =>
      cases b2 with
      | true =>
       cases b3 with
       | true =>
        cases b4 with
        | true =>
         cases b5 with
         | true =>
          by_cases h3 : 1 ≤ x.un
          ·skip
           by_cases h4 : x.un ≤ 1000000000000000
           ·skip
            by_cases h5 : 0 ≤ x.day
            ·skip
             by_cases h6 : x.day ≤ 73048
             ·skip
              exact .inr (.inl (⟨rfl, Zn h1, Zn h2, rfl, rfl, rfl, rfl, rfl, Zt h3, Zt h4, Zt h5, Zt h6, by rw [HV.out]; simp [h1, h2, h3, h4, h5, h6]⟩))
             ·skip
              exact .inr (.inr (.inl (⟨rfl, Zn h1, Zn h2, rfl, rfl, rfl, rfl, rfl, Zt h3, Zt h4, Zt h5, Zf h6, by rw [HV.out]; simp [h1, h2, h3, h4, h5, h6]⟩)))
            ·skip
             exact .inr (.inr (.inr (.inl (⟨rfl, Zn h1, Zn h2, rfl, rfl, rfl, rfl, rfl, Zt h3, Zt h4, Zf h5, by rw [HV.out]; simp [h1, h2, h3, h4, h5]⟩))))
           ·skip
            exact Zr (.inl (⟨rfl, Zn h1, Zn h2, rfl, rfl, rfl, rfl, rfl, Zt h3, Zf h4, by rw [HV.out]; simp [h1, h2, h3, h4]⟩))
          ·skip
           exact Zr (.inr (.inl (⟨rfl, Zn h1, Zn h2, rfl, rfl, rfl, rfl, rfl, Zf h3, by rw [HV.out]; simp [h1, h2, h3]⟩)))
         | false =>
          exact Zr (.inr (.inr (.inl (⟨rfl, Zn h1, Zn h2, rfl, rfl, rfl, rfl, rfl, by rw [HV.out]; simp [h1, h2]⟩))))
        | false =>
         exact Zr (.inr (.inr (.inr (.inl (⟨rfl, Zn h1, Zn h2, rfl, rfl, rfl, rfl, by rw [HV.out]; simp [h1, h2]⟩)))))
       | false =>
        exact Zr (Zr (.inl (⟨rfl, Zn h1, Zn h2, rfl, rfl, rfl, by rw [HV.out]; simp [h1, h2]⟩)))
      | false =>
       exact Zr (Zr (.inr (.inl (⟨rfl, Zn h1, Zn h2, rfl, rfl, by rw [HV.out]; simp [h1, h2]⟩))))
    ·skip
     exact Zr (Zr (.inr (.inr (.inl (⟨rfl, Zn h1, Zt (Int.not_le.1 h2), by rw [HV.out]; simp [h1, h2]⟩)))))
   ·skip
    exact Zr (Zr (.inr (.inr (.inr (.inl (⟨rfl, Zt (Int.not_le.1 h1), by rw [HV.out]; simp [h1]⟩))))))
  | false =>
   exact Zr (Zr (Zr (⟨rfl, by rw [HV.out]; simp⟩)))
 clear HV
 rcases hc with ⟨rfl, g1, g2, rfl, rfl⟩ | ⟨rfl, g1, g2, rfl, rfl, rfl, rfl, rfl, g8, g9, g10, g11, rfl⟩ | ⟨rfl, g1, g2, rfl, rfl, rfl, rfl, rfl, g8, g9, g10, g11, rfl⟩ | ⟨rfl, g1, g2, rfl, rfl, rfl, rfl, rfl, g8, g9, g10, rfl⟩ | ⟨rfl, g1, g2, rfl, rfl, rfl, rfl, rfl, g8, g9, rfl⟩ | ⟨rfl, g1, g2, rfl, rfl, rfl, rfl, rfl, g8, rfl⟩ | ⟨rfl, g1, g2, rfl, rfl, rfl, rfl, rfl, rfl⟩ | ⟨rfl, g1, g2, rfl, rfl, rfl, rfl, rfl⟩ | ⟨rfl, g1, g2, rfl, rfl, rfl, rfl⟩ | ⟨rfl, g1, g2, rfl, rfl, rfl⟩ | ⟨rfl, g1, g2, rfl⟩ | ⟨rfl, g1, rfl⟩ | ⟨rfl, rfl⟩
 all_goals
  go_enter Tryz.func72, Tryz.ntmps72
  go_wp2_with (first | ((with_reducible refine g_offw ?_); refine a_offw ?_) | ((first | (go_at_call 63; with_reducible refine (C1 _).mono ?_) | (go_at_call 63; with_reducible refine (C2 _).mono ?_) | (go_at_call 63; with_reducible refine (C3 _).mono ?_) | (go_at_call 94; with_reducible refine (C4 _).mono ?_) | (go_at_call 94; with_reducible refine (C5 _).mono ?_)); rintro e9 w2 ⟨rfl, hL⟩; replace HM := HM.call hL; clear hL) | ((with_reducible refine g_bld ?_); refine a_rbl (v := .agg Y9) ?_ (hy := h_bg3 rfl Zw Zw Zw (by with_reducible exact (HB)))) | ((with_reducible refine g_bin ?_); refine a_seqb (E1) Zk ?_) | ((with_reducible refine g_ld ?_); refine a_ld HM ?_) | ((with_reducible refine g_bx ?_); refine a_bx HM ?_; clear HM; intro bk w1 HM))
  go_ret
  exact ⟨rfl, HM.low⟩
theorem srt_any (x : JS) (hw : x.wf) (w : World) :
    Calls Tryz.prog 95 #[.agg x.c] w fun e w' => e = .returned (.bool x.right) ∧ Below w.heap.size w w' := by
 have HM := Mem.start w
 have flkey := (JS.f_key x).la
 have flfnd := (JS.f_fnd x).la
 have flfr := (JS.f_fr x).la
 have fltl := (JS.f_tl x).la
 have flkn := (JS.f_kn x).la
 have flvd := (JS.f_vd x).la
 have lx := x.la
 have E1 := JS.eq9 x { JS.zero with key := x.key, kn := x.kn, vd := true }
 have HB := fun w => JS.bld (parts := #[(0, .string x.key), (4, .int .i64 x.kn), (5, .bool true)]) (r := { JS.zero with key := x.key, kn := x.kn, vd := true }) (by simp [Value.cells]) (by rw [JS.rows]; rfl) w
 generalize JS.c { JS.zero with key := x.key, kn := x.kn, vd := true } = Y9 at E1 HB
 have HV : Hid (x.right = ((name x.key && (decide (1 ≤ x.kn) && decide (x.kn ≤ 2147483647))) && (if x.vd then JS.b x { JS.zero with key := x.key, kn := x.kn, vd := true } else (name x.fnd && (decide (0 ≤ x.fr) && (decide (x.fr ≤ 73048) && (decide (x.tl = 0) || (decide (x.fr ≤ x.tl) && decide (x.tl ≤ 73048))))))))) := Zi (rfl)
 generalize x.right = v at HV ⊢
 have C1 := fun w => oname_any x.key (by have := hw; simp only [JS.wf] at this; omega) w
 have C2 := fun w => oname_any x.fnd (by have := hw; simp only [JS.wf] at this; omega) w
 generalize name x.key = b1 at *
 generalize name x.fnd = b2 at *
 generalize JS.b x { JS.zero with key := x.key, kn := x.kn, vd := true } = b3 at *
 generalize x.vd = vd at HV flvd
 have hc : (b1 = true ∧ decide (x.kn < 1) = false ∧ decide (2147483647 < x.kn) = false ∧ vd = true ∧ b3 = v) ∨
     (b1 = true ∧ decide (x.kn < 1) = false ∧ decide (2147483647 < x.kn) = false ∧ vd = false ∧ b2 = true ∧ decide (0 ≤ x.fr) = true ∧ decide (x.fr ≤ 73048) = true ∧ (x.tl == 0) = true ∧ true = v) ∨
     (b1 = true ∧ decide (x.kn < 1) = false ∧ decide (2147483647 < x.kn) = false ∧ vd = false ∧ b2 = true ∧ decide (0 ≤ x.fr) = true ∧ decide (x.fr ≤ 73048) = true ∧ (x.tl == 0) = false ∧ decide (x.fr ≤ x.tl) = true ∧ decide (x.tl ≤ 73048) = true ∧ true = v) ∨
     (b1 = true ∧ decide (x.kn < 1) = false ∧ decide (2147483647 < x.kn) = false ∧ vd = false ∧ b2 = true ∧ decide (0 ≤ x.fr) = true ∧ decide (x.fr ≤ 73048) = true ∧ (x.tl == 0) = false ∧ decide (x.fr ≤ x.tl) = true ∧ decide (x.tl ≤ 73048) = false ∧ false = v) ∨
     (b1 = true ∧ decide (x.kn < 1) = false ∧ decide (2147483647 < x.kn) = false ∧ vd = false ∧ b2 = true ∧ decide (0 ≤ x.fr) = true ∧ decide (x.fr ≤ 73048) = true ∧ (x.tl == 0) = false ∧ decide (x.fr ≤ x.tl) = false ∧ false = v) ∨
     (b1 = true ∧ decide (x.kn < 1) = false ∧ decide (2147483647 < x.kn) = false ∧ vd = false ∧ b2 = true ∧ decide (0 ≤ x.fr) = true ∧ decide (x.fr ≤ 73048) = false ∧ false = v) ∨
     (b1 = true ∧ decide (x.kn < 1) = false ∧ decide (2147483647 < x.kn) = false ∧ vd = false ∧ b2 = true ∧ decide (0 ≤ x.fr) = false ∧ false = v) ∨
     (b1 = true ∧ decide (x.kn < 1) = false ∧ decide (2147483647 < x.kn) = false ∧ vd = false ∧ b2 = false ∧ false = v) ∨
     (b1 = true ∧ decide (x.kn < 1) = false ∧ decide (2147483647 < x.kn) = true ∧ false = v) ∨
     (b1 = true ∧ decide (x.kn < 1) = true ∧ false = v) ∨
     (b1 = false ∧ false = v) := by
  clear HM C1 C2
  cases b1 with
  | true =>
   by_cases h1 : 1 ≤ x.kn
   ·skip
    by_cases h2 : x.kn ≤ 2147483647
    ·skip
     cases vd with
     | true =>
      exact .inl (⟨rfl, Zn h1, Zn h2, rfl, by rw [HV.out]; simp [h1, h2]⟩)
     | false =>
      cases b2 with
      | true =>
       by_cases h3 : 0 ≤ x.fr
       ·skip
        by_cases h4 : x.fr ≤ 73048
        ·skip
         by_cases h5 : x.tl = 0
         ·skip
          exact .inr (.inl (⟨rfl, Zn h1, Zn h2, rfl, rfl, Zt h3, Zt h4, beq_iff_eq.2 h5, by rw [HV.out]; simp [h1, h2, h3, h4, h5]⟩))
         ·skip
          by_cases h6 : x.fr ≤ x.tl
          ·skip
           by_cases h7 : x.tl ≤ 73048
           ·skip
            exact .inr (.inr (.inl (⟨rfl, Zn h1, Zn h2, rfl, rfl, Zt h3, Zt h4, Zb h5, Zt h6, Zt h7, by rw [HV.out]; simp [h1, h2, h3, h4, h5, h6, h7]⟩)))
           ·skip
            exact .inr (.inr (.inr (.inl (⟨rfl, Zn h1, Zn h2, rfl, rfl, Zt h3, Zt h4, Zb h5, Zt h6, Zf h7, by rw [HV.out]; simp [h1, h2, h3, h4, h5, h6, h7]⟩))))
          ·skip
           exact Zr (.inl (⟨rfl, Zn h1, Zn h2, rfl, rfl, Zt h3, Zt h4, Zb h5, Zf h6, by rw [HV.out]; simp [h1, h2, h3, h4, h5, h6]⟩))
        ·skip
         exact Zr (.inr (.inl (⟨rfl, Zn h1, Zn h2, rfl, rfl, Zt h3, Zf h4, by rw [HV.out]; simp [h1, h2, h3, h4]⟩)))
       ·skip
        exact Zr (.inr (.inr (.inl (⟨rfl, Zn h1, Zn h2, rfl, rfl, Zf h3, by rw [HV.out]; simp [h1, h2, h3]⟩))))
      | false =>
       exact Zr (.inr (.inr (.inr (.inl (⟨rfl, Zn h1, Zn h2, rfl, rfl, by rw [HV.out]; simp [h1, h2]⟩)))))
    ·skip
     exact Zr (Zr (.inl (⟨rfl, Zn h1, Zt (Int.not_le.1 h2), by rw [HV.out]; simp [h1, h2]⟩)))
   ·skip
    exact Zr (Zr (.inr (.inl (⟨rfl, Zt (Int.not_le.1 h1), by rw [HV.out]; simp [h1]⟩))))
  | false =>
   exact Zr (Zr (.inr (.inr (⟨rfl, by rw [HV.out]; simp⟩))))
 clear HV
 rcases hc with ⟨rfl, g1, g2, rfl, rfl⟩ | ⟨rfl, g1, g2, rfl, rfl, g5, g6, g7, rfl⟩ | ⟨rfl, g1, g2, rfl, rfl, g5, g6, g7, g8, g9, rfl⟩ | ⟨rfl, g1, g2, rfl, rfl, g5, g6, g7, g8, g9, rfl⟩ | ⟨rfl, g1, g2, rfl, rfl, g5, g6, g7, g8, rfl⟩ | ⟨rfl, g1, g2, rfl, rfl, g5, g6, rfl⟩ | ⟨rfl, g1, g2, rfl, rfl, g5, rfl⟩ | ⟨rfl, g1, g2, rfl, rfl, rfl⟩ | ⟨rfl, g1, g2, rfl⟩ | ⟨rfl, g1, rfl⟩ | ⟨rfl, rfl⟩
 all_goals
  go_enter Tryz.func95, Tryz.ntmps95
  go_wp2_with (first | ((with_reducible refine g_offw ?_); refine a_offw ?_) | ((first | (go_at_call 63; with_reducible refine (C1 _).mono ?_) | (go_at_call 63; with_reducible refine (C2 _).mono ?_)); rintro e9 w2 ⟨rfl, hL⟩; replace HM := HM.call hL; clear hL) | ((with_reducible refine g_bld ?_); refine a_rbl (v := .agg Y9) ?_ (hy := h_bg3 rfl Zw Zw Zw (by with_reducible exact (HB)))) | ((with_reducible refine g_bin ?_); refine a_seqb (E1) Zk ?_) | ((with_reducible refine g_ld ?_); refine a_ld HM ?_) | ((with_reducible refine g_bx ?_); refine a_bx HM ?_; clear HM; intro bk w1 HM))
  go_ret
  exact ⟨rfl, HM.low⟩
end
end Go.Proofs.YtkiempioeffhbaaGreatDoor
