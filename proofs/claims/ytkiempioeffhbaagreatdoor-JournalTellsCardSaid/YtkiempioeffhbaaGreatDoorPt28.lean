/- Walks. -/
import Derived.Test.YtkiempioeffhbaaGreatDoorPt25
namespace Go.Proofs.YtkiempioeffhbaaGreatDoor
set_option maxHeartbeats 16000000
open Go.RowKit
set_option maxRecDepth 8000
set_option linter.unusedSimpArgs false
set_option linter.unusedVariables false
section
theorem z9_112 {P : Prop} (h : P := by
 skip
 by_cases h2 : x.kn ≤ 2147483647
 ·skip
  cases vd with
  | true =>
   exact .inl (⟨rfl, Zn h1, Zn h2, rfl, by rw [HV.out]; simp [h1, h2]⟩)
  | false =>
   cases b2 with
   | true =>
    cases b3 with
    | true =>
     cases b4 with
     | true =>
      cases b5 with
      | true =>
       by_cases h3 : 1 ≤ x.un
       ·skip
        by_cases h4 : x.un ≤ 1000000000000000
        ·skip
         by_cases h5 : 0 ≤ x.day
         ·skip
          by_cases h6 : x.day ≤ 73048
          ·skip
           exact .inr (.inl (⟨rfl, Zn h1, Zn h2, rfl, rfl, rfl, rfl, rfl, Zt h3, Zt h4, Zt h5, Zt h6, by rw [HV.out]; simp [h1, h2, h3, h4, h5, h6]⟩))
          ·skip
           exact .inr (.inr (.inl (⟨rfl, Zn h1, Zn h2, rfl, rfl, rfl, rfl, rfl, Zt h3, Zt h4, Zt h5, Zf h6, by rw [HV.out]; simp [h1, h2, h3, h4, h5, h6]⟩)))
         ·skip
          exact .inr (.inr (.inr (.inl (⟨rfl, Zn h1, Zn h2, rfl, rfl, rfl, rfl, rfl, Zt h3, Zt h4, Zf h5, by rw [HV.out]; simp [h1, h2, h3, h4, h5]⟩))))
        ·skip
         exact Zr (.inl (⟨rfl, Zn h1, Zn h2, rfl, rfl, rfl, rfl, rfl, Zt h3, Zf h4, by rw [HV.out]; simp [h1, h2, h3, h4]⟩))
       ·skip
        exact Zr (.inr (.inl (⟨rfl, Zn h1, Zn h2, rfl, rfl, rfl, rfl, rfl, Zf h3, by rw [HV.out]; simp [h1, h2, h3]⟩)))
      | false =>
       exact Zr (.inr (.inr (.inl (⟨rfl, Zn h1, Zn h2, rfl, rfl, rfl, rfl, rfl, by rw [HV.out]; simp [h1, h2]⟩))))
     | false =>
      exact Zr (.inr (.inr (.inr (.inl (⟨rfl, Zn h1, Zn h2, rfl, rfl, rfl, rfl, by rw [HV.out]; simp [h1, h2]⟩)))))
    | false =>
     exact Zr (Zr (.inl (⟨rfl, Zn h1, Zn h2, rfl, rfl, rfl, by rw [HV.out]; simp [h1, h2]⟩)))
   | false =>
    exact Zr (Zr (.inr (.inl (⟨rfl, Zn h1, Zn h2, rfl, rfl, by rw [HV.out]; simp [h1, h2]⟩))))
 ·skip
  exact Zr (Zr (.inr (.inr (.inl (⟨rfl, Zn h1, Zt (Int.not_le.1 h2), by rw [HV.out]; simp [h1, h2]⟩)))))) : P := h
theorem z9_113 {P : Prop} (h : P := by
 skip
 exact Zr (Zr (.inr (.inr (.inr (.inl (⟨rfl, Zt (Int.not_le.1 h1), by rw [HV.out]; simp [h1]⟩))))))) : P := h
theorem z9_114 {P : Prop} (h : P := by
 skip
 by_cases h2 : x.kn ≤ 2147483647
 ·skip
  cases vd with
  | true =>
   exact .inl (⟨rfl, Zn h1, Zn h2, rfl, by rw [HV.out]; simp [h1, h2]⟩)
  | false =>
   cases b2 with
   | true =>
    by_cases h3 : 0 ≤ x.fr
    ·skip
     by_cases h4 : x.fr ≤ 73048
     ·skip
      by_cases h5 : x.tl = 0
      ·skip
       exact .inr (.inl (⟨rfl, Zn h1, Zn h2, rfl, rfl, Zt h3, Zt h4, beq_iff_eq.2 h5, by rw [HV.out]; simp [h1, h2, h3, h4, h5]⟩))
      ·skip
       by_cases h6 : x.fr ≤ x.tl
       ·skip
        by_cases h7 : x.tl ≤ 73048
        ·skip
         exact .inr (.inr (.inl (⟨rfl, Zn h1, Zn h2, rfl, rfl, Zt h3, Zt h4, Zb h5, Zt h6, Zt h7, by rw [HV.out]; simp [h1, h2, h3, h4, h5, h6, h7]⟩)))
        ·skip
         exact .inr (.inr (.inr (.inl (⟨rfl, Zn h1, Zn h2, rfl, rfl, Zt h3, Zt h4, Zb h5, Zt h6, Zf h7, by rw [HV.out]; simp [h1, h2, h3, h4, h5, h6, h7]⟩))))
       ·skip
        exact Zr (.inl (⟨rfl, Zn h1, Zn h2, rfl, rfl, Zt h3, Zt h4, Zb h5, Zf h6, by rw [HV.out]; simp [h1, h2, h3, h4, h5, h6]⟩))
     ·skip
      exact Zr (.inr (.inl (⟨rfl, Zn h1, Zn h2, rfl, rfl, Zt h3, Zf h4, by rw [HV.out]; simp [h1, h2, h3, h4]⟩)))
    ·skip
     exact Zr (.inr (.inr (.inl (⟨rfl, Zn h1, Zn h2, rfl, rfl, Zf h3, by rw [HV.out]; simp [h1, h2, h3]⟩))))
   | false =>
    exact Zr (.inr (.inr (.inr (.inl (⟨rfl, Zn h1, Zn h2, rfl, rfl, by rw [HV.out]; simp [h1, h2]⟩)))))
 ·skip
  exact Zr (Zr (.inl (⟨rfl, Zn h1, Zt (Int.not_le.1 h2), by rw [HV.out]; simp [h1, h2]⟩)))) : P := h
theorem z9_115 {P : Prop} (h : P := by
 skip
 exact Zr (Zr (.inr (.inl (⟨rfl, Zt (Int.not_le.1 h1), by rw [HV.out]; simp [h1]⟩))))) : P := h
end
section
open Jb
theorem jtr_any (x : JT) (hw : x.wf) (w : World) :
    Calls Tryz.prog 72 #[.agg x.c] w fun e w' => e = .returned (.bool x.right) ∧ Below w.heap.size w w' := by
 have HM := Mem.start w
 have flkey := (JT.f_key x).la
 have flfnd := (JT.f_fnd x).la
 have flcls := (JT.f_cls x).la
 have flfr := (JT.f_fr x).la
 have fltw := (JT.f_tw x).la
 have flun := (JT.f_un x).la
 have flday := (JT.f_day x).la
 have flkn := (JT.f_kn x).la
 have flvd := (JT.f_vd x).la
 have lx := x.la
 have E1 := JT.eq9 x { JT.zero with key := x.key, kn := x.kn, vd := true }
 have HB := fun w => JT.bld (parts := #[(0, .string x.key), (7, .int .i64 x.kn), (8, .bool true)]) (r := { JT.zero with key := x.key, kn := x.kn, vd := true }) (by simp [Value.cells]) (by rw [JT.rows]; rfl) w
 generalize JT.c { JT.zero with key := x.key, kn := x.kn, vd := true } = Y9 at E1 HB
 have HV : Hid (x.right = ((name x.key && (decide (1 ≤ x.kn) && decide (x.kn ≤ 2147483647))) && (if x.vd then JT.b x { JT.zero with key := x.key, kn := x.kn, vd := true } else (name x.fnd && (name x.cls && (JK.right x.fr && (JK.right x.tw && ((decide (1 ≤ x.un) && decide (x.un ≤ 1000000000000000)) && (decide (0 ≤ x.day) && decide (x.day ≤ 73048)))))))))) := Zi (by unfold JT.right; rw [isDay_w]; rfl)
 generalize x.right = v at HV ⊢
 have C1 := fun w => oname_any x.key (by have := hw; simp only [JT.wf, JK.wf] at this; omega) w
 have C2 := fun w => oname_any x.fnd (by have := hw; simp only [JT.wf, JK.wf] at this; omega) w
 have C3 := fun w => oname_any x.cls (by have := hw; simp only [JT.wf, JK.wf] at this; omega) w
 have C4 := fun w => oacc_any x.fr hw.2.2.2.1 w
 have C5 := fun w => oacc_any x.tw hw.2.2.2.2 w
 generalize name x.key = b1 at *
 generalize name x.fnd = b2 at *
 generalize name x.cls = b3 at *
 generalize JK.right x.fr = b4 at *
 generalize JK.right x.tw = b5 at *
 generalize JT.b x { JT.zero with key := x.key, kn := x.kn, vd := true } = b6 at *
 generalize x.vd = vd at HV flvd
 have hc : (b1 = true ∧ decide (x.kn < 1) = false ∧ decide (2147483647 < x.kn) = false ∧ vd = true ∧ b6 = v) ∨
     (b1 = true ∧ decide (x.kn < 1) = false ∧ decide (2147483647 < x.kn) = false ∧ vd = false ∧ b2 = true ∧ b3 = true ∧ b4 = true ∧ b5 = true ∧ decide (1 ≤ x.un) = true ∧ decide (x.un ≤ 1000000000000000) = true ∧ decide (0 ≤ x.day) = true ∧ decide (x.day ≤ 73048) = true ∧ true = v) ∨
     (b1 = true ∧ decide (x.kn < 1) = false ∧ decide (2147483647 < x.kn) = false ∧ vd = false ∧ b2 = true ∧ b3 = true ∧ b4 = true ∧ b5 = true ∧ decide (1 ≤ x.un) = true ∧ decide (x.un ≤ 1000000000000000) = true ∧ decide (0 ≤ x.day) = true ∧ decide (x.day ≤ 73048) = false ∧ false = v) ∨
     (b1 = true ∧ decide (x.kn < 1) = false ∧ decide (2147483647 < x.kn) = false ∧ vd = false ∧ b2 = true ∧ b3 = true ∧ b4 = true ∧ b5 = true ∧ decide (1 ≤ x.un) = true ∧ decide (x.un ≤ 1000000000000000) = true ∧ decide (0 ≤ x.day) = false ∧ false = v) ∨
     (b1 = true ∧ decide (x.kn < 1) = false ∧ decide (2147483647 < x.kn) = false ∧ vd = false ∧ b2 = true ∧ b3 = true ∧ b4 = true ∧ b5 = true ∧ decide (1 ≤ x.un) = true ∧ decide (x.un ≤ 1000000000000000) = false ∧ false = v) ∨
     (b1 = true ∧ decide (x.kn < 1) = false ∧ decide (2147483647 < x.kn) = false ∧ vd = false ∧ b2 = true ∧ b3 = true ∧ b4 = true ∧ b5 = true ∧ decide (1 ≤ x.un) = false ∧ false = v) ∨
     (b1 = true ∧ decide (x.kn < 1) = false ∧ decide (2147483647 < x.kn) = false ∧ vd = false ∧ b2 = true ∧ b3 = true ∧ b4 = true ∧ b5 = false ∧ false = v) ∨
     (b1 = true ∧ decide (x.kn < 1) = false ∧ decide (2147483647 < x.kn) = false ∧ vd = false ∧ b2 = true ∧ b3 = true ∧ b4 = false ∧ false = v) ∨
     (b1 = true ∧ decide (x.kn < 1) = false ∧ decide (2147483647 < x.kn) = false ∧ vd = false ∧ b2 = true ∧ b3 = false ∧ false = v) ∨
     (b1 = true ∧ decide (x.kn < 1) = false ∧ decide (2147483647 < x.kn) = false ∧ vd = false ∧ b2 = false ∧ false = v) ∨
     (b1 = true ∧ decide (x.kn < 1) = false ∧ decide (2147483647 < x.kn) = true ∧ false = v) ∨
     (b1 = true ∧ decide (x.kn < 1) = true ∧ false = v) ∨
     (b1 = false ∧ false = v) := by
  clear HM C1 C2 C3 C4 C5
  cases b1 with
  | true =>
   by_cases h1 : 1 ≤ x.kn
   ·exact z9_112
   ·exact z9_113
  | false =>
   exact Zr (Zr (Zr (⟨rfl, by rw [HV.out]; simp⟩)))
 clear HV
 rcases hc with ⟨rfl, g1, g2, rfl, rfl⟩ | ⟨rfl, g1, g2, rfl, rfl, rfl, rfl, rfl, g8, g9, g10, g11, rfl⟩ | ⟨rfl, g1, g2, rfl, rfl, rfl, rfl, rfl, g8, g9, g10, g11, rfl⟩ | ⟨rfl, g1, g2, rfl, rfl, rfl, rfl, rfl, g8, g9, g10, rfl⟩ | ⟨rfl, g1, g2, rfl, rfl, rfl, rfl, rfl, g8, g9, rfl⟩ | ⟨rfl, g1, g2, rfl, rfl, rfl, rfl, rfl, g8, rfl⟩ | ⟨rfl, g1, g2, rfl, rfl, rfl, rfl, rfl, rfl⟩ | ⟨rfl, g1, g2, rfl, rfl, rfl, rfl, rfl⟩ | ⟨rfl, g1, g2, rfl, rfl, rfl, rfl⟩ | ⟨rfl, g1, g2, rfl, rfl, rfl⟩ | ⟨rfl, g1, g2, rfl⟩ | ⟨rfl, g1, rfl⟩ | ⟨rfl, rfl⟩
 all_goals
  go_enter Tryz.func72, Tryz.ntmps72
  go_wp2_with (first | ((with_reducible refine g_offw ?_); refine a_offw ?_) | ((first | (go_at_call 63; with_reducible refine (C1 _).mono ?_) | (go_at_call 63; with_reducible refine (C2 _).mono ?_) | (go_at_call 63; with_reducible refine (C3 _).mono ?_) | (go_at_call 94; with_reducible refine (C4 _).mono ?_) | (go_at_call 94; with_reducible refine (C5 _).mono ?_)); rintro e9 w2 ⟨rfl, hL⟩; replace HM := HM.call hL; clear hL) | ((with_reducible refine g_bld ?_); refine a_rbl (v := .agg Y9) ?_ (hy := h_bg3 rfl Zw Zw Zw (by with_reducible exact (HB)))) | ((with_reducible refine g_bin ?_); refine a_seqb (E1) Zk ?_) | ((with_reducible refine g_ld ?_); refine a_ld HM ?_) | ((with_reducible refine g_bx ?_); refine a_bx HM ?_; clear HM; intro bk w1 HM))
  go_ret
  exact ⟨rfl, HM.low⟩
theorem rtr_any (x : JT) (hw : x.wf) (w : World) :
    Calls Tryz.prog 81 #[.agg x.c] w fun e w' => e = .returned (.bool x.right) ∧ Below w.heap.size w w' := by
 have HM := Mem.start w
 have flkey := (JT.f_key x).la
 have flfnd := (JT.f_fnd x).la
 have flcls := (JT.f_cls x).la
 have flfr := (JT.f_fr x).la
 have fltw := (JT.f_tw x).la
 have flun := (JT.f_un x).la
 have flday := (JT.f_day x).la
 have flkn := (JT.f_kn x).la
 have flvd := (JT.f_vd x).la
 have lx := x.la
 have E1 := JT.eq9 x { JT.zero with key := x.key, kn := x.kn, vd := true }
 have HB := fun w => JT.bld (parts := #[(0, .string x.key), (7, .int .i64 x.kn), (8, .bool true)]) (r := { JT.zero with key := x.key, kn := x.kn, vd := true }) (by simp [Value.cells]) (by rw [JT.rows]; rfl) w
 generalize JT.c { JT.zero with key := x.key, kn := x.kn, vd := true } = Y9 at E1 HB
 have HV : Hid (x.right = ((name x.key && (decide (1 ≤ x.kn) && decide (x.kn ≤ 2147483647))) && (if x.vd then JT.b x { JT.zero with key := x.key, kn := x.kn, vd := true } else (name x.fnd && (name x.cls && (JK.right x.fr && (JK.right x.tw && ((decide (1 ≤ x.un) && decide (x.un ≤ 1000000000000000)) && (decide (0 ≤ x.day) && decide (x.day ≤ 73048)))))))))) := Zi (by unfold JT.right; rw [isDay_w]; rfl)
 generalize x.right = v at HV ⊢
 have C1 := fun w => rname23_any x.key w
 have C2 := fun w => rname23_any x.fnd w
 have C3 := fun w => rname23_any x.cls w
 have C4 := fun w => racc_any x.fr hw.2.2.2.1 w
 have C5 := fun w => racc_any x.tw hw.2.2.2.2 w
 generalize name x.key = b1 at *
 generalize name x.fnd = b2 at *
 generalize name x.cls = b3 at *
 generalize JK.right x.fr = b4 at *
 generalize JK.right x.tw = b5 at *
 generalize JT.b x { JT.zero with key := x.key, kn := x.kn, vd := true } = b6 at *
 generalize x.vd = vd at HV flvd
 have hc : (b1 = true ∧ decide (x.kn < 1) = false ∧ decide (2147483647 < x.kn) = false ∧ vd = true ∧ b6 = v) ∨
     (b1 = true ∧ decide (x.kn < 1) = false ∧ decide (2147483647 < x.kn) = false ∧ vd = false ∧ b2 = true ∧ b3 = true ∧ b4 = true ∧ b5 = true ∧ decide (1 ≤ x.un) = true ∧ decide (x.un ≤ 1000000000000000) = true ∧ decide (0 ≤ x.day) = true ∧ decide (x.day ≤ 73048) = true ∧ true = v) ∨
     (b1 = true ∧ decide (x.kn < 1) = false ∧ decide (2147483647 < x.kn) = false ∧ vd = false ∧ b2 = true ∧ b3 = true ∧ b4 = true ∧ b5 = true ∧ decide (1 ≤ x.un) = true ∧ decide (x.un ≤ 1000000000000000) = true ∧ decide (0 ≤ x.day) = true ∧ decide (x.day ≤ 73048) = false ∧ false = v) ∨
     (b1 = true ∧ decide (x.kn < 1) = false ∧ decide (2147483647 < x.kn) = false ∧ vd = false ∧ b2 = true ∧ b3 = true ∧ b4 = true ∧ b5 = true ∧ decide (1 ≤ x.un) = true ∧ decide (x.un ≤ 1000000000000000) = true ∧ decide (0 ≤ x.day) = false ∧ false = v) ∨
     (b1 = true ∧ decide (x.kn < 1) = false ∧ decide (2147483647 < x.kn) = false ∧ vd = false ∧ b2 = true ∧ b3 = true ∧ b4 = true ∧ b5 = true ∧ decide (1 ≤ x.un) = true ∧ decide (x.un ≤ 1000000000000000) = false ∧ false = v) ∨
     (b1 = true ∧ decide (x.kn < 1) = false ∧ decide (2147483647 < x.kn) = false ∧ vd = false ∧ b2 = true ∧ b3 = true ∧ b4 = true ∧ b5 = true ∧ decide (1 ≤ x.un) = false ∧ false = v) ∨
     (b1 = true ∧ decide (x.kn < 1) = false ∧ decide (2147483647 < x.kn) = false ∧ vd = false ∧ b2 = true ∧ b3 = true ∧ b4 = true ∧ b5 = false ∧ false = v) ∨
     (b1 = true ∧ decide (x.kn < 1) = false ∧ decide (2147483647 < x.kn) = false ∧ vd = false ∧ b2 = true ∧ b3 = true ∧ b4 = false ∧ false = v) ∨
     (b1 = true ∧ decide (x.kn < 1) = false ∧ decide (2147483647 < x.kn) = false ∧ vd = false ∧ b2 = true ∧ b3 = false ∧ false = v) ∨
     (b1 = true ∧ decide (x.kn < 1) = false ∧ decide (2147483647 < x.kn) = false ∧ vd = false ∧ b2 = false ∧ false = v) ∨
     (b1 = true ∧ decide (x.kn < 1) = false ∧ decide (2147483647 < x.kn) = true ∧ false = v) ∨
     (b1 = true ∧ decide (x.kn < 1) = true ∧ false = v) ∨
     (b1 = false ∧ false = v) := by
  clear HM C1 C2 C3 C4 C5
  cases b1 with
  | true =>
   by_cases h1 : 1 ≤ x.kn
   ·exact z9_112
   ·exact z9_113
  | false =>
   exact Zr (Zr (Zr (⟨rfl, by rw [HV.out]; simp⟩)))
 clear HV
 rcases hc with ⟨rfl, g1, g2, rfl, rfl⟩ | ⟨rfl, g1, g2, rfl, rfl, rfl, rfl, rfl, g8, g9, g10, g11, rfl⟩ | ⟨rfl, g1, g2, rfl, rfl, rfl, rfl, rfl, g8, g9, g10, g11, rfl⟩ | ⟨rfl, g1, g2, rfl, rfl, rfl, rfl, rfl, g8, g9, g10, rfl⟩ | ⟨rfl, g1, g2, rfl, rfl, rfl, rfl, rfl, g8, g9, rfl⟩ | ⟨rfl, g1, g2, rfl, rfl, rfl, rfl, rfl, g8, rfl⟩ | ⟨rfl, g1, g2, rfl, rfl, rfl, rfl, rfl, rfl⟩ | ⟨rfl, g1, g2, rfl, rfl, rfl, rfl, rfl⟩ | ⟨rfl, g1, g2, rfl, rfl, rfl, rfl⟩ | ⟨rfl, g1, g2, rfl, rfl, rfl⟩ | ⟨rfl, g1, g2, rfl⟩ | ⟨rfl, g1, rfl⟩ | ⟨rfl, rfl⟩
 all_goals
  go_enter Tryz.func81, Tryz.ntmps81
  go_wp2_with (first | ((with_reducible refine g_offw ?_); refine a_offw ?_) | ((first | (go_at_call 53; with_reducible refine (C1 _).mono ?_) | (go_at_call 53; with_reducible refine (C2 _).mono ?_) | (go_at_call 53; with_reducible refine (C3 _).mono ?_) | (go_at_call 54; with_reducible refine (C4 _).mono ?_) | (go_at_call 54; with_reducible refine (C5 _).mono ?_)); rintro e9 w2 ⟨rfl, hL⟩; replace HM := HM.call hL; clear hL) | ((with_reducible refine g_bld ?_); refine a_rbl (v := .agg Y9) ?_ (hy := h_bg3 rfl Zw Zw Zw (by with_reducible exact (HB)))) | ((with_reducible refine g_bin ?_); refine a_seqb (E1) Zk ?_) | ((with_reducible refine g_ld ?_); refine a_ld HM ?_) | ((with_reducible refine g_bx ?_); refine a_bx HM ?_; clear HM; intro bk w1 HM))
  go_ret
  exact ⟨rfl, HM.low⟩
theorem srt_any (x : JS) (hw : x.wf) (w : World) :
    Calls Tryz.prog 95 #[.agg x.c] w fun e w' => e = .returned (.bool x.right) ∧ Below w.heap.size w w' := by
 have HM := Mem.start w
 have flkey := (JS.f_key x).la
 have flfnd := (JS.f_fnd x).la
 have flfr := (JS.f_fr x).la
 have fltl := (JS.f_tl x).la
 have flkn := (JS.f_kn x).la
 have flvd := (JS.f_vd x).la
 have lx := x.la
 have E1 := JS.eq9 x { JS.zero with key := x.key, kn := x.kn, vd := true }
 have HB := fun w => JS.bld (parts := #[(0, .string x.key), (4, .int .i64 x.kn), (5, .bool true)]) (r := { JS.zero with key := x.key, kn := x.kn, vd := true }) (by simp [Value.cells]) (by rw [JS.rows]; rfl) w
 generalize JS.c { JS.zero with key := x.key, kn := x.kn, vd := true } = Y9 at E1 HB
 have HV : Hid (x.right = ((name x.key && (decide (1 ≤ x.kn) && decide (x.kn ≤ 2147483647))) && (if x.vd then JS.b x { JS.zero with key := x.key, kn := x.kn, vd := true } else (name x.fnd && (decide (0 ≤ x.fr) && (decide (x.fr ≤ 73048) && (decide (x.tl = 0) || (decide (x.fr ≤ x.tl) && decide (x.tl ≤ 73048))))))))) := Zi (rfl)
 generalize x.right = v at HV ⊢
 have C1 := fun w => oname_any x.key (by have := hw; simp only [JS.wf] at this; omega) w
 have C2 := fun w => oname_any x.fnd (by have := hw; simp only [JS.wf] at this; omega) w
 generalize name x.key = b1 at *
 generalize name x.fnd = b2 at *
 generalize JS.b x { JS.zero with key := x.key, kn := x.kn, vd := true } = b3 at *
 generalize x.vd = vd at HV flvd
 have hc : (b1 = true ∧ decide (x.kn < 1) = false ∧ decide (2147483647 < x.kn) = false ∧ vd = true ∧ b3 = v) ∨
     (b1 = true ∧ decide (x.kn < 1) = false ∧ decide (2147483647 < x.kn) = false ∧ vd = false ∧ b2 = true ∧ decide (0 ≤ x.fr) = true ∧ decide (x.fr ≤ 73048) = true ∧ (x.tl == 0) = true ∧ true = v) ∨
     (b1 = true ∧ decide (x.kn < 1) = false ∧ decide (2147483647 < x.kn) = false ∧ vd = false ∧ b2 = true ∧ decide (0 ≤ x.fr) = true ∧ decide (x.fr ≤ 73048) = true ∧ (x.tl == 0) = false ∧ decide (x.fr ≤ x.tl) = true ∧ decide (x.tl ≤ 73048) = true ∧ true = v) ∨
     (b1 = true ∧ decide (x.kn < 1) = false ∧ decide (2147483647 < x.kn) = false ∧ vd = false ∧ b2 = true ∧ decide (0 ≤ x.fr) = true ∧ decide (x.fr ≤ 73048) = true ∧ (x.tl == 0) = false ∧ decide (x.fr ≤ x.tl) = true ∧ decide (x.tl ≤ 73048) = false ∧ false = v) ∨
     (b1 = true ∧ decide (x.kn < 1) = false ∧ decide (2147483647 < x.kn) = false ∧ vd = false ∧ b2 = true ∧ decide (0 ≤ x.fr) = true ∧ decide (x.fr ≤ 73048) = true ∧ (x.tl == 0) = false ∧ decide (x.fr ≤ x.tl) = false ∧ false = v) ∨
     (b1 = true ∧ decide (x.kn < 1) = false ∧ decide (2147483647 < x.kn) = false ∧ vd = false ∧ b2 = true ∧ decide (0 ≤ x.fr) = true ∧ decide (x.fr ≤ 73048) = false ∧ false = v) ∨
     (b1 = true ∧ decide (x.kn < 1) = false ∧ decide (2147483647 < x.kn) = false ∧ vd = false ∧ b2 = true ∧ decide (0 ≤ x.fr) = false ∧ false = v) ∨
     (b1 = true ∧ decide (x.kn < 1) = false ∧ decide (2147483647 < x.kn) = false ∧ vd = false ∧ b2 = false ∧ false = v) ∨
     (b1 = true ∧ decide (x.kn < 1) = false ∧ decide (2147483647 < x.kn) = true ∧ false = v) ∨
     (b1 = true ∧ decide (x.kn < 1) = true ∧ false = v) ∨
     (b1 = false ∧ false = v) := by
  clear HM C1 C2
  cases b1 with
  | true =>
   by_cases h1 : 1 ≤ x.kn
   ·exact z9_114
   ·exact z9_115
  | false =>
   exact Zr (Zr (.inr (.inr (⟨rfl, by rw [HV.out]; simp⟩))))
 clear HV
 rcases hc with ⟨rfl, g1, g2, rfl, rfl⟩ | ⟨rfl, g1, g2, rfl, rfl, g5, g6, g7, rfl⟩ | ⟨rfl, g1, g2, rfl, rfl, g5, g6, g7, g8, g9, rfl⟩ | ⟨rfl, g1, g2, rfl, rfl, g5, g6, g7, g8, g9, rfl⟩ | ⟨rfl, g1, g2, rfl, rfl, g5, g6, g7, g8, rfl⟩ | ⟨rfl, g1, g2, rfl, rfl, g5, g6, rfl⟩ | ⟨rfl, g1, g2, rfl, rfl, g5, rfl⟩ | ⟨rfl, g1, g2, rfl, rfl, rfl⟩ | ⟨rfl, g1, g2, rfl⟩ | ⟨rfl, g1, rfl⟩ | ⟨rfl, rfl⟩
 all_goals
  go_enter Tryz.func95, Tryz.ntmps95
  go_wp2_with (first | ((with_reducible refine g_offw ?_); refine a_offw ?_) | ((first | (go_at_call 63; with_reducible refine (C1 _).mono ?_) | (go_at_call 63; with_reducible refine (C2 _).mono ?_)); rintro e9 w2 ⟨rfl, hL⟩; replace HM := HM.call hL; clear hL) | ((with_reducible refine g_bld ?_); refine a_rbl (v := .agg Y9) ?_ (hy := h_bg3 rfl Zw Zw Zw (by with_reducible exact (HB)))) | ((with_reducible refine g_bin ?_); refine a_seqb (E1) Zk ?_) | ((with_reducible refine g_ld ?_); refine a_ld HM ?_) | ((with_reducible refine g_bx ?_); refine a_bx HM ?_; clear HM; intro bk w1 HM))
  go_ret
  exact ⟨rfl, HM.low⟩
theorem rsrt_any (x : JS) (hw : x.wf) (w : World) :
    Calls Tryz.prog 106 #[.agg x.c] w fun e w' => e = .returned (.bool x.right) ∧ Below w.heap.size w w' := by
 have HM := Mem.start w
 have flkey := (JS.f_key x).la
 have flfnd := (JS.f_fnd x).la
 have flfr := (JS.f_fr x).la
 have fltl := (JS.f_tl x).la
 have flkn := (JS.f_kn x).la
 have flvd := (JS.f_vd x).la
 have lx := x.la
 have E1 := JS.eq9 x { JS.zero with key := x.key, kn := x.kn, vd := true }
 have HB := fun w => JS.bld (parts := #[(0, .string x.key), (4, .int .i64 x.kn), (5, .bool true)]) (r := { JS.zero with key := x.key, kn := x.kn, vd := true }) (by simp [Value.cells]) (by rw [JS.rows]; rfl) w
 generalize JS.c { JS.zero with key := x.key, kn := x.kn, vd := true } = Y9 at E1 HB
 have HV : Hid (x.right = ((name x.key && (decide (1 ≤ x.kn) && decide (x.kn ≤ 2147483647))) && (if x.vd then JS.b x { JS.zero with key := x.key, kn := x.kn, vd := true } else (name x.fnd && (decide (0 ≤ x.fr) && (decide (x.fr ≤ 73048) && (decide (x.tl = 0) || (decide (x.fr ≤ x.tl) && decide (x.tl ≤ 73048))))))))) := Zi (rfl)
 generalize x.right = v at HV ⊢
 have C1 := fun w => rname23_any x.key w
 have C2 := fun w => rname23_any x.fnd w
 generalize name x.key = b1 at *
 generalize name x.fnd = b2 at *
 generalize JS.b x { JS.zero with key := x.key, kn := x.kn, vd := true } = b3 at *
 generalize x.vd = vd at HV flvd
 have hc : (b1 = true ∧ decide (x.kn < 1) = false ∧ decide (2147483647 < x.kn) = false ∧ vd = true ∧ b3 = v) ∨
     (b1 = true ∧ decide (x.kn < 1) = false ∧ decide (2147483647 < x.kn) = false ∧ vd = false ∧ b2 = true ∧ decide (0 ≤ x.fr) = true ∧ decide (x.fr ≤ 73048) = true ∧ (x.tl == 0) = true ∧ true = v) ∨
     (b1 = true ∧ decide (x.kn < 1) = false ∧ decide (2147483647 < x.kn) = false ∧ vd = false ∧ b2 = true ∧ decide (0 ≤ x.fr) = true ∧ decide (x.fr ≤ 73048) = true ∧ (x.tl == 0) = false ∧ decide (x.fr ≤ x.tl) = true ∧ decide (x.tl ≤ 73048) = true ∧ true = v) ∨
     (b1 = true ∧ decide (x.kn < 1) = false ∧ decide (2147483647 < x.kn) = false ∧ vd = false ∧ b2 = true ∧ decide (0 ≤ x.fr) = true ∧ decide (x.fr ≤ 73048) = true ∧ (x.tl == 0) = false ∧ decide (x.fr ≤ x.tl) = true ∧ decide (x.tl ≤ 73048) = false ∧ false = v) ∨
     (b1 = true ∧ decide (x.kn < 1) = false ∧ decide (2147483647 < x.kn) = false ∧ vd = false ∧ b2 = true ∧ decide (0 ≤ x.fr) = true ∧ decide (x.fr ≤ 73048) = true ∧ (x.tl == 0) = false ∧ decide (x.fr ≤ x.tl) = false ∧ false = v) ∨
     (b1 = true ∧ decide (x.kn < 1) = false ∧ decide (2147483647 < x.kn) = false ∧ vd = false ∧ b2 = true ∧ decide (0 ≤ x.fr) = true ∧ decide (x.fr ≤ 73048) = false ∧ false = v) ∨
     (b1 = true ∧ decide (x.kn < 1) = false ∧ decide (2147483647 < x.kn) = false ∧ vd = false ∧ b2 = true ∧ decide (0 ≤ x.fr) = false ∧ false = v) ∨
     (b1 = true ∧ decide (x.kn < 1) = false ∧ decide (2147483647 < x.kn) = false ∧ vd = false ∧ b2 = false ∧ false = v) ∨
     (b1 = true ∧ decide (x.kn < 1) = false ∧ decide (2147483647 < x.kn) = true ∧ false = v) ∨
     (b1 = true ∧ decide (x.kn < 1) = true ∧ false = v) ∨
     (b1 = false ∧ false = v) := by
  clear HM C1 C2
  cases b1 with
  | true =>
   by_cases h1 : 1 ≤ x.kn
   ·exact z9_114
   ·exact z9_115
  | false =>
   exact Zr (Zr (.inr (.inr (⟨rfl, by rw [HV.out]; simp⟩))))
 clear HV
 rcases hc with ⟨rfl, g1, g2, rfl, rfl⟩ | ⟨rfl, g1, g2, rfl, rfl, g5, g6, g7, rfl⟩ | ⟨rfl, g1, g2, rfl, rfl, g5, g6, g7, g8, g9, rfl⟩ | ⟨rfl, g1, g2, rfl, rfl, g5, g6, g7, g8, g9, rfl⟩ | ⟨rfl, g1, g2, rfl, rfl, g5, g6, g7, g8, rfl⟩ | ⟨rfl, g1, g2, rfl, rfl, g5, g6, rfl⟩ | ⟨rfl, g1, g2, rfl, rfl, g5, rfl⟩ | ⟨rfl, g1, g2, rfl, rfl, rfl⟩ | ⟨rfl, g1, g2, rfl⟩ | ⟨rfl, g1, rfl⟩ | ⟨rfl, rfl⟩
 all_goals
  go_enter Tryz.func106, Tryz.ntmps106
  go_wp2_with (first | ((with_reducible refine g_offw ?_); refine a_offw ?_) | ((first | (go_at_call 53; with_reducible refine (C1 _).mono ?_) | (go_at_call 53; with_reducible refine (C2 _).mono ?_)); rintro e9 w2 ⟨rfl, hL⟩; replace HM := HM.call hL; clear hL) | ((with_reducible refine g_bld ?_); refine a_rbl (v := .agg Y9) ?_ (hy := h_bg3 rfl Zw Zw Zw (by with_reducible exact (HB)))) | ((with_reducible refine g_bin ?_); refine a_seqb (E1) Zk ?_) | ((with_reducible refine g_ld ?_); refine a_ld HM ?_) | ((with_reducible refine g_bx ?_); refine a_bx HM ?_; clear HM; intro bk w1 HM))
  go_ret
  exact ⟨rfl, HM.low⟩
end
section
open Jb
theorem avalid17_any (x : JA) (hw : x.wf) (w : World) :
    Calls Tryz.prog 87 #[.agg x.c] w fun e w' => e = .returned (.bool x.right) ∧ Below w.heap.size w w' := by
 have HM := Mem.start w
 have HS1 := Jb.str_l x.into x.ins
 have HS2 := Jb.str_d x.into x.ins
 have flkd := (JA.f_kd x).la
 have flkey := (JA.f_key x).la
 have flins := (JA.f_ins x).la
 have flinto := (JA.f_into x).la
 have flday := (JA.f_day x).la
 have flnm := (JA.f_nm x).la
 have fldn := (JA.f_dn x).la
 have flcsh := (JA.f_csh x).la
 have flcur := (JA.f_cur x).la
 have flkn := (JA.f_kn x).la
 have flvd := (JA.f_vd x).la
 have lx := x.la
 have E1 := JA.eq9 x { JA.zero with key := x.key, kn := x.kn, vd := true }
 have HB := fun w => JA.bld (parts := #[(1, .string x.key), (9, .int .i64 x.kn), (10, .bool true)]) (r := { JA.zero with key := x.key, kn := x.kn, vd := true }) (by simp [Value.cells]) (by rw [JA.rows]; rfl) w
 generalize JA.c { JA.zero with key := x.key, kn := x.kn, vd := true } = Y9 at E1 HB
 have za0 := JA.za
 have sx := x.sa JA.zero.size
 obtain ⟨nc, g9, hns, hne, hnc, HSG, hg9⟩ := csh_sign x.csh w
 have fnum : LA 41 x.c 7 (.agg nc) := LA.shift Zk sT_int (JA.f_csh x) Zk rfl hns hnc.out (by rw [Rr.size]; decide) Zd hne.out
 have HV : Hid (x.right = ((!decide ((x.key.size : Int) = 0) && (decide ((x.key.size : Int) ≤ 64) && (decide (1 ≤ x.kn) && decide (x.kn ≤ 2147483647)))) && (if x.vd then JA.b x { JA.zero with key := x.key, kn := x.kn, vd := true } else (paper x.ins && ((decide (0 ≤ x.day) && decide (x.day ≤ 73048)) && (price x.csh && code x.cur))) && (if x.kd = 1 then decide (x.into.size = 0) && ((decide (1 ≤ x.nm) && decide (x.nm ≤ 1000000)) && (decide (1 ≤ x.dn) && decide (x.dn ≤ 1000000))) else if x.kd = 2 then decide (x.into.size = 0) && (decide (x.nm = 0) && (decide (x.dn = 0) && decide (0 < g9))) else if x.kd = 3 then paper x.into && (!(x.into == x.ins) && ((decide (1 ≤ x.nm) && decide (x.nm ≤ 1000000)) && (decide (1 ≤ x.dn) && decide (x.dn ≤ 1000000)))) else false)))) := Zi (ja_right_p x g9 hg9.out)
 generalize x.right = v at HV ⊢
 have C2 := fun w => belt (ains_any x.ins (by have := hw; simp only [JA.wf] at this; omega) w)
 have C3 := fun w => apay_any x.csh w
 have C4 := fun w => belt (acap_any x.cur 3 3 false (by have := hw; simp only [JA.wf] at this; omega) (code x.cur) (Zi (code_w x.cur)) w)
 have C5 := fun w => belt (afac_any x.nm _ (Zi rfl) w)
 have C6 := fun w => belt (afac_any x.dn _ (Zi rfl) w)
 have C7 := fun w => belt (ains_any x.into (by have := hw; simp only [JA.wf] at this; omega) w)
 generalize JA.b x { JA.zero with key := x.key, kn := x.kn, vd := true } = b1 at *
 generalize paper x.ins = b2 at *
 generalize price x.csh = b3 at *
 generalize code x.cur = b4 at *
 generalize (decide (1 ≤ x.nm) && decide (x.nm ≤ 1000000)) = b5 at *
 generalize (decide (1 ≤ x.dn) && decide (x.dn ≤ 1000000)) = b6 at *
 generalize paper x.into = b7 at *
 generalize (x.into == x.ins) = b8 at *
 generalize x.vd = vd at HV flvd
 generalize x.kd = kd at HV flkd
 have hc : (((x.key.size : Int) == 0) = true ∧ false = v) ∨
     (((x.key.size : Int) == 0) = false ∧ decide (64 < (x.key.size : Int)) = false ∧ decide (x.kn < 1) = false ∧ decide (2147483647 < x.kn) = false ∧ vd = true ∧ b1 = v) ∨
     (((x.key.size : Int) == 0) = false ∧ decide (64 < (x.key.size : Int)) = false ∧ decide (x.kn < 1) = false ∧ decide (2147483647 < x.kn) = false ∧ vd = false ∧ b2 = true ∧ decide (x.day < 0) = false ∧ decide (73048 < x.day) = false ∧ b3 = true ∧ b4 = true ∧ kd = 1 ∧ x.into.toList.isEmpty = true ∧ b5 = true ∧ b6 = true ∧ true = v) ∨
     (((x.key.size : Int) == 0) = false ∧ decide (64 < (x.key.size : Int)) = false ∧ decide (x.kn < 1) = false ∧ decide (2147483647 < x.kn) = false ∧ vd = false ∧ b2 = true ∧ decide (x.day < 0) = false ∧ decide (73048 < x.day) = false ∧ b3 = true ∧ b4 = true ∧ kd = 1 ∧ x.into.toList.isEmpty = true ∧ b5 = true ∧ b6 = false ∧ false = v) ∨
     (((x.key.size : Int) == 0) = false ∧ decide (64 < (x.key.size : Int)) = false ∧ decide (x.kn < 1) = false ∧ decide (2147483647 < x.kn) = false ∧ vd = false ∧ b2 = true ∧ decide (x.day < 0) = false ∧ decide (73048 < x.day) = false ∧ b3 = true ∧ b4 = true ∧ kd = 1 ∧ x.into.toList.isEmpty = true ∧ b5 = false ∧ false = v) ∨
     (((x.key.size : Int) == 0) = false ∧ decide (64 < (x.key.size : Int)) = false ∧ decide (x.kn < 1) = false ∧ decide (2147483647 < x.kn) = false ∧ vd = false ∧ b2 = true ∧ decide (x.day < 0) = false ∧ decide (73048 < x.day) = false ∧ b3 = true ∧ b4 = true ∧ kd = 1 ∧ x.into.toList.isEmpty = false ∧ false = v) ∨
     (((x.key.size : Int) == 0) = false ∧ decide (64 < (x.key.size : Int)) = false ∧ decide (x.kn < 1) = false ∧ decide (2147483647 < x.kn) = false ∧ vd = false ∧ b2 = true ∧ decide (x.day < 0) = false ∧ decide (73048 < x.day) = false ∧ b3 = true ∧ b4 = true ∧ (kd == 1) = false ∧ kd = 2 ∧ x.into.toList.isEmpty = true ∧ (x.nm == 0) = true ∧ (x.dn == 0) = true ∧ decide (0 < g9) = true ∧ true = v) ∨
     (((x.key.size : Int) == 0) = false ∧ decide (64 < (x.key.size : Int)) = false ∧ decide (x.kn < 1) = false ∧ decide (2147483647 < x.kn) = false ∧ vd = false ∧ b2 = true ∧ decide (x.day < 0) = false ∧ decide (73048 < x.day) = false ∧ b3 = true ∧ b4 = true ∧ (kd == 1) = false ∧ kd = 2 ∧ x.into.toList.isEmpty = true ∧ (x.nm == 0) = true ∧ (x.dn == 0) = true ∧ decide (0 < g9) = false ∧ false = v) ∨
     (((x.key.size : Int) == 0) = false ∧ decide (64 < (x.key.size : Int)) = false ∧ decide (x.kn < 1) = false ∧ decide (2147483647 < x.kn) = false ∧ vd = false ∧ b2 = true ∧ decide (x.day < 0) = false ∧ decide (73048 < x.day) = false ∧ b3 = true ∧ b4 = true ∧ (kd == 1) = false ∧ kd = 2 ∧ x.into.toList.isEmpty = true ∧ (x.nm == 0) = true ∧ (x.dn == 0) = false ∧ false = v) ∨
     (((x.key.size : Int) == 0) = false ∧ decide (64 < (x.key.size : Int)) = false ∧ decide (x.kn < 1) = false ∧ decide (2147483647 < x.kn) = false ∧ vd = false ∧ b2 = true ∧ decide (x.day < 0) = false ∧ decide (73048 < x.day) = false ∧ b3 = true ∧ b4 = true ∧ (kd == 1) = false ∧ kd = 2 ∧ x.into.toList.isEmpty = true ∧ (x.nm == 0) = false ∧ false = v) ∨
     (((x.key.size : Int) == 0) = false ∧ decide (64 < (x.key.size : Int)) = false ∧ decide (x.kn < 1) = false ∧ decide (2147483647 < x.kn) = false ∧ vd = false ∧ b2 = true ∧ decide (x.day < 0) = false ∧ decide (73048 < x.day) = false ∧ b3 = true ∧ b4 = true ∧ (kd == 1) = false ∧ kd = 2 ∧ x.into.toList.isEmpty = false ∧ false = v) ∨
     (((x.key.size : Int) == 0) = false ∧ decide (64 < (x.key.size : Int)) = false ∧ decide (x.kn < 1) = false ∧ decide (2147483647 < x.kn) = false ∧ vd = false ∧ b2 = true ∧ decide (x.day < 0) = false ∧ decide (73048 < x.day) = false ∧ b3 = true ∧ b4 = true ∧ (kd == 1) = false ∧ (kd == 2) = false ∧ kd = 3 ∧ b7 = true ∧ b8 = true ∧ false = v) ∨
     (((x.key.size : Int) == 0) = false ∧ decide (64 < (x.key.size : Int)) = false ∧ decide (x.kn < 1) = false ∧ decide (2147483647 < x.kn) = false ∧ vd = false ∧ b2 = true ∧ decide (x.day < 0) = false ∧ decide (73048 < x.day) = false ∧ b3 = true ∧ b4 = true ∧ (kd == 1) = false ∧ (kd == 2) = false ∧ kd = 3 ∧ b7 = true ∧ b8 = false ∧ b5 = true ∧ b6 = true ∧ true = v) ∨
     (((x.key.size : Int) == 0) = false ∧ decide (64 < (x.key.size : Int)) = false ∧ decide (x.kn < 1) = false ∧ decide (2147483647 < x.kn) = false ∧ vd = false ∧ b2 = true ∧ decide (x.day < 0) = false ∧ decide (73048 < x.day) = false ∧ b3 = true ∧ b4 = true ∧ (kd == 1) = false ∧ (kd == 2) = false ∧ kd = 3 ∧ b7 = true ∧ b8 = false ∧ b5 = true ∧ b6 = false ∧ false = v) ∨
     (((x.key.size : Int) == 0) = false ∧ decide (64 < (x.key.size : Int)) = false ∧ decide (x.kn < 1) = false ∧ decide (2147483647 < x.kn) = false ∧ vd = false ∧ b2 = true ∧ decide (x.day < 0) = false ∧ decide (73048 < x.day) = false ∧ b3 = true ∧ b4 = true ∧ (kd == 1) = false ∧ (kd == 2) = false ∧ kd = 3 ∧ b7 = true ∧ b8 = false ∧ b5 = false ∧ false = v) ∨
     (((x.key.size : Int) == 0) = false ∧ decide (64 < (x.key.size : Int)) = false ∧ decide (x.kn < 1) = false ∧ decide (2147483647 < x.kn) = false ∧ vd = false ∧ b2 = true ∧ decide (x.day < 0) = false ∧ decide (73048 < x.day) = false ∧ b3 = true ∧ b4 = true ∧ (kd == 1) = false ∧ (kd == 2) = false ∧ kd = 3 ∧ b7 = false ∧ false = v) ∨
     (((x.key.size : Int) == 0) = false ∧ decide (64 < (x.key.size : Int)) = false ∧ decide (x.kn < 1) = false ∧ decide (2147483647 < x.kn) = false ∧ vd = false ∧ b2 = true ∧ decide (x.day < 0) = false ∧ decide (73048 < x.day) = false ∧ b3 = true ∧ b4 = true ∧ (kd == 1) = false ∧ (kd == 2) = false ∧ (kd == 3) = false ∧ false = v) ∨
     (((x.key.size : Int) == 0) = false ∧ decide (64 < (x.key.size : Int)) = false ∧ decide (x.kn < 1) = false ∧ decide (2147483647 < x.kn) = false ∧ vd = false ∧ b2 = true ∧ decide (x.day < 0) = false ∧ decide (73048 < x.day) = false ∧ b3 = true ∧ b4 = false ∧ false = v) ∨
     (((x.key.size : Int) == 0) = false ∧ decide (64 < (x.key.size : Int)) = false ∧ decide (x.kn < 1) = false ∧ decide (2147483647 < x.kn) = false ∧ vd = false ∧ b2 = true ∧ decide (x.day < 0) = false ∧ decide (73048 < x.day) = false ∧ b3 = false ∧ false = v) ∨
     (((x.key.size : Int) == 0) = false ∧ decide (64 < (x.key.size : Int)) = false ∧ decide (x.kn < 1) = false ∧ decide (2147483647 < x.kn) = false ∧ vd = false ∧ b2 = true ∧ decide (x.day < 0) = false ∧ decide (73048 < x.day) = true ∧ false = v) ∨
     (((x.key.size : Int) == 0) = false ∧ decide (64 < (x.key.size : Int)) = false ∧ decide (x.kn < 1) = false ∧ decide (2147483647 < x.kn) = false ∧ vd = false ∧ b2 = true ∧ decide (x.day < 0) = true ∧ false = v) ∨
     (((x.key.size : Int) == 0) = false ∧ decide (64 < (x.key.size : Int)) = false ∧ decide (x.kn < 1) = false ∧ decide (2147483647 < x.kn) = false ∧ vd = false ∧ b2 = false ∧ false = v) ∨
     (((x.key.size : Int) == 0) = false ∧ decide (64 < (x.key.size : Int)) = false ∧ decide (x.kn < 1) = false ∧ decide (2147483647 < x.kn) = true ∧ false = v) ∨
     (((x.key.size : Int) == 0) = false ∧ decide (64 < (x.key.size : Int)) = false ∧ decide (x.kn < 1) = true ∧ false = v) ∨
     (((x.key.size : Int) == 0) = false ∧ decide (64 < (x.key.size : Int)) = true ∧ false = v) := by
  clear HM C2 C3 C4 C5 C6 C7
  generalize (x.key.size : Int) = ks at HV ⊢
  by_cases h1 : ks = 0
  ·skip
   exact .inl (⟨beq_iff_eq.2 h1, by rw [HV.out]; simp [h1]⟩)
  ·skip
   by_cases h2 : ks ≤ 64
   ·skip
    by_cases h3 : 1 ≤ x.kn
    ·skip
     by_cases h4 : x.kn ≤ 2147483647
     ·skip
      cases vd with
      | true =>
       exact .inr (.inl (⟨Zb h1, Zn h2, Zn h3, Zn h4, rfl, by rw [HV.out]; simp [h1, h2, h3, h4]⟩))
      | false =>
       cases b2 with
       | true =>
        by_cases h5 : 0 ≤ x.day
        ·skip
         by_cases h6 : x.day ≤ 73048
         ·skip
          cases b3 with
          | true =>
           cases b4 with
           | true =>
            by_cases h7 : kd = 1
            ·skip
             subst h7
             by_cases h8 : x.into.size = 0
             ·skip
              cases b5 with
              | true =>
               cases b6 with
               | true =>
                exact .inr (.inr (.inl (⟨Zb h1, Zn h2, Zn h3, Zn h4, rfl, rfl, Zn h5, Zn h6, rfl, rfl, rfl, empty_l h8, rfl, rfl, by rw [HV.out]; simp [h1, h2, h3, h4, h5, h6, h8]⟩)))
               | false =>
                exact .inr (.inr (.inr (.inl (⟨Zb h1, Zn h2, Zn h3, Zn h4, rfl, rfl, Zn h5, Zn h6, rfl, rfl, rfl, empty_l h8, rfl, rfl, by rw [HV.out]; simp [h1, h2, h3, h4, h5, h6, h8]⟩))))
              | false =>
               exact Zr (.inl (⟨Zb h1, Zn h2, Zn h3, Zn h4, rfl, rfl, Zn h5, Zn h6, rfl, rfl, rfl, empty_l h8, rfl, by rw [HV.out]; simp [h1, h2, h3, h4, h5, h6, h8]⟩))
             ·skip
              exact Zr (.inr (.inl (⟨Zb h1, Zn h2, Zn h3, Zn h4, rfl, rfl, Zn h5, Zn h6, rfl, rfl, rfl, some_l h8, by rw [HV.out]; simp [h1, h2, h3, h4, h5, h6, h8]⟩)))
            ·skip
             by_cases h9 : kd = 2
             ·skip
              subst h9
              by_cases h10 : x.into.size = 0
              ·skip
               by_cases h11 : x.nm = 0
               ·skip
                by_cases h12 : x.dn = 0
                ·skip
                 by_cases h13 : 0 < g9
                 ·skip
                  exact Zr (.inr (.inr (.inl (⟨Zb h1, Zn h2, Zn h3, Zn h4, rfl, rfl, Zn h5, Zn h6, rfl, rfl, Zb h7, rfl, empty_l h10, beq_iff_eq.2 h11, beq_iff_eq.2 h12, Zt h13, by rw [HV.out]; simp [h1, h2, h3, h4, h5, h6, h7, h10, h11, h12, h13]⟩))))
                 ·skip
                  exact Zr (.inr (.inr (.inr (.inl (⟨Zb h1, Zn h2, Zn h3, Zn h4, rfl, rfl, Zn h5, Zn h6, rfl, rfl, Zb h7, rfl, empty_l h10, beq_iff_eq.2 h11, beq_iff_eq.2 h12, Zf h13, by rw [HV.out]; simp [h1, h2, h3, h4, h5, h6, h7, h10, h11, h12, h13]⟩)))))
                ·skip
                 exact Zr (Zr (.inl (⟨Zb h1, Zn h2, Zn h3, Zn h4, rfl, rfl, Zn h5, Zn h6, rfl, rfl, Zb h7, rfl, empty_l h10, beq_iff_eq.2 h11, Zb h12, by rw [HV.out]; simp [h1, h2, h3, h4, h5, h6, h7, h10, h11, h12]⟩)))
               ·skip
                exact Zr (Zr (.inr (.inl (⟨Zb h1, Zn h2, Zn h3, Zn h4, rfl, rfl, Zn h5, Zn h6, rfl, rfl, Zb h7, rfl, empty_l h10, Zb h11, by rw [HV.out]; simp [h1, h2, h3, h4, h5, h6, h7, h10, h11]⟩))))
              ·skip
               exact Zr (Zr (.inr (.inr (.inl (⟨Zb h1, Zn h2, Zn h3, Zn h4, rfl, rfl, Zn h5, Zn h6, rfl, rfl, Zb h7, rfl, some_l h10, by rw [HV.out]; simp [h1, h2, h3, h4, h5, h6, h7, h10]⟩)))))
             ·skip
              by_cases h14 : kd = 3
              ·skip
               subst h14
               cases b7 with
               | true =>
                cases b8 with
                | true =>
                 exact Zr (Zr (.inr (.inr (.inr (.inl (⟨Zb h1, Zn h2, Zn h3, Zn h4, rfl, rfl, Zn h5, Zn h6, rfl, rfl, Zb h7, Zb h9, rfl, rfl, rfl, by rw [HV.out]; simp [h1, h2, h3, h4, h5, h6, h7, h9]⟩))))))
                | false =>
                 cases b5 with
                 | true =>
                  cases b6 with
                  | true =>
                   exact Zr (Zr (Zr (.inl (⟨Zb h1, Zn h2, Zn h3, Zn h4, rfl, rfl, Zn h5, Zn h6, rfl, rfl, Zb h7, Zb h9, rfl, rfl, rfl, rfl, rfl, by rw [HV.out]; simp [h1, h2, h3, h4, h5, h6, h7, h9]⟩))))
                  | false =>
                   exact Zr (Zr (Zr (.inr (.inl (⟨Zb h1, Zn h2, Zn h3, Zn h4, rfl, rfl, Zn h5, Zn h6, rfl, rfl, Zb h7, Zb h9, rfl, rfl, rfl, rfl, rfl, by rw [HV.out]; simp [h1, h2, h3, h4, h5, h6, h7, h9]⟩)))))
                 | false =>
                  exact Zr (Zr (Zr (.inr (.inr (.inl (⟨Zb h1, Zn h2, Zn h3, Zn h4, rfl, rfl, Zn h5, Zn h6, rfl, rfl, Zb h7, Zb h9, rfl, rfl, rfl, rfl, by rw [HV.out]; simp [h1, h2, h3, h4, h5, h6, h7, h9]⟩))))))
               | false =>
                exact Zr (Zr (Zr (.inr (.inr (.inr (.inl (⟨Zb h1, Zn h2, Zn h3, Zn h4, rfl, rfl, Zn h5, Zn h6, rfl, rfl, Zb h7, Zb h9, rfl, rfl, by rw [HV.out]; simp [h1, h2, h3, h4, h5, h6, h7, h9]⟩)))))))
              ·skip
               exact Zr (Zr (Zr (Zr (.inl (⟨Zb h1, Zn h2, Zn h3, Zn h4, rfl, rfl, Zn h5, Zn h6, rfl, rfl, Zb h7, Zb h9, Zb h14, by rw [HV.out]; simp [h1, h2, h3, h4, h5, h6, h7, h9, h14]⟩)))))
           | false =>
            exact Zr (Zr (Zr (Zr (.inr (.inl (⟨Zb h1, Zn h2, Zn h3, Zn h4, rfl, rfl, Zn h5, Zn h6, rfl, rfl, by rw [HV.out]; simp [h1, h2, h3, h4, h5, h6]⟩))))))
          | false =>
           exact Zr (Zr (Zr (Zr (.inr (.inr (.inl (⟨Zb h1, Zn h2, Zn h3, Zn h4, rfl, rfl, Zn h5, Zn h6, rfl, by rw [HV.out]; simp [h1, h2, h3, h4, h5, h6]⟩)))))))
         ·skip
          exact Zr (Zr (Zr (Zr (.inr (.inr (.inr (.inl (⟨Zb h1, Zn h2, Zn h3, Zn h4, rfl, rfl, Zn h5, Zt (Int.not_le.1 h6), by rw [HV.out]; simp [h1, h2, h3, h4, h5, h6]⟩))))))))
        ·skip
         exact Zr (Zr (Zr (Zr (Zr (.inl (⟨Zb h1, Zn h2, Zn h3, Zn h4, rfl, rfl, Zt (Int.not_le.1 h5), by rw [HV.out]; simp [h1, h2, h3, h4, h5]⟩))))))
       | false =>
        exact Zr (Zr (Zr (Zr (Zr (.inr (.inl (⟨Zb h1, Zn h2, Zn h3, Zn h4, rfl, rfl, by rw [HV.out]; simp [h1, h2, h3, h4]⟩)))))))
     ·skip
      exact Zr (Zr (Zr (Zr (Zr (.inr (.inr (.inl (⟨Zb h1, Zn h2, Zn h3, Zt (Int.not_le.1 h4), by rw [HV.out]; simp [h1, h2, h3, h4]⟩))))))))
    ·skip
     exact Zr (Zr (Zr (Zr (Zr (.inr (.inr (.inr (.inl (⟨Zb h1, Zn h2, Zt (Int.not_le.1 h3), by rw [HV.out]; simp [h1, h2, h3]⟩)))))))))
   ·skip
    exact Zr (Zr (Zr (Zr (Zr (Zr (⟨Zb h1, Zt (Int.not_le.1 h2), by rw [HV.out]; simp [h1, h2]⟩))))))
 clear HV
 rcases hc with ⟨g0, rfl⟩ | ⟨g0, g1, g2, g3, rfl, rfl⟩ | ⟨g0, g1, g2, g3, rfl, rfl, g6, g7, rfl, rfl, rfl, g11, rfl, rfl, rfl⟩ | ⟨g0, g1, g2, g3, rfl, rfl, g6, g7, rfl, rfl, rfl, g11, rfl, rfl, rfl⟩ | ⟨g0, g1, g2, g3, rfl, rfl, g6, g7, rfl, rfl, rfl, g11, rfl, rfl⟩ | ⟨g0, g1, g2, g3, rfl, rfl, g6, g7, rfl, rfl, rfl, g11, rfl⟩ | ⟨g0, g1, g2, g3, rfl, rfl, g6, g7, rfl, rfl, g10, rfl, g12, g13, g14, g15, rfl⟩ | ⟨g0, g1, g2, g3, rfl, rfl, g6, g7, rfl, rfl, g10, rfl, g12, g13, g14, g15, rfl⟩ | ⟨g0, g1, g2, g3, rfl, rfl, g6, g7, rfl, rfl, g10, rfl, g12, g13, g14, rfl⟩ | ⟨g0, g1, g2, g3, rfl, rfl, g6, g7, rfl, rfl, g10, rfl, g12, g13, rfl⟩ | ⟨g0, g1, g2, g3, rfl, rfl, g6, g7, rfl, rfl, g10, rfl, g12, rfl⟩ | ⟨g0, g1, g2, g3, rfl, rfl, g6, g7, rfl, rfl, g10, g11, rfl, rfl, rfl, rfl⟩ | ⟨g0, g1, g2, g3, rfl, rfl, g6, g7, rfl, rfl, g10, g11, rfl, rfl, rfl, rfl, rfl, rfl⟩ | ⟨g0, g1, g2, g3, rfl, rfl, g6, g7, rfl, rfl, g10, g11, rfl, rfl, rfl, rfl, rfl, rfl⟩ | ⟨g0, g1, g2, g3, rfl, rfl, g6, g7, rfl, rfl, g10, g11, rfl, rfl, rfl, rfl, rfl⟩ | ⟨g0, g1, g2, g3, rfl, rfl, g6, g7, rfl, rfl, g10, g11, rfl, rfl, rfl⟩ | ⟨g0, g1, g2, g3, rfl, rfl, g6, g7, rfl, rfl, g10, g11, g12, rfl⟩ | ⟨g0, g1, g2, g3, rfl, rfl, g6, g7, rfl, rfl, rfl⟩ | ⟨g0, g1, g2, g3, rfl, rfl, g6, g7, rfl, rfl⟩ | ⟨g0, g1, g2, g3, rfl, rfl, g6, g7, rfl⟩ | ⟨g0, g1, g2, g3, rfl, rfl, g6, rfl⟩ | ⟨g0, g1, g2, g3, rfl, rfl, rfl⟩ | ⟨g0, g1, g2, g3, rfl⟩ | ⟨g0, g1, g2, rfl⟩ | ⟨g0, g1, rfl⟩
 all_goals
  go_enter Tryz.func87, Tryz.ntmps87
  go_wp2_with (first | ((with_reducible refine g_offw ?_); refine a_offw ?_) | ((first | (go_at_call 112; with_reducible refine (C2 _).mono ?_) | (go_at_call 113; with_reducible refine (C3 _).mono ?_) | (go_at_call 114; with_reducible refine (C4 _).mono ?_) | (go_at_call 115; with_reducible refine (C5 _).mono ?_) | (go_at_call 115; with_reducible refine (C6 _).mono ?_) | (go_at_call 112; with_reducible refine (C7 _).mono ?_) | (go_at_call 116; with_reducible refine (HSG.out _).mono ?_)); rintro e9 w2 ⟨rfl, hL⟩; replace HM := HM.call hL; clear hL) | ((with_reducible refine g_bld ?_); refine a_rbl (v := .agg Y9) ?_ (hy := h_bg3 rfl Zw Zw Zw (by with_reducible exact (HB)))) | ((with_reducible refine g_bin ?_); refine a_seqb (E1) Zk ?_) | ((with_reducible refine g_ld ?_); refine a_ld HM ?_) | ((with_reducible refine g_st ?_); refine a_st HM ?_; clear HM; intro w1 HM) | ((with_reducible refine g_al ?_); refine a_al HM ?_; clear HM; intro bk w1 HM) | ((with_reducible refine g_bx ?_); refine a_bx HM ?_; clear HM; intro bk w1 HM))
  go_ret
  exact ⟨rfl, HM.low⟩
end
section
open Jb
theorem rcheck23_any (x : JO) (hw : x.wf) (w : World) :
    Calls Tryz.prog 34 #[.agg x.c] w fun e w' => e = .returned (.int .i64 (if (x.right) = true then 0 else 230)) ∧ Below w.heap.size w w' := by
 have HM := Mem.start w
 have lx := x.la
 have f0 := (JO.f_key x).la
 have f1 := (JO.f_acc x).la
 have f2 := (JO.f_fnd x).la
 have f3 := (JO.f_cls x).la
 have f7 := (JO.f_at_ x).la
 have f8 := (JO.f_kn x).la
 have f9 := (JO.f_vd x).la
 have E1 := JO.eq9 x { JO.zero with key := x.key, at_ := x.at_, kn := x.kn, vd := true }
 have HB := fun w => JO.bld (parts := #[(0, .string x.key), (7, .int .i64 x.at_), (8, .int .i64 x.kn), (9, .bool true)]) (r := { JO.zero with key := x.key, at_ := x.at_, kn := x.kn, vd := true }) (by simp [Value.cells]) (by rw [JO.rows]; rfl) w
 generalize JO.c { JO.zero with key := x.key, at_ := x.at_, kn := x.kn, vd := true } = Y9 at E1 HB
 have HV : Hid (x.right = ((name x.key && (decide (0 ≤ x.at_) && (decide (x.at_ ≤ 105190559) && (decide (1 ≤ x.kn) && decide (x.kn ≤ 2147483647))))) && (if x.vd then JO.b x { JO.zero with key := x.key, at_ := x.at_, kn := x.kn, vd := true } else JK.right x.acc && (name x.fnd && (name x.cls && x.asked))))) := Zi rfl
 generalize x.right = v at HV ⊢
 have C1 := fun w => rname23_any x.key w
 have C2 := fun w => racc_any x.acc hw.2.1 w
 have C3 := fun w => rname23_any x.fnd w
 have C4 := fun w => rname23_any x.cls w
 have C5 := fun w => rasked_any x w
 generalize name x.key = b1 at *
 generalize JK.right x.acc = b2 at *
 generalize name x.fnd = b3 at *
 generalize name x.cls = b4 at *
 generalize x.asked = b5 at *
 generalize JO.b x { JO.zero with key := x.key, at_ := x.at_, kn := x.kn, vd := true } = b6 at *
 generalize x.vd = vd at HV f9
 have hc : (vd = true ∧ b1 = true ∧ 0 ≤ x.at_ ∧ x.at_ ≤ 105190559 ∧ 1 ≤ x.kn ∧ x.kn ≤ 2147483647 ∧ b6 = true ∧ true = v) ∨
     (vd = true ∧ b1 = true ∧ 0 ≤ x.at_ ∧ x.at_ ≤ 105190559 ∧ 1 ≤ x.kn ∧ x.kn ≤ 2147483647 ∧ b6 = false ∧ false = v) ∨
     (vd = true ∧ b1 = true ∧ 0 ≤ x.at_ ∧ x.at_ ≤ 105190559 ∧ 1 ≤ x.kn ∧ ¬ (x.kn ≤ 2147483647) ∧ false = v) ∨
     (vd = true ∧ b1 = true ∧ 0 ≤ x.at_ ∧ x.at_ ≤ 105190559 ∧ ¬ (1 ≤ x.kn) ∧ false = v) ∨
     (vd = true ∧ b1 = true ∧ 0 ≤ x.at_ ∧ ¬ (x.at_ ≤ 105190559) ∧ false = v) ∨
     (vd = true ∧ b1 = true ∧ ¬ (0 ≤ x.at_) ∧ false = v) ∨
     (vd = true ∧ b1 = false ∧ false = v) ∨
     (vd = false ∧ b1 = true ∧ 0 ≤ x.at_ ∧ x.at_ ≤ 105190559 ∧ 1 ≤ x.kn ∧ x.kn ≤ 2147483647 ∧ b2 = true ∧ b3 = true ∧ b4 = true ∧ b5 = true ∧ true = v) ∨
     (vd = false ∧ b1 = true ∧ 0 ≤ x.at_ ∧ x.at_ ≤ 105190559 ∧ 1 ≤ x.kn ∧ x.kn ≤ 2147483647 ∧ b2 = true ∧ b3 = true ∧ b4 = true ∧ b5 = false ∧ false = v) ∨
     (vd = false ∧ b1 = true ∧ 0 ≤ x.at_ ∧ x.at_ ≤ 105190559 ∧ 1 ≤ x.kn ∧ x.kn ≤ 2147483647 ∧ b2 = true ∧ b3 = true ∧ b4 = false ∧ false = v) ∨
     (vd = false ∧ b1 = true ∧ 0 ≤ x.at_ ∧ x.at_ ≤ 105190559 ∧ 1 ≤ x.kn ∧ x.kn ≤ 2147483647 ∧ b2 = true ∧ b3 = false ∧ false = v) ∨
     (vd = false ∧ b1 = true ∧ 0 ≤ x.at_ ∧ x.at_ ≤ 105190559 ∧ 1 ≤ x.kn ∧ x.kn ≤ 2147483647 ∧ b2 = false ∧ false = v) ∨
     (vd = false ∧ b1 = true ∧ 0 ≤ x.at_ ∧ x.at_ ≤ 105190559 ∧ 1 ≤ x.kn ∧ ¬ (x.kn ≤ 2147483647) ∧ false = v) ∨
     (vd = false ∧ b1 = true ∧ 0 ≤ x.at_ ∧ x.at_ ≤ 105190559 ∧ ¬ (1 ≤ x.kn) ∧ false = v) ∨
     (vd = false ∧ b1 = true ∧ 0 ≤ x.at_ ∧ ¬ (x.at_ ≤ 105190559) ∧ false = v) ∨
     (vd = false ∧ b1 = true ∧ ¬ (0 ≤ x.at_) ∧ false = v) ∨
     (vd = false ∧ b1 = false ∧ false = v) := by
  clear HM C1 C2 C3 C4 C5
  cases vd with
  | true =>
   cases b1 with
   | true =>
    by_cases h1 : 0 ≤ x.at_
    ·skip
     by_cases h2 : x.at_ ≤ 105190559
     ·skip
      by_cases h3 : 1 ≤ x.kn
      ·skip
       by_cases h4 : x.kn ≤ 2147483647
       ·skip
        cases b6 with
        | true =>
         exact .inl (⟨rfl, rfl, h1, h2, h3, h4, rfl, by rw [HV.out]; simp [h1, h2, h3, h4]⟩)
        | false =>
         exact .inr (.inl (⟨rfl, rfl, h1, h2, h3, h4, rfl, by rw [HV.out]; simp [h1, h2, h3, h4]⟩))
       ·skip
        exact .inr (.inr (.inl (⟨rfl, rfl, h1, h2, h3, h4, by rw [HV.out]; simp [h1, h2, h3, h4]⟩)))
      ·skip
       exact .inr (.inr (.inr (.inl (⟨rfl, rfl, h1, h2, h3, by rw [HV.out]; simp [h1, h2, h3]⟩))))
     ·skip
      exact Zr (.inl (⟨rfl, rfl, h1, h2, by rw [HV.out]; simp [h1, h2]⟩))
    ·skip
     exact Zr (.inr (.inl (⟨rfl, rfl, h1, by rw [HV.out]; simp [h1]⟩)))
   | false =>
    exact Zr (.inr (.inr (.inl (⟨rfl, rfl, by rw [HV.out]; simp⟩))))
  | false =>
   cases b1 with
   | true =>
    by_cases h5 : 0 ≤ x.at_
    ·skip
     by_cases h6 : x.at_ ≤ 105190559
     ·skip
      by_cases h7 : 1 ≤ x.kn
      ·skip
       by_cases h8 : x.kn ≤ 2147483647
       ·skip
        cases b2 with
        | true =>
         cases b3 with
         | true =>
          cases b4 with
          | true =>
           cases b5 with
           | true =>
            exact Zr (.inr (.inr (.inr (.inl (⟨rfl, rfl, h5, h6, h7, h8, rfl, rfl, rfl, rfl, by rw [HV.out]; simp [h5, h6, h7, h8]⟩)))))
           | false =>
            exact Zr (Zr (.inl (⟨rfl, rfl, h5, h6, h7, h8, rfl, rfl, rfl, rfl, by rw [HV.out]; simp [h5, h6, h7, h8]⟩)))
          | false =>
           exact Zr (Zr (.inr (.inl (⟨rfl, rfl, h5, h6, h7, h8, rfl, rfl, rfl, by rw [HV.out]; simp [h5, h6, h7, h8]⟩))))
         | false =>
          exact Zr (Zr (.inr (.inr (.inl (⟨rfl, rfl, h5, h6, h7, h8, rfl, rfl, by rw [HV.out]; simp [h5, h6, h7, h8]⟩)))))
        | false =>
         exact Zr (Zr (.inr (.inr (.inr (.inl (⟨rfl, rfl, h5, h6, h7, h8, rfl, by rw [HV.out]; simp [h5, h6, h7, h8]⟩))))))
       ·skip
        exact Zr (Zr (Zr (.inl (⟨rfl, rfl, h5, h6, h7, h8, by rw [HV.out]; simp [h5, h6, h7, h8]⟩))))
      ·skip
       exact Zr (Zr (Zr (.inr (.inl (⟨rfl, rfl, h5, h6, h7, by rw [HV.out]; simp [h5, h6, h7]⟩)))))
     ·skip
      exact Zr (Zr (Zr (.inr (.inr (.inl (⟨rfl, rfl, h5, h6, by rw [HV.out]; simp [h5, h6]⟩))))))
    ·skip
     exact Zr (Zr (Zr (.inr (.inr (.inr (.inl (⟨rfl, rfl, h5, by rw [HV.out]; simp [h5]⟩)))))))
   | false =>
    exact Zr (Zr (Zr (Zr (⟨rfl, rfl, by rw [HV.out]; simp⟩))))
 clear HV
 rcases hc with ⟨rfl, rfl, g2, g3, g4, g5, rfl, rfl⟩ | ⟨rfl, rfl, g2, g3, g4, g5, rfl, rfl⟩ | ⟨rfl, rfl, g2, g3, g4, g5, rfl⟩ | ⟨rfl, rfl, g2, g3, g4, rfl⟩ | ⟨rfl, rfl, g2, g3, rfl⟩ | ⟨rfl, rfl, g2, rfl⟩ | ⟨rfl, rfl, rfl⟩ | ⟨rfl, rfl, g2, g3, g4, g5, rfl, rfl, rfl, rfl, rfl⟩ | ⟨rfl, rfl, g2, g3, g4, g5, rfl, rfl, rfl, rfl, rfl⟩ | ⟨rfl, rfl, g2, g3, g4, g5, rfl, rfl, rfl, rfl⟩ | ⟨rfl, rfl, g2, g3, g4, g5, rfl, rfl, rfl⟩ | ⟨rfl, rfl, g2, g3, g4, g5, rfl, rfl⟩ | ⟨rfl, rfl, g2, g3, g4, g5, rfl⟩ | ⟨rfl, rfl, g2, g3, g4, rfl⟩ | ⟨rfl, rfl, g2, g3, rfl⟩ | ⟨rfl, rfl, g2, rfl⟩ | ⟨rfl, rfl, rfl⟩
 all_goals
  go_enter Tryz.func34, Tryz.ntmps34
  go_wp2_with (first | ((with_reducible refine g_offw ?_); refine a_offw ?_) | ((first | (go_at_call 53; with_reducible refine (C1 _).mono ?_) | (go_at_call 54; with_reducible refine (C2 _).mono ?_) | (go_at_call 53; with_reducible refine (C3 _).mono ?_) | (go_at_call 53; with_reducible refine (C4 _).mono ?_) | (go_at_call 55; with_reducible refine (C5 _).mono ?_)); rintro e9 w2 ⟨rfl, hL⟩; replace HM := HM.call hL; clear hL) | ((with_reducible refine g_bld ?_); refine a_rbl (v := .agg Y9) ?_ (hy := h_bg4 rfl Zw Zw Zw Zw (by with_reducible exact (HB)))) | ((with_reducible refine g_bin ?_); refine a_seqb (E1) Zk ?_) | ((with_reducible refine g_ld ?_); refine a_ld HM ?_) | ((with_reducible refine g_bx ?_); refine a_bx HM ?_; clear HM; intro bk w1 HM))
  go_ret
  exact ⟨rfl, HM.low⟩
end
end Go.Proofs.YtkiempioeffhbaaGreatDoor
