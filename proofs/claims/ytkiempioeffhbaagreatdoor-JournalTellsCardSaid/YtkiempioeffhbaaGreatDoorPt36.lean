/- Walks. -/
import Derived.Test.YtkiempioeffhbaaGreatDoorPt25
namespace Go.Proofs.YtkiempioeffhbaaGreatDoor
set_option maxHeartbeats 16000000
open Go.RowKit
set_option maxRecDepth 8000
set_option linter.unusedSimpArgs false
set_option linter.unusedVariables false
section
theorem z9_156 {P : Prop} (h : P := by
 go_enter Tryz.func102, Tryz.ntmps102
 go_wp2_with (first | ((first | (go_at_call 130; with_reducible refine (C2 _).mono ?_) | (go_at_call 134; with_reducible refine (C3 _).mono ?_) | (go_at_call 131; with_reducible refine (C4 _).mono ?_) | (go_at_call 137; with_reducible refine (C5 _).mono ?_) | (go_at_call 137; with_reducible refine (C6 _).mono ?_) | (go_at_call 132; with_reducible refine (C10 _).mono ?_)); rintro e9 w2 ⟨rfl, hL⟩; replace HM := HM.call hL; clear hL) | ((with_reducible refine g_ld ?_); refine a_ld HM ?_) | ((with_reducible refine g_bx ?_); refine a_bx HM ?_; clear HM; intro bk w1 HM))
 go_ret
 exact ⟨rfl, HM.low⟩) : P := h
theorem z9_157 {P : Prop} (h : P := by
 refine k_pick 18 (heldE HM) ?_
 refine k_mv 19 (heldE HM) ?_
 refine wpAnyL_done Zk ?_ _
 (go_wp2_with fail; go_ret; exact ⟨rfl, HM.low⟩)) : P := h
theorem z9_158 {P : Prop} (h : P := by
 refine k_pick 12 (heldE HM) ?_
 refine k_mv 13 (heldE HM) ?_
 refine k_off 14 (heldE HM) ?_
 refine k_off 15 (heldE HM) ?_
 refine k_off 16 (heldE HM) ?_
 refine k_off 17 (heldE HM) ?_
 refine k_pick 18 (heldE HM) ?_
 refine k_mv 19 (heldE HM) ?_
 refine wpAnyL_done Zk ?_ _
 (go_wp2_with fail; go_ret; exact ⟨rfl, HM.low⟩)) : P := h
theorem z9_159 {P : Prop} (h : P := by
 refine k_pick 7 (heldE HM) ?_
 refine k_mv 8 (heldE HM) ?_
 refine k_off 9 (heldE HM) ?_
 refine k_off 10 (heldE HM) ?_
 refine k_off 11 (heldE HM) ?_
 refine k_pick 12 (heldE HM) ?_
 refine k_mv 13 (heldE HM) ?_
 refine k_off 14 (heldE HM) ?_
 refine k_off 15 (heldE HM) ?_
 refine k_off 16 (heldE HM) ?_
 refine k_off 17 (heldE HM) ?_
 refine k_pick 18 (heldE HM) ?_
 refine k_mv 19 (heldE HM) ?_
 refine wpAnyL_done Zk ?_ _
 (go_wp2_with fail; go_ret; exact ⟨rfl, HM.low⟩)) : P := h
theorem z9_160 {P : Prop} (h : P := by
 go_enter Tryz.func102, Tryz.ntmps102
 go_wp2_with (first | ((with_reducible refine g_offw ?_); refine a_offw ?_) | ((first | (go_at_call 130; with_reducible refine (C2 _).mono ?_) | (go_at_call 134; with_reducible refine (C3 _).mono ?_) | (go_at_call 131; with_reducible refine (C4 _).mono ?_) | (go_at_call 130; with_reducible refine (C7 _).mono ?_) | (go_at_call 132; with_reducible refine (C10 _).mono ?_)); rintro e9 w2 ⟨rfl, hL⟩; replace HM := HM.call hL; clear hL) | ((with_reducible refine g_ld ?_); refine a_ld HM ?_) | ((with_reducible refine g_bx ?_); refine a_bx HM ?_; clear HM; intro bk w1 HM))
 go_ret
 exact ⟨rfl, HM.low⟩) : P := h
theorem z9_161 {P : Prop} (h : P := by
 go_enter Tryz.func102, Tryz.ntmps102
 go_wp2_with (first | ((first | (go_at_call 130; with_reducible refine (C2 _).mono ?_) | (go_at_call 134; with_reducible refine (C3 _).mono ?_) | (go_at_call 131; with_reducible refine (C4 _).mono ?_) | (go_at_call 137; with_reducible refine (C5 _).mono ?_) | (go_at_call 137; with_reducible refine (C6 _).mono ?_) | (go_at_call 130; with_reducible refine (C7 _).mono ?_) | (go_at_call 132; with_reducible refine (C10 _).mono ?_)); rintro e9 w2 ⟨rfl, hL⟩; replace HM := HM.call hL; clear hL) | ((with_reducible refine g_ld ?_); refine a_ld HM ?_) | ((with_reducible refine g_bx ?_); refine a_bx HM ?_; clear HM; intro bk w1 HM))
 go_ret
 exact ⟨rfl, HM.low⟩) : P := h
theorem z9_162 {P : Prop} (h : P := by
 go_enter Tryz.func102, Tryz.ntmps102
 go_wp2_with (first | ((first | (go_at_call 130; with_reducible refine (C2 _).mono ?_) | (go_at_call 134; with_reducible refine (C3 _).mono ?_) | (go_at_call 131; with_reducible refine (C4 _).mono ?_) | (go_at_call 132; with_reducible refine (C10 _).mono ?_)); rintro e9 w2 ⟨rfl, hL⟩; replace HM := HM.call hL; clear hL) | ((with_reducible refine g_ld ?_); refine a_ld HM ?_) | ((with_reducible refine g_bx ?_); refine a_bx HM ?_; clear HM; intro bk w1 HM))
 go_ret
 exact ⟨rfl, HM.low⟩) : P := h
theorem z9_163 {P : Prop} (h : P := by
 go_enter Tryz.func102, Tryz.ntmps102
 go_wp2_with (first | ((with_reducible refine g_offw ?_); refine a_offw ?_) | ((with_reducible refine g_ld ?_); refine a_ld HM ?_) | ((with_reducible refine g_bx ?_); refine a_bx HM ?_; clear HM; intro bk w1 HM))
 go_ret
 exact ⟨rfl, HM.low⟩) : P := h
end
section
open Jb
theorem ract_any (x : JA) (hw : x.wf) (w : World) :
    Calls Tryz.prog 102 #[.agg x.c] w fun e w' => e = .returned (.bool x.right) ∧ Below w.heap.size w w' := by
 have HM := Mem.start w
 have HS1 := Jb.str_l x.into x.ins
 have HS2 := Jb.str_d x.into x.ins
 have flkd := (JA.f_kd x).la
 have flkey := (JA.f_key x).la
 have flins := (JA.f_ins x).la
 have flinto := (JA.f_into x).la
 have flday := (JA.f_day x).la
 have flnm := (JA.f_nm x).la
 have fldn := (JA.f_dn x).la
 have flcsh := (JA.f_csh x).la
 have flcur := (JA.f_cur x).la
 have flkn := (JA.f_kn x).la
 have flvd := (JA.f_vd x).la
 have lx := x.la
 have E1 := JA.eq9 x { JA.zero with key := x.key, kn := x.kn, vd := true }
 have HB := fun w => JA.bld (parts := #[(1, .string x.key), (9, .int .i64 x.kn), (10, .bool true)]) (r := { JA.zero with key := x.key, kn := x.kn, vd := true }) (by simp [Value.cells]) (by rw [JA.rows]; rfl) w
 generalize JA.c { JA.zero with key := x.key, kn := x.kn, vd := true } = Y9 at E1 HB
 have E2 := Rr.eqT 9996 x.csh rat0
 rw [rat0_c] at E2
 have HV : Hid (x.right = ((decide ((1 : Int) ≤ (x.key.size : Int)) && (decide ((x.key.size : Int) ≤ 64) && (decide (1 ≤ x.kn) && decide (x.kn ≤ 2147483647)))) && (if x.vd then JA.b x { JA.zero with key := x.key, kn := x.kn, vd := true } else (paper x.ins && (Dt.isDay x.day && (price x.csh && code x.cur))) && (if x.kd = 1 then decide (x.into.size = 0) && ((decide (1 ≤ x.nm) && decide (x.nm ≤ 1000000)) && (decide (1 ≤ x.dn) && decide (x.dn ≤ 1000000))) else if x.kd = 2 then decide (x.into.size = 0) && (decide (x.nm = 0) && (decide (x.dn = 0) && !Rr.b x.csh rat0)) else if x.kd = 3 then paper x.into && (!(x.into == x.ins) && ((decide (1 ≤ x.nm) && decide (x.nm ≤ 1000000)) && (decide (1 ≤ x.dn) && decide (x.dn ≤ 1000000)))) else false)))) := Zi (by unfold JA.right; rw [ja_key_r]; rfl)
 generalize x.right = v at HV ⊢
 have C2 := fun w => belt (rpaper_any x.ins w)
 have C3 := fun w => rprice_any x.csh w
 have C4 := fun w => belt (rcode_any x.cur w)
 have C5 := fun w => belt (rfac_any x.nm _ (Zi rfl) w)
 have C6 := fun w => belt (rfac_any x.dn _ (Zi rfl) w)
 have C7 := fun w => belt (rpaper_any x.into w)
 have C10 := fun w => belt (rOut_any x.day w)
 generalize JA.b x { JA.zero with key := x.key, kn := x.kn, vd := true } = b1 at *
 generalize paper x.ins = b2 at *
 generalize price x.csh = b3 at *
 generalize code x.cur = b4 at *
 generalize (decide (1 ≤ x.nm) && decide (x.nm ≤ 1000000)) = b5 at *
 generalize (decide (1 ≤ x.dn) && decide (x.dn ≤ 1000000)) = b6 at *
 generalize paper x.into = b7 at *
 generalize (x.into == x.ins) = b8 at *
 generalize Rr.b x.csh rat0 = b9 at *
 generalize Dt.isDay x.day = b10 at *
 generalize x.vd = vd at HV flvd
 generalize x.kd = kd at HV flkd
 have hc : (decide ((x.key.size : Int) < 1) = false ∧ decide (64 < (x.key.size : Int)) = false ∧ decide (x.kn < 1) = false ∧ decide (2147483647 < x.kn) = false ∧ vd = true ∧ b1 = v) ∨
     (decide ((x.key.size : Int) < 1) = false ∧ decide (64 < (x.key.size : Int)) = false ∧ decide (x.kn < 1) = false ∧ decide (2147483647 < x.kn) = false ∧ vd = false ∧ b2 = true ∧ b10 = true ∧ b3 = true ∧ b4 = true ∧ kd = 1 ∧ x.into.toList.isEmpty = true ∧ b5 = true ∧ b6 = true ∧ true = v) ∨
     (decide ((x.key.size : Int) < 1) = false ∧ decide (64 < (x.key.size : Int)) = false ∧ decide (x.kn < 1) = false ∧ decide (2147483647 < x.kn) = false ∧ vd = false ∧ b2 = true ∧ b10 = true ∧ b3 = true ∧ b4 = true ∧ kd = 1 ∧ x.into.toList.isEmpty = true ∧ b5 = true ∧ b6 = false ∧ false = v) ∨
     (decide ((x.key.size : Int) < 1) = false ∧ decide (64 < (x.key.size : Int)) = false ∧ decide (x.kn < 1) = false ∧ decide (2147483647 < x.kn) = false ∧ vd = false ∧ b2 = true ∧ b10 = true ∧ b3 = true ∧ b4 = true ∧ kd = 1 ∧ x.into.toList.isEmpty = true ∧ b5 = false ∧ false = v) ∨
     (decide ((x.key.size : Int) < 1) = false ∧ decide (64 < (x.key.size : Int)) = false ∧ decide (x.kn < 1) = false ∧ decide (2147483647 < x.kn) = false ∧ vd = false ∧ b2 = true ∧ b10 = true ∧ b3 = true ∧ b4 = true ∧ kd = 1 ∧ x.into.toList.isEmpty = false ∧ false = v) ∨
     (decide ((x.key.size : Int) < 1) = false ∧ decide (64 < (x.key.size : Int)) = false ∧ decide (x.kn < 1) = false ∧ decide (2147483647 < x.kn) = false ∧ vd = false ∧ b2 = true ∧ b10 = true ∧ b3 = true ∧ b4 = true ∧ (kd == 1) = false ∧ kd = 2 ∧ x.into.toList.isEmpty = true ∧ (x.nm == 0) = true ∧ (x.dn == 0) = true ∧ b9 = true ∧ false = v) ∨
     (decide ((x.key.size : Int) < 1) = false ∧ decide (64 < (x.key.size : Int)) = false ∧ decide (x.kn < 1) = false ∧ decide (2147483647 < x.kn) = false ∧ vd = false ∧ b2 = true ∧ b10 = true ∧ b3 = true ∧ b4 = true ∧ (kd == 1) = false ∧ kd = 2 ∧ x.into.toList.isEmpty = true ∧ (x.nm == 0) = true ∧ (x.dn == 0) = true ∧ b9 = false ∧ true = v) ∨
     (decide ((x.key.size : Int) < 1) = false ∧ decide (64 < (x.key.size : Int)) = false ∧ decide (x.kn < 1) = false ∧ decide (2147483647 < x.kn) = false ∧ vd = false ∧ b2 = true ∧ b10 = true ∧ b3 = true ∧ b4 = true ∧ (kd == 1) = false ∧ kd = 2 ∧ x.into.toList.isEmpty = true ∧ (x.nm == 0) = true ∧ (x.dn == 0) = false ∧ false = v) ∨
     (decide ((x.key.size : Int) < 1) = false ∧ decide (64 < (x.key.size : Int)) = false ∧ decide (x.kn < 1) = false ∧ decide (2147483647 < x.kn) = false ∧ vd = false ∧ b2 = true ∧ b10 = true ∧ b3 = true ∧ b4 = true ∧ (kd == 1) = false ∧ kd = 2 ∧ x.into.toList.isEmpty = true ∧ (x.nm == 0) = false ∧ false = v) ∨
     (decide ((x.key.size : Int) < 1) = false ∧ decide (64 < (x.key.size : Int)) = false ∧ decide (x.kn < 1) = false ∧ decide (2147483647 < x.kn) = false ∧ vd = false ∧ b2 = true ∧ b10 = true ∧ b3 = true ∧ b4 = true ∧ (kd == 1) = false ∧ kd = 2 ∧ x.into.toList.isEmpty = false ∧ false = v) ∨
     (decide ((x.key.size : Int) < 1) = false ∧ decide (64 < (x.key.size : Int)) = false ∧ decide (x.kn < 1) = false ∧ decide (2147483647 < x.kn) = false ∧ vd = false ∧ b2 = true ∧ b10 = true ∧ b3 = true ∧ b4 = true ∧ (kd == 1) = false ∧ (kd == 2) = false ∧ kd = 3 ∧ b7 = true ∧ b8 = true ∧ false = v) ∨
     (decide ((x.key.size : Int) < 1) = false ∧ decide (64 < (x.key.size : Int)) = false ∧ decide (x.kn < 1) = false ∧ decide (2147483647 < x.kn) = false ∧ vd = false ∧ b2 = true ∧ b10 = true ∧ b3 = true ∧ b4 = true ∧ (kd == 1) = false ∧ (kd == 2) = false ∧ kd = 3 ∧ b7 = true ∧ b8 = false ∧ b5 = true ∧ b6 = true ∧ true = v) ∨
     (decide ((x.key.size : Int) < 1) = false ∧ decide (64 < (x.key.size : Int)) = false ∧ decide (x.kn < 1) = false ∧ decide (2147483647 < x.kn) = false ∧ vd = false ∧ b2 = true ∧ b10 = true ∧ b3 = true ∧ b4 = true ∧ (kd == 1) = false ∧ (kd == 2) = false ∧ kd = 3 ∧ b7 = true ∧ b8 = false ∧ b5 = true ∧ b6 = false ∧ false = v) ∨
     (decide ((x.key.size : Int) < 1) = false ∧ decide (64 < (x.key.size : Int)) = false ∧ decide (x.kn < 1) = false ∧ decide (2147483647 < x.kn) = false ∧ vd = false ∧ b2 = true ∧ b10 = true ∧ b3 = true ∧ b4 = true ∧ (kd == 1) = false ∧ (kd == 2) = false ∧ kd = 3 ∧ b7 = true ∧ b8 = false ∧ b5 = false ∧ false = v) ∨
     (decide ((x.key.size : Int) < 1) = false ∧ decide (64 < (x.key.size : Int)) = false ∧ decide (x.kn < 1) = false ∧ decide (2147483647 < x.kn) = false ∧ vd = false ∧ b2 = true ∧ b10 = true ∧ b3 = true ∧ b4 = true ∧ (kd == 1) = false ∧ (kd == 2) = false ∧ kd = 3 ∧ b7 = false ∧ false = v) ∨
     (decide ((x.key.size : Int) < 1) = false ∧ decide (64 < (x.key.size : Int)) = false ∧ decide (x.kn < 1) = false ∧ decide (2147483647 < x.kn) = false ∧ vd = false ∧ b2 = true ∧ b10 = true ∧ b3 = true ∧ b4 = true ∧ (kd == 1) = false ∧ (kd == 2) = false ∧ (kd == 3) = false ∧ false = v) ∨
     (decide ((x.key.size : Int) < 1) = false ∧ decide (64 < (x.key.size : Int)) = false ∧ decide (x.kn < 1) = false ∧ decide (2147483647 < x.kn) = false ∧ vd = false ∧ b2 = true ∧ b10 = true ∧ b3 = true ∧ b4 = false ∧ false = v) ∨
     (decide ((x.key.size : Int) < 1) = false ∧ decide (64 < (x.key.size : Int)) = false ∧ decide (x.kn < 1) = false ∧ decide (2147483647 < x.kn) = false ∧ vd = false ∧ b2 = true ∧ b10 = true ∧ b3 = false ∧ false = v) ∨
     (decide ((x.key.size : Int) < 1) = false ∧ decide (64 < (x.key.size : Int)) = false ∧ decide (x.kn < 1) = false ∧ decide (2147483647 < x.kn) = false ∧ vd = false ∧ b2 = true ∧ b10 = false ∧ false = v) ∨
     (decide ((x.key.size : Int) < 1) = false ∧ decide (64 < (x.key.size : Int)) = false ∧ decide (x.kn < 1) = false ∧ decide (2147483647 < x.kn) = false ∧ vd = false ∧ b2 = false ∧ false = v) ∨
     (decide ((x.key.size : Int) < 1) = false ∧ decide (64 < (x.key.size : Int)) = false ∧ decide (x.kn < 1) = false ∧ decide (2147483647 < x.kn) = true ∧ false = v) ∨
     (decide ((x.key.size : Int) < 1) = false ∧ decide (64 < (x.key.size : Int)) = false ∧ decide (x.kn < 1) = true ∧ false = v) ∨
     (decide ((x.key.size : Int) < 1) = false ∧ decide (64 < (x.key.size : Int)) = true ∧ false = v) ∨
     (decide ((x.key.size : Int) < 1) = true ∧ false = v) := by
  clear HM C2 C3 C4 C5 C6 C7 C10
  generalize (x.key.size : Int) = ks at HV ⊢
  by_cases h1 : 1 ≤ ks
  ·skip
   by_cases h2 : ks ≤ 64
   ·skip
    by_cases h3 : 1 ≤ x.kn
    ·skip
     by_cases h4 : x.kn ≤ 2147483647
     ·skip
      cases vd with
      | true =>
       exact .inl (⟨Zn h1, Zn h2, Zn h3, Zn h4, rfl, by rw [HV.out]; simp [h1, h2, h3, h4]⟩)
      | false =>
       cases b2 with
       | true =>
        cases b10 with
        | true =>
         cases b3 with
         | true =>
          cases b4 with
          | true =>
           by_cases h5 : kd = 1
           ·skip
            subst h5
            by_cases h6 : x.into.size = 0
            ·skip
             cases b5 with
             | true =>
              cases b6 with
              | true =>
               exact .inr (.inl (⟨Zn h1, Zn h2, Zn h3, Zn h4, rfl, rfl, rfl, rfl, rfl, rfl, empty_l h6, rfl, rfl, by rw [HV.out]; simp [h1, h2, h3, h4, h6]⟩))
              | false =>
               exact .inr (.inr (.inl (⟨Zn h1, Zn h2, Zn h3, Zn h4, rfl, rfl, rfl, rfl, rfl, rfl, empty_l h6, rfl, rfl, by rw [HV.out]; simp [h1, h2, h3, h4, h6]⟩)))
             | false =>
              exact .inr (.inr (.inr (.inl (⟨Zn h1, Zn h2, Zn h3, Zn h4, rfl, rfl, rfl, rfl, rfl, rfl, empty_l h6, rfl, by rw [HV.out]; simp [h1, h2, h3, h4, h6]⟩))))
            ·skip
             exact Zr (.inl (⟨Zn h1, Zn h2, Zn h3, Zn h4, rfl, rfl, rfl, rfl, rfl, rfl, some_l h6, by rw [HV.out]; simp [h1, h2, h3, h4, h6]⟩))
           ·skip
            by_cases h7 : kd = 2
            ·skip
             subst h7
             by_cases h8 : x.into.size = 0
             ·skip
              by_cases h9 : x.nm = 0
              ·skip
               by_cases h10 : x.dn = 0
               ·skip
                cases b9 with
                | true =>
                 exact Zr (.inr (.inl (⟨Zn h1, Zn h2, Zn h3, Zn h4, rfl, rfl, rfl, rfl, rfl, Zb h5, rfl, empty_l h8, beq_iff_eq.2 h9, beq_iff_eq.2 h10, rfl, by rw [HV.out]; simp [h1, h2, h3, h4, h5, h8, h9, h10]⟩)))
                | false =>
                 exact Zr (.inr (.inr (.inl (⟨Zn h1, Zn h2, Zn h3, Zn h4, rfl, rfl, rfl, rfl, rfl, Zb h5, rfl, empty_l h8, beq_iff_eq.2 h9, beq_iff_eq.2 h10, rfl, by rw [HV.out]; simp [h1, h2, h3, h4, h5, h8, h9, h10]⟩))))
               ·skip
                exact Zr (.inr (.inr (.inr (.inl (⟨Zn h1, Zn h2, Zn h3, Zn h4, rfl, rfl, rfl, rfl, rfl, Zb h5, rfl, empty_l h8, beq_iff_eq.2 h9, Zb h10, by rw [HV.out]; simp [h1, h2, h3, h4, h5, h8, h9, h10]⟩)))))
              ·skip
               exact Zr (Zr (.inl (⟨Zn h1, Zn h2, Zn h3, Zn h4, rfl, rfl, rfl, rfl, rfl, Zb h5, rfl, empty_l h8, Zb h9, by rw [HV.out]; simp [h1, h2, h3, h4, h5, h8, h9]⟩)))
             ·skip
              exact Zr (Zr (.inr (.inl (⟨Zn h1, Zn h2, Zn h3, Zn h4, rfl, rfl, rfl, rfl, rfl, Zb h5, rfl, some_l h8, by rw [HV.out]; simp [h1, h2, h3, h4, h5, h8]⟩))))
            ·skip
             by_cases h11 : kd = 3
             ·skip
              subst h11
              cases b7 with
              | true =>
               cases b8 with
               | true =>
                exact Zr (Zr (.inr (.inr (.inl (⟨Zn h1, Zn h2, Zn h3, Zn h4, rfl, rfl, rfl, rfl, rfl, Zb h5, Zb h7, rfl, rfl, rfl, by rw [HV.out]; simp [h1, h2, h3, h4, h5, h7]⟩)))))
               | false =>
                cases b5 with
                | true =>
                 cases b6 with
                 | true =>
                  exact Zr (Zr (.inr (.inr (.inr (.inl (⟨Zn h1, Zn h2, Zn h3, Zn h4, rfl, rfl, rfl, rfl, rfl, Zb h5, Zb h7, rfl, rfl, rfl, rfl, rfl, by rw [HV.out]; simp [h1, h2, h3, h4, h5, h7]⟩))))))
                 | false =>
                  exact Zr (Zr (Zr (.inl (⟨Zn h1, Zn h2, Zn h3, Zn h4, rfl, rfl, rfl, rfl, rfl, Zb h5, Zb h7, rfl, rfl, rfl, rfl, rfl, by rw [HV.out]; simp [h1, h2, h3, h4, h5, h7]⟩))))
                | false =>
                 exact Zr (Zr (Zr (.inr (.inl (⟨Zn h1, Zn h2, Zn h3, Zn h4, rfl, rfl, rfl, rfl, rfl, Zb h5, Zb h7, rfl, rfl, rfl, rfl, by rw [HV.out]; simp [h1, h2, h3, h4, h5, h7]⟩)))))
              | false =>
               exact Zr (Zr (Zr (.inr (.inr (.inl (⟨Zn h1, Zn h2, Zn h3, Zn h4, rfl, rfl, rfl, rfl, rfl, Zb h5, Zb h7, rfl, rfl, by rw [HV.out]; simp [h1, h2, h3, h4, h5, h7]⟩))))))
             ·skip
              exact Zr (Zr (Zr (.inr (.inr (.inr (.inl (⟨Zn h1, Zn h2, Zn h3, Zn h4, rfl, rfl, rfl, rfl, rfl, Zb h5, Zb h7, Zb h11, by rw [HV.out]; simp [h1, h2, h3, h4, h5, h7, h11]⟩)))))))
          | false =>
           exact Zr (Zr (Zr (Zr (.inl (⟨Zn h1, Zn h2, Zn h3, Zn h4, rfl, rfl, rfl, rfl, rfl, by rw [HV.out]; simp [h1, h2, h3, h4]⟩)))))
         | false =>
          exact Zr (Zr (Zr (Zr (.inr (.inl (⟨Zn h1, Zn h2, Zn h3, Zn h4, rfl, rfl, rfl, rfl, by rw [HV.out]; simp [h1, h2, h3, h4]⟩))))))
        | false =>
         exact Zr (Zr (Zr (Zr (.inr (.inr (.inl (⟨Zn h1, Zn h2, Zn h3, Zn h4, rfl, rfl, rfl, by rw [HV.out]; simp [h1, h2, h3, h4]⟩)))))))
       | false =>
        exact Zr (Zr (Zr (Zr (.inr (.inr (.inr (.inl (⟨Zn h1, Zn h2, Zn h3, Zn h4, rfl, rfl, by rw [HV.out]; simp [h1, h2, h3, h4]⟩))))))))
     ·skip
      exact Zr (Zr (Zr (Zr (Zr (.inl (⟨Zn h1, Zn h2, Zn h3, Zt (Int.not_le.1 h4), by rw [HV.out]; simp [h1, h2, h3, h4]⟩))))))
    ·skip
     exact Zr (Zr (Zr (Zr (Zr (.inr (.inl (⟨Zn h1, Zn h2, Zt (Int.not_le.1 h3), by rw [HV.out]; simp [h1, h2, h3]⟩)))))))
   ·skip
    exact Zr (Zr (Zr (Zr (Zr (.inr (.inr (.inl (⟨Zn h1, Zt (Int.not_le.1 h2), by rw [HV.out]; simp [h1, h2]⟩))))))))
  ·skip
   exact Zr (Zr (Zr (Zr (Zr (.inr (.inr (.inr (⟨Zt (Int.not_le.1 h1), by rw [HV.out]; simp [h1]⟩))))))))
 clear HV
 rcases hc with ⟨g0, g1, g2, g3, rfl, rfl⟩ | ⟨g0, g1, g2, g3, rfl, rfl, rfl, rfl, rfl, rfl, g10, rfl, rfl, rfl⟩ | ⟨g0, g1, g2, g3, rfl, rfl, rfl, rfl, rfl, rfl, g10, rfl, rfl, rfl⟩ | ⟨g0, g1, g2, g3, rfl, rfl, rfl, rfl, rfl, rfl, g10, rfl, rfl⟩ | ⟨g0, g1, g2, g3, rfl, rfl, rfl, rfl, rfl, rfl, g10, rfl⟩ | ⟨g0, g1, g2, g3, rfl, rfl, rfl, rfl, rfl, g9, rfl, g11, g12, g13, rfl, rfl⟩ | ⟨g0, g1, g2, g3, rfl, rfl, rfl, rfl, rfl, g9, rfl, g11, g12, g13, rfl, rfl⟩ | ⟨g0, g1, g2, g3, rfl, rfl, rfl, rfl, rfl, g9, rfl, g11, g12, g13, rfl⟩ | ⟨g0, g1, g2, g3, rfl, rfl, rfl, rfl, rfl, g9, rfl, g11, g12, rfl⟩ | ⟨g0, g1, g2, g3, rfl, rfl, rfl, rfl, rfl, g9, rfl, g11, rfl⟩ | ⟨g0, g1, g2, g3, rfl, rfl, rfl, rfl, rfl, g9, g10, rfl, rfl, rfl, rfl⟩ | ⟨g0, g1, g2, g3, rfl, rfl, rfl, rfl, rfl, g9, g10, rfl, rfl, rfl, rfl, rfl, rfl⟩ | ⟨g0, g1, g2, g3, rfl, rfl, rfl, rfl, rfl, g9, g10, rfl, rfl, rfl, rfl, rfl, rfl⟩ | ⟨g0, g1, g2, g3, rfl, rfl, rfl, rfl, rfl, g9, g10, rfl, rfl, rfl, rfl, rfl⟩ | ⟨g0, g1, g2, g3, rfl, rfl, rfl, rfl, rfl, g9, g10, rfl, rfl, rfl⟩ | ⟨g0, g1, g2, g3, rfl, rfl, rfl, rfl, rfl, g9, g10, g11, rfl⟩ | ⟨g0, g1, g2, g3, rfl, rfl, rfl, rfl, rfl, rfl⟩ | ⟨g0, g1, g2, g3, rfl, rfl, rfl, rfl, rfl⟩ | ⟨g0, g1, g2, g3, rfl, rfl, rfl, rfl⟩ | ⟨g0, g1, g2, g3, rfl, rfl, rfl⟩ | ⟨g0, g1, g2, g3, rfl⟩ | ⟨g0, g1, g2, rfl⟩ | ⟨g0, g1, rfl⟩ | ⟨g0, rfl⟩
 ·go_enter Tryz.func102, Tryz.ntmps102
  go_wp2_with (first | ((with_reducible refine g_bld ?_); refine a_rbl (v := .agg Y9) ?_ (hy := h_bg3 rfl Zw Zw Zw (by with_reducible exact (HB)))) | ((with_reducible refine g_bin ?_); refine a_seqb (E1) Zk ?_) | ((with_reducible refine g_ld ?_); refine a_ld HM ?_) | ((with_reducible refine g_bx ?_); refine a_bx HM ?_; clear HM; intro bk w1 HM))
  go_ret
  exact ⟨rfl, HM.low⟩
 ·exact z9_156
 ·exact z9_156
 ·go_enter Tryz.func102, Tryz.ntmps102
  go_wp2_with (first | ((with_reducible refine g_offw ?_); refine a_offw ?_) | ((first | (go_at_call 130; with_reducible refine (C2 _).mono ?_) | (go_at_call 134; with_reducible refine (C3 _).mono ?_) | (go_at_call 131; with_reducible refine (C4 _).mono ?_) | (go_at_call 137; with_reducible refine (C5 _).mono ?_) | (go_at_call 132; with_reducible refine (C10 _).mono ?_)); rintro e9 w2 ⟨rfl, hL⟩; replace HM := HM.call hL; clear hL) | ((with_reducible refine g_ld ?_); refine a_ld HM ?_) | ((with_reducible refine g_bx ?_); refine a_bx HM ?_; clear HM; intro bk w1 HM))
  go_ret
  exact ⟨rfl, HM.low⟩
 ·go_enter Tryz.func102, Tryz.ntmps102
  go_wp2_with (first | ((with_reducible refine g_offw ?_); refine a_offw ?_) | ((first | (go_at_call 130; with_reducible refine (C2 _).mono ?_) | (go_at_call 134; with_reducible refine (C3 _).mono ?_) | (go_at_call 131; with_reducible refine (C4 _).mono ?_) | (go_at_call 132; with_reducible refine (C10 _).mono ?_)); rintro e9 w2 ⟨rfl, hL⟩; replace HM := HM.call hL; clear hL) | ((with_reducible refine g_ld ?_); refine a_ld HM ?_) | ((with_reducible refine g_bx ?_); refine a_bx HM ?_; clear HM; intro bk w1 HM))
  go_ret
  exact ⟨rfl, HM.low⟩
 ·go_enter Tryz.func102, Tryz.ntmps102
  go_upto_region 11 with (first | ((first | (go_at_call 130; with_reducible refine (C2 _).mono ?_) | (go_at_call 134; with_reducible refine (C3 _).mono ?_) | (go_at_call 131; with_reducible refine (C4 _).mono ?_) | (go_at_call 132; with_reducible refine (C10 _).mono ?_)); rintro e9 w2 ⟨rfl, hL⟩; replace HM := HM.call hL; clear hL) | ((with_reducible refine g_ld ?_); refine a_ld HM ?_) | ((with_reducible refine g_bx ?_); refine a_bx HM ?_; clear HM; intro bk w1 HM))
  refine start_M [] HM Zk (fun w0x H9 => ?_)
  replace HM := H9; clear H9
  refine k_fa 0 (heldE HM) ?_
  refine k_ld 1 [] (heldE HM) ?_
  refine k_bin 2 (heldE HM) ?_
  refine k_mv 3 (heldE HM) ?_
  refine k_fa 4 (heldE HM) ?_
  refine k_ld 5 [] (heldE HM) ?_
  refine k_bin 6 (heldE HM) ?_
  refine k_pick 7 (heldE HM) ?_
  refine k_mv 8 (heldE HM) ?_
  refine k_fa 9 (heldE HM) ?_
  refine k_ld 10 [] (heldE HM) ?_
  refine k_bin 11 (heldE HM) ?_
  refine k_pick 12 (heldE HM) ?_
  refine k_mv 13 (heldE HM) ?_
  refine k_fa 14 (heldE HM) ?_
  refine k_ld 15 [] (heldE HM) ?_
  refine j_one 16 fun K9 hK9 => ?_
  refine j_call0 (v := ?_) HM ?_ ?_; rotate_left 1; (focus (with_reducible (exact rzero_q _))); clear HM; intro w1 HM
  refine hK9 _ _ (heldE HM) ?_; clear hK9 K9
  refine t_eq (i := 17) (v := ?_) [] rfl rfl rfl Zk (fun _ _ _ h => h) (heldE HM) ?_ ?_; rotate_left 1; (focus ((refine y_cmps .neq false (.inr rfl) (E2) rfl Zk (x := ?_) (y := ?_) (t := ?_) ?_ ?_ ?_ ?_; rotate_left 3; (focus rfl); (focus rfl); (focus ((conv => lhs; whnf) <;> rfl)); ((conv => lhs; whnf) <;> rfl)))); ((try simp only [Za]); (try simp only [Zx]); (try simp only [Zy]))
  exact z9_157
 ·go_enter Tryz.func102, Tryz.ntmps102
  go_upto_region 11 with (first | ((first | (go_at_call 130; with_reducible refine (C2 _).mono ?_) | (go_at_call 134; with_reducible refine (C3 _).mono ?_) | (go_at_call 131; with_reducible refine (C4 _).mono ?_) | (go_at_call 132; with_reducible refine (C10 _).mono ?_)); rintro e9 w2 ⟨rfl, hL⟩; replace HM := HM.call hL; clear hL) | ((with_reducible refine g_ld ?_); refine a_ld HM ?_) | ((with_reducible refine g_bx ?_); refine a_bx HM ?_; clear HM; intro bk w1 HM))
  refine start_M [] HM Zk (fun w0x H9 => ?_)
  replace HM := H9; clear H9
  refine k_fa 0 (heldE HM) ?_
  refine k_ld 1 [] (heldE HM) ?_
  refine k_bin 2 (heldE HM) ?_
  refine k_mv 3 (heldE HM) ?_
  refine k_fa 4 (heldE HM) ?_
  refine k_ld 5 [] (heldE HM) ?_
  refine k_bin 6 (heldE HM) ?_
  refine k_pick 7 (heldE HM) ?_
  refine k_mv 8 (heldE HM) ?_
  refine k_fa 9 (heldE HM) ?_
  refine k_ld 10 [] (heldE HM) ?_
  refine k_bin 11 (heldE HM) ?_
  refine k_pick 12 (heldE HM) ?_
  refine k_mv 13 (heldE HM) ?_
  refine k_fa 14 (heldE HM) ?_
  refine k_ld 15 [] (heldE HM) ?_
  refine j_one 16 fun K9 hK9 => ?_
  refine j_call0 (v := ?_) HM ?_ ?_; rotate_left 1; (focus (with_reducible (exact rzero_q _))); clear HM; intro w1 HM
  refine hK9 _ _ (heldE HM) ?_; clear hK9 K9
  refine t_eq (i := 17) (v := ?_) [] rfl rfl rfl Zk (fun _ _ _ h => h) (heldE HM) ?_ ?_; rotate_left 1; (focus ((refine y_cmps .neq true (.inr rfl) (E2) rfl Zk (x := ?_) (y := ?_) (t := ?_) ?_ ?_ ?_ ?_; rotate_left 3; (focus rfl); (focus rfl); (focus ((conv => lhs; whnf) <;> rfl)); ((conv => lhs; whnf) <;> rfl)))); ((try simp only [Za]); (try simp only [Zx]); (try simp only [Zy]))
  exact z9_157
 ·go_enter Tryz.func102, Tryz.ntmps102
  go_upto_region 11 with (first | ((first | (go_at_call 130; with_reducible refine (C2 _).mono ?_) | (go_at_call 134; with_reducible refine (C3 _).mono ?_) | (go_at_call 131; with_reducible refine (C4 _).mono ?_) | (go_at_call 132; with_reducible refine (C10 _).mono ?_)); rintro e9 w2 ⟨rfl, hL⟩; replace HM := HM.call hL; clear hL) | ((with_reducible refine g_ld ?_); refine a_ld HM ?_) | ((with_reducible refine g_bx ?_); refine a_bx HM ?_; clear HM; intro bk w1 HM))
  refine start_M [] HM Zk (fun w0x H9 => ?_)
  replace HM := H9; clear H9
  refine k_fa 0 (heldE HM) ?_
  refine k_ld 1 [] (heldE HM) ?_
  refine k_bin 2 (heldE HM) ?_
  refine k_mv 3 (heldE HM) ?_
  refine k_fa 4 (heldE HM) ?_
  refine k_ld 5 [] (heldE HM) ?_
  refine k_bin 6 (heldE HM) ?_
  refine k_pick 7 (heldE HM) ?_
  refine k_mv 8 (heldE HM) ?_
  refine k_fa 9 (heldE HM) ?_
  refine k_ld 10 [] (heldE HM) ?_
  refine k_bin 11 (heldE HM) ?_
  exact z9_158
 ·go_enter Tryz.func102, Tryz.ntmps102
  go_upto_region 11 with (first | ((first | (go_at_call 130; with_reducible refine (C2 _).mono ?_) | (go_at_call 134; with_reducible refine (C3 _).mono ?_) | (go_at_call 131; with_reducible refine (C4 _).mono ?_) | (go_at_call 132; with_reducible refine (C10 _).mono ?_)); rintro e9 w2 ⟨rfl, hL⟩; replace HM := HM.call hL; clear hL) | ((with_reducible refine g_ld ?_); refine a_ld HM ?_) | ((with_reducible refine g_bx ?_); refine a_bx HM ?_; clear HM; intro bk w1 HM))
  refine start_M [] HM Zk (fun w0x H9 => ?_)
  replace HM := H9; clear H9
  refine k_fa 0 (heldE HM) ?_
  refine k_ld 1 [] (heldE HM) ?_
  refine k_bin 2 (heldE HM) ?_
  refine k_mv 3 (heldE HM) ?_
  refine k_fa 4 (heldE HM) ?_
  refine k_ld 5 [] (heldE HM) ?_
  refine k_bin 6 (heldE HM) ?_
  exact z9_159
 ·go_enter Tryz.func102, Tryz.ntmps102
  go_upto_region 11 with (first | ((first | (go_at_call 130; with_reducible refine (C2 _).mono ?_) | (go_at_call 134; with_reducible refine (C3 _).mono ?_) | (go_at_call 131; with_reducible refine (C4 _).mono ?_) | (go_at_call 132; with_reducible refine (C10 _).mono ?_)); rintro e9 w2 ⟨rfl, hL⟩; replace HM := HM.call hL; clear hL) | ((with_reducible refine g_ld ?_); refine a_ld HM ?_) | ((with_reducible refine g_bx ?_); refine a_bx HM ?_; clear HM; intro bk w1 HM))
  refine start_M [] HM Zk (fun w0x H9 => ?_)
  replace HM := H9; clear H9
  refine k_fa 0 (heldE HM) ?_
  refine k_ld 1 [] (heldE HM) ?_
  refine k_bin 2 (heldE HM) ?_
  refine k_mv 3 (heldE HM) ?_
  refine k_off 4 (heldE HM) ?_
  refine k_off 5 (heldE HM) ?_
  refine k_off 6 (heldE HM) ?_
  exact z9_159
 ·exact z9_160
 ·exact z9_161
 ·exact z9_161
 ·go_enter Tryz.func102, Tryz.ntmps102
  go_wp2_with (first | ((with_reducible refine g_offw ?_); refine a_offw ?_) | ((first | (go_at_call 130; with_reducible refine (C2 _).mono ?_) | (go_at_call 134; with_reducible refine (C3 _).mono ?_) | (go_at_call 131; with_reducible refine (C4 _).mono ?_) | (go_at_call 137; with_reducible refine (C5 _).mono ?_) | (go_at_call 130; with_reducible refine (C7 _).mono ?_) | (go_at_call 132; with_reducible refine (C10 _).mono ?_)); rintro e9 w2 ⟨rfl, hL⟩; replace HM := HM.call hL; clear hL) | ((with_reducible refine g_ld ?_); refine a_ld HM ?_) | ((with_reducible refine g_bx ?_); refine a_bx HM ?_; clear HM; intro bk w1 HM))
  go_ret
  exact ⟨rfl, HM.low⟩
 ·exact z9_160
 ·exact z9_162
 ·exact z9_162
 ·go_enter Tryz.func102, Tryz.ntmps102
  go_wp2_with (first | ((with_reducible refine g_offw ?_); refine a_offw ?_) | ((first | (go_at_call 130; with_reducible refine (C2 _).mono ?_) | (go_at_call 134; with_reducible refine (C3 _).mono ?_) | (go_at_call 132; with_reducible refine (C10 _).mono ?_)); rintro e9 w2 ⟨rfl, hL⟩; replace HM := HM.call hL; clear hL) | ((with_reducible refine g_ld ?_); refine a_ld HM ?_) | ((with_reducible refine g_bx ?_); refine a_bx HM ?_; clear HM; intro bk w1 HM))
  go_ret
  exact ⟨rfl, HM.low⟩
 ·go_enter Tryz.func102, Tryz.ntmps102
  go_wp2_with (first | ((with_reducible refine g_offw ?_); refine a_offw ?_) | ((first | (go_at_call 130; with_reducible refine (C2 _).mono ?_) | (go_at_call 132; with_reducible refine (C10 _).mono ?_)); rintro e9 w2 ⟨rfl, hL⟩; replace HM := HM.call hL; clear hL) | ((with_reducible refine g_ld ?_); refine a_ld HM ?_) | ((with_reducible refine g_bx ?_); refine a_bx HM ?_; clear HM; intro bk w1 HM))
  go_ret
  exact ⟨rfl, HM.low⟩
 ·go_enter Tryz.func102, Tryz.ntmps102
  go_wp2_with (first | ((with_reducible refine g_offw ?_); refine a_offw ?_) | (go_at_call 130; (with_reducible refine Zc HM (C2 _) ?_; clear HM; intro w2 HM)) | ((with_reducible refine g_ld ?_); refine a_ld HM ?_) | ((with_reducible refine g_bx ?_); refine a_bx HM ?_; clear HM; intro bk w1 HM))
  go_ret
  exact ⟨rfl, HM.low⟩
 ·go_enter Tryz.func102, Tryz.ntmps102
  exact z9_34
 ·exact z9_163
 ·exact z9_163
 ·exact z9_163
end
end Go.Proofs.YtkiempioeffhbaaGreatDoor
