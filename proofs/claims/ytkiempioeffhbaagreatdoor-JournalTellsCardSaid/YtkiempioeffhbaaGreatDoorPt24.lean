/- Walks. -/
import Derived.Test.YtkiempioeffhbaaGreatDoorPt22
import Derived.Test.YtkiempioeffhbaaGreatDoorPt23
namespace Go.Proofs.YtkiempioeffhbaaGreatDoor
set_option maxHeartbeats 16000000
open Go.RowKit
set_option maxRecDepth 8000
set_option linter.unusedSimpArgs false
set_option linter.unusedVariables false
section
theorem z9_96 {P : Prop} (h : P := by
 skip
 subst h1
 cases b1 with
 | true =>
  by_cases h2 : x.un = 0
  ·skip
   exact .inl (⟨rfl, rfl, beq_iff_eq.2 h2, by rw [HV.out]; simp [h2]⟩)
  ·skip
   exact .inr (.inl (⟨rfl, rfl, Zb h2, by rw [HV.out]; simp [h2]⟩))
 | false =>
  exact .inr (.inr (.inl (⟨rfl, rfl, by rw [HV.out]; simp⟩)))) : P := h
theorem z9_97 {P : Prop} (h : P := by
 skip
 by_cases h3 : kd = 4
 ·skip
  subst h3
  cases b1 with
  | true =>
   by_cases h4 : x.un = 0
   ·skip
    exact .inr (.inr (.inr (.inl (⟨Zb h1, rfl, rfl, beq_iff_eq.2 h4, by rw [HV.out]; simp [h1, h4]⟩))))
   ·skip
    exact Zr (.inl (⟨Zb h1, rfl, rfl, Zb h4, by rw [HV.out]; simp [h1, h4]⟩))
  | false =>
   exact Zr (.inr (.inl (⟨Zb h1, rfl, rfl, by rw [HV.out]; simp [h1]⟩)))
 ·skip
  by_cases h5 : kd = 2
  ·skip
   subst h5
   cases b2 with
   | true =>
    by_cases h6 : x.amt = 0
    ·skip
     exact Zr (.inr (.inr (.inl (⟨Zb h1, Zb h3, rfl, rfl, beq_iff_eq.2 h6, by rw [HV.out]; simp [h1, h3, h6]⟩))))
    ·skip
     exact Zr (.inr (.inr (.inr (.inl (⟨Zb h1, Zb h3, rfl, rfl, Zb h6, by rw [HV.out]; simp [h1, h3, h6]⟩)))))
   | false =>
    exact Zr (Zr (.inl (⟨Zb h1, Zb h3, rfl, rfl, by rw [HV.out]; simp [h1, h3]⟩)))
  ·skip
   by_cases h7 : kd = 3
   ·skip
    subst h7
    cases b2 with
    | true =>
     by_cases h8 : x.amt = 0
     ·skip
      exact Zr (Zr (.inr (.inl (⟨Zb h1, Zb h3, Zb h5, rfl, rfl, beq_iff_eq.2 h8, by rw [HV.out]; simp [h1, h3, h5, h8]⟩))))
     ·skip
      exact Zr (Zr (.inr (.inr (.inl (⟨Zb h1, Zb h3, Zb h5, rfl, rfl, Zb h8, by rw [HV.out]; simp [h1, h3, h5, h8]⟩)))))
    | false =>
     exact Zr (Zr (.inr (.inr (.inr (.inl (⟨Zb h1, Zb h3, Zb h5, rfl, rfl, by rw [HV.out]; simp [h1, h3, h5]⟩))))))
   ·skip
    by_cases h9 : kd = 5
    ·skip
     subst h9
     by_cases h10 : x.amt = 0
     ·skip
      by_cases h11 : x.un = 0
      ·skip
       exact Zr (Zr (Zr (.inl (⟨Zb h1, Zb h3, Zb h5, Zb h7, rfl, beq_iff_eq.2 h10, beq_iff_eq.2 h11, by rw [HV.out]; simp [h1, h3, h5, h7, h10, h11]⟩))))
      ·skip
       exact Zr (Zr (Zr (.inr (.inl (⟨Zb h1, Zb h3, Zb h5, Zb h7, rfl, beq_iff_eq.2 h10, Zb h11, by rw [HV.out]; simp [h1, h3, h5, h7, h10, h11]⟩)))))
     ·skip
      exact Zr (Zr (Zr (.inr (.inr (.inl (⟨Zb h1, Zb h3, Zb h5, Zb h7, rfl, Zb h10, by rw [HV.out]; simp [h1, h3, h5, h7, h10]⟩))))))
    ·skip
     exact Zr (Zr (Zr (.inr (.inr (.inr (⟨Zb h1, Zb h3, Zb h5, Zb h7, Zb h9, by rw [HV.out]; simp [h1, h3, h5, h7, h9]⟩))))))) : P := h
end
section
open Jb
theorem owithin_any (n m : Int) (v : Bool) (hv : Hid (v = (decide (1 ≤ n) && decide (n ≤ m)))) (w : World) :
    Calls Tryz.prog 121 #[.int .i64 n, .int .i64 m] w fun e w' => e = .returned (.bool v) ∧ Below w.heap.size w w' := by
 have Z := Below.refl w.heap.size w
 go_enter Tryz.func121, Tryz.ntmps121
 by_cases h1 : 1 ≤ n <;> by_cases h2 : n ≤ m
 all_goals
  have HV : Hid (v = _) := hv
  have hv2 := HV.out
  simp only [h1, h2, decide_true, decide_false, Bool.and_true, Bool.and_false, Bool.false_and, Bool.true_and] at hv2
  subst hv2
  clear HV hv
  go_wp2
  go_ret
  exact ⟨rfl, Z⟩
theorem FA.cell {T : TypeId} {c : Array Value} {k : Nat} {v : Value} (h : FA T c k v) (hT : aggT T = some false) : c[k]? = some v := by
 rcases h with ⟨_, h2⟩ | ⟨h1, _⟩
 ·exact h2
 ·rw [hT] at h1; cases h1
theorem jc_at {w : World} {b k : Nat} {c : Array Value} {T : TypeId} {v : Value} (hb : Blk w b c) (h : FA T c k v) (hT : aggT T = some false) : w.cell? ⟨b, k, none⟩ = some v := by
 rw [hb.cell k]; exact h.cell hT
theorem known_w (n : Int) : known n = (decide (1 ≤ n) && decide (n ≤ 2147483647)) := rfl
theorem amount_w (n : Int) : Jb.amount n = (decide (1 ≤ n) && decide (n ≤ 1000000000000000)) := rfl
theorem oacc_any (x : JK) (hw : x.wf) (w : World) :
    Calls Tryz.prog 94 #[.agg x.c] w fun e w' => e = .returned (.bool x.right) ∧ Below w.heap.size w w' := by
 have HM := Mem.start w
 have f0 := (JK.f_nom x).la
 have f1 := (JK.f_hol x).la
 have HV : Hid (x.right = (name x.hol && (decide (x.nom.size = 0) || name x.nom))) := Zi rfl
 generalize x.right = v at HV ⊢
 have C1 := fun w => oname_any x.hol (by have := hw; simp only [JK.wf] at this; omega) w
 have C2 := fun w => oname_any x.nom (by have := hw; simp only [JK.wf] at this; omega) w
 generalize name x.hol = b1 at *
 generalize name x.nom = b2 at *
 have hc : (b1 = true ∧ x.nom.toList.isEmpty = true ∧ true = v) ∨
     (b1 = true ∧ x.nom.toList.isEmpty = false ∧ b2 = v) ∨
     (b1 = false ∧ false = v) := by
  clear HM C1 C2
  cases b1 with
  | true =>
   by_cases h1 : x.nom.size = 0
   ·skip
    exact .inl (⟨rfl, empty_l h1, by rw [HV.out]; simp [h1]⟩)
   ·skip
    exact .inr (.inl (⟨rfl, some_l h1, by rw [HV.out]; simp [h1]⟩))
  | false =>
   exact .inr (.inr (⟨rfl, by rw [HV.out]; simp⟩))
 clear HV
 rcases hc with ⟨rfl, g1, rfl⟩ | ⟨rfl, g1, rfl⟩ | ⟨rfl, rfl⟩
 all_goals
  go_enter Tryz.func94, Tryz.ntmps94
  go_wp2_with (first | ((first | (go_at_call 63; with_reducible refine (C1 _).mono ?_) | (go_at_call 63; with_reducible refine (C2 _).mono ?_)); rintro e9 w2 ⟨rfl, hL⟩; replace HM := HM.call hL; clear hL) | ((with_reducible refine g_ld ?_); refine a_ld HM ?_) | ((with_reducible refine g_bx ?_); refine a_bx HM ?_; clear HM; intro bk w1 HM))
  go_ret
  exact ⟨rfl, HM.low⟩
theorem racc_any (x : JK) (hw : x.wf) (w : World) :
    Calls Tryz.prog 54 #[.agg x.c] w fun e w' => e = .returned (.bool x.right) ∧ Below w.heap.size w w' := by
 have HM := Mem.start w
 have f0 := (JK.f_nom x).la
 have f1 := (JK.f_hol x).la
 have HV : Hid (x.right = (name x.hol && (decide (x.nom.size = 0) || name x.nom))) := Zi rfl
 generalize x.right = v at HV ⊢
 have C1 := fun w => rname23_any x.hol w
 have C2 := fun w => rname23_any x.nom w
 generalize name x.hol = b1 at *
 generalize name x.nom = b2 at *
 have hc : (b1 = true ∧ x.nom.toList.isEmpty = true ∧ true = v) ∨
     (b1 = true ∧ x.nom.toList.isEmpty = false ∧ b2 = v) ∨
     (b1 = false ∧ false = v) := by
  clear HM C1 C2
  cases b1 with
  | true =>
   by_cases h1 : x.nom.size = 0
   ·skip
    exact .inl (⟨rfl, empty_l h1, by rw [HV.out]; simp [h1]⟩)
   ·skip
    exact .inr (.inl (⟨rfl, some_l h1, by rw [HV.out]; simp [h1]⟩))
  | false =>
   exact .inr (.inr (⟨rfl, by rw [HV.out]; simp⟩))
 clear HV
 rcases hc with ⟨rfl, g1, rfl⟩ | ⟨rfl, g1, rfl⟩ | ⟨rfl, rfl⟩
 all_goals
  go_enter Tryz.func54, Tryz.ntmps54
  go_wp2_with (first | ((first | (go_at_call 53; with_reducible refine (C1 _).mono ?_) | (go_at_call 53; with_reducible refine (C2 _).mono ?_)); rintro e9 w2 ⟨rfl, hL⟩; replace HM := HM.call hL; clear hL) | ((with_reducible refine g_ld ?_); refine a_ld HM ?_) | ((with_reducible refine g_bx ?_); refine a_bx HM ?_; clear HM; intro bk w1 HM))
  go_ret
  exact ⟨rfl, HM.low⟩
theorem oasked_any (x : JO) (w : World) :
    Calls Tryz.prog 122 #[.agg x.c] w fun e w' => e = .returned (.bool x.asked) ∧ Below w.heap.size w w' := by
 have HM := Mem.start w
 have f4 := (JO.f_kd x).la
 have f5 := (JO.f_amt x).la
 have f6 := (JO.f_un x).la
 have HV : Hid (x.asked = (if x.kd = 1 ∨ x.kd = 4 then Jb.amount x.amt && decide (x.un = 0) else if x.kd = 2 ∨ x.kd = 3 then Jb.amount x.un && decide (x.amt = 0) else if x.kd = 5 then decide (x.amt = 0) && decide (x.un = 0) else false)) := Zi rfl
 generalize x.asked = v at HV ⊢
 have C1 := fun w => owithin_any x.amt 1000000000000000 (Jb.amount x.amt) (Zi rfl) w
 have C2 := fun w => owithin_any x.un 1000000000000000 (Jb.amount x.un) (Zi rfl) w
 generalize Jb.amount x.amt = b1 at *
 generalize Jb.amount x.un = b2 at *
 generalize x.kd = kd at HV f4
 have hc : (kd = 1 ∧ b1 = true ∧ (x.un == 0) = true ∧ true = v) ∨
     (kd = 1 ∧ b1 = true ∧ (x.un == 0) = false ∧ false = v) ∨
     (kd = 1 ∧ b1 = false ∧ false = v) ∨
     ((kd == 1) = false ∧ kd = 4 ∧ b1 = true ∧ (x.un == 0) = true ∧ true = v) ∨
     ((kd == 1) = false ∧ kd = 4 ∧ b1 = true ∧ (x.un == 0) = false ∧ false = v) ∨
     ((kd == 1) = false ∧ kd = 4 ∧ b1 = false ∧ false = v) ∨
     ((kd == 1) = false ∧ (kd == 4) = false ∧ kd = 2 ∧ b2 = true ∧ (x.amt == 0) = true ∧ true = v) ∨
     ((kd == 1) = false ∧ (kd == 4) = false ∧ kd = 2 ∧ b2 = true ∧ (x.amt == 0) = false ∧ false = v) ∨
     ((kd == 1) = false ∧ (kd == 4) = false ∧ kd = 2 ∧ b2 = false ∧ false = v) ∨
     ((kd == 1) = false ∧ (kd == 4) = false ∧ (kd == 2) = false ∧ kd = 3 ∧ b2 = true ∧ (x.amt == 0) = true ∧ true = v) ∨
     ((kd == 1) = false ∧ (kd == 4) = false ∧ (kd == 2) = false ∧ kd = 3 ∧ b2 = true ∧ (x.amt == 0) = false ∧ false = v) ∨
     ((kd == 1) = false ∧ (kd == 4) = false ∧ (kd == 2) = false ∧ kd = 3 ∧ b2 = false ∧ false = v) ∨
     ((kd == 1) = false ∧ (kd == 4) = false ∧ (kd == 2) = false ∧ (kd == 3) = false ∧ kd = 5 ∧ (x.amt == 0) = true ∧ (x.un == 0) = true ∧ true = v) ∨
     ((kd == 1) = false ∧ (kd == 4) = false ∧ (kd == 2) = false ∧ (kd == 3) = false ∧ kd = 5 ∧ (x.amt == 0) = true ∧ (x.un == 0) = false ∧ false = v) ∨
     ((kd == 1) = false ∧ (kd == 4) = false ∧ (kd == 2) = false ∧ (kd == 3) = false ∧ kd = 5 ∧ (x.amt == 0) = false ∧ false = v) ∨
     ((kd == 1) = false ∧ (kd == 4) = false ∧ (kd == 2) = false ∧ (kd == 3) = false ∧ (kd == 5) = false ∧ false = v) := by
  clear HM C1 C2
  by_cases h1 : kd = 1
  ·exact z9_96
  ·exact z9_97
 clear HV
 rcases hc with ⟨rfl, rfl, g2, rfl⟩ | ⟨rfl, rfl, g2, rfl⟩ | ⟨rfl, rfl, rfl⟩ | ⟨g0, rfl, rfl, g3, rfl⟩ | ⟨g0, rfl, rfl, g3, rfl⟩ | ⟨g0, rfl, rfl, rfl⟩ | ⟨g0, g1, rfl, rfl, g4, rfl⟩ | ⟨g0, g1, rfl, rfl, g4, rfl⟩ | ⟨g0, g1, rfl, rfl, rfl⟩ | ⟨g0, g1, g2, rfl, rfl, g5, rfl⟩ | ⟨g0, g1, g2, rfl, rfl, g5, rfl⟩ | ⟨g0, g1, g2, rfl, rfl, rfl⟩ | ⟨g0, g1, g2, g3, rfl, g5, g6, rfl⟩ | ⟨g0, g1, g2, g3, rfl, g5, g6, rfl⟩ | ⟨g0, g1, g2, g3, rfl, g5, rfl⟩ | ⟨g0, g1, g2, g3, g4, rfl⟩
 all_goals
  go_enter Tryz.func122, Tryz.ntmps122
  go_wp2_with (first | ((first | (go_at_call 121; with_reducible refine (C1 _).mono ?_) | (go_at_call 121; with_reducible refine (C2 _).mono ?_)); rintro e9 w2 ⟨rfl, hL⟩; replace HM := HM.call hL; clear hL) | ((with_reducible refine g_ld ?_); refine a_ld HM ?_) | ((with_reducible refine g_bx ?_); refine a_bx HM ?_; clear HM; intro bk w1 HM))
  go_ret
  exact ⟨rfl, HM.low⟩
theorem rasked_any (x : JO) (w : World) :
    Calls Tryz.prog 55 #[.agg x.c] w fun e w' => e = .returned (.bool x.asked) ∧ Below w.heap.size w w' := by
 have HM := Mem.start w
 have f4 := (JO.f_kd x).la
 have f5 := (JO.f_amt x).la
 have f6 := (JO.f_un x).la
 have HV : Hid (x.asked = (if x.kd = 1 ∨ x.kd = 4 then Jb.amount x.amt && decide (x.un = 0) else if x.kd = 2 ∨ x.kd = 3 then Jb.amount x.un && decide (x.amt = 0) else if x.kd = 5 then decide (x.amt = 0) && decide (x.un = 0) else false)) := Zi rfl
 generalize x.asked = v at HV ⊢
 obtain ⟨b1, hb1⟩ := Zh (Jb.amount x.amt)
 obtain ⟨b2, hb2⟩ := Zh (Jb.amount x.un)
 rw [← hb1.out, ← hb2.out] at HV
 generalize x.kd = kd at HV f4
 go_enter Tryz.func55, Tryz.ntmps55
 go_upto_region 1 with ((with_reducible refine g_bx ?_); refine a_bx HM ?_; clear HM; intro bk w1 HM)
 obtain ⟨bk, rfl⟩ := HM.nm0
 have m5 := jc_at (HM.get .here) (JO.f_amt x) Zk
 have m6 := jc_at (HM.get .here) (JO.f_un x) Zk
 go_cut [3, 4] (fun p q wc => p = .bool b1 ∧ q = .bool b2 ∧ Mem w [] [(bk, x.c)] wc)
 case first =>
  have h1 : (false = b1 ∧ ¬ 1 ≤ x.amt) ∨ (false = b1 ∧ 1 ≤ x.amt ∧ ¬ x.amt ≤ 1000000000000000) ∨ (true = b1 ∧ 1 ≤ x.amt ∧ x.amt ≤ 1000000000000000) := by
   rw [hb1.out, amount_w]
   by_cases g1 : 1 ≤ x.amt
   ·by_cases g2 : x.amt ≤ 1000000000000000
    ·exact .inr (.inr ⟨by simp [g1, g2], g1, g2⟩)
    ·exact .inr (.inl ⟨by simp [g1, g2], g1, g2⟩)
   ·exact .inl ⟨by simp [g1], g1⟩
  have h2 : (false = b2 ∧ ¬ 1 ≤ x.un) ∨ (false = b2 ∧ 1 ≤ x.un ∧ ¬ x.un ≤ 1000000000000000) ∨ (true = b2 ∧ 1 ≤ x.un ∧ x.un ≤ 1000000000000000) := by
   rw [hb2.out, amount_w]
   by_cases g1 : 1 ≤ x.un
   ·by_cases g2 : x.un ≤ 1000000000000000
    ·exact .inr (.inr ⟨by simp [g1, g2], g1, g2⟩)
    ·exact .inr (.inl ⟨by simp [g1, g2], g1, g2⟩)
   ·exact .inl ⟨by simp [g1], g1⟩
  clear HV hb1 hb2 f4 f5 f6
  rcases h1 with ⟨rfl, g1⟩ | ⟨rfl, g1, g2⟩ | ⟨rfl, g1, g2⟩
  all_goals
   rcases h2 with ⟨rfl, k1⟩ | ⟨rfl, k1, k2⟩ | ⟨rfl, k1, k2⟩
  all_goals
   go_quiet (fail)
   go_wp2_with fail
   go_meet
   case rel => exact ⟨rfl, rfl, HM.drewN _⟩
 case rest =>
  clear HM m5 m6 hb1 hb2
  obtain ⟨rfl, rfl, HM⟩ := hcut
  go_step
  have hc : (kd = 1 ∧ b1 = true ∧ (x.un == 0) = true ∧ true = v) ∨
   (kd = 1 ∧ b1 = true ∧ (x.un == 0) = false ∧ false = v) ∨
   (kd = 1 ∧ b1 = false ∧ false = v) ∨
   ((kd == 1) = false ∧ kd = 4 ∧ b1 = true ∧ (x.un == 0) = true ∧ true = v) ∨
   ((kd == 1) = false ∧ kd = 4 ∧ b1 = true ∧ (x.un == 0) = false ∧ false = v) ∨
   ((kd == 1) = false ∧ kd = 4 ∧ b1 = false ∧ false = v) ∨
   ((kd == 1) = false ∧ (kd == 4) = false ∧ kd = 2 ∧ b2 = true ∧ (x.amt == 0) = true ∧ true = v) ∨
   ((kd == 1) = false ∧ (kd == 4) = false ∧ kd = 2 ∧ b2 = true ∧ (x.amt == 0) = false ∧ false = v) ∨
   ((kd == 1) = false ∧ (kd == 4) = false ∧ kd = 2 ∧ b2 = false ∧ false = v) ∨
   ((kd == 1) = false ∧ (kd == 4) = false ∧ (kd == 2) = false ∧ kd = 3 ∧ b2 = true ∧ (x.amt == 0) = true ∧ true = v) ∨
   ((kd == 1) = false ∧ (kd == 4) = false ∧ (kd == 2) = false ∧ kd = 3 ∧ b2 = true ∧ (x.amt == 0) = false ∧ false = v) ∨
   ((kd == 1) = false ∧ (kd == 4) = false ∧ (kd == 2) = false ∧ kd = 3 ∧ b2 = false ∧ false = v) ∨
   ((kd == 1) = false ∧ (kd == 4) = false ∧ (kd == 2) = false ∧ (kd == 3) = false ∧ kd = 5 ∧ (x.amt == 0) = true ∧ (x.un == 0) = true ∧ true = v) ∨
   ((kd == 1) = false ∧ (kd == 4) = false ∧ (kd == 2) = false ∧ (kd == 3) = false ∧ kd = 5 ∧ (x.amt == 0) = true ∧ (x.un == 0) = false ∧ false = v) ∨
   ((kd == 1) = false ∧ (kd == 4) = false ∧ (kd == 2) = false ∧ (kd == 3) = false ∧ kd = 5 ∧ (x.amt == 0) = false ∧ false = v) ∨
   ((kd == 1) = false ∧ (kd == 4) = false ∧ (kd == 2) = false ∧ (kd == 3) = false ∧ (kd == 5) = false ∧ false = v) := by
   clear HM
   by_cases h1 : kd = 1
   ·exact z9_96
   ·exact z9_97
  clear HV
  rcases hc with ⟨rfl, rfl, g2, rfl⟩ | ⟨rfl, rfl, g2, rfl⟩ | ⟨rfl, rfl, rfl⟩ | ⟨g0, rfl, rfl, g3, rfl⟩ | ⟨g0, rfl, rfl, g3, rfl⟩ | ⟨g0, rfl, rfl, rfl⟩ | ⟨g0, g1, rfl, rfl, g4, rfl⟩ | ⟨g0, g1, rfl, rfl, g4, rfl⟩ | ⟨g0, g1, rfl, rfl, rfl⟩ | ⟨g0, g1, g2, rfl, rfl, g5, rfl⟩ | ⟨g0, g1, g2, rfl, rfl, g5, rfl⟩ | ⟨g0, g1, g2, rfl, rfl, rfl⟩ | ⟨g0, g1, g2, g3, rfl, g5, g6, rfl⟩ | ⟨g0, g1, g2, g3, rfl, g5, g6, rfl⟩ | ⟨g0, g1, g2, g3, rfl, g5, rfl⟩ | ⟨g0, g1, g2, g3, g4, rfl⟩
  all_goals
   go_wp2_with ((with_reducible refine g_ld ?_); refine a_ld HM ?_)
   go_ret
   exact ⟨rfl, HM.low⟩
theorem ocheck_any (x : JO) (hw : x.wf) (w : World) :
    Calls Tryz.prog 93 #[.agg x.c] w fun e w' => e = .returned (.int .i64 (if (x.right) = true then 0 else 230)) ∧ Below w.heap.size w w' := by
 have HM := Mem.start w
 have lx := x.la
 have f0 := (JO.f_key x).la
 have f1 := (JO.f_acc x).la
 have f2 := (JO.f_fnd x).la
 have f3 := (JO.f_cls x).la
 have f7 := (JO.f_at_ x).la
 have f8 := (JO.f_kn x).la
 have f9 := (JO.f_vd x).la
 have E1 := JO.eq9 x { JO.zero with key := x.key, at_ := x.at_, kn := x.kn, vd := true }
 have HB := fun w => JO.bld (parts := #[(0, .string x.key), (7, .int .i64 x.at_), (8, .int .i64 x.kn), (9, .bool true)]) (r := { JO.zero with key := x.key, at_ := x.at_, kn := x.kn, vd := true }) (by simp [Value.cells]) (by rw [JO.rows]; rfl) w
 generalize JO.c { JO.zero with key := x.key, at_ := x.at_, kn := x.kn, vd := true } = Y9 at E1 HB
 have HV : Hid (x.right = ((name x.key && (decide (0 ≤ x.at_) && (decide (x.at_ ≤ 105190559) && known x.kn))) && (if x.vd then JO.b x { JO.zero with key := x.key, at_ := x.at_, kn := x.kn, vd := true } else JK.right x.acc && (name x.fnd && (name x.cls && x.asked))))) := Zi rfl
 generalize x.right = v at HV ⊢
 have C1 := fun w => oname_any x.key (by have := hw; simp only [JO.wf, JK.wf] at this; omega) w
 have C2 := fun w => oacc_any x.acc hw.2.1 w
 have C3 := fun w => oname_any x.fnd (by have := hw; simp only [JO.wf, JK.wf] at this; omega) w
 have C4 := fun w => oname_any x.cls (by have := hw; simp only [JO.wf, JK.wf] at this; omega) w
 have C5 := fun w => oasked_any x w
 have C7 := fun w => owithin_any x.kn 2147483647 (known x.kn) (Zi rfl) w
 generalize name x.key = b1 at *
 generalize JK.right x.acc = b2 at *
 generalize name x.fnd = b3 at *
 generalize name x.cls = b4 at *
 generalize x.asked = b5 at *
 generalize JO.b x { JO.zero with key := x.key, at_ := x.at_, kn := x.kn, vd := true } = b6 at *
 generalize known x.kn = b7 at *
 generalize x.vd = vd at HV f9
 have hc : (b1 = true ∧ 0 ≤ x.at_ ∧ x.at_ ≤ 105190559 ∧ b7 = true ∧ vd = true ∧ b6 = true ∧ true = v) ∨
     (b1 = true ∧ 0 ≤ x.at_ ∧ x.at_ ≤ 105190559 ∧ b7 = true ∧ vd = true ∧ b6 = false ∧ false = v) ∨
     (b1 = true ∧ 0 ≤ x.at_ ∧ x.at_ ≤ 105190559 ∧ b7 = true ∧ vd = false ∧ b2 = true ∧ b3 = true ∧ b4 = true ∧ b5 = true ∧ true = v) ∨
     (b1 = true ∧ 0 ≤ x.at_ ∧ x.at_ ≤ 105190559 ∧ b7 = true ∧ vd = false ∧ b2 = true ∧ b3 = true ∧ b4 = true ∧ b5 = false ∧ false = v) ∨
     (b1 = true ∧ 0 ≤ x.at_ ∧ x.at_ ≤ 105190559 ∧ b7 = true ∧ vd = false ∧ b2 = true ∧ b3 = true ∧ b4 = false ∧ false = v) ∨
     (b1 = true ∧ 0 ≤ x.at_ ∧ x.at_ ≤ 105190559 ∧ b7 = true ∧ vd = false ∧ b2 = true ∧ b3 = false ∧ false = v) ∨
     (b1 = true ∧ 0 ≤ x.at_ ∧ x.at_ ≤ 105190559 ∧ b7 = true ∧ vd = false ∧ b2 = false ∧ false = v) ∨
     (b1 = true ∧ 0 ≤ x.at_ ∧ x.at_ ≤ 105190559 ∧ b7 = false ∧ false = v) ∨
     (b1 = true ∧ 0 ≤ x.at_ ∧ ¬ (x.at_ ≤ 105190559) ∧ false = v) ∨
     (b1 = true ∧ ¬ (0 ≤ x.at_) ∧ false = v) ∨
     (b1 = false ∧ false = v) := by
  clear HM C1 C2 C3 C4 C5 C7
  cases b1 with
  | true =>
   by_cases h1 : 0 ≤ x.at_
   ·skip
    by_cases h2 : x.at_ ≤ 105190559
    ·skip
     cases b7 with
     | true =>
      cases vd with
      | true =>
       cases b6 with
       | true =>
        exact .inl (⟨rfl, h1, h2, rfl, rfl, rfl, by rw [HV.out]; simp [h1, h2]⟩)
       | false =>
        exact .inr (.inl (⟨rfl, h1, h2, rfl, rfl, rfl, by rw [HV.out]; simp [h1, h2]⟩))
      | false =>
       cases b2 with
       | true =>
        cases b3 with
        | true =>
         cases b4 with
         | true =>
          cases b5 with
          | true =>
           exact .inr (.inr (.inl (⟨rfl, h1, h2, rfl, rfl, rfl, rfl, rfl, rfl, by rw [HV.out]; simp [h1, h2]⟩)))
          | false =>
           exact .inr (.inr (.inr (.inl (⟨rfl, h1, h2, rfl, rfl, rfl, rfl, rfl, rfl, by rw [HV.out]; simp [h1, h2]⟩))))
         | false =>
          exact Zr (.inl (⟨rfl, h1, h2, rfl, rfl, rfl, rfl, rfl, by rw [HV.out]; simp [h1, h2]⟩))
        | false =>
         exact Zr (.inr (.inl (⟨rfl, h1, h2, rfl, rfl, rfl, rfl, by rw [HV.out]; simp [h1, h2]⟩)))
       | false =>
        exact Zr (.inr (.inr (.inl (⟨rfl, h1, h2, rfl, rfl, rfl, by rw [HV.out]; simp [h1, h2]⟩))))
     | false =>
      exact Zr (.inr (.inr (.inr (.inl (⟨rfl, h1, h2, rfl, by rw [HV.out]; simp [h1, h2]⟩)))))
    ·skip
     exact Zr (Zr (.inl (⟨rfl, h1, h2, by rw [HV.out]; simp [h1, h2]⟩)))
   ·skip
    exact Zr (Zr (.inr (.inl (⟨rfl, h1, by rw [HV.out]; simp [h1]⟩))))
  | false =>
   exact Zr (Zr (.inr (.inr (⟨rfl, by rw [HV.out]; simp⟩))))
 clear HV
 rcases hc with ⟨rfl, g1, g2, rfl, rfl, rfl, rfl⟩ | ⟨rfl, g1, g2, rfl, rfl, rfl, rfl⟩ | ⟨rfl, g1, g2, rfl, rfl, rfl, rfl, rfl, rfl, rfl⟩ | ⟨rfl, g1, g2, rfl, rfl, rfl, rfl, rfl, rfl, rfl⟩ | ⟨rfl, g1, g2, rfl, rfl, rfl, rfl, rfl, rfl⟩ | ⟨rfl, g1, g2, rfl, rfl, rfl, rfl, rfl⟩ | ⟨rfl, g1, g2, rfl, rfl, rfl, rfl⟩ | ⟨rfl, g1, g2, rfl, rfl⟩ | ⟨rfl, g1, g2, rfl⟩ | ⟨rfl, g1, rfl⟩ | ⟨rfl, rfl⟩
 all_goals
  go_enter Tryz.func93, Tryz.ntmps93
  go_wp2_with (first | ((with_reducible refine g_offw ?_); refine a_offw ?_) | ((first | (go_at_call 63; with_reducible refine (C1 _).mono ?_) | (go_at_call 94; with_reducible refine (C2 _).mono ?_) | (go_at_call 63; with_reducible refine (C3 _).mono ?_) | (go_at_call 63; with_reducible refine (C4 _).mono ?_) | (go_at_call 122; with_reducible refine (C5 _).mono ?_) | (go_at_call 121; with_reducible refine (C7 _).mono ?_)); rintro e9 w2 ⟨rfl, hL⟩; replace HM := HM.call hL; clear hL) | ((with_reducible refine g_bld ?_); refine a_rbl (v := .agg Y9) ?_ (hy := h_bg4 rfl Zw Zw Zw Zw (by with_reducible exact (HB)))) | ((with_reducible refine g_bin ?_); refine a_seqb (E1) Zk ?_) | ((with_reducible refine g_ld ?_); refine a_ld HM ?_) | ((with_reducible refine g_bx ?_); refine a_bx HM ?_; clear HM; intro bk w1 HM))
  go_ret
  exact ⟨rfl, HM.low⟩
end
section
open Jb
theorem isDay_w (n : Int) : Dt.isDay n = (decide (0 ≤ n) && decide (n ≤ 73048)) := by unfold Dt.isDay; exact Bool.decide_and _ _
end
section
theorem z9_98 {P : Prop} (h : P := by
 rw [Zf h, Zf Zo]) : P := h
theorem z9_99 {P : Prop} (h : P := by
 go_wp2_with (go_at_call 147; refine (C _).mono ?_; rintro e w' ⟨rfl, rfl⟩)
 go_ret
 exact ⟨rfl, rfl⟩) : P := h
end
section
open Jb
theorem pwithin_any (n lo hi : Int) (v : Bool) (hv : Hid (v = (decide (lo ≤ n) && decide (n ≤ hi)))) (w : World) :
    Calls Tryz.prog 118 #[.int .i64 n, .int .i64 lo, .int .i64 hi] w fun e w' => e = .returned (.bool v) ∧ w = w' := by
 go_enter Tryz.func118, Tryz.ntmps118
 by_cases h1 : lo ≤ n <;> by_cases h2 : n ≤ hi
 all_goals
  have HV : Hid (v = _) := hv
  have hv2 := HV.out
  simp only [h1, h2, decide_true, decide_false, Bool.and_true, Bool.and_false, Bool.false_and, Bool.true_and] at hv2
  subst hv2
  clear HV hv
  go_wp2
  go_ret
  exact ⟨rfl, rfl⟩
theorem Jb.code_w (s : ByteArray) : code s = (decide ((3 : Int) ≤ (s.size : Int)) && (decide ((s.size : Int) ≤ 3) && Jb.all (okc false) s)) := by
 unfold code
 rw [← Bool.and_assoc]
 congr 1
 by_cases h : s.size = 3
 ·rw [h]; rfl
 ·rw [Zf h]
  by_cases h2 : (3 : Int) ≤ (s.size : Int)
  ·rw [Zf (show ¬ (s.size : Int) ≤ 3 by omega), Bool.and_false]
  ·rw [Zf h2, Bool.false_and]
theorem Jb.paper_w (s : ByteArray) : paper s = (decide ((1 : Int) ≤ (s.size : Int)) && (decide ((s.size : Int) ≤ 12) && Jb.all (okc true) s)) := by
 unfold paper
 congr 1
 ·by_cases h : 1 ≤ s.size
  ·rw [Zt h, Zt Zo]
  ·exact z9_98
 ·congr 1
  by_cases h : s.size ≤ 12
  ·rw [Zt h, Zt Zo]
  ·exact z9_98
theorem pins_any (s : ByteArray) (hs : s.size ≤ 9223372036854775807) (w : World) :
    Calls Tryz.prog 120 #[.string s] w fun e w' => e = .returned (.bool (paper s)) ∧ w = w' := by
 have C := fun w => pcap_any s 1 12 true hs (paper s) (Zi (paper_w s)) w
 generalize paper s = v at *
 go_enter Tryz.func120, Tryz.ntmps120
 exact z9_99
theorem pcur_any (s : ByteArray) (hs : s.size ≤ 9223372036854775807) (w : World) :
    Calls Tryz.prog 119 #[.string s] w fun e w' => e = .returned (.bool (code s)) ∧ w = w' := by
 have C := fun w => pcap_any s 3 3 false hs (code s) (Zi (code_w s)) w
 generalize code s = v at *
 go_enter Tryz.func119, Tryz.ntmps119
 exact z9_99
theorem je_right_w (x : JE) : x.right = (((decide (1 ≤ (x.key.size : Int)) && decide ((x.key.size : Int) ≤ 64)) && (decide (1 ≤ x.kn) && decide (x.kn ≤ 2147483647))) && (if x.vd then JE.b x { JE.zero with key := x.key, kn := x.kn, vd := true } else ((decide (0 ≤ x.day) && decide (x.day ≤ x.stl)) && (decide (x.stl ≤ 73048) && ((decide ((-1000000000000000) ≤ x.amt) && decide (x.amt ≤ 1000000000000000)) && code x.cur))) && (if x.kd = 1 then paper x.ins && (decide (x.qty ≠ 0) && (decide ((-1000000000000000) ≤ x.qty) && decide (x.qty ≤ 1000000000000000))) else if x.kd = 2 then decide (x.ins.size = 0) && decide (x.qty = 0) else false))) := by
 unfold JE.right
 congr 1
 ·rw [← Bool.and_assoc]
  congr 1
  by_cases h : 1 ≤ x.key.size <;> by_cases h2 : x.key.size ≤ 64
  ·rw [Zt h, Zt h2, Zt Zo, Zt Zo]
  ·rw [Zt h, Zf h2, Zt Zo, Zf Zo]
  ·rw [Zf h, Zt h2, Zf Zo, Zt Zo]
  ·rw [Zf h, Zf h2, Zf Zo, Zf Zo]
 ·congr 1
  congr 1
  simp only [Bool.and_assoc]
theorem pval_any (x : JE) (hw : x.wf) (w : World) :
    Calls Tryz.prog 91 #[.agg x.c] w fun e w' => e = .returned (.bool x.right) ∧ Below w.heap.size w w' := by
 have HM := Mem.start w
 have flkd := (JE.f_kd x).la
 have flkey := (JE.f_key x).la
 have flday := (JE.f_day x).la
 have flstl := (JE.f_stl x).la
 have flins := (JE.f_ins x).la
 have flqty := (JE.f_qty x).la
 have flamt := (JE.f_amt x).la
 have flcur := (JE.f_cur x).la
 have flkn := (JE.f_kn x).la
 have flvd := (JE.f_vd x).la
 have lx := x.la
 have E1 := JE.eq9 x { JE.zero with key := x.key, kn := x.kn, vd := true }
 have HB := fun w => JE.bld (parts := #[(1, .string x.key), (8, .int .i64 x.kn), (9, .bool true)]) (r := { JE.zero with key := x.key, kn := x.kn, vd := true }) (by simp [Value.cells]) (by rw [JE.rows]; rfl) w
 generalize JE.c { JE.zero with key := x.key, kn := x.kn, vd := true } = Y9 at E1 HB
 have HV : Hid (x.right = (((decide (1 ≤ (x.key.size : Int)) && decide ((x.key.size : Int) ≤ 64)) && (decide (1 ≤ x.kn) && decide (x.kn ≤ 2147483647))) && (if x.vd then JE.b x { JE.zero with key := x.key, kn := x.kn, vd := true } else ((decide (0 ≤ x.day) && decide (x.day ≤ x.stl)) && (decide (x.stl ≤ 73048) && ((decide ((-1000000000000000) ≤ x.amt) && decide (x.amt ≤ 1000000000000000)) && code x.cur))) && (if x.kd = 1 then paper x.ins && (decide (x.qty ≠ 0) && (decide ((-1000000000000000) ≤ x.qty) && decide (x.qty ≤ 1000000000000000))) else if x.kd = 2 then decide (x.ins.size = 0) && decide (x.qty = 0) else false)))) := Zi (je_right_w x)
 generalize x.right = v at HV ⊢
 have C1 := fun w => belt (pwithin_any (x.key.size : Int) 1 64 (decide (1 ≤ (x.key.size : Int)) && decide ((x.key.size : Int) ≤ 64)) (Zi rfl) w)
 have C2 := fun w => belt (pwithin_any x.kn 1 2147483647 (decide (1 ≤ x.kn) && decide (x.kn ≤ 2147483647)) (Zi rfl) w)
 have C4 := fun w => belt (pwithin_any x.day 0 x.stl (decide (0 ≤ x.day) && decide (x.day ≤ x.stl)) (Zi rfl) w)
 have C5 := fun w => belt (pwithin_any x.amt (-1000000000000000) 1000000000000000 (decide ((-1000000000000000) ≤ x.amt) && decide (x.amt ≤ 1000000000000000)) (Zi rfl) w)
 have C6 := fun w => belt (pcur_any x.cur (by have := hw; simp only [JE.wf] at this; omega) w)
 have C7 := fun w => belt (pins_any x.ins (by have := hw; simp only [JE.wf] at this; omega) w)
 have C8 := fun w => belt (pwithin_any x.qty (-1000000000000000) 1000000000000000 (decide ((-1000000000000000) ≤ x.qty) && decide (x.qty ≤ 1000000000000000)) (Zi rfl) w)
 generalize (decide (1 ≤ (x.key.size : Int)) && decide ((x.key.size : Int) ≤ 64)) = b1 at *
 generalize (decide (1 ≤ x.kn) && decide (x.kn ≤ 2147483647)) = b2 at *
 generalize JE.b x { JE.zero with key := x.key, kn := x.kn, vd := true } = b3 at *
 generalize (decide (0 ≤ x.day) && decide (x.day ≤ x.stl)) = b4 at *
 generalize (decide ((-1000000000000000) ≤ x.amt) && decide (x.amt ≤ 1000000000000000)) = b5 at *
 generalize code x.cur = b6 at *
 generalize paper x.ins = b7 at *
 generalize (decide ((-1000000000000000) ≤ x.qty) && decide (x.qty ≤ 1000000000000000)) = b8 at *
 generalize x.vd = vd at HV flvd
 generalize x.kd = kd at HV flkd
 have hc : (b1 = true ∧ b2 = true ∧ vd = true ∧ b3 = v) ∨
     (b1 = true ∧ b2 = true ∧ vd = false ∧ b4 = true ∧ decide (73048 < x.stl) = false ∧ b5 = true ∧ b6 = true ∧ kd = 1 ∧ b7 = true ∧ (x.qty != 0) = true ∧ b8 = true ∧ true = v) ∨
     (b1 = true ∧ b2 = true ∧ vd = false ∧ b4 = true ∧ decide (73048 < x.stl) = false ∧ b5 = true ∧ b6 = true ∧ kd = 1 ∧ b7 = true ∧ (x.qty != 0) = true ∧ b8 = false ∧ false = v) ∨
     (b1 = true ∧ b2 = true ∧ vd = false ∧ b4 = true ∧ decide (73048 < x.stl) = false ∧ b5 = true ∧ b6 = true ∧ kd = 1 ∧ b7 = true ∧ (x.qty != 0) = false ∧ false = v) ∨
     (b1 = true ∧ b2 = true ∧ vd = false ∧ b4 = true ∧ decide (73048 < x.stl) = false ∧ b5 = true ∧ b6 = true ∧ kd = 1 ∧ b7 = false ∧ false = v) ∨
     (b1 = true ∧ b2 = true ∧ vd = false ∧ b4 = true ∧ decide (73048 < x.stl) = false ∧ b5 = true ∧ b6 = true ∧ (kd == 1) = false ∧ kd = 2 ∧ x.ins.toList.isEmpty = true ∧ (x.qty == 0) = true ∧ true = v) ∨
     (b1 = true ∧ b2 = true ∧ vd = false ∧ b4 = true ∧ decide (73048 < x.stl) = false ∧ b5 = true ∧ b6 = true ∧ (kd == 1) = false ∧ kd = 2 ∧ x.ins.toList.isEmpty = true ∧ (x.qty == 0) = false ∧ false = v) ∨
     (b1 = true ∧ b2 = true ∧ vd = false ∧ b4 = true ∧ decide (73048 < x.stl) = false ∧ b5 = true ∧ b6 = true ∧ (kd == 1) = false ∧ kd = 2 ∧ x.ins.toList.isEmpty = false ∧ false = v) ∨
     (b1 = true ∧ b2 = true ∧ vd = false ∧ b4 = true ∧ decide (73048 < x.stl) = false ∧ b5 = true ∧ b6 = true ∧ (kd == 1) = false ∧ (kd == 2) = false ∧ false = v) ∨
     (b1 = true ∧ b2 = true ∧ vd = false ∧ b4 = true ∧ decide (73048 < x.stl) = false ∧ b5 = true ∧ b6 = false ∧ false = v) ∨
     (b1 = true ∧ b2 = true ∧ vd = false ∧ b4 = true ∧ decide (73048 < x.stl) = false ∧ b5 = false ∧ false = v) ∨
     (b1 = true ∧ b2 = true ∧ vd = false ∧ b4 = true ∧ decide (73048 < x.stl) = true ∧ false = v) ∨
     (b1 = true ∧ b2 = true ∧ vd = false ∧ b4 = false ∧ false = v) ∨
     (b1 = true ∧ b2 = false ∧ false = v) ∨
     (b1 = false ∧ false = v) := by
  clear HM C1 C2 C4 C5 C6 C7 C8
  cases b1 with
  | true =>
   cases b2 with
   | true =>
    cases vd with
    | true =>
     exact .inl (⟨rfl, rfl, rfl, by rw [HV.out]; simp⟩)
    | false =>
     cases b4 with
     | true =>
      by_cases h1 : x.stl ≤ 73048
      ·skip
       cases b5 with
       | true =>
        cases b6 with
        | true =>
         by_cases h2 : kd = 1
         ·skip
          subst h2
          cases b7 with
          | true =>
           by_cases h3 : x.qty ≠ 0
           ·skip
            cases b8 with
            | true =>
             exact .inr (.inl (⟨rfl, rfl, rfl, rfl, Zn h1, rfl, rfl, rfl, rfl, bne_iff_ne.2 h3, rfl, by rw [HV.out]; simp [h1, h3]⟩))
            | false =>
             exact .inr (.inr (.inl (⟨rfl, rfl, rfl, rfl, Zn h1, rfl, rfl, rfl, rfl, bne_iff_ne.2 h3, rfl, by rw [HV.out]; simp [h1, h3]⟩)))
           ·skip
            exact .inr (.inr (.inr (.inl (⟨rfl, rfl, rfl, rfl, Zn h1, rfl, rfl, rfl, rfl, bne_eq_false_iff_eq.2 (Decidable.not_not.1 h3), by rw [HV.out]; simp [h1, h3]⟩))))
          | false =>
           exact Zr (.inl (⟨rfl, rfl, rfl, rfl, Zn h1, rfl, rfl, rfl, rfl, by rw [HV.out]; simp [h1]⟩))
         ·skip
          by_cases h4 : kd = 2
          ·skip
           subst h4
           by_cases h5 : x.ins.size = 0
           ·skip
            by_cases h6 : x.qty = 0
            ·skip
             exact Zr (.inr (.inl (⟨rfl, rfl, rfl, rfl, Zn h1, rfl, rfl, Zb h2, rfl, empty_l h5, beq_iff_eq.2 h6, by rw [HV.out]; simp [h1, h2, h5, h6]⟩)))
            ·skip
             exact Zr (.inr (.inr (.inl (⟨rfl, rfl, rfl, rfl, Zn h1, rfl, rfl, Zb h2, rfl, empty_l h5, Zb h6, by rw [HV.out]; simp [h1, h2, h5, h6]⟩))))
           ·skip
            exact Zr (.inr (.inr (.inr (.inl (⟨rfl, rfl, rfl, rfl, Zn h1, rfl, rfl, Zb h2, rfl, some_l h5, by rw [HV.out]; simp [h1, h2, h5]⟩)))))
          ·skip
           exact Zr (Zr (.inl (⟨rfl, rfl, rfl, rfl, Zn h1, rfl, rfl, Zb h2, Zb h4, by rw [HV.out]; simp [h1, h2, h4]⟩)))
        | false =>
         exact Zr (Zr (.inr (.inl (⟨rfl, rfl, rfl, rfl, Zn h1, rfl, rfl, by rw [HV.out]; simp [h1]⟩))))
       | false =>
        exact Zr (Zr (.inr (.inr (.inl (⟨rfl, rfl, rfl, rfl, Zn h1, rfl, by rw [HV.out]; simp [h1]⟩)))))
      ·skip
       exact Zr (Zr (.inr (.inr (.inr (.inl (⟨rfl, rfl, rfl, rfl, Zt (Int.not_le.1 h1), by rw [HV.out]; simp [h1]⟩))))))
     | false =>
      exact Zr (Zr (Zr (.inl (⟨rfl, rfl, rfl, rfl, by rw [HV.out]; simp⟩))))
   | false =>
    exact Zr (Zr (Zr (.inr (.inl (⟨rfl, rfl, by rw [HV.out]; simp⟩)))))
  | false =>
   exact Zr (Zr (Zr (.inr (.inr (⟨rfl, by rw [HV.out]; simp⟩)))))
 clear HV
 rcases hc with ⟨rfl, rfl, rfl, rfl⟩ | ⟨rfl, rfl, rfl, rfl, g4, rfl, rfl, rfl, rfl, g9, rfl, rfl⟩ | ⟨rfl, rfl, rfl, rfl, g4, rfl, rfl, rfl, rfl, g9, rfl, rfl⟩ | ⟨rfl, rfl, rfl, rfl, g4, rfl, rfl, rfl, rfl, g9, rfl⟩ | ⟨rfl, rfl, rfl, rfl, g4, rfl, rfl, rfl, rfl, rfl⟩ | ⟨rfl, rfl, rfl, rfl, g4, rfl, rfl, g7, rfl, g9, g10, rfl⟩ | ⟨rfl, rfl, rfl, rfl, g4, rfl, rfl, g7, rfl, g9, g10, rfl⟩ | ⟨rfl, rfl, rfl, rfl, g4, rfl, rfl, g7, rfl, g9, rfl⟩ | ⟨rfl, rfl, rfl, rfl, g4, rfl, rfl, g7, g8, rfl⟩ | ⟨rfl, rfl, rfl, rfl, g4, rfl, rfl, rfl⟩ | ⟨rfl, rfl, rfl, rfl, g4, rfl, rfl⟩ | ⟨rfl, rfl, rfl, rfl, g4, rfl⟩ | ⟨rfl, rfl, rfl, rfl, rfl⟩ | ⟨rfl, rfl, rfl⟩ | ⟨rfl, rfl⟩
 all_goals
  go_enter Tryz.func91, Tryz.ntmps91
  go_wp2_with (first | ((with_reducible refine g_offw ?_); refine a_offw ?_) | ((first | (go_at_call 118; with_reducible refine (C1 _).mono ?_) | (go_at_call 118; with_reducible refine (C2 _).mono ?_) | (go_at_call 118; with_reducible refine (C4 _).mono ?_) | (go_at_call 118; with_reducible refine (C5 _).mono ?_) | (go_at_call 119; with_reducible refine (C6 _).mono ?_) | (go_at_call 120; with_reducible refine (C7 _).mono ?_) | (go_at_call 118; with_reducible refine (C8 _).mono ?_)); rintro e9 w2 ⟨rfl, hL⟩; replace HM := HM.call hL; clear hL) | ((with_reducible refine g_bld ?_); refine a_rbl (v := .agg Y9) ?_ (hy := h_bg3 rfl Zw Zw Zw (by with_reducible exact (HB)))) | ((with_reducible refine g_bin ?_); refine a_seqb (E1) Zk ?_) | ((with_reducible refine g_ld ?_); refine a_ld HM ?_) | ((with_reducible refine g_bx ?_); refine a_bx HM ?_; clear HM; intro bk w1 HM))
  go_ret
  exact ⟨rfl, HM.low⟩
theorem rcapital_any (c : Int) (v : Bool) (hv : Hid (v = (decide (65 ≤ c) && decide (c ≤ 90)))) (w : World) :
    Calls Tryz.prog 155 #[.int .u8 c] w fun e w' => e = .returned (.bool v) ∧ w = w' := by
 go_enter Tryz.func155, Tryz.ntmps155
 by_cases h1 : 65 ≤ c <;> by_cases h2 : c ≤ 90
 all_goals
  have HV : Hid (v = _) := hv
  have hv2 := HV.out
  simp only [h1, h2, decide_true, decide_false, Bool.and_true, Bool.and_false, Bool.false_and, Bool.true_and] at hv2
  subst hv2
  clear HV hv
  go_wp2
  go_ret
  exact ⟨rfl, rfl⟩
theorem Jb.code_3 (s : ByteArray) (h3 : s.size = 3) : code s = (cap (byt s 0) && (cap (byt s 1) && cap (byt s 2))) := by
 unfold code Jb.all
 rw [Zt h3, h3, Bool.true_and]
 simp [List.range, List.range.loop, okc]
theorem Jb.cap_i (n : Nat) : cap n = (decide ((65 : Int) ≤ (n : Int)) && decide ((n : Int) ≤ 90)) := by
 unfold cap
 congr 1 <;> (apply decide_eq_decide.2; omega)
theorem rcode_any (s : ByteArray) (w : World) :
    Calls Tryz.prog 131 #[.string s] w fun e w' => e = .returned (.bool (code s)) ∧ w = w' := by
 by_cases h3 : s.size = 3
 ·have i0 : 0 < s.size := by omega
  have i1 : 1 < s.size := by omega
  have i2 : 2 < s.size := by omega
  have hv := code_3 s h3
  rw [byt_at i0, byt_at i1, byt_at i2] at hv
  generalize code s = v at hv ⊢
  have hn : ((s.size : Int) == 3) = true := by rw [h3]; rfl
  clear h3
  have C0 := fun w => rcapital_any (s[0].toNat : Int) (cap s[0].toNat) (Zi (cap_i _)) w
  have C1 := fun w => rcapital_any (s[1].toNat : Int) (cap s[1].toNat) (Zi (cap_i _)) w
  have C2 := fun w => rcapital_any (s[2].toNat : Int) (cap s[2].toNat) (Zi (cap_i _)) w
  generalize cap s[0].toNat = b0 at *
  generalize cap s[1].toNat = b1 at *
  generalize cap s[2].toNat = b2 at *
  cases b0 <;> cases b1 <;> cases b2
  all_goals
   subst hv
   go_enter Tryz.func131, Tryz.ntmps131
   go_wp2_with (first | (go_at_call 155; ((with_reducible refine (C0 _).mono ?_); rintro e w' ⟨rfl, rfl⟩)) | (go_at_call 155; ((with_reducible refine (C1 _).mono ?_); rintro e w' ⟨rfl, rfl⟩)) | (go_at_call 155; ((with_reducible refine (C2 _).mono ?_); rintro e w' ⟨rfl, rfl⟩)))
   go_ret
   exact ⟨rfl, rfl⟩
 ·have hv : code s = false := by unfold code; rw [Zf h3]; rfl
  have hn : ((s.size : Int) == 3) = false := Zb Zo
  rw [hv]
  clear h3 hv
  go_enter Tryz.func131, Tryz.ntmps131
  go_wp2
  go_ret
  exact ⟨rfl, rfl⟩
theorem rfar_any (n : Int) (v : Bool) (hv : Hid (v = (decide (-1000000000000000 ≤ n) && decide (n ≤ 1000000000000000)))) (w : World) :
    Calls Tryz.prog 138 #[.int .i64 n] w fun e w' => e = .returned (.bool (!v)) ∧ w = w' := by
 go_enter Tryz.func138, Tryz.ntmps138
 by_cases h1 : 1000000000000000 < n
 ·obtain rfl : v = false := by rw [hv.out, Zf (show ¬ n ≤ 1000000000000000 by omega), Bool.and_false]
  have d1 : decide (1000000000000000 < n) = true := Zt h1
  clear hv
  go_wp2
  go_ret
  exact ⟨rfl, rfl⟩
 ·by_cases h2 : n < -1000000000000000
  ·obtain rfl : v = false := by rw [hv.out, Zf (show ¬ -1000000000000000 ≤ n by omega), Bool.false_and]
   have d1 : decide (1000000000000000 < n) = false := Zf h1
   have d2 : decide (n < -1000000000000000) = true := Zt h2
   clear hv
   go_wp2
   go_ret
   exact ⟨by simp [h2], rfl⟩
  ·obtain rfl : v = true := by rw [hv.out, Zt (show -1000000000000000 ≤ n by omega), Zt (show n ≤ 1000000000000000 by omega)]; rfl
   have d1 : decide (1000000000000000 < n) = false := Zf h1
   have d2 : decide (n < -1000000000000000) = false := Zf h2
   clear hv
   go_wp2
   go_ret
   exact ⟨by simp [h2], rfl⟩
theorem je_right_r (x : JE) : x.right = (((decide (1 ≤ (x.key.size : Int)) && decide ((x.key.size : Int) ≤ 64)) && (decide (1 ≤ x.kn) && decide (x.kn ≤ 2147483647))) && (if x.vd then JE.b x { JE.zero with key := x.key, kn := x.kn, vd := true } else (Dt.isDay x.day && (Dt.isDay x.stl && (decide (x.day ≤ x.stl) && ((decide (-1000000000000000 ≤ x.amt) && decide (x.amt ≤ 1000000000000000)) && code x.cur)))) && (if x.kd = 1 then paper x.ins && (decide (x.qty ≠ 0) && (decide (x.qty ≤ 1000000000000000) && decide (-1000000000000000 ≤ x.qty))) else if x.kd = 2 then decide (x.ins.size = 0) && decide (x.qty = 0) else false))) := by
 rw [je_right_w]
 congr 1
 congr 1
 congr 1
 ·rw [isDay_w, isDay_w]
  by_cases h1 : 0 ≤ x.day <;> by_cases h2 : x.day ≤ x.stl <;> by_cases h3 : x.stl ≤ 73048 <;> by_cases h4 : x.day ≤ 73048 <;> by_cases h5 : 0 ≤ x.stl <;> simp [h1, h2, h3, h4, h5] <;> omega
 ·split
  ·congr 2
   exact Bool.and_comm _ _
  ·rfl
theorem rent_any (x : JE) (hw : x.wf) (w : World) :
    Calls Tryz.prog 104 #[.agg x.c] w fun e w' => e = .returned (.bool x.right) ∧ Below w.heap.size w w' := by
 have HM := Mem.start w
 have flkd := (JE.f_kd x).la
 have flkey := (JE.f_key x).la
 have flday := (JE.f_day x).la
 have flstl := (JE.f_stl x).la
 have flins := (JE.f_ins x).la
 have flqty := (JE.f_qty x).la
 have flamt := (JE.f_amt x).la
 have flcur := (JE.f_cur x).la
 have flkn := (JE.f_kn x).la
 have flvd := (JE.f_vd x).la
 have lx := x.la
 have E1 := JE.eq9 x { JE.zero with key := x.key, kn := x.kn, vd := true }
 have HB := fun w => JE.bld (parts := #[(1, .string x.key), (8, .int .i64 x.kn), (9, .bool true)]) (r := { JE.zero with key := x.key, kn := x.kn, vd := true }) (by simp [Value.cells]) (by rw [JE.rows]; rfl) w
 generalize JE.c { JE.zero with key := x.key, kn := x.kn, vd := true } = Y9 at E1 HB
 have HV : Hid (x.right = (((decide (1 ≤ (x.key.size : Int)) && decide ((x.key.size : Int) ≤ 64)) && (decide (1 ≤ x.kn) && decide (x.kn ≤ 2147483647))) && (if x.vd then JE.b x { JE.zero with key := x.key, kn := x.kn, vd := true } else (Dt.isDay x.day && (Dt.isDay x.stl && (decide (x.day ≤ x.stl) && ((decide (-1000000000000000 ≤ x.amt) && decide (x.amt ≤ 1000000000000000)) && code x.cur)))) && (if x.kd = 1 then paper x.ins && (decide (x.qty ≠ 0) && (decide (x.qty ≤ 1000000000000000) && decide (-1000000000000000 ≤ x.qty))) else if x.kd = 2 then decide (x.ins.size = 0) && decide (x.qty = 0) else false)))) := Zi (je_right_r x)
 generalize x.right = v at HV ⊢
 have C1 := fun w => belt (rOut_any x.day w)
 have C2 := fun w => belt (rOut_any x.stl w)
 have C4 := fun w => belt (rfar_any x.amt (decide (-1000000000000000 ≤ x.amt) && decide (x.amt ≤ 1000000000000000)) (Zi rfl) w)
 have C5 := fun w => belt (rcode_any x.cur w)
 have C6 := fun w => belt (rpaper_any x.ins w)
 generalize Dt.isDay x.day = b1 at *
 generalize Dt.isDay x.stl = b2 at *
 generalize JE.b x { JE.zero with key := x.key, kn := x.kn, vd := true } = b3 at *
 generalize (decide (-1000000000000000 ≤ x.amt) && decide (x.amt ≤ 1000000000000000)) = b4 at *
 generalize code x.cur = b5 at *
 generalize paper x.ins = b6 at *
 generalize x.vd = vd at HV flvd
 generalize x.kd = kd at HV flkd
 have hc : (decide ((x.key.size : Int) < 1) = false ∧ decide (64 < (x.key.size : Int)) = false ∧ decide (x.kn < 1) = false ∧ decide (2147483647 < x.kn) = false ∧ vd = true ∧ b3 = v) ∨
     (decide ((x.key.size : Int) < 1) = false ∧ decide (64 < (x.key.size : Int)) = false ∧ decide (x.kn < 1) = false ∧ decide (2147483647 < x.kn) = false ∧ vd = false ∧ b1 = true ∧ b2 = true ∧ decide (x.stl < x.day) = false ∧ b4 = true ∧ b5 = true ∧ kd = 1 ∧ b6 = true ∧ (x.qty != 0) = true ∧ decide (x.qty ≤ 1000000000000000) = true ∧ decide (-1000000000000000 ≤ x.qty) = true ∧ true = v) ∨
     (decide ((x.key.size : Int) < 1) = false ∧ decide (64 < (x.key.size : Int)) = false ∧ decide (x.kn < 1) = false ∧ decide (2147483647 < x.kn) = false ∧ vd = false ∧ b1 = true ∧ b2 = true ∧ decide (x.stl < x.day) = false ∧ b4 = true ∧ b5 = true ∧ kd = 1 ∧ b6 = true ∧ (x.qty != 0) = true ∧ decide (x.qty ≤ 1000000000000000) = true ∧ decide (-1000000000000000 ≤ x.qty) = false ∧ false = v) ∨
     (decide ((x.key.size : Int) < 1) = false ∧ decide (64 < (x.key.size : Int)) = false ∧ decide (x.kn < 1) = false ∧ decide (2147483647 < x.kn) = false ∧ vd = false ∧ b1 = true ∧ b2 = true ∧ decide (x.stl < x.day) = false ∧ b4 = true ∧ b5 = true ∧ kd = 1 ∧ b6 = true ∧ (x.qty != 0) = true ∧ decide (x.qty ≤ 1000000000000000) = false ∧ false = v) ∨
     (decide ((x.key.size : Int) < 1) = false ∧ decide (64 < (x.key.size : Int)) = false ∧ decide (x.kn < 1) = false ∧ decide (2147483647 < x.kn) = false ∧ vd = false ∧ b1 = true ∧ b2 = true ∧ decide (x.stl < x.day) = false ∧ b4 = true ∧ b5 = true ∧ kd = 1 ∧ b6 = true ∧ (x.qty != 0) = false ∧ false = v) ∨
     (decide ((x.key.size : Int) < 1) = false ∧ decide (64 < (x.key.size : Int)) = false ∧ decide (x.kn < 1) = false ∧ decide (2147483647 < x.kn) = false ∧ vd = false ∧ b1 = true ∧ b2 = true ∧ decide (x.stl < x.day) = false ∧ b4 = true ∧ b5 = true ∧ kd = 1 ∧ b6 = false ∧ false = v) ∨
     (decide ((x.key.size : Int) < 1) = false ∧ decide (64 < (x.key.size : Int)) = false ∧ decide (x.kn < 1) = false ∧ decide (2147483647 < x.kn) = false ∧ vd = false ∧ b1 = true ∧ b2 = true ∧ decide (x.stl < x.day) = false ∧ b4 = true ∧ b5 = true ∧ (kd == 1) = false ∧ kd = 2 ∧ x.ins.toList.isEmpty = true ∧ (x.qty == 0) = true ∧ true = v) ∨
     (decide ((x.key.size : Int) < 1) = false ∧ decide (64 < (x.key.size : Int)) = false ∧ decide (x.kn < 1) = false ∧ decide (2147483647 < x.kn) = false ∧ vd = false ∧ b1 = true ∧ b2 = true ∧ decide (x.stl < x.day) = false ∧ b4 = true ∧ b5 = true ∧ (kd == 1) = false ∧ kd = 2 ∧ x.ins.toList.isEmpty = true ∧ (x.qty == 0) = false ∧ false = v) ∨
     (decide ((x.key.size : Int) < 1) = false ∧ decide (64 < (x.key.size : Int)) = false ∧ decide (x.kn < 1) = false ∧ decide (2147483647 < x.kn) = false ∧ vd = false ∧ b1 = true ∧ b2 = true ∧ decide (x.stl < x.day) = false ∧ b4 = true ∧ b5 = true ∧ (kd == 1) = false ∧ kd = 2 ∧ x.ins.toList.isEmpty = false ∧ false = v) ∨
     (decide ((x.key.size : Int) < 1) = false ∧ decide (64 < (x.key.size : Int)) = false ∧ decide (x.kn < 1) = false ∧ decide (2147483647 < x.kn) = false ∧ vd = false ∧ b1 = true ∧ b2 = true ∧ decide (x.stl < x.day) = false ∧ b4 = true ∧ b5 = true ∧ (kd == 1) = false ∧ (kd == 2) = false ∧ false = v) ∨
     (decide ((x.key.size : Int) < 1) = false ∧ decide (64 < (x.key.size : Int)) = false ∧ decide (x.kn < 1) = false ∧ decide (2147483647 < x.kn) = false ∧ vd = false ∧ b1 = true ∧ b2 = true ∧ decide (x.stl < x.day) = false ∧ b4 = true ∧ b5 = false ∧ false = v) ∨
     (decide ((x.key.size : Int) < 1) = false ∧ decide (64 < (x.key.size : Int)) = false ∧ decide (x.kn < 1) = false ∧ decide (2147483647 < x.kn) = false ∧ vd = false ∧ b1 = true ∧ b2 = true ∧ decide (x.stl < x.day) = false ∧ b4 = false ∧ false = v) ∨
     (decide ((x.key.size : Int) < 1) = false ∧ decide (64 < (x.key.size : Int)) = false ∧ decide (x.kn < 1) = false ∧ decide (2147483647 < x.kn) = false ∧ vd = false ∧ b1 = true ∧ b2 = true ∧ decide (x.stl < x.day) = true ∧ false = v) ∨
     (decide ((x.key.size : Int) < 1) = false ∧ decide (64 < (x.key.size : Int)) = false ∧ decide (x.kn < 1) = false ∧ decide (2147483647 < x.kn) = false ∧ vd = false ∧ b1 = true ∧ b2 = false ∧ false = v) ∨
     (decide ((x.key.size : Int) < 1) = false ∧ decide (64 < (x.key.size : Int)) = false ∧ decide (x.kn < 1) = false ∧ decide (2147483647 < x.kn) = false ∧ vd = false ∧ b1 = false ∧ false = v) ∨
     (decide ((x.key.size : Int) < 1) = false ∧ decide (64 < (x.key.size : Int)) = false ∧ decide (x.kn < 1) = false ∧ decide (2147483647 < x.kn) = true ∧ false = v) ∨
     (decide ((x.key.size : Int) < 1) = false ∧ decide (64 < (x.key.size : Int)) = false ∧ decide (x.kn < 1) = true ∧ false = v) ∨
     (decide ((x.key.size : Int) < 1) = false ∧ decide (64 < (x.key.size : Int)) = true ∧ false = v) ∨
     (decide ((x.key.size : Int) < 1) = true ∧ false = v) := by
  clear HM C1 C2 C4 C5 C6
  by_cases h1 : 1 ≤ (x.key.size : Int)
  ·skip
   by_cases h2 : (x.key.size : Int) ≤ 64
   ·skip
    by_cases h3 : 1 ≤ x.kn
    ·skip
     by_cases h4 : x.kn ≤ 2147483647
     ·skip
      cases vd with
      | true =>
       exact .inl (⟨Zn h1, Zn h2, Zn h3, Zn h4, rfl, by rw [HV.out]; simp [h1, h2, h3, h4]⟩)
      | false =>
       cases b1 with
       | true =>
        cases b2 with
        | true =>
         by_cases h5 : x.day ≤ x.stl
         ·skip
          cases b4 with
          | true =>
           cases b5 with
           | true =>
            by_cases h6 : kd = 1
            ·skip
             subst h6
             cases b6 with
             | true =>
              by_cases h7 : x.qty ≠ 0
              ·skip
               by_cases h8 : x.qty ≤ 1000000000000000
               ·skip
                by_cases h9 : -1000000000000000 ≤ x.qty
                ·skip
                 exact .inr (.inl (⟨Zn h1, Zn h2, Zn h3, Zn h4, rfl, rfl, rfl, Zn h5, rfl, rfl, rfl, rfl, bne_iff_ne.2 h7, Zt h8, Zt h9, by rw [HV.out]; simp [h1, h2, h3, h4, h5, h7, h8, h9]⟩))
                ·skip
                 exact .inr (.inr (.inl (⟨Zn h1, Zn h2, Zn h3, Zn h4, rfl, rfl, rfl, Zn h5, rfl, rfl, rfl, rfl, bne_iff_ne.2 h7, Zt h8, Zf h9, by rw [HV.out]; simp [h1, h2, h3, h4, h5, h7, h8, h9]⟩)))
               ·skip
                exact .inr (.inr (.inr (.inl (⟨Zn h1, Zn h2, Zn h3, Zn h4, rfl, rfl, rfl, Zn h5, rfl, rfl, rfl, rfl, bne_iff_ne.2 h7, Zf h8, by rw [HV.out]; simp [h1, h2, h3, h4, h5, h7, h8]⟩))))
              ·skip
               exact Zr (.inl (⟨Zn h1, Zn h2, Zn h3, Zn h4, rfl, rfl, rfl, Zn h5, rfl, rfl, rfl, rfl, bne_eq_false_iff_eq.2 (Decidable.not_not.1 h7), by rw [HV.out]; simp [h1, h2, h3, h4, h5, h7]⟩))
             | false =>
              exact Zr (.inr (.inl (⟨Zn h1, Zn h2, Zn h3, Zn h4, rfl, rfl, rfl, Zn h5, rfl, rfl, rfl, rfl, by rw [HV.out]; simp [h1, h2, h3, h4, h5]⟩)))
            ·skip
             by_cases h10 : kd = 2
             ·skip
              subst h10
              by_cases h11 : x.ins.size = 0
              ·skip
               by_cases h12 : x.qty = 0
               ·skip
                exact Zr (.inr (.inr (.inl (⟨Zn h1, Zn h2, Zn h3, Zn h4, rfl, rfl, rfl, Zn h5, rfl, rfl, Zb h6, rfl, empty_l h11, beq_iff_eq.2 h12, by rw [HV.out]; simp [h1, h2, h3, h4, h5, h6, h11, h12]⟩))))
               ·skip
                exact Zr (.inr (.inr (.inr (.inl (⟨Zn h1, Zn h2, Zn h3, Zn h4, rfl, rfl, rfl, Zn h5, rfl, rfl, Zb h6, rfl, empty_l h11, Zb h12, by rw [HV.out]; simp [h1, h2, h3, h4, h5, h6, h11, h12]⟩)))))
              ·skip
               exact Zr (Zr (.inl (⟨Zn h1, Zn h2, Zn h3, Zn h4, rfl, rfl, rfl, Zn h5, rfl, rfl, Zb h6, rfl, some_l h11, by rw [HV.out]; simp [h1, h2, h3, h4, h5, h6, h11]⟩)))
             ·skip
              exact Zr (Zr (.inr (.inl (⟨Zn h1, Zn h2, Zn h3, Zn h4, rfl, rfl, rfl, Zn h5, rfl, rfl, Zb h6, Zb h10, by rw [HV.out]; simp [h1, h2, h3, h4, h5, h6, h10]⟩))))
           | false =>
            exact Zr (Zr (.inr (.inr (.inl (⟨Zn h1, Zn h2, Zn h3, Zn h4, rfl, rfl, rfl, Zn h5, rfl, rfl, by rw [HV.out]; simp [h1, h2, h3, h4, h5]⟩)))))
          | false =>
           exact Zr (Zr (.inr (.inr (.inr (.inl (⟨Zn h1, Zn h2, Zn h3, Zn h4, rfl, rfl, rfl, Zn h5, rfl, by rw [HV.out]; simp [h1, h2, h3, h4, h5]⟩))))))
         ·skip
          exact Zr (Zr (Zr (.inl (⟨Zn h1, Zn h2, Zn h3, Zn h4, rfl, rfl, rfl, Zt (Int.not_le.1 h5), by rw [HV.out]; simp [h1, h2, h3, h4, h5]⟩))))
        | false =>
         exact Zr (Zr (Zr (.inr (.inl (⟨Zn h1, Zn h2, Zn h3, Zn h4, rfl, rfl, rfl, by rw [HV.out]; simp [h1, h2, h3, h4]⟩)))))
       | false =>
        exact Zr (Zr (Zr (.inr (.inr (.inl (⟨Zn h1, Zn h2, Zn h3, Zn h4, rfl, rfl, by rw [HV.out]; simp [h1, h2, h3, h4]⟩))))))
     ·skip
      exact Zr (Zr (Zr (.inr (.inr (.inr (.inl (⟨Zn h1, Zn h2, Zn h3, Zt (Int.not_le.1 h4), by rw [HV.out]; simp [h1, h2, h3, h4]⟩)))))))
    ·skip
     exact Zr (Zr (Zr (Zr (.inl (⟨Zn h1, Zn h2, Zt (Int.not_le.1 h3), by rw [HV.out]; simp [h1, h2, h3]⟩)))))
   ·skip
    exact Zr (Zr (Zr (Zr (.inr (.inl (⟨Zn h1, Zt (Int.not_le.1 h2), by rw [HV.out]; simp [h1, h2]⟩))))))
  ·skip
   exact Zr (Zr (Zr (Zr (.inr (.inr (⟨Zt (Int.not_le.1 h1), by rw [HV.out]; simp [h1]⟩))))))
 clear HV
 rcases hc with ⟨g0, g1, g2, g3, rfl, rfl⟩ | ⟨g0, g1, g2, g3, rfl, rfl, rfl, g7, rfl, rfl, rfl, rfl, g12, g13, g14, rfl⟩ | ⟨g0, g1, g2, g3, rfl, rfl, rfl, g7, rfl, rfl, rfl, rfl, g12, g13, g14, rfl⟩ | ⟨g0, g1, g2, g3, rfl, rfl, rfl, g7, rfl, rfl, rfl, rfl, g12, g13, rfl⟩ | ⟨g0, g1, g2, g3, rfl, rfl, rfl, g7, rfl, rfl, rfl, rfl, g12, rfl⟩ | ⟨g0, g1, g2, g3, rfl, rfl, rfl, g7, rfl, rfl, rfl, rfl, rfl⟩ | ⟨g0, g1, g2, g3, rfl, rfl, rfl, g7, rfl, rfl, g10, rfl, g12, g13, rfl⟩ | ⟨g0, g1, g2, g3, rfl, rfl, rfl, g7, rfl, rfl, g10, rfl, g12, g13, rfl⟩ | ⟨g0, g1, g2, g3, rfl, rfl, rfl, g7, rfl, rfl, g10, rfl, g12, rfl⟩ | ⟨g0, g1, g2, g3, rfl, rfl, rfl, g7, rfl, rfl, g10, g11, rfl⟩ | ⟨g0, g1, g2, g3, rfl, rfl, rfl, g7, rfl, rfl, rfl⟩ | ⟨g0, g1, g2, g3, rfl, rfl, rfl, g7, rfl, rfl⟩ | ⟨g0, g1, g2, g3, rfl, rfl, rfl, g7, rfl⟩ | ⟨g0, g1, g2, g3, rfl, rfl, rfl, rfl⟩ | ⟨g0, g1, g2, g3, rfl, rfl, rfl⟩ | ⟨g0, g1, g2, g3, rfl⟩ | ⟨g0, g1, g2, rfl⟩ | ⟨g0, g1, rfl⟩ | ⟨g0, rfl⟩
 all_goals
  go_enter Tryz.func104, Tryz.ntmps104
  go_wp2_with (first | ((with_reducible refine g_offw ?_); refine a_offw ?_) | ((first | (go_at_call 132; with_reducible refine (C1 _).mono ?_) | (go_at_call 132; with_reducible refine (C2 _).mono ?_) | (go_at_call 138; with_reducible refine (C4 _).mono ?_) | (go_at_call 131; with_reducible refine (C5 _).mono ?_) | (go_at_call 130; with_reducible refine (C6 _).mono ?_)); rintro e9 w2 ⟨rfl, hL⟩; replace HM := HM.call hL; clear hL) | ((with_reducible refine g_bld ?_); refine a_rbl (v := .agg Y9) ?_ (hy := h_bg3 rfl Zw Zw Zw (by with_reducible exact (HB)))) | ((with_reducible refine g_bin ?_); refine a_seqb (E1) Zk ?_) | ((with_reducible refine g_ld ?_); refine a_ld HM ?_) | ((with_reducible refine g_bx ?_); refine a_bx HM ?_; clear HM; intro bk w1 HM))
  go_ret
  exact ⟨rfl, HM.low⟩
end
end Go.Proofs.YtkiempioeffhbaaGreatDoor
