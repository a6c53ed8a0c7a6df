/- Walks. -/
import Derived.Test.YtkiempioeffhbaaGreatDoorPg23
namespace Go.Proofs.YtkiempioeffhbaaGreatDoor
set_option maxHeartbeats 16000000
open Go.RowKit
set_option maxRecDepth 8000
set_option linter.unusedSimpArgs false
set_option linter.unusedVariables false
section
open Jb
theorem avalid17_any (x : JA) (hw : x.wf) (w : World) :
    Calls Tryz.prog 87 #[.agg x.c] w fun e w' => e = .returned (.bool x.right) ∧ Below w.heap.size w w' := by
 have HM := Mem.start w
 have HS1 := Jb.str_l x.into x.ins
 have HS2 := Jb.str_d x.into x.ins
 have flkd := (JA.f_kd x).la
 have flkey := (JA.f_key x).la
 have flins := (JA.f_ins x).la
 have flinto := (JA.f_into x).la
 have flday := (JA.f_day x).la
 have flnm := (JA.f_nm x).la
 have fldn := (JA.f_dn x).la
 have flcsh := (JA.f_csh x).la
 have flcur := (JA.f_cur x).la
 have flkn := (JA.f_kn x).la
 have flvd := (JA.f_vd x).la
 have lx := x.la
 have E1 := JA.eq9 x { JA.zero with key := x.key, kn := x.kn, vd := true }
 have HB := fun w => JA.bld (parts := #[(1, .string x.key), (9, .int .i64 x.kn), (10, .bool true)]) (r := { JA.zero with key := x.key, kn := x.kn, vd := true }) (by simp [Value.cells]) (by rw [JA.rows]; rfl) w
 generalize JA.c { JA.zero with key := x.key, kn := x.kn, vd := true } = Y9 at E1 HB
 have za0 := JA.za
 have sx := x.sa JA.zero.size
 obtain ⟨nc, g9, hns, hne, hnc, HSG, hg9⟩ := csh_sign x.csh w
 have fnum : LA 41 x.c 7 (.agg nc) := LA.shift Zk sT_int (JA.f_csh x) Zk rfl hns hnc.out (by rw [Rr.size]; decide) Zd hne.out
 have HV : Hid (x.right = ((!decide ((x.key.size : Int) = 0) && (decide ((x.key.size : Int) ≤ 64) && (decide (1 ≤ x.kn) && decide (x.kn ≤ 2147483647)))) && (if x.vd then JA.b x { JA.zero with key := x.key, kn := x.kn, vd := true } else (paper x.ins && ((decide (0 ≤ x.day) && decide (x.day ≤ 73048)) && (price x.csh && code x.cur))) && (if x.kd = 1 then decide (x.into.size = 0) && ((decide (1 ≤ x.nm) && decide (x.nm ≤ 1000000)) && (decide (1 ≤ x.dn) && decide (x.dn ≤ 1000000))) else if x.kd = 2 then decide (x.into.size = 0) && (decide (x.nm = 0) && (decide (x.dn = 0) && decide (0 < g9))) else if x.kd = 3 then paper x.into && (!(x.into == x.ins) && ((decide (1 ≤ x.nm) && decide (x.nm ≤ 1000000)) && (decide (1 ≤ x.dn) && decide (x.dn ≤ 1000000)))) else false)))) := Zi (ja_right_p x g9 hg9.out)
 generalize x.right = v at HV ⊢
 have C2 := fun w => belt (ains_any x.ins (by have := hw; simp only [JA.wf] at this; omega) w)
 have C3 := fun w => apay_any x.csh w
 have C4 := fun w => belt (acap_any x.cur 3 3 false (by have := hw; simp only [JA.wf] at this; omega) (code x.cur) (Zi (code_w x.cur)) w)
 have C5 := fun w => belt (afac_any x.nm _ (Zi rfl) w)
 have C6 := fun w => belt (afac_any x.dn _ (Zi rfl) w)
 have C7 := fun w => belt (ains_any x.into (by have := hw; simp only [JA.wf] at this; omega) w)
 generalize JA.b x { JA.zero with key := x.key, kn := x.kn, vd := true } = b1 at *
 generalize paper x.ins = b2 at *
 generalize price x.csh = b3 at *
 generalize code x.cur = b4 at *
 generalize (decide (1 ≤ x.nm) && decide (x.nm ≤ 1000000)) = b5 at *
 generalize (decide (1 ≤ x.dn) && decide (x.dn ≤ 1000000)) = b6 at *
 generalize paper x.into = b7 at *
 generalize (x.into == x.ins) = b8 at *
 generalize x.vd = vd at HV flvd
 generalize x.kd = kd at HV flkd
 have hc : (((x.key.size : Int) == 0) = true ∧ false = v) ∨
     (((x.key.size : Int) == 0) = false ∧ decide (64 < (x.key.size : Int)) = false ∧ decide (x.kn < 1) = false ∧ decide (2147483647 < x.kn) = false ∧ vd = true ∧ b1 = v) ∨
     (((x.key.size : Int) == 0) = false ∧ decide (64 < (x.key.size : Int)) = false ∧ decide (x.kn < 1) = false ∧ decide (2147483647 < x.kn) = false ∧ vd = false ∧ b2 = true ∧ decide (x.day < 0) = false ∧ decide (73048 < x.day) = false ∧ b3 = true ∧ b4 = true ∧ kd = 1 ∧ x.into.toList.isEmpty = true ∧ b5 = true ∧ b6 = true ∧ true = v) ∨
     (((x.key.size : Int) == 0) = false ∧ decide (64 < (x.key.size : Int)) = false ∧ decide (x.kn < 1) = false ∧ decide (2147483647 < x.kn) = false ∧ vd = false ∧ b2 = true ∧ decide (x.day < 0) = false ∧ decide (73048 < x.day) = false ∧ b3 = true ∧ b4 = true ∧ kd = 1 ∧ x.into.toList.isEmpty = true ∧ b5 = true ∧ b6 = false ∧ false = v) ∨
     (((x.key.size : Int) == 0) = false ∧ decide (64 < (x.key.size : Int)) = false ∧ decide (x.kn < 1) = false ∧ decide (2147483647 < x.kn) = false ∧ vd = false ∧ b2 = true ∧ decide (x.day < 0) = false ∧ decide (73048 < x.day) = false ∧ b3 = true ∧ b4 = true ∧ kd = 1 ∧ x.into.toList.isEmpty = true ∧ b5 = false ∧ false = v) ∨
     (((x.key.size : Int) == 0) = false ∧ decide (64 < (x.key.size : Int)) = false ∧ decide (x.kn < 1) = false ∧ decide (2147483647 < x.kn) = false ∧ vd = false ∧ b2 = true ∧ decide (x.day < 0) = false ∧ decide (73048 < x.day) = false ∧ b3 = true ∧ b4 = true ∧ kd = 1 ∧ x.into.toList.isEmpty = false ∧ false = v) ∨
     (((x.key.size : Int) == 0) = false ∧ decide (64 < (x.key.size : Int)) = false ∧ decide (x.kn < 1) = false ∧ decide (2147483647 < x.kn) = false ∧ vd = false ∧ b2 = true ∧ decide (x.day < 0) = false ∧ decide (73048 < x.day) = false ∧ b3 = true ∧ b4 = true ∧ (kd == 1) = false ∧ kd = 2 ∧ x.into.toList.isEmpty = true ∧ (x.nm == 0) = true ∧ (x.dn == 0) = true ∧ decide (0 < g9) = true ∧ true = v) ∨
     (((x.key.size : Int) == 0) = false ∧ decide (64 < (x.key.size : Int)) = false ∧ decide (x.kn < 1) = false ∧ decide (2147483647 < x.kn) = false ∧ vd = false ∧ b2 = true ∧ decide (x.day < 0) = false ∧ decide (73048 < x.day) = false ∧ b3 = true ∧ b4 = true ∧ (kd == 1) = false ∧ kd = 2 ∧ x.into.toList.isEmpty = true ∧ (x.nm == 0) = true ∧ (x.dn == 0) = true ∧ decide (0 < g9) = false ∧ false = v) ∨
     (((x.key.size : Int) == 0) = false ∧ decide (64 < (x.key.size : Int)) = false ∧ decide (x.kn < 1) = false ∧ decide (2147483647 < x.kn) = false ∧ vd = false ∧ b2 = true ∧ decide (x.day < 0) = false ∧ decide (73048 < x.day) = false ∧ b3 = true ∧ b4 = true ∧ (kd == 1) = false ∧ kd = 2 ∧ x.into.toList.isEmpty = true ∧ (x.nm == 0) = true ∧ (x.dn == 0) = false ∧ false = v) ∨
     (((x.key.size : Int) == 0) = false ∧ decide (64 < (x.key.size : Int)) = false ∧ decide (x.kn < 1) = false ∧ decide (2147483647 < x.kn) = false ∧ vd = false ∧ b2 = true ∧ decide (x.day < 0) = false ∧ decide (73048 < x.day) = false ∧ b3 = true ∧ b4 = true ∧ (kd == 1) = false ∧ kd = 2 ∧ x.into.toList.isEmpty = true ∧ (x.nm == 0) = false ∧ false = v) ∨
     (((x.key.size : Int) == 0) = false ∧ decide (64 < (x.key.size : Int)) = false ∧ decide (x.kn < 1) = false ∧ decide (2147483647 < x.kn) = false ∧ vd = false ∧ b2 = true ∧ decide (x.day < 0) = false ∧ decide (73048 < x.day) = false ∧ b3 = true ∧ b4 = true ∧ (kd == 1) = false ∧ kd = 2 ∧ x.into.toList.isEmpty = false ∧ false = v) ∨
     (((x.key.size : Int) == 0) = false ∧ decide (64 < (x.key.size : Int)) = false ∧ decide (x.kn < 1) = false ∧ decide (2147483647 < x.kn) = false ∧ vd = false ∧ b2 = true ∧ decide (x.day < 0) = false ∧ decide (73048 < x.day) = false ∧ b3 = true ∧ b4 = true ∧ (kd == 1) = false ∧ (kd == 2) = false ∧ kd = 3 ∧ b7 = true ∧ b8 = true ∧ false = v) ∨
     (((x.key.size : Int) == 0) = false ∧ decide (64 < (x.key.size : Int)) = false ∧ decide (x.kn < 1) = false ∧ decide (2147483647 < x.kn) = false ∧ vd = false ∧ b2 = true ∧ decide (x.day < 0) = false ∧ decide (73048 < x.day) = false ∧ b3 = true ∧ b4 = true ∧ (kd == 1) = false ∧ (kd == 2) = false ∧ kd = 3 ∧ b7 = true ∧ b8 = false ∧ b5 = true ∧ b6 = true ∧ true = v) ∨
     (((x.key.size : Int) == 0) = false ∧ decide (64 < (x.key.size : Int)) = false ∧ decide (x.kn < 1) = false ∧ decide (2147483647 < x.kn) = false ∧ vd = false ∧ b2 = true ∧ decide (x.day < 0) = false ∧ decide (73048 < x.day) = false ∧ b3 = true ∧ b4 = true ∧ (kd == 1) = false ∧ (kd == 2) = false ∧ kd = 3 ∧ b7 = true ∧ b8 = false ∧ b5 = true ∧ b6 = false ∧ false = v) ∨
     (((x.key.size : Int) == 0) = false ∧ decide (64 < (x.key.size : Int)) = false ∧ decide (x.kn < 1) = false ∧ decide (2147483647 < x.kn) = false ∧ vd = false ∧ b2 = true ∧ decide (x.day < 0) = false ∧ decide (73048 < x.day) = false ∧ b3 = true ∧ b4 = true ∧ (kd == 1) = false ∧ (kd == 2) = false ∧ kd = 3 ∧ b7 = true ∧ b8 = false ∧ b5 = false ∧ false = v) ∨
     (((x.key.size : Int) == 0) = false ∧ decide (64 < (x.key.size : Int)) = false ∧ decide (x.kn < 1) = false ∧ decide (2147483647 < x.kn) = false ∧ vd = false ∧ b2 = true ∧ decide (x.day < 0) = false ∧ decide (73048 < x.day) = false ∧ b3 = true ∧ b4 = true ∧ (kd == 1) = false ∧ (kd == 2) = false ∧ kd = 3 ∧ b7 = false ∧ false = v) ∨
     (((x.key.size : Int) == 0) = false ∧ decide (64 < (x.key.size : Int)) = false ∧ decide (x.kn < 1) = false ∧ decide (2147483647 < x.kn) = false ∧ vd = false ∧ b2 = true ∧ decide (x.day < 0) = false ∧ decide (73048 < x.day) = false ∧ b3 = true ∧ b4 = true ∧ (kd == 1) = false ∧ (kd == 2) = false ∧ (kd == 3) = false ∧ false = v) ∨
     (((x.key.size : Int) == 0) = false ∧ decide (64 < (x.key.size : Int)) = false ∧ decide (x.kn < 1) = false ∧ decide (2147483647 < x.kn) = false ∧ vd = false ∧ b2 = true ∧ decide (x.day < 0) = false ∧ decide (73048 < x.day) = false ∧ b3 = true ∧ b4 = false ∧ false = v) ∨
     (((x.key.size : Int) == 0) = false ∧ decide (64 < (x.key.size : Int)) = false ∧ decide (x.kn < 1) = false ∧ decide (2147483647 < x.kn) = false ∧ vd = false ∧ b2 = true ∧ decide (x.day < 0) = false ∧ decide (73048 < x.day) = false ∧ b3 = false ∧ false = v) ∨
     (((x.key.size : Int) == 0) = false ∧ decide (64 < (x.key.size : Int)) = false ∧ decide (x.kn < 1) = false ∧ decide (2147483647 < x.kn) = false ∧ vd = false ∧ b2 = true ∧ decide (x.day < 0) = false ∧ decide (73048 < x.day) = true ∧ false = v) ∨
     (((x.key.size : Int) == 0) = false ∧ decide (64 < (x.key.size : Int)) = false ∧ decide (x.kn < 1) = false ∧ decide (2147483647 < x.kn) = false ∧ vd = false ∧ b2 = true ∧ decide (x.day < 0) = true ∧ false = v) ∨
     (((x.key.size : Int) == 0) = false ∧ decide (64 < (x.key.size : Int)) = false ∧ decide (x.kn < 1) = false ∧ decide (2147483647 < x.kn) = false ∧ vd = false ∧ b2 = false ∧ false = v) ∨
     (((x.key.size : Int) == 0) = false ∧ decide (64 < (x.key.size : Int)) = false ∧ decide (x.kn < 1) = false ∧ decide (2147483647 < x.kn) = true ∧ false = v) ∨
     (((x.key.size : Int) == 0) = false ∧ decide (64 < (x.key.size : Int)) = false ∧ decide (x.kn < 1) = true ∧ false = v) ∨
     (((x.key.size : Int) == 0) = false ∧ decide (64 < (x.key.size : Int)) = true ∧ false = v) := by
  clear HM C2 C3 C4 C5 C6 C7
  generalize (x.key.size : Int) = ks at HV ⊢
  by_cases h1 : ks = 0
  ·skip
   exact .inl (⟨beq_iff_eq.2 h1, by rw [HV.out]; simp [h1]⟩)
  ·skip
   by_cases h2 : ks ≤ 64
   ·skip
    by_cases h3 : 1 ≤ x.kn
    ·skip
     by_cases h4 : x.kn ≤ 2147483647
     ·skip
      cases vd with
      | true =>
       exact .inr (.inl (⟨Zb h1, Zn h2, Zn h3, Zn h4, rfl, by rw [HV.out]; simp [h1, h2, h3, h4]⟩))
      | false =>
       cases b2 with
       | true =>
        by_cases h5 : 0 ≤ x.day
        ·skip
         by_cases h6 : x.day ≤ 73048
         ·skip
          cases b3 with
          | true =>
           cases b4 with
           | true =>
            by_cases h7 : kd = 1
            ·skip
             subst h7
             by_cases h8 : x.into.size = 0
             ·skip
              cases b5 with
              | true =>
               cases b6 with
               | true =>
                exact .inr (.inr (.inl (⟨Zb h1, Zn h2, Zn h3, Zn h4, rfl, rfl, Zn h5, Zn h6, rfl, rfl, rfl, empty_l h8, rfl, rfl, by rw [HV.out]; simp [h1, h2, h3, h4, h5, h6, h8]⟩)))
               | false =>
                exact .inr (.inr (.inr (.inl (⟨Zb h1, Zn h2, Zn h3, Zn h4, rfl, rfl, Zn h5, Zn h6, rfl, rfl, rfl, empty_l h8, rfl, rfl, by rw [HV.out]; simp [h1, h2, h3, h4, h5, h6, h8]⟩))))
              | false =>
               exact Zr (.inl (⟨Zb h1, Zn h2, Zn h3, Zn h4, rfl, rfl, Zn h5, Zn h6, rfl, rfl, rfl, empty_l h8, rfl, by rw [HV.out]; simp [h1, h2, h3, h4, h5, h6, h8]⟩))
             ·skip
              exact Zr (.inr (.inl (⟨Zb h1, Zn h2, Zn h3, Zn h4, rfl, rfl, Zn h5, Zn h6, rfl, rfl, rfl, some_l h8, by rw [HV.out]; simp [h1, h2, h3, h4, h5, h6, h8]⟩)))
            ·skip
             by_cases h9 : kd = 2
             ·skip
              subst h9
              by_cases h10 : x.into.size = 0
              ·skip
               by_cases h11 : x.nm = 0
               ·skip
                by_cases h12 : x.dn = 0
                ·skip
                 by_cases h13 : 0 < g9
                 ·skip
                  exact Zr (.inr (.inr (.inl (⟨Zb h1, Zn h2, Zn h3, Zn h4, rfl, rfl, Zn h5, Zn h6, rfl, rfl, Zb h7, rfl, empty_l h10, beq_iff_eq.2 h11, beq_iff_eq.2 h12, Zt h13, by rw [HV.out]; simp [h1, h2, h3, h4, h5, h6, h7, h10, h11, h12, h13]⟩))))
                 ·skip
                  exact Zr (.inr (.inr (.inr (.inl (⟨Zb h1, Zn h2, Zn h3, Zn h4, rfl, rfl, Zn h5, Zn h6, rfl, rfl, Zb h7, rfl, empty_l h10, beq_iff_eq.2 h11, beq_iff_eq.2 h12, Zf h13, by rw [HV.out]; simp [h1, h2, h3, h4, h5, h6, h7, h10, h11, h12, h13]⟩)))))
                ·skip
                 exact Zr (Zr (.inl (⟨Zb h1, Zn h2, Zn h3, Zn h4, rfl, rfl, Zn h5, Zn h6, rfl, rfl, Zb h7, rfl, empty_l h10, beq_iff_eq.2 h11, Zb h12, by rw [HV.out]; simp [h1, h2, h3, h4, h5, h6, h7, h10, h11, h12]⟩)))
               ·skip
                exact Zr (Zr (.inr (.inl (⟨Zb h1, Zn h2, Zn h3, Zn h4, rfl, rfl, Zn h5, Zn h6, rfl, rfl, Zb h7, rfl, empty_l h10, Zb h11, by rw [HV.out]; simp [h1, h2, h3, h4, h5, h6, h7, h10, h11]⟩))))
              ·skip
               exact Zr (Zr (.inr (.inr (.inl (⟨Zb h1, Zn h2, Zn h3, Zn h4, rfl, rfl, Zn h5, Zn h6, rfl, rfl, Zb h7, rfl, some_l h10, by rw [HV.out]; simp [h1, h2, h3, h4, h5, h6, h7, h10]⟩)))))
             ·skip
              by_cases h14 : kd = 3
              ·skip
               subst h14
               cases b7 with
               | true =>
                cases b8 with
                | true =>
                 exact Zr (Zr (.inr (.inr (.inr (.inl (⟨Zb h1, Zn h2, Zn h3, Zn h4, rfl, rfl, Zn h5, Zn h6, rfl, rfl, Zb h7, Zb h9, rfl, rfl, rfl, by rw [HV.out]; simp [h1, h2, h3, h4, h5, h6, h7, h9]⟩))))))
                | false =>
                 cases b5 with
                 | true =>
                  cases b6 with
                  | true =>
                   exact Zr (Zr (Zr (.inl (⟨Zb h1, Zn h2, Zn h3, Zn h4, rfl, rfl, Zn h5, Zn h6, rfl, rfl, Zb h7, Zb h9, rfl, rfl, rfl, rfl, rfl, by rw [HV.out]; simp [h1, h2, h3, h4, h5, h6, h7, h9]⟩))))
                  | false =>
                   exact Zr (Zr (Zr (.inr (.inl (⟨Zb h1, Zn h2, Zn h3, Zn h4, rfl, rfl, Zn h5, Zn h6, rfl, rfl, Zb h7, Zb h9, rfl, rfl, rfl, rfl, rfl, by rw [HV.out]; simp [h1, h2, h3, h4, h5, h6, h7, h9]⟩)))))
                 | false =>
                  exact Zr (Zr (Zr (.inr (.inr (.inl (⟨Zb h1, Zn h2, Zn h3, Zn h4, rfl, rfl, Zn h5, Zn h6, rfl, rfl, Zb h7, Zb h9, rfl, rfl, rfl, rfl, by rw [HV.out]; simp [h1, h2, h3, h4, h5, h6, h7, h9]⟩))))))
               | false =>
                exact Zr (Zr (Zr (.inr (.inr (.inr (.inl (⟨Zb h1, Zn h2, Zn h3, Zn h4, rfl, rfl, Zn h5, Zn h6, rfl, rfl, Zb h7, Zb h9, rfl, rfl, by rw [HV.out]; simp [h1, h2, h3, h4, h5, h6, h7, h9]⟩)))))))
              ·skip
               exact Zr (Zr (Zr (Zr (.inl (⟨Zb h1, Zn h2, Zn h3, Zn h4, rfl, rfl, Zn h5, Zn h6, rfl, rfl, Zb h7, Zb h9, Zb h14, by rw [HV.out]; simp [h1, h2, h3, h4, h5, h6, h7, h9, h14]⟩)))))
           | false =>
            exact Zr (Zr (Zr (Zr (.inr (.inl (⟨Zb h1, Zn h2, Zn h3, Zn h4, rfl, rfl, Zn h5, Zn h6, rfl, rfl, by rw [HV.out]; simp [h1, h2, h3, h4, h5, h6]⟩))))))
          | false =>
           exact Zr (Zr (Zr (Zr (.inr (.inr (.inl (⟨Zb h1, Zn h2, Zn h3, Zn h4, rfl, rfl, Zn h5, Zn h6, rfl, by rw [HV.out]; simp [h1, h2, h3, h4, h5, h6]⟩)))))))
         ·skip
          exact Zr (Zr (Zr (Zr (.inr (.inr (.inr (.inl (⟨Zb h1, Zn h2, Zn h3, Zn h4, rfl, rfl, Zn h5, Zt (Int.not_le.1 h6), by rw [HV.out]; simp [h1, h2, h3, h4, h5, h6]⟩))))))))
        ·skip
         exact Zr (Zr (Zr (Zr (Zr (.inl (⟨Zb h1, Zn h2, Zn h3, Zn h4, rfl, rfl, Zt (Int.not_le.1 h5), by rw [HV.out]; simp [h1, h2, h3, h4, h5]⟩))))))
       | false =>
        exact Zr (Zr (Zr (Zr (Zr (.inr (.inl (⟨Zb h1, Zn h2, Zn h3, Zn h4, rfl, rfl, by rw [HV.out]; simp [h1, h2, h3, h4]⟩)))))))
     ·skip
      exact Zr (Zr (Zr (Zr (Zr (.inr (.inr (.inl (⟨Zb h1, Zn h2, Zn h3, Zt (Int.not_le.1 h4), by rw [HV.out]; simp [h1, h2, h3, h4]⟩))))))))
    ·skip
     exact Zr (Zr (Zr (Zr (Zr (.inr (.inr (.inr (.inl (⟨Zb h1, Zn h2, Zt (Int.not_le.1 h3), by rw [HV.out]; simp [h1, h2, h3]⟩)))))))))
   ·skip
    exact Zr (Zr (Zr (Zr (Zr (Zr (⟨Zb h1, Zt (Int.not_le.1 h2), by rw [HV.out]; simp [h1, h2]⟩))))))
 clear HV
 rcases hc with ⟨g0, rfl⟩ | ⟨g0, g1, g2, g3, rfl, rfl⟩ | ⟨g0, g1, g2, g3, rfl, rfl, g6, g7, rfl, rfl, rfl, g11, rfl, rfl, rfl⟩ | ⟨g0, g1, g2, g3, rfl, rfl, g6, g7, rfl, rfl, rfl, g11, rfl, rfl, rfl⟩ | ⟨g0, g1, g2, g3, rfl, rfl, g6, g7, rfl, rfl, rfl, g11, rfl, rfl⟩ | ⟨g0, g1, g2, g3, rfl, rfl, g6, g7, rfl, rfl, rfl, g11, rfl⟩ | ⟨g0, g1, g2, g3, rfl, rfl, g6, g7, rfl, rfl, g10, rfl, g12, g13, g14, g15, rfl⟩ | ⟨g0, g1, g2, g3, rfl, rfl, g6, g7, rfl, rfl, g10, rfl, g12, g13, g14, g15, rfl⟩ | ⟨g0, g1, g2, g3, rfl, rfl, g6, g7, rfl, rfl, g10, rfl, g12, g13, g14, rfl⟩ | ⟨g0, g1, g2, g3, rfl, rfl, g6, g7, rfl, rfl, g10, rfl, g12, g13, rfl⟩ | ⟨g0, g1, g2, g3, rfl, rfl, g6, g7, rfl, rfl, g10, rfl, g12, rfl⟩ | ⟨g0, g1, g2, g3, rfl, rfl, g6, g7, rfl, rfl, g10, g11, rfl, rfl, rfl, rfl⟩ | ⟨g0, g1, g2, g3, rfl, rfl, g6, g7, rfl, rfl, g10, g11, rfl, rfl, rfl, rfl, rfl, rfl⟩ | ⟨g0, g1, g2, g3, rfl, rfl, g6, g7, rfl, rfl, g10, g11, rfl, rfl, rfl, rfl, rfl, rfl⟩ | ⟨g0, g1, g2, g3, rfl, rfl, g6, g7, rfl, rfl, g10, g11, rfl, rfl, rfl, rfl, rfl⟩ | ⟨g0, g1, g2, g3, rfl, rfl, g6, g7, rfl, rfl, g10, g11, rfl, rfl, rfl⟩ | ⟨g0, g1, g2, g3, rfl, rfl, g6, g7, rfl, rfl, g10, g11, g12, rfl⟩ | ⟨g0, g1, g2, g3, rfl, rfl, g6, g7, rfl, rfl, rfl⟩ | ⟨g0, g1, g2, g3, rfl, rfl, g6, g7, rfl, rfl⟩ | ⟨g0, g1, g2, g3, rfl, rfl, g6, g7, rfl⟩ | ⟨g0, g1, g2, g3, rfl, rfl, g6, rfl⟩ | ⟨g0, g1, g2, g3, rfl, rfl, rfl⟩ | ⟨g0, g1, g2, g3, rfl⟩ | ⟨g0, g1, g2, rfl⟩ | ⟨g0, g1, rfl⟩
 all_goals
  go_enter Tryz.func87, Tryz.ntmps87
  go_wp2_with (first | ((with_reducible refine g_offw ?_); refine a_offw ?_) | ((first | (go_at_call 112; with_reducible refine (C2 _).mono ?_) | (go_at_call 113; with_reducible refine (C3 _).mono ?_) | (go_at_call 114; with_reducible refine (C4 _).mono ?_) | (go_at_call 115; with_reducible refine (C5 _).mono ?_) | (go_at_call 115; with_reducible refine (C6 _).mono ?_) | (go_at_call 112; with_reducible refine (C7 _).mono ?_) | (go_at_call 116; with_reducible refine (HSG.out _).mono ?_)); rintro e9 w2 ⟨rfl, hL⟩; replace HM := HM.call hL; clear hL) | ((with_reducible refine g_bld ?_); refine a_rbl (v := .agg Y9) ?_ (hy := h_bg3 rfl Zw Zw Zw (by with_reducible exact (HB)))) | ((with_reducible refine g_bin ?_); refine a_seqb (E1) Zk ?_) | ((with_reducible refine g_ld ?_); refine a_ld HM ?_) | ((with_reducible refine g_st ?_); refine a_st HM ?_; clear HM; intro w1 HM) | ((with_reducible refine g_al ?_); refine a_al HM ?_; clear HM; intro bk w1 HM) | ((with_reducible refine g_bx ?_); refine a_bx HM ?_; clear HM; intro bk w1 HM))
  go_ret
  exact ⟨rfl, HM.low⟩
end
section
namespace Jb
def corA : List JR → Nat → JC → JC
 | [], _, c => c
 | r :: l, i, c => corA l (i + 1) (if r.kd = 8 ∧ r.day ≤ c.day then { c with as_ := ((i + 1 : Nat) : Int) } else c)
theorem clo_app : ∀ (M : List JR) (i : Nat) (out tail : List JC), clo M i (out ++ tail) = out.map (corA M i) ++ clo M i tail
 | [], i, out, tail => by
  show out ++ tail = out.map (corA [] i) ++ tail
  have : out.map (corA [] i) = out := by
   rw [show corA [] i = id from rfl, List.map_id]
  rw [this]
 | r :: l, i, out, tail => by
  unfold clo
  by_cases h7 : r.kd = 7
  ·rw [if_pos h7, if_pos h7, List.append_assoc, clo_app l (i + 1) out]
   congr 1
   refine List.map_congr_left fun c _ => ?_
   rw [corA, if_neg (fun h => by omega)]
  ·rw [if_neg h7, if_neg h7]
   by_cases h8 : r.kd = 8
   ·rw [if_pos h8, if_pos h8, List.map_append, clo_app l (i + 1), List.map_map]
    congr 1
    refine List.map_congr_left fun c _ => ?_
    rw [corA]
    by_cases hd : r.day ≤ c.day
    ·simp only [Function.comp, if_pos hd, if_pos (And.intro h8 hd)]
    ·simp only [Function.comp, if_neg hd, if_neg (fun h : r.kd = 8 ∧ r.day ≤ c.day => hd h.2)]
   ·rw [if_neg h8, if_neg h8, clo_app l (i + 1) out]
    congr 1
    refine List.map_congr_left fun c _ => ?_
    rw [corA, if_neg (fun h => h8 h.1)]
theorem clo_close {M : List JR} {i : Nat} {r : JR} (h : M[i]? = some r) (h7 : r.kd = 7) : clo (M.drop i) i [] = corA (M.drop (i + 1)) (i + 1) ⟨r.day, ((i + 1 : Nat) : Int), ((i + 1 : Nat) : Int)⟩ :: clo (M.drop (i + 1)) (i + 1) [] := by
 obtain ⟨hi, e⟩ := List.getElem?_eq_some_iff.1 h
 rw [List.drop_eq_getElem_cons hi, e]
 conv => lhs; unfold clo
 rw [if_pos h7, List.nil_append]
 have := clo_app (M.drop (i + 1)) (i + 1) [⟨r.day, ((i + 1 : Nat) : Int), ((i + 1 : Nat) : Int)⟩] []
 rw [List.append_nil] at this
 rw [this]; rfl
theorem clo_other {M : List JR} {i : Nat} {r : JR} (h : M[i]? = some r) (h7 : r.kd ≠ 7) : clo (M.drop i) i [] = clo (M.drop (i + 1)) (i + 1) [] := by
 obtain ⟨hi, e⟩ := List.getElem?_eq_some_iff.1 h
 rw [List.drop_eq_getElem_cons hi, e]
 conv => lhs; unfold clo
 rw [if_neg h7]
 by_cases h8 : r.kd = 8
 ·rw [if_pos h8]; rfl
 ·rw [if_neg h8]
theorem corA_step {M : List JR} {j : Nat} {r : JR} (h : M[j]? = some r) (c : JC) : corA (M.drop j) j c = corA (M.drop (j + 1)) (j + 1) (if r.kd = 8 ∧ r.day ≤ c.day then { c with as_ := ((j + 1 : Nat) : Int) } else c) := by
 obtain ⟨hi, e⟩ := List.getElem?_eq_some_iff.1 h
 rw [List.drop_eq_getElem_cons hi, e, corA]
theorem corA_end {M : List JR} {j : Nat} (h : M.length ≤ j) (c : JC) : corA (M.drop j) j c = c := by
 rw [List.drop_eq_nil_of_le h]; rfl
theorem chk_take : ∀ (l : List JR) (k i : Nat) (last : Int) (c : Nat), chk l i last c = 0 → chk (l.take k) i last c = 0
 | [], k, _, _, _, _ => by rw [List.take_nil]; rfl
 | x :: l, 0, _, _, _, _ => rfl
 | x :: l, k + 1, i, last, c, h0 => by
  rw [List.take_succ_cons]
  unfold chk at h0 ⊢
  by_cases h1 : x.right = true
  case neg => rw [if_neg h1] at h0; exact absurd h0 Zd
  rw [if_pos h1] at h0 ⊢
  by_cases h2 : x.known ((i + 1 : Nat) : Int) = ((i + 1 : Nat) : Int)
  case neg => rw [if_neg h2] at h0; exact absurd h0 Zd
  rw [if_pos h2] at h0 ⊢
  by_cases h3 : x.kd = 8 ∧ last < x.day
  ·rw [if_pos h3] at h0; exact absurd h0 Zd
  rw [if_neg h3] at h0 ⊢
  by_cases h4 : x.kd = 7
  ·rw [if_pos h4] at h0 ⊢
   by_cases h5 : x.day ≤ last ∨ 64 < c + 1
   ·rw [if_pos h5] at h0; exact absurd h0 Zd
   rw [if_neg h5] at h0 ⊢
   exact chk_take l k (i + 1) x.day (c + 1) h0
  ·rw [if_neg h4] at h0 ⊢
   exact chk_take l k (i + 1) last c h0
theorem chk_at : ∀ (l : List JR) (i : Nat) (last : Int) (c : Nat), chk l i last c = 0 → ∀ (j : Nat) (r : JR), l[j]? = some r → r.right = true ∧ r.known ((i + j + 1 : Nat) : Int) = ((i + j + 1 : Nat) : Int)
 | [], _, _, _, _, j, r, h => by simp at h
 | x :: l, i, last, c, h0, j, r, h => by
  unfold chk at h0
  by_cases h1 : x.right = true
  case neg => rw [if_neg h1] at h0; exact absurd h0 Zd
  rw [if_pos h1] at h0
  by_cases h2 : x.known ((i + 1 : Nat) : Int) = ((i + 1 : Nat) : Int)
  case neg => rw [if_neg h2] at h0; exact absurd h0 Zd
  rw [if_pos h2] at h0
  by_cases h3 : x.kd = 8 ∧ last < x.day
  ·rw [if_pos h3] at h0; exact absurd h0 Zd
  rw [if_neg h3] at h0
  cases j with
  | zero =>
   rw [List.getElem?_cons_zero] at h
   injection h with h
   subst h
   exact ⟨h1, h2⟩
  | succ j =>
   rw [List.getElem?_cons_succ] at h
   have e : i + (j + 1) + 1 = i + 1 + j + 1 := by omega
   rw [e]
   by_cases h4 : x.kd = 7
   ·rw [if_pos h4] at h0
    by_cases h5 : x.day ≤ last ∨ 64 < c + 1
    ·rw [if_pos h5] at h0; exact absurd h0 Zd
    rw [if_neg h5] at h0
    exact chk_at l (i + 1) x.day (c + 1) h0 j r h
   ·rw [if_neg h4] at h0
    exact chk_at l (i + 1) last c h0 j r h
end Jb
end
end Go.Proofs.YtkiempioeffhbaaGreatDoor
