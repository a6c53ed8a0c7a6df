/- The contract of the reference's Check. -/
import Derived.Test.YtaokneooejbfkaaName
import Derived.Test.YtaokneooejbfkaaDateR
import Derived.Test.YtaokneooejbfkaaEngA
import Derived.Test.YtaokneooejbfkaaCalMath
namespace Go.Proofs.Ytaokneooejbfkaa
set_option maxRecDepth 8000
open Go.RowKit
theorem box_week (s : ByteArray) (k : Nat → Bool) (v : Value) (w : World) (i : Nat) (hi : i < 7) : (w.alloc (Obj.cells #[.string s, .bool (k 0), .bool (k 1), .bool (k 2), .bool (k 3), .bool (k 4), .bool (k 5), .bool (k 6), v] 25)).cell? ⟨w.heap.size, 1 + i, none⟩ = some (.bool (k i)) := by
  have : i = 0 ∨ i = 1 ∨ i = 2 ∨ i = 3 ∨ i = 4 ∨ i = 5 ∨ i = 6 := by omega
  rcases this with h | h | h | h | h | h | h <;> subst h <;> simp
theorem rOut_t {n : Int} (h : Dt.isDay n = false) (w : World) :
    Calls Try.prog 30 #[.int .i64 n] w fun e w' => e = .returned (.bool true) ∧ w = w' := by have := rOut_any n w; rw [h] at this; exact this
theorem rOut_f {n : Int} (h : Dt.isDay n = true) (w : World) :
    Calls Try.prog 30 #[.int .i64 n] w fun e w' => e = .returned (.bool false) ∧ w = w' := by have := rOut_any n w; rw [h] at this; exact this
set_option maxHeartbeats 1000000 in
theorem rCheck_any (s : ByteArray) (k : Nat → Bool) (A : Option Addr) (hs : List Int) (c : Nat) (w : World) (hA : IntsAt w A hs) (hl : hs.length ≤ 9223372036854775807) :
    Calls Try.prog 17 #[.agg #[.string s, .bool (k 0), .bool (k 1), .bool (k 2), .bool (k 3), .bool (k 4), .bool (k 5), .bool (k 6), .slice A hs.length c]] w fun e w' => e = .returned (.int .i64 (Cl.chk s k hs)) ∧ Below w.heap.size w w' := by
  cases hu : Nm.usableB s
  · have HR := Lib.hid (Cl.chk_u (k := k) (hs := hs) hu)
    have HU := Lib.hid hu
    clear hu hA
    go_enter Try.func17, Try.ntmps17
    go_wp2_with (go_at_call 29; refine (rUsable_any _ _).mono ?_; rintro e w' ⟨rfl, rfl⟩; rw [HU.out])
    go_ret
    exact ⟨ret_int HR.out.symm, below_new _ _⟩
  · by_cases h2 : 2000 < hs.length
    · have HR := Lib.hid (Cl.chk_l (s := s) (k := k) h2)
      have HU := Lib.hid hu
      clear hA hu
      go_enter Try.func17, Try.ntmps17
      go_wp2_with (go_at_call 29; refine (rUsable_any _ _).mono ?_; rintro e w' ⟨rfl, rfl⟩; rw [HU.out])
      go_ret
      exact ⟨ret_int HR.out.symm, below_new _ _⟩
    · have HU := Lib.hid hu
      have HK := Lib.hid (Cl.opB_seven k)
      have HA := Lib.hid (hA.alloc (Obj.cells #[.string s, .bool (k 0), .bool (k 1), .bool (k 2), .bool (k 3), .bool (k 4), .bool (k 5), .bool (k 6), .slice A hs.length c] 25))
      have HW := Lib.hid (box_week s k (.slice A hs.length c) w)
      have hR : Cl.chk s k hs = if (Cl.opB k 7 && Cl.asc (-1) hs) = true then 0 else 80 := by
        rw [Cl.opB_seven]
        have h3 : hs.length ≤ 2000 := by omega
        simp [Cl.chk, Cl.validC, hu, h3]
      have HR := Lib.hid hR
      clear hu hA hR
      go_enter Try.func17, Try.ntmps17
      go_wp2_with (go_at_call 29; refine (rUsable_any _ _).mono ?_; rintro e w' ⟨rfl, rfl⟩; rw [HU.out])
      go_loop [3, 4] (fun o t => ∃ i : Nat, i ≤ 7 ∧ t = .int .i64 i ∧ o = .bool (Cl.opB k i)) (fun _ t => 7 - (intOf t).toNat)
      case atStart => exact ⟨0, by omega, rfl, rfl⟩
      case round =>
        obtain ⟨i, hi, rfl, rfl⟩ := hrel
        by_cases hlt : i < 7
        · have hc := HW.out i hlt
          obtain ⟨o, ho⟩ : ∃ o, o = Cl.opB k i := ⟨_, rfl⟩
          have HO := Lib.hid ho
          rw [← ho]
          clear ho
          cases o
          all_goals
            go_wp2
            go_round
            case rel => exact ⟨i + 1, by omega, by go_num, by simp [Cl.opB, ← HO.out]⟩
            case measure => simp [intOf]; omega
        · obtain rfl : i = 7 := by omega
          obtain ⟨o, ho⟩ : ∃ o, o = Cl.opB k 7 := ⟨_, rfl⟩
          have HO := Lib.hid ho
          rw [← ho]
          clear ho hlt hi
          go_wp2
          go_loopw [5] (fun t wr => ∃ (j : Nat), j ≤ hs.length ∧ t = .int .i64 j ∧ Below (w.heap.size + 1) (w.alloc (Obj.cells #[.string s, .bool (k 0), .bool (k 1), .bool (k 2), .bool (k 3), .bool (k 4), .bool (k 5), .bool (k 6), .slice A hs.length c] 25)) wr ∧ Hid (Cl.asc (-1) hs = Cl.asc (Cl.lastOf hs j) (hs.drop j))) (fun t _ => hs.length - (intOf t).toNat)
          case atStart => exact ⟨0, by omega, rfl, Below.refl _ _, rfl⟩
          case round =>
            obtain ⟨j, hj, rfl, hb, HS⟩ := hrel
            have HB := Lib.hid (bup (below_new w (Obj.cells #[.string s, .bool (k 0), .bool (k 1), .bool (k 2), .bool (k 3), .bool (k 4), .bool (k 5), .bool (k 6), .slice A hs.length c] 25)) hb (by omega))
            have HB1 := Lib.hid hb
            have hA1 := HA.out.below (hb.mono (by simp))
            have hc8 : wr.cell? ⟨w.heap.size, 8, none⟩ = some (.slice A hs.length c) := by rw [hb.cell (p := ⟨w.heap.size, 8, none⟩) (by simp)]; simp
            clear hb
            by_cases hlt : j < hs.length
            · obtain ⟨b, off, rfl, hbl, hcell⟩ := hA1.at_ hlt
              have hcj := hcell j hlt
              have HD := Lib.hid (Cl.asc_drop (Cl.lastOf hs j) hs j hlt)
              obtain ⟨x, hx⟩ : ∃ x, x = hs.getD j 0 := ⟨_, rfl⟩
              rw [← hx] at hcj HD
              have HX := Lib.hid hx
              clear hx
              cases h2 : Dt.isDay x
              · have H2 := Lib.hid h2
                clear h2 hcell
                go_wp2
                go_quiet ((go_at_call 30; exact qleft (rOut_t H2.out _)))
                go_wp2
                go_ret
                have := HR.out; rw [HS.out, HD.out, H2.out] at this
                exact ⟨ret_int (by rw [this]; simp), below_drewN HB.out _⟩
              · have H2 := Lib.hid h2
                clear h2
                have HN := Lib.hid (show Cl.lastOf hs (j + 1) = x from by rw [Cl.lastOf_succ, HX.out])
                by_cases hj0 : 0 < j
                · have hcp := hcell (j - 1) (by omega)
                  have HL := Lib.hid (show Cl.lastOf hs j = hs.getD (j - 1) 0 from by unfold Cl.lastOf; rw [if_neg (by omega)])
                  obtain ⟨y, hy⟩ : ∃ y, y = hs.getD (j - 1) 0 := ⟨_, rfl⟩
                  rw [← hy] at hcp HL
                  have ej : ((j : Int) - 1).toNat = j - 1 := by omega
                  have hi0 : 0 ≤ (j : Int) - 1 := by omega
                  have hi1 : (j : Int) - 1 < hs.length := by omega
                  have hj0' : (0 : Int) < (j : Int) := by omega
                  clear hy hcell
                  by_cases hxy : x ≤ y
                  · have HXY := Lib.hid hxy
                    go_wp2
                    go_quiet ((go_at_call 30; exact qleft (rOut_f H2.out _)))
                    go_wp2
                    go_ret
                    have := HR.out; rw [HS.out, HD.out, H2.out, HL.out, decide_eq_false (by have := HXY.out; omega)] at this
                    exact ⟨ret_int (by rw [this]; simp), below_drewN HB.out _⟩
                  · have HXY := Lib.hid hxy
                    go_wp2
                    go_quiet ((go_at_call 30; exact qleft (rOut_f H2.out _)))
                    go_wp2
                    go_roundw
                    case rel => exact ⟨j + 1, by omega, by go_num, below_drewN HB1.out _, Lib.hid (by have := HS.out; rw [HD.out, H2.out, HL.out, decide_eq_true (by have := HXY.out; omega)] at this; rw [HN.out]; simpa using this)⟩
                    case measure => simp [intOf]; omega
                · obtain rfl : j = 0 := by omega
                  have hcj0 : wr.cell? ⟨b, off, none⟩ = some (.int .i64 x) := by simpa using hcj
                  clear hcell hcj
                  go_wp2
                  go_quiet ((go_at_call 30; exact qleft (rOut_f H2.out _)))
                  go_wp2
                  go_roundw
                  case rel => exact ⟨1, by omega, by go_num, below_drewN HB1.out _, Lib.hid (by
                    have := HS.out
                    have hx0 : 0 ≤ x := by have := H2.out; unfold Dt.isDay at this; simp at this; omega
                    rw [HD.out, H2.out, decide_eq_true (show Cl.lastOf hs 0 < x from by simp [Cl.lastOf]; omega)] at this
                    rw [HN.out]; simpa using this)⟩
                  case measure => simp [intOf]; omega
            · obtain rfl : j = hs.length := by omega
              have hr := HR.out
              rw [HS.out, List.drop_of_length_le (Nat.le_refl _), ← HO.out] at hr
              cases o
              · have HF := Lib.hid (show Cl.chk s k hs = 80 from by rw [hr]; simp)
                clear hr
                go_wp2
                go_ret
                exact ⟨ret_int HF.out.symm, HB.out⟩
              · have HF := Lib.hid (show Cl.chk s k hs = 0 from by rw [hr]; simp [Cl.asc])
                clear hr
                go_wp2
                go_ret
                exact ⟨ret_int HF.out.symm, HB.out⟩
end Go.Proofs.Ytaokneooejbfkaa
