/- The contracts of zone.usable and of the reference's Usable. -/
import Derived.Test.YtaokneooejbfkaaEngA
import Derived.Test.YtaokneooejbfkaaNameMath
namespace Go.Proofs.Ytaokneooejbfkaa
set_option maxRecDepth 8000
open Go.RowKit

set_option maxHeartbeats 1000000 in
theorem zusable_any (s : ByteArray) (w : World) :
    Calls Try.prog 54 #[.string s] w fun e w' => e = .returned (.bool (Nm.usableB s)) ∧ w = w' := by
  by_cases hz : s.size = 0
  · rw [Nm.usable_no0 hz]
    go_enter Try.func54, Try.ntmps54
    go_wp2
    go_ret
    exact ⟨rfl, rfl⟩
  · have h0 : 0 < s.size := by omega
    by_cases h16 : 16 < s.size
    · rw [Nm.usable_no16 h16]
      have hb : ((s.size : Int) == 0) = false := beq_eq_false_iff_ne.2 (by omega)
      clear hz
      go_enter Try.func54, Try.ntmps54
      go_wp2
      go_ret
      exact ⟨rfl, rfl⟩
    · have hb : ((s.size : Int) == 0) = false := beq_eq_false_iff_ne.2 (by omega)
      clear hz
      by_cases hf : 97 ≤ (s[0].toNat : Int) ∧ (s[0].toNat : Int) ≤ 122
      · obtain ⟨f1, f2⟩ := hf
        go_enter Try.func54, Try.ntmps54
        go_wp2
        go_loop [24] (fun t => ∃ k : Nat, k ≤ s.size ∧ t = .int .i64 k ∧ Hid (∀ j, (h : j < s.size) → j < k → Nm.okB s[j] = true)) (fun t => s.size - (intOf t).toNat)
        case atStart => exact ⟨0, by omega, rfl, fun j _ h => by omega⟩
        case round =>
          obtain ⟨k, hk, rfl, HO⟩ := hrel
          by_cases hlt : k < s.size
          · rcases Nm.okB_cases s[k] with ⟨ho, hc⟩ | ⟨ho, hc⟩
            · have HN := Lib.hid (Nm.usable_noat hlt ho)
              clear ho f1 f2
              rcases hc with hc | hc | ⟨hc, hc2⟩
              all_goals
                go_wp2
                go_ret
                rw [HN.out]
                exact ⟨rfl, rfl⟩
            · have HA := Lib.hid ho
              clear ho f1 f2
              rcases hc with ⟨hc, hc2⟩ | ⟨hc, hc2⟩
              all_goals
                go_wp2
                go_round
                case rel => exact ⟨k + 1, by omega, by go_num, fun j h hj => by
                  by_cases e : j = k
                  · subst e; exact HA.out
                  · exact HO.out j h (by omega)⟩
                case measure => simp [intOf]; omega
          · have HY := Lib.hid (Nm.usable_yes h0 (by omega) ⟨f1, f2⟩ (fun j h => HO.out j h (by omega)))
            clear f1 f2
            go_wp2
            go_ret
            rw [HY.out]
            exact ⟨rfl, rfl⟩
      · rw [Nm.usable_nofirst h0 hf]
        have hf' : (s[0].toNat : Int) < 97 ∨ 122 < (s[0].toNat : Int) := by omega
        clear hf
        rcases hf' with hf | hf
        all_goals
          go_enter Try.func54, Try.ntmps54
          go_wp2
          go_ret
          exact ⟨rfl, rfl⟩

set_option maxHeartbeats 1000000 in
theorem rUsable_any (s : ByteArray) (w : World) :
    Calls Try.prog 29 #[.string s] w fun e w' => e = .returned (.bool (Nm.usableB s)) ∧ w = w' := by
  by_cases hz : s.size = 0
  · rw [Nm.usable_no0 hz]
    go_enter Try.func29, Try.ntmps29
    go_wp2
    go_ret
    exact ⟨rfl, rfl⟩
  · have h0 : 0 < s.size := by omega
    by_cases h16 : 16 < s.size
    · rw [Nm.usable_no16 h16]
      clear hz
      go_enter Try.func29, Try.ntmps29
      go_wp2
      go_ret
      exact ⟨rfl, rfl⟩
    · clear hz
      by_cases hf : 48 ≤ (s[0].toNat : Int) ∧ (s[0].toNat : Int) ≤ 57
      · rw [Nm.usable_nofirst h0 (by omega)]
        obtain ⟨f1, f2⟩ := hf
        go_enter Try.func29, Try.ntmps29
        go_wp2
        go_ret
        exact ⟨rfl, rfl⟩
      · have HF := Lib.hid hf
        have hf' : (s[0].toNat : Int) < 48 ∨ 57 < (s[0].toNat : Int) := by omega
        clear hf
        rcases hf' with hf | hf
        all_goals
          go_enter Try.func29, Try.ntmps29
          go_wp2
          go_loop [3] (fun t => ∃ k : Nat, k ≤ s.size ∧ t = .int .i64 k ∧ Hid (∀ j, (h : j < s.size) → j < k → Nm.okB s[j] = true)) (fun t => s.size - (intOf t).toNat)
          case atStart => exact ⟨0, by omega, rfl, fun j _ h => by omega⟩
          case round =>
            obtain ⟨k, hk, rfl, HO⟩ := hrel
            by_cases hlt : k < s.size
            · rcases Nm.okB_cases s[k] with ⟨ho, hc⟩ | ⟨ho, hc⟩
              · have HN := Lib.hid (Nm.usable_noat hlt ho)
                clear ho hf
                rcases hc with hc | hc | ⟨hc, hc2⟩
                all_goals
                  go_wp2
                  go_ret
                  rw [HN.out]
                  exact ⟨rfl, rfl⟩
              · have HA := Lib.hid ho
                clear ho hf
                rcases hc with ⟨hc, hc2⟩ | ⟨hc, hc2⟩
                all_goals
                  go_wp2
                  go_round
                  case rel => exact ⟨k + 1, by omega, by go_num, fun j h hj => by
                    by_cases e : j = k
                    · subst e; exact HA.out
                    · exact HO.out j h (by omega)⟩
                  case measure => simp [intOf]; omega
            · have HY := Lib.hid (Nm.usable_yes h0 (by omega) (by
                have := HF.out
                rcases Nm.okB_cases s[0] with ⟨ho, _⟩ | ⟨_, hc⟩
                · rw [HO.out 0 h0 (by omega)] at ho; cases ho
                · omega) (fun j h => HO.out j h (by omega)))
              clear hf
              go_wp2
              go_ret
              rw [HY.out]
              exact ⟨rfl, rfl⟩

theorem zpossible_any (n : Int) (w : World) :
    Calls Try.prog 55 #[.int .i64 n] w fun e w' => e = .returned (.bool (decide (-900 ≤ n) && decide (n ≤ 900))) ∧ w = w' := by
  by_cases h : -900 ≤ n
  · by_cases h2 : n ≤ 900
    all_goals
      go_enter Try.func55, Try.ntmps55
      go_wp2
      go_ret
      exact ⟨ret_bool (by simp; omega), rfl⟩
  · go_enter Try.func55, Try.ntmps55
    go_wp2
    go_ret
    exact ⟨ret_bool (by simp; omega), rfl⟩

end Go.Proofs.Ytaokneooejbfkaa
