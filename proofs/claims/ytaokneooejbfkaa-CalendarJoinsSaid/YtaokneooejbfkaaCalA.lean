/- The contracts of calendar.usable, valid, found and zone.Check at a bare name. -/
import Derived.Test.YtaokneooejbfkaaName
import Derived.Test.YtaokneooejbfkaaDateMath
namespace Go.Proofs.Ytaokneooejbfkaa
set_option maxRecDepth 8000
open Go.RowKit

theorem zCheck_name (s : ByteArray) (w : World) :
    Calls Try.prog 38 #[.agg #[.string s, .int .i64 0, .slice none 0 0]] w fun e w' => e = .returned (.int .i64 (if Nm.usableB s = true then 0 else 70)) ∧ Below w.heap.size w w' := by
  cases hu : Nm.usableB s
  · have HU := Lib.hid hu
    clear hu
    go_enter Try.func38, Try.ntmps38
    go_wp2_with (go_at_call 54; refine (zusable_any _ _).mono ?_; rintro e w' ⟨rfl, rfl⟩; rw [HU.out])
    go_ret
    exact ⟨rfl, (Below.refl _ _).alloc (Nat.le_refl _) _⟩
  · have HU := Lib.hid hu
    clear hu
    go_enter Try.func38, Try.ntmps38
    go_wp2_with (first | (go_at_call 54; refine (zusable_any _ _).mono ?_; rintro e w' ⟨rfl, rfl⟩; rw [HU.out]) | (go_at_call 55; refine (zpossible_any _ _).mono ?_; rintro e w' ⟨rfl, rfl⟩))
    refine wp_loop_rounds 1 ?_
    rw [rounds_succ]
    go_wp2
    go_ret
    exact ⟨rfl, (Below.refl _ _).alloc (Nat.le_refl _) _⟩

theorem cusable_any (s : ByteArray) (w : World) :
    Calls Try.prog 25 #[.string s] w fun e w' => e = .returned (.bool (Nm.usableB s)) ∧ Below w.heap.size w w' := by
  cases hu : Nm.usableB s
  all_goals
    have HU := Lib.hid hu
    clear hu
    go_enter Try.func25, Try.ntmps25
    go_wp2_with (go_at_call 38; refine (zCheck_name _ _).mono ?_; rintro e w' ⟨rfl, hb⟩; rw [HU.out])
    go_ret
    exact ⟨by simp, by assumption⟩

theorem cvalid_any (n : Int) (w : World) :
    Calls Try.prog 26 #[.int .i64 n] w fun e w' => e = .returned (.bool (Dt.isDay n)) ∧ w = w' := by
  unfold Dt.isDay
  by_cases h : 0 ≤ n
  · by_cases h2 : n ≤ 73048
    all_goals
      go_enter Try.func26, Try.ntmps26
      go_wp2
      go_ret
      exact ⟨ret_bool (by simp; omega), rfl⟩
  · go_enter Try.func26, Try.ntmps26
    go_wp2
    go_ret
    exact ⟨ret_bool (by simp; omega), rfl⟩

theorem found_yes (n : Int) (w : World) :
    Calls Try.prog 32 #[.int .i64 n, .bool true] w fun e w' => e = .returned (.tuple #[.int .i64 n, .int .i64 0]) ∧ w = w' := by
  go_enter Try.func32, Try.ntmps32
  go_wp2
  go_ret2
  exact ⟨rfl, rfl⟩
theorem found_no (n : Int) (w : World) :
    Calls Try.prog 32 #[.int .i64 n, .bool false] w fun e w' => e = .returned (.tuple #[.int .i64 0, .int .i64 81]) ∧ w = w' := by
  go_enter Try.func32, Try.ntmps32
  go_wp2
  go_ret2
  exact ⟨rfl, rfl⟩
end Go.Proofs.Ytaokneooejbfkaa
