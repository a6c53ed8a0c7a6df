/- The contract of date.ahead: the days of a year ahead of a month. -/
import Derived.Test.YtaokneooejbfkaaDateP
namespace Go.Proofs.Ytaokneooejbfkaa
set_option maxRecDepth 8000
open Go.RowKit
theorem ret_cum {y m a : Int} (h : a = Dt.cum y m) : Ending.returned (.int .i64 a) = .returned (.int .i64 (Dt.cum y m)) := by rw [h]
set_option maxHeartbeats 1000000 in
theorem ahead_c : AheadC := by
  intro y m w h0 h1 h2
  have : m = 1 ∨ m = 2 ∨ m = 3 ∨ m = 4 ∨ m = 5 ∨ m = 6 ∨ m = 7 ∨ m = 8 ∨ m = 9 ∨ m = 10 ∨ m = 11 ∨ m = 12 := by omega
  rcases this with h | h | h | h | h | h | h | h | h | h | h | h <;> subst h
  all_goals
    clear h1 h2
    go_enter Try.func53, Try.ntmps53
    go_wp2_with (go_at_call 62; refine (leap_any _ _ h0).mono ?_; rintro e w' ⟨rfl, rfl⟩)
    all_goals
      go_ret
      first
        | exact ⟨rfl, rfl⟩
        | exact ⟨ret_cum (by simp [Dt.cum, Dt.lp, *]), rfl⟩
end Go.Proofs.Ytaokneooejbfkaa
