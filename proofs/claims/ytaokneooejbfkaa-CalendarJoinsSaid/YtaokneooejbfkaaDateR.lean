/- The contracts of the reference of layer 5. -/
import Derived.Test.YtaokneooejbfkaaEngA
import Derived.Test.YtaokneooejbfkaaDateMath
namespace Go.Proofs.Ytaokneooejbfkaa
set_option maxRecDepth 8000
open Go.RowKit

theorem rOut_any (n : Int) (w : World) :
    Calls Try.prog 30 #[.int .i64 n] w fun e w' => e = .returned (.bool (!Dt.isDay n)) ∧ w = w' := by
  unfold Dt.isDay
  by_cases h : n < 0
  · go_enter Try.func30, Try.ntmps30
    go_wp2
    go_ret
    exact ⟨ret_bool (by first | (simp; done) | (simp; omega)), rfl⟩
  · by_cases h2 : 73048 < n
    all_goals
      go_enter Try.func30, Try.ntmps30
      go_wp2
      go_ret
      exact ⟨ret_bool (by first | (simp; done) | (simp; omega)), rfl⟩

end Go.Proofs.Ytaokneooejbfkaa
