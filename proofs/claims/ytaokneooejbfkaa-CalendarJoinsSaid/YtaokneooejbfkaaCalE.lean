/- '==' of two arrays of seven bools. -/
import Derived.Test.YtaokneooejbfkaaEngA
import Derived.ChangeKeysEq
import Derived.Test.YtaokneooejbfkaaCalMath
namespace Go.Proofs.Ytaokneooejbfkaa
set_option maxRecDepth 8000
open Go.RowKit
theorem bool_info : ∃ i, Try.prog.info? 4 = some i := Option.isSome_iff_exists.1 (by kernel_rfl)
theorem bool_cells : Try.prog.cellsOf 4 = 1 := by kernel_rfl
theorem eq_seven (k : Nat → Bool) (W : World) : (Op.equalIn 10000 23 (.agg #[.bool (k 0), .bool (k 1), .bool (k 2), .bool (k 3), .bool (k 4), .bool (k 5), .bool (k 6)]) (.agg #[.bool true, .bool true, .bool true, .bool true, .bool true, .bool true, .bool true])).run Try.prog W = .ok (Cl.allK k) W := by
  obtain ⟨i, hi⟩ := bool_info
  have hb := fun a b => run_equalIn_bool' (P := Try.prog) W 9998 4 a b Try.underlying4
  rw [run_equalIn_array W 9999 _ _ Try.underlying23 hi, bool_cells]
  have hr : List.range 7 = [0, 1, 2, 3, 4, 5, 6] := by decide
  rw [hr]
  simp [Op.eqItems, part, hb]
  unfold Cl.allK
  cases k 0 <;> cases k 1 <;> cases k 2 <;> cases k 3 <;> cases k 4 <;> cases k 5 <;> cases k 6 <;> rfl
end Go.Proofs.Ytaokneooejbfkaa
