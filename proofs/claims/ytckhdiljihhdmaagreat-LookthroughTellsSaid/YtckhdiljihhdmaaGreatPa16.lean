/- Walks, and plain facts for them. -/
import Derived.ChangeSlices
import Derived.Test.YtckhdiljihhdmaaGreatPa15
import Derived.Test.YtckhdiljihhdmaaGreatPa01
namespace Go.Proofs.YtckhdiljihhdmaaGreat
set_option maxRecDepth 8000
open Go.RowKit Go.ChangeShapes Go.WideShapes Go.ChangeAt Go.ChangeMaps Go.WideElems
theorem int_cells : Tryz.prog.cellsOf 3 = 1 := by kernel_rfl
theorem wf_i64 {n : Int} (h : (Lit.int .i64 n).wf = true) : -9223372036854775808 ≤ n ∧ n < 9223372036854775808 := by
 simp [Lit.wf, IntKind.min, IntKind.max, IntKind.signed, IntKind.bits] at h
 omega
end Go.Proofs.YtckhdiljihhdmaaGreat
