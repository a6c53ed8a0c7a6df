/- Arguments that are lists of ints, ints; opened. -/
import Derived.Test.YteamjgifohamgaaShut
import Derived.Test.YteamjgifohamgaaEngA
import Derived.ChangeSlices
namespace Go.Proofs.Yteamjgifohamgaa
set_option maxRecDepth 8000
open Go.RowKit Go.ChangeShapes Go.WideShapes Go.ChangeAt Go.ChangeMaps Go.WideElems
theorem int_cells : Try.prog.cellsOf 3 = 1 := by kernel_rfl
theorem wf_i64 {n : Int} (h : (Lit.int .i64 n).wf = true) : -9223372036854775808 ≤ n ∧ n < 9223372036854775808 := by
  simp [Lit.wf, IntKind.min, IntKind.max, IntKind.signed, IntKind.bits] at h
  omega
section
variable {H : Type} {enc : TypeId × Value → H} {W : World} {base : Nat}
end
end Go.Proofs.Yteamjgifohamgaa
