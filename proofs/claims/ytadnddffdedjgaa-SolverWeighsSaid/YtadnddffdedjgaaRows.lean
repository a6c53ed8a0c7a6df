/-
  No cell of these rows narrows 'for every input' (looked for: loops, veiled, ifaces, maps, wideKeys, modest, calm, conditions, laid).
  DERIVED. THE GIVEN ROWS OF THIS SEAT. 8 by the template 'for every input the law returns true; each argument reads behind the call as it read before'; 0 by the template 'total and deterministic' (their statements: YtadnddffdedjgaaTotals.lean).
  GIVEN WITH THE SEED: the statements are not yours to turn. If you find one false, say at which input.
  Laid BY PROGRAM, IN A SANDBOX (cutbox-rows.mjs): the forced cells as the released guide's own fill.sh prints them over the translation 1ac429bab699fa2b… (all of the seat's roots in one cut). By AI agents, Wed Nov 11 2026. No macro, syntax, notation, axiom, sorry.
-/
import Derived.Test.YtadnddffdedjgaaChecked
import GoSem.Claim
import GoSem.ClaimJoined
import GoSem.ClaimMapViews
import Derived.JoinedTies
import Derived.KernelRfl
namespace Go.Proofs.Ytadnddffdedjgaa
/- THE CELL 'sum', in the pinned program and in every row, IS THE sha256 OF THE DUMP (.gsa) THAT YtadnddffdedjgaaProg.lean LOADS. Nothing in Lean hashes anything: it is a label: what it is worth is what the hold of that sum in a sandbox is worth. -/
noncomputable def Try.pinned : Pinned := { name := "ytadnddffdedjgaa", sum := "1ac429bab699fa2b50bea0cec07fefb4564dd92d2d15c2ee6ce46ef68e2effa7", checked := Try.checked }
namespace Rows
def none {H : Type} : Left H := { results := [], args := [] }

/-- 'fundadminlaw35.SolverSolves': WHATEVER THE INPUT: true; the input reads as it did. -/
def solverSolvesSpec : ChangeSpec := { name := "solverSolves", fn := fun _ => fun
  | [d1, d2] => { results := [.lit (.bool true)], args := [d1, d2] }
  | _ => none }
def solverSolvesRow : OpenClaim := { program := "ytadnddffdedjgaa", sum := "1ac429bab699fa2b50bea0cec07fefb4564dd92d2d15c2ee6ce46ef68e2effa7", func := "fundadmin/fundadminlaw35.SolverSolves", spec := "solverSolves", unfollowed := true, recurses := true, named := ["math/bits.overflowError"], apart := false }
def SolverSolvesSaid : Prop := solverSolvesRow.holds Try.pinned (OpenSpec.ofChange solverSolvesSpec)

/-- ITS FALSE NEIGHBOUR: 'it returns false'. Refute it at one input. -/
def solverSolvesWrong : ChangeSpec := { name := "solverSolves", fn := fun _ => fun
  | [d1, d2] => { results := [.lit (.bool false)], args := [d1, d2] }
  | _ => none }
def SolverSolvesWrongFalsely : Prop := solverSolvesRow.holds Try.pinned (OpenSpec.ofChange solverSolvesWrong)

/-- 'fundadminlaw35.SolverKeepsValue': WHATEVER THE INPUT: true; the input reads as it did. -/
def solverKeepsValueSpec : ChangeSpec := { name := "solverKeepsValue", fn := fun _ => fun
  | [d] => { results := [.lit (.bool true)], args := [d] }
  | _ => none }
def solverKeepsValueRow : OpenClaim := { program := "ytadnddffdedjgaa", sum := "1ac429bab699fa2b50bea0cec07fefb4564dd92d2d15c2ee6ce46ef68e2effa7", func := "fundadmin/fundadminlaw35.SolverKeepsValue", spec := "solverKeepsValue", unfollowed := true, recurses := true, named := ["math/bits.overflowError"], apart := false }
def SolverKeepsValueSaid : Prop := solverKeepsValueRow.holds Try.pinned (OpenSpec.ofChange solverKeepsValueSpec)

/-- ITS FALSE NEIGHBOUR: 'it returns false'. Refute it at one input. -/
def solverKeepsValueWrong : ChangeSpec := { name := "solverKeepsValue", fn := fun _ => fun
  | [d] => { results := [.lit (.bool false)], args := [d] }
  | _ => none }
def SolverKeepsValueWrongFalsely : Prop := solverKeepsValueRow.holds Try.pinned (OpenSpec.ofChange solverKeepsValueWrong)

/-- 'fundadminlaw35.SolverIsLinear': WHATEVER THE INPUT: true; the input reads as it did. -/
def solverIsLinearSpec : ChangeSpec := { name := "solverIsLinear", fn := fun _ => fun
  | [d] => { results := [.lit (.bool true)], args := [d] }
  | _ => none }
def solverIsLinearRow : OpenClaim := { program := "ytadnddffdedjgaa", sum := "1ac429bab699fa2b50bea0cec07fefb4564dd92d2d15c2ee6ce46ef68e2effa7", func := "fundadmin/fundadminlaw35.SolverIsLinear", spec := "solverIsLinear", unfollowed := true, recurses := true, named := ["math/bits.overflowError"], apart := false }
def SolverIsLinearSaid : Prop := solverIsLinearRow.holds Try.pinned (OpenSpec.ofChange solverIsLinearSpec)

/-- ITS FALSE NEIGHBOUR: 'it returns false'. Refute it at one input. -/
def solverIsLinearWrong : ChangeSpec := { name := "solverIsLinear", fn := fun _ => fun
  | [d] => { results := [.lit (.bool false)], args := [d] }
  | _ => none }
def SolverIsLinearWrongFalsely : Prop := solverIsLinearRow.holds Try.pinned (OpenSpec.ofChange solverIsLinearWrong)

/-- 'fundadminlaw35.SolverIgnoresNumbers': WHATEVER THE INPUT: true; the input reads as it did. -/
def solverIgnoresNumbersSpec : ChangeSpec := { name := "solverIgnoresNumbers", fn := fun _ => fun
  | [d1, d2, d3] => { results := [.lit (.bool true)], args := [d1, d2, d3] }
  | _ => none }
def solverIgnoresNumbersRow : OpenClaim := { program := "ytadnddffdedjgaa", sum := "1ac429bab699fa2b50bea0cec07fefb4564dd92d2d15c2ee6ce46ef68e2effa7", func := "fundadmin/fundadminlaw35.SolverIgnoresNumbers", spec := "solverIgnoresNumbers", unfollowed := true, recurses := true, named := ["math/bits.overflowError"], apart := false }
def SolverIgnoresNumbersSaid : Prop := solverIgnoresNumbersRow.holds Try.pinned (OpenSpec.ofChange solverIgnoresNumbersSpec)

/-- ITS FALSE NEIGHBOUR: 'it returns false'. Refute it at one input. -/
def solverIgnoresNumbersWrong : ChangeSpec := { name := "solverIgnoresNumbers", fn := fun _ => fun
  | [d1, d2, d3] => { results := [.lit (.bool false)], args := [d1, d2, d3] }
  | _ => none }
def SolverIgnoresNumbersWrongFalsely : Prop := solverIgnoresNumbersRow.holds Try.pinned (OpenSpec.ofChange solverIgnoresNumbersWrong)

/-- 'fundadminlaw35.SolverRises': WHATEVER THE INPUT: true; the input reads as it did. -/
def solverRisesSpec : ChangeSpec := { name := "solverRises", fn := fun _ => fun
  | [d1, d2, d3] => { results := [.lit (.bool true)], args := [d1, d2, d3] }
  | _ => none }
def solverRisesRow : OpenClaim := { program := "ytadnddffdedjgaa", sum := "1ac429bab699fa2b50bea0cec07fefb4564dd92d2d15c2ee6ce46ef68e2effa7", func := "fundadmin/fundadminlaw35.SolverRises", spec := "solverRises", unfollowed := true, recurses := true, named := ["math/bits.overflowError"], apart := false }
def SolverRisesSaid : Prop := solverRisesRow.holds Try.pinned (OpenSpec.ofChange solverRisesSpec)

/-- ITS FALSE NEIGHBOUR: 'it returns false'. Refute it at one input. -/
def solverRisesWrong : ChangeSpec := { name := "solverRises", fn := fun _ => fun
  | [d1, d2, d3] => { results := [.lit (.bool false)], args := [d1, d2, d3] }
  | _ => none }
def SolverRisesWrongFalsely : Prop := solverRisesRow.holds Try.pinned (OpenSpec.ofChange solverRisesWrong)

/-- 'fundadminlaw35.SolverWeighs': WHATEVER THE INPUT: true; the input reads as it did. -/
def solverWeighsSpec : ChangeSpec := { name := "solverWeighs", fn := fun _ => fun
  | [d1, d2, d3] => { results := [.lit (.bool true)], args := [d1, d2, d3] }
  | _ => none }
def solverWeighsRow : OpenClaim := { program := "ytadnddffdedjgaa", sum := "1ac429bab699fa2b50bea0cec07fefb4564dd92d2d15c2ee6ce46ef68e2effa7", func := "fundadmin/fundadminlaw35.SolverWeighs", spec := "solverWeighs", unfollowed := true, recurses := true, named := ["math/bits.overflowError"], apart := false }
def SolverWeighsSaid : Prop := solverWeighsRow.holds Try.pinned (OpenSpec.ofChange solverWeighsSpec)

/-- ITS FALSE NEIGHBOUR: 'it returns false'. Refute it at one input. -/
def solverWeighsWrong : ChangeSpec := { name := "solverWeighs", fn := fun _ => fun
  | [d1, d2, d3] => { results := [.lit (.bool false)], args := [d1, d2, d3] }
  | _ => none }
def SolverWeighsWrongFalsely : Prop := solverWeighsRow.holds Try.pinned (OpenSpec.ofChange solverWeighsWrong)

/-- 'fundadminlaw35.SolverOfMadeFunds': WHATEVER THE INPUT: true; the input reads as it did. -/
def solverOfMadeFundsSpec : ChangeSpec := { name := "solverOfMadeFunds", fn := fun _ => fun
  | [d1, d2] => { results := [.lit (.bool true)], args := [d1, d2] }
  | _ => none }
def solverOfMadeFundsRow : OpenClaim := { program := "ytadnddffdedjgaa", sum := "1ac429bab699fa2b50bea0cec07fefb4564dd92d2d15c2ee6ce46ef68e2effa7", func := "fundadmin/fundadminlaw35.SolverOfMadeFunds", spec := "solverOfMadeFunds", unfollowed := true, recurses := true, named := ["math/bits.overflowError"], apart := false }
def SolverOfMadeFundsSaid : Prop := solverOfMadeFundsRow.holds Try.pinned (OpenSpec.ofChange solverOfMadeFundsSpec)

/-- ITS FALSE NEIGHBOUR: 'it returns false'. Refute it at one input. -/
def solverOfMadeFundsWrong : ChangeSpec := { name := "solverOfMadeFunds", fn := fun _ => fun
  | [d1, d2] => { results := [.lit (.bool false)], args := [d1, d2] }
  | _ => none }
def SolverOfMadeFundsWrongFalsely : Prop := solverOfMadeFundsRow.holds Try.pinned (OpenSpec.ofChange solverOfMadeFundsWrong)

/-- 'fundadminlaw35.SolverIsOnlyOne': WHATEVER THE INPUT: true; the input reads as it did. -/
def solverIsOnlyOneSpec : ChangeSpec := { name := "solverIsOnlyOne", fn := fun _ => fun
  | [d1, d2, d3] => { results := [.lit (.bool true)], args := [d1, d2, d3] }
  | _ => none }
def solverIsOnlyOneRow : OpenClaim := { program := "ytadnddffdedjgaa", sum := "1ac429bab699fa2b50bea0cec07fefb4564dd92d2d15c2ee6ce46ef68e2effa7", func := "fundadmin/fundadminlaw35.SolverIsOnlyOne", spec := "solverIsOnlyOne", unfollowed := true, recurses := true, named := ["math/bits.overflowError"], apart := false }
def SolverIsOnlyOneSaid : Prop := solverIsOnlyOneRow.holds Try.pinned (OpenSpec.ofChange solverIsOnlyOneSpec)

/-- ITS FALSE NEIGHBOUR: 'it returns false'. Refute it at one input. -/
def solverIsOnlyOneWrong : ChangeSpec := { name := "solverIsOnlyOne", fn := fun _ => fun
  | [d1, d2, d3] => { results := [.lit (.bool false)], args := [d1, d2, d3] }
  | _ => none }
def SolverIsOnlyOneWrongFalsely : Prop := solverIsOnlyOneRow.holds Try.pinned (OpenSpec.ofChange solverIsOnlyOneWrong)

/- THE SECOND FORM. 'bulk': how many values and letters a reading holds, each counted each time it is reached (what is shared counts as often as it is met; a slice's spare places count too). A statement '..UptoSaid' is the law's where the arguments, and the package variables that the reading takes, are together of bulk at most 1048576: NARROWER than '..Said'. Prove '..Said' where nothing that the law and all that it calls make is longer than what came in: it says more and counts as full. Else prove '..UptoSaid'. A law counts once. -/
mutual
def uptoBulk {H : Type} : DataW H → Nat
  | .lit (.string bytes) => bytes.length + 1
  | .lit _ => 1
  | .nil => 1
  | .ptr d => uptoBulk d + 1
  | .slice elems spare => uptoBulkAll elems + uptoBulkAll spare + 1
  | .agg parts => uptoBulkAll parts + 1
  | .iface _ d => uptoBulk d + 1
  | .map entries => uptoBulkEntries entries + 1
  | .held _ => 1
def uptoBulkAll {H : Type} : List (DataW H) → Nat
  | [] => 0
  | d :: r => uptoBulk d + uptoBulkAll r
def uptoBulkEntries {H : Type} : List (Lit × DataW H) → Nat
  | [] => 0
  | x :: r => uptoBulkEntry x + uptoBulkEntries r
def uptoBulkEntry {H : Type} : Lit × DataW H → Nat
  | (.string bytes, d) => bytes.length + uptoBulk d + 1
  | (_, d) => uptoBulk d + 1
 end
def uptoSmall : (H : Type) → List (DataW H) → Bool := fun _ ds => decide (uptoBulkAll ds ≤ 1048576)
def OpenSpec.upto (s : _root_.Go.ChangeSpec) : _root_.Go.OpenSpec := { _root_.Go.OpenSpec.ofChange s with cond := some uptoSmall }

/-- 'fundadminlaw35.SolverSolves', WHERE WHAT IT READS IS OF BULK AT MOST 1048576: true; the input reads as it did. -/
def solverSolvesUptoRow : OpenClaim := { program := "ytadnddffdedjgaa", sum := "1ac429bab699fa2b50bea0cec07fefb4564dd92d2d15c2ee6ce46ef68e2effa7", func := "fundadmin/fundadminlaw35.SolverSolves", spec := "solverSolves", unfollowed := true, recurses := true, named := ["math/bits.overflowError"], apart := false, narrowed := true }
def SolverSolvesUptoSaid : Prop := solverSolvesUptoRow.holds Try.pinned (OpenSpec.upto solverSolvesSpec)

/-- 'fundadminlaw35.SolverKeepsValue', WHERE WHAT IT READS IS OF BULK AT MOST 1048576: true; the input reads as it did. -/
def solverKeepsValueUptoRow : OpenClaim := { program := "ytadnddffdedjgaa", sum := "1ac429bab699fa2b50bea0cec07fefb4564dd92d2d15c2ee6ce46ef68e2effa7", func := "fundadmin/fundadminlaw35.SolverKeepsValue", spec := "solverKeepsValue", unfollowed := true, recurses := true, named := ["math/bits.overflowError"], apart := false, narrowed := true }
def SolverKeepsValueUptoSaid : Prop := solverKeepsValueUptoRow.holds Try.pinned (OpenSpec.upto solverKeepsValueSpec)

/-- 'fundadminlaw35.SolverIsLinear', WHERE WHAT IT READS IS OF BULK AT MOST 1048576: true; the input reads as it did. -/
def solverIsLinearUptoRow : OpenClaim := { program := "ytadnddffdedjgaa", sum := "1ac429bab699fa2b50bea0cec07fefb4564dd92d2d15c2ee6ce46ef68e2effa7", func := "fundadmin/fundadminlaw35.SolverIsLinear", spec := "solverIsLinear", unfollowed := true, recurses := true, named := ["math/bits.overflowError"], apart := false, narrowed := true }
def SolverIsLinearUptoSaid : Prop := solverIsLinearUptoRow.holds Try.pinned (OpenSpec.upto solverIsLinearSpec)

/-- 'fundadminlaw35.SolverIgnoresNumbers', WHERE WHAT IT READS IS OF BULK AT MOST 1048576: true; the input reads as it did. -/
def solverIgnoresNumbersUptoRow : OpenClaim := { program := "ytadnddffdedjgaa", sum := "1ac429bab699fa2b50bea0cec07fefb4564dd92d2d15c2ee6ce46ef68e2effa7", func := "fundadmin/fundadminlaw35.SolverIgnoresNumbers", spec := "solverIgnoresNumbers", unfollowed := true, recurses := true, named := ["math/bits.overflowError"], apart := false, narrowed := true }
def SolverIgnoresNumbersUptoSaid : Prop := solverIgnoresNumbersUptoRow.holds Try.pinned (OpenSpec.upto solverIgnoresNumbersSpec)

/-- 'fundadminlaw35.SolverRises', WHERE WHAT IT READS IS OF BULK AT MOST 1048576: true; the input reads as it did. -/
def solverRisesUptoRow : OpenClaim := { program := "ytadnddffdedjgaa", sum := "1ac429bab699fa2b50bea0cec07fefb4564dd92d2d15c2ee6ce46ef68e2effa7", func := "fundadmin/fundadminlaw35.SolverRises", spec := "solverRises", unfollowed := true, recurses := true, named := ["math/bits.overflowError"], apart := false, narrowed := true }
def SolverRisesUptoSaid : Prop := solverRisesUptoRow.holds Try.pinned (OpenSpec.upto solverRisesSpec)

/-- 'fundadminlaw35.SolverWeighs', WHERE WHAT IT READS IS OF BULK AT MOST 1048576: true; the input reads as it did. -/
def solverWeighsUptoRow : OpenClaim := { program := "ytadnddffdedjgaa", sum := "1ac429bab699fa2b50bea0cec07fefb4564dd92d2d15c2ee6ce46ef68e2effa7", func := "fundadmin/fundadminlaw35.SolverWeighs", spec := "solverWeighs", unfollowed := true, recurses := true, named := ["math/bits.overflowError"], apart := false, narrowed := true }
def SolverWeighsUptoSaid : Prop := solverWeighsUptoRow.holds Try.pinned (OpenSpec.upto solverWeighsSpec)

/-- 'fundadminlaw35.SolverOfMadeFunds', WHERE WHAT IT READS IS OF BULK AT MOST 1048576: true; the input reads as it did. -/
def solverOfMadeFundsUptoRow : OpenClaim := { program := "ytadnddffdedjgaa", sum := "1ac429bab699fa2b50bea0cec07fefb4564dd92d2d15c2ee6ce46ef68e2effa7", func := "fundadmin/fundadminlaw35.SolverOfMadeFunds", spec := "solverOfMadeFunds", unfollowed := true, recurses := true, named := ["math/bits.overflowError"], apart := false, narrowed := true }
def SolverOfMadeFundsUptoSaid : Prop := solverOfMadeFundsUptoRow.holds Try.pinned (OpenSpec.upto solverOfMadeFundsSpec)

/-- 'fundadminlaw35.SolverIsOnlyOne', WHERE WHAT IT READS IS OF BULK AT MOST 1048576: true; the input reads as it did. -/
def solverIsOnlyOneUptoRow : OpenClaim := { program := "ytadnddffdedjgaa", sum := "1ac429bab699fa2b50bea0cec07fefb4564dd92d2d15c2ee6ce46ef68e2effa7", func := "fundadmin/fundadminlaw35.SolverIsOnlyOne", spec := "solverIsOnlyOne", unfollowed := true, recurses := true, named := ["math/bits.overflowError"], apart := false, narrowed := true }
def SolverIsOnlyOneUptoSaid : Prop := solverIsOnlyOneUptoRow.holds Try.pinned (OpenSpec.upto solverIsOnlyOneSpec)

end Rows
end Go.Proofs.Ytadnddffdedjgaa
