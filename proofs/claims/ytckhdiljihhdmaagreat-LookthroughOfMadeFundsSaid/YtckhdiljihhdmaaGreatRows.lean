/-
  No cell of these rows narrows 'for every input' (looked for: loops, veiled, ifaces, maps, wideKeys, modest, calm, conditions, laid).
  DERIVED. THE GIVEN ROWS OF THIS SEAT. 4 by the template 'for every input the law returns true; each argument reads behind the call as it read before'; 0 by the template 'total and deterministic' (their statements: YtckhdiljihhdmaaGreatTotals.lean).
  GIVEN WITH THE SEED: the statements are not yours to turn. If you find one false, say at which input.
  Laid BY PROGRAM, IN A SANDBOX (cutbox-rows.mjs): the forced cells as the released guide's own fill.sh prints them over the translation 9fab05a305c2c157… (all of the seat's roots in one cut). By AI agents, Wed Nov 11 2026. No macro, syntax, notation, axiom, sorry.
-/
import Derived.Test.YtckhdiljihhdmaaGreatChecked
import GoSem.Claim
import GoSem.ClaimJoined
import GoSem.ClaimMapViews
import Derived.JoinedTies
import Derived.KernelRfl
namespace Go.Proofs.YtckhdiljihhdmaaGreat
/- THE CELL 'sum', in the pinned program and in every row, IS THE sha256 OF THE DUMP (.gsa) THAT YtckhdiljihhdmaaGreatProg.lean LOADS. Nothing in Lean hashes anything: it is a label: what it is worth is what the hold of that sum in a sandbox is worth. -/
noncomputable def Tryz.pinned : Pinned := { name := "ytckhdiljihhdmaagreat", sum := "9fab05a305c2c15749920082556333c07733589f492988a52d1ae2c47dc964c9", checked := Tryz.checked }
namespace Rows
def none {H : Type} : Left H := { results := [], args := [] }

/-- 'fundadminlaw36.LookthroughTells': WHATEVER THE INPUT: true; the input reads as it did. -/
def lookthroughTellsSpec : ChangeSpec := { name := "lookthroughTells", fn := fun _ => fun
  | [d1, d2, d3, d4] => { results := [.lit (.bool true)], args := [d1, d2, d3, d4] }
  | _ => none }
def lookthroughTellsRow : OpenClaim := { program := "ytckhdiljihhdmaagreat", sum := "9fab05a305c2c15749920082556333c07733589f492988a52d1ae2c47dc964c9", func := "fundadmin/fundadminlaw36.LookthroughTells", spec := "lookthroughTells", inPlace := ["internal/bytealg.abigen_runtime_cmpstring"], unfollowed := true, recurses := true, named := ["math/bits.overflowError"], apart := false }
def LookthroughTellsSaid : Prop := lookthroughTellsRow.holds Tryz.pinned (OpenSpec.ofChange lookthroughTellsSpec)

/-- ITS FALSE NEIGHBOUR: 'it returns false'. Refute it at one input. -/
def lookthroughTellsWrong : ChangeSpec := { name := "lookthroughTells", fn := fun _ => fun
  | [d1, d2, d3, d4] => { results := [.lit (.bool false)], args := [d1, d2, d3, d4] }
  | _ => none }
def LookthroughTellsWrongFalsely : Prop := lookthroughTellsRow.holds Tryz.pinned (OpenSpec.ofChange lookthroughTellsWrong)

/-- 'fundadminlaw36.LookthroughOfMadeFunds': WHATEVER THE INPUT: true; the input reads as it did. -/
def lookthroughOfMadeFundsSpec : ChangeSpec := { name := "lookthroughOfMadeFunds", fn := fun _ => fun
  | [d1, d2, d3, d4] => { results := [.lit (.bool true)], args := [d1, d2, d3, d4] }
  | _ => none }
def lookthroughOfMadeFundsRow : OpenClaim := { program := "ytckhdiljihhdmaagreat", sum := "9fab05a305c2c15749920082556333c07733589f492988a52d1ae2c47dc964c9", func := "fundadmin/fundadminlaw36.LookthroughOfMadeFunds", spec := "lookthroughOfMadeFunds", inPlace := ["internal/bytealg.abigen_runtime_cmpstring"], unfollowed := true, recurses := true, named := ["math/bits.overflowError"], apart := false }
def LookthroughOfMadeFundsSaid : Prop := lookthroughOfMadeFundsRow.holds Tryz.pinned (OpenSpec.ofChange lookthroughOfMadeFundsSpec)

/-- ITS FALSE NEIGHBOUR: 'it returns false'. Refute it at one input. -/
def lookthroughOfMadeFundsWrong : ChangeSpec := { name := "lookthroughOfMadeFunds", fn := fun _ => fun
  | [d1, d2, d3, d4] => { results := [.lit (.bool false)], args := [d1, d2, d3, d4] }
  | _ => none }
def LookthroughOfMadeFundsWrongFalsely : Prop := lookthroughOfMadeFundsRow.holds Tryz.pinned (OpenSpec.ofChange lookthroughOfMadeFundsWrong)

/-- 'fundadminlaw36.LookthroughLosesNothing': WHATEVER THE INPUT: true; the input reads as it did. -/
def lookthroughLosesNothingSpec : ChangeSpec := { name := "lookthroughLosesNothing", fn := fun _ => fun
  | [d] => { results := [.lit (.bool true)], args := [d] }
  | _ => none }
def lookthroughLosesNothingRow : OpenClaim := { program := "ytckhdiljihhdmaagreat", sum := "9fab05a305c2c15749920082556333c07733589f492988a52d1ae2c47dc964c9", func := "fundadmin/fundadminlaw36.LookthroughLosesNothing", spec := "lookthroughLosesNothing", inPlace := ["internal/bytealg.abigen_runtime_cmpstring"], unfollowed := true, recurses := true, named := ["math/bits.overflowError"], apart := false }
def LookthroughLosesNothingSaid : Prop := lookthroughLosesNothingRow.holds Tryz.pinned (OpenSpec.ofChange lookthroughLosesNothingSpec)

/-- ITS FALSE NEIGHBOUR: 'it returns false'. Refute it at one input. -/
def lookthroughLosesNothingWrong : ChangeSpec := { name := "lookthroughLosesNothing", fn := fun _ => fun
  | [d] => { results := [.lit (.bool false)], args := [d] }
  | _ => none }
def LookthroughLosesNothingWrongFalsely : Prop := lookthroughLosesNothingRow.holds Tryz.pinned (OpenSpec.ofChange lookthroughLosesNothingWrong)

/-- 'fundadminlaw36.LookthroughAdds': WHATEVER THE INPUT: true; the input reads as it did. -/
def lookthroughAddsSpec : ChangeSpec := { name := "lookthroughAdds", fn := fun _ => fun
  | [d1, d2, d3, d4] => { results := [.lit (.bool true)], args := [d1, d2, d3, d4] }
  | _ => none }
def lookthroughAddsRow : OpenClaim := { program := "ytckhdiljihhdmaagreat", sum := "9fab05a305c2c15749920082556333c07733589f492988a52d1ae2c47dc964c9", func := "fundadmin/fundadminlaw36.LookthroughAdds", spec := "lookthroughAdds", inPlace := ["internal/bytealg.abigen_runtime_cmpstring"], unfollowed := true, recurses := true, named := ["math/bits.overflowError"], apart := false }
def LookthroughAddsSaid : Prop := lookthroughAddsRow.holds Tryz.pinned (OpenSpec.ofChange lookthroughAddsSpec)

/-- ITS FALSE NEIGHBOUR: 'it returns false'. Refute it at one input. -/
def lookthroughAddsWrong : ChangeSpec := { name := "lookthroughAdds", fn := fun _ => fun
  | [d1, d2, d3, d4] => { results := [.lit (.bool false)], args := [d1, d2, d3, d4] }
  | _ => none }
def LookthroughAddsWrongFalsely : Prop := lookthroughAddsRow.holds Tryz.pinned (OpenSpec.ofChange lookthroughAddsWrong)

/- THE SECOND FORM. 'bulk': how many values and letters a reading holds, each counted each time it is reached (what is shared counts as often as it is met; a slice's spare places count too). A statement '..UptoSaid' is the law's where the arguments, and the package variables that the reading takes, are together of bulk at most 1048576: NARROWER than '..Said'. Prove '..Said' where nothing that the law and all that it calls make is longer than what came in: it says more and counts as full. Else prove '..UptoSaid'. A law counts once. -/
mutual
def uptoBulk {H : Type} : DataW H → Nat
  | .lit (.string bytes) => bytes.length + 1
  | .lit _ => 1
  | .nil => 1
  | .ptr d => uptoBulk d + 1
  | .slice elems spare => uptoBulkAll elems + uptoBulkAll spare + 1
  | .agg parts => uptoBulkAll parts + 1
  | .iface _ d => uptoBulk d + 1
  | .map entries => uptoBulkEntries entries + 1
  | .held _ => 1
def uptoBulkAll {H : Type} : List (DataW H) → Nat
  | [] => 0
  | d :: r => uptoBulk d + uptoBulkAll r
def uptoBulkEntries {H : Type} : List (Lit × DataW H) → Nat
  | [] => 0
  | x :: r => uptoBulkEntry x + uptoBulkEntries r
def uptoBulkEntry {H : Type} : Lit × DataW H → Nat
  | (.string bytes, d) => bytes.length + uptoBulk d + 1
  | (_, d) => uptoBulk d + 1
 end
def uptoSmall : (H : Type) → List (DataW H) → Bool := fun _ ds => decide (uptoBulkAll ds ≤ 1048576)
def OpenSpec.upto (s : _root_.Go.ChangeSpec) : _root_.Go.OpenSpec := { _root_.Go.OpenSpec.ofChange s with cond := some uptoSmall }

/-- 'fundadminlaw36.LookthroughTells', WHERE WHAT IT READS IS OF BULK AT MOST 1048576: true; the input reads as it did. -/
def lookthroughTellsUptoRow : OpenClaim := { program := "ytckhdiljihhdmaagreat", sum := "9fab05a305c2c15749920082556333c07733589f492988a52d1ae2c47dc964c9", func := "fundadmin/fundadminlaw36.LookthroughTells", spec := "lookthroughTells", inPlace := ["internal/bytealg.abigen_runtime_cmpstring"], unfollowed := true, recurses := true, named := ["math/bits.overflowError"], apart := false, narrowed := true }
def LookthroughTellsUptoSaid : Prop := lookthroughTellsUptoRow.holds Tryz.pinned (OpenSpec.upto lookthroughTellsSpec)

/-- 'fundadminlaw36.LookthroughOfMadeFunds', WHERE WHAT IT READS IS OF BULK AT MOST 1048576: true; the input reads as it did. -/
def lookthroughOfMadeFundsUptoRow : OpenClaim := { program := "ytckhdiljihhdmaagreat", sum := "9fab05a305c2c15749920082556333c07733589f492988a52d1ae2c47dc964c9", func := "fundadmin/fundadminlaw36.LookthroughOfMadeFunds", spec := "lookthroughOfMadeFunds", inPlace := ["internal/bytealg.abigen_runtime_cmpstring"], unfollowed := true, recurses := true, named := ["math/bits.overflowError"], apart := false, narrowed := true }
def LookthroughOfMadeFundsUptoSaid : Prop := lookthroughOfMadeFundsUptoRow.holds Tryz.pinned (OpenSpec.upto lookthroughOfMadeFundsSpec)

/-- 'fundadminlaw36.LookthroughLosesNothing', WHERE WHAT IT READS IS OF BULK AT MOST 1048576: true; the input reads as it did. -/
def lookthroughLosesNothingUptoRow : OpenClaim := { program := "ytckhdiljihhdmaagreat", sum := "9fab05a305c2c15749920082556333c07733589f492988a52d1ae2c47dc964c9", func := "fundadmin/fundadminlaw36.LookthroughLosesNothing", spec := "lookthroughLosesNothing", inPlace := ["internal/bytealg.abigen_runtime_cmpstring"], unfollowed := true, recurses := true, named := ["math/bits.overflowError"], apart := false, narrowed := true }
def LookthroughLosesNothingUptoSaid : Prop := lookthroughLosesNothingUptoRow.holds Tryz.pinned (OpenSpec.upto lookthroughLosesNothingSpec)

/-- 'fundadminlaw36.LookthroughAdds', WHERE WHAT IT READS IS OF BULK AT MOST 1048576: true; the input reads as it did. -/
def lookthroughAddsUptoRow : OpenClaim := { program := "ytckhdiljihhdmaagreat", sum := "9fab05a305c2c15749920082556333c07733589f492988a52d1ae2c47dc964c9", func := "fundadmin/fundadminlaw36.LookthroughAdds", spec := "lookthroughAdds", inPlace := ["internal/bytealg.abigen_runtime_cmpstring"], unfollowed := true, recurses := true, named := ["math/bits.overflowError"], apart := false, narrowed := true }
def LookthroughAddsUptoSaid : Prop := lookthroughAddsUptoRow.holds Tryz.pinned (OpenSpec.upto lookthroughAddsSpec)

end Rows
end Go.Proofs.YtckhdiljihhdmaaGreat
