/-
  No cell of these rows narrows 'for every input' (looked for: loops, veiled, ifaces, maps, wideKeys, modest, calm, conditions, laid).
  DERIVED. THE GIVEN ROWS OF THIS SEAT. 2 by the template 'for every input the law returns true; each argument reads behind the call as it read before'; 0 by the template 'total and deterministic' (their statements: YtnfojnlcclccbaaTotals.lean).
  GIVEN WITH THE SEED: the statements are not yours to turn. If you find one false, say at which input.
  Laid BY PROGRAM, IN A SANDBOX (cutbox-rows.mjs): the forced cells as the released guide's own fill.sh prints them over the translation 6e85f8e536860bb4… (all of the seat's roots in one cut). By AI agents, Wed Nov 11 2026. No macro, syntax, notation, axiom, sorry.
-/
import Derived.Test.YtnfojnlcclccbaaChecked
import GoSem.Claim
import GoSem.ClaimJoined
import GoSem.ClaimMapViews
import Derived.JoinedTies
import Derived.KernelRfl
namespace Go.Proofs.Ytnfojnlcclccbaa
/- THE CELL 'sum', in the pinned program and in every row, IS THE sha256 OF THE DUMP (.gsa) THAT YtnfojnlcclccbaaProg.lean LOADS. Nothing in Lean hashes anything: it is a label: what it is worth is what the hold of that sum in a sandbox is worth. -/
noncomputable def Try.pinned : Pinned := { name := "ytnfojnlcclccbaa", sum := "6e85f8e536860bb4870b02bcb61316ee5cb6a1c29913251ec95708e24853c073", checked := Try.checked }
namespace Rows
def none {H : Type} : Left H := { results := [], args := [] }

/-- 'fundadminlaw01.BigintTexts': WHATEVER THE INPUT: true; the input reads as it did. -/
def bigintTextsSpec : ChangeSpec := { name := "bigintTexts", fn := fun _ => fun
  | [d1, d2] => { results := [.lit (.bool true)], args := [d1, d2] }
  | _ => none }
def bigintTextsRow : OpenClaim := { program := "ytnfojnlcclccbaa", sum := "6e85f8e536860bb4870b02bcb61316ee5cb6a1c29913251ec95708e24853c073", func := "fundadmin/fundadminlaw01.BigintTexts", spec := "bigintTexts", named := ["math/bits.overflowError"], apart := false }
def BigintTextsSaid : Prop := bigintTextsRow.holds Try.pinned (OpenSpec.ofChange bigintTextsSpec)

/-- ITS FALSE NEIGHBOUR: 'it returns false'. Refute it at one input. -/
def bigintTextsWrong : ChangeSpec := { name := "bigintTexts", fn := fun _ => fun
  | [d1, d2] => { results := [.lit (.bool false)], args := [d1, d2] }
  | _ => none }
def BigintTextsWrongFalsely : Prop := bigintTextsRow.holds Try.pinned (OpenSpec.ofChange bigintTextsWrong)

/-- 'fundadminlaw01.BigintDigits': WHATEVER THE INPUT: true; the input reads as it did. -/
def bigintDigitsSpec : ChangeSpec := { name := "bigintDigits", fn := fun _ => fun
  | [d] => { results := [.lit (.bool true)], args := [d] }
  | _ => none }
def bigintDigitsRow : OpenClaim := { program := "ytnfojnlcclccbaa", sum := "6e85f8e536860bb4870b02bcb61316ee5cb6a1c29913251ec95708e24853c073", func := "fundadmin/fundadminlaw01.BigintDigits", spec := "bigintDigits", named := ["math/bits.overflowError"], apart := false }
def BigintDigitsSaid : Prop := bigintDigitsRow.holds Try.pinned (OpenSpec.ofChange bigintDigitsSpec)

/-- ITS FALSE NEIGHBOUR: 'it returns false'. Refute it at one input. -/
def bigintDigitsWrong : ChangeSpec := { name := "bigintDigits", fn := fun _ => fun
  | [d] => { results := [.lit (.bool false)], args := [d] }
  | _ => none }
def BigintDigitsWrongFalsely : Prop := bigintDigitsRow.holds Try.pinned (OpenSpec.ofChange bigintDigitsWrong)

/- THE SECOND FORM. 'bulk': how many values and letters a reading holds, each counted each time it is reached (what is shared counts as often as it is met; a slice's spare places count too). A statement '..UptoSaid' is the law's where the arguments, and the package variables that the reading takes, are together of bulk at most 1048576: NARROWER than '..Said'. Prove '..Said' where nothing that the law and all that it calls make is longer than what came in: it says more and counts as full. Else prove '..UptoSaid'. A law counts once. -/
mutual
def uptoBulk {H : Type} : DataW H → Nat
  | .lit (.string bytes) => bytes.length + 1
  | .lit _ => 1
  | .nil => 1
  | .ptr d => uptoBulk d + 1
  | .slice elems spare => uptoBulkAll elems + uptoBulkAll spare + 1
  | .agg parts => uptoBulkAll parts + 1
  | .iface _ d => uptoBulk d + 1
  | .map entries => uptoBulkEntries entries + 1
  | .held _ => 1
def uptoBulkAll {H : Type} : List (DataW H) → Nat
  | [] => 0
  | d :: r => uptoBulk d + uptoBulkAll r
def uptoBulkEntries {H : Type} : List (Lit × DataW H) → Nat
  | [] => 0
  | x :: r => uptoBulkEntry x + uptoBulkEntries r
def uptoBulkEntry {H : Type} : Lit × DataW H → Nat
  | (.string bytes, d) => bytes.length + uptoBulk d + 1
  | (_, d) => uptoBulk d + 1
 end
def uptoSmall : (H : Type) → List (DataW H) → Bool := fun _ ds => decide (uptoBulkAll ds ≤ 1048576)
def OpenSpec.upto (s : _root_.Go.ChangeSpec) : _root_.Go.OpenSpec := { _root_.Go.OpenSpec.ofChange s with cond := some uptoSmall }

/-- 'fundadminlaw01.BigintTexts', WHERE WHAT IT READS IS OF BULK AT MOST 1048576: true; the input reads as it did. -/
def bigintTextsUptoRow : OpenClaim := { program := "ytnfojnlcclccbaa", sum := "6e85f8e536860bb4870b02bcb61316ee5cb6a1c29913251ec95708e24853c073", func := "fundadmin/fundadminlaw01.BigintTexts", spec := "bigintTexts", named := ["math/bits.overflowError"], apart := false, narrowed := true }
def BigintTextsUptoSaid : Prop := bigintTextsUptoRow.holds Try.pinned (OpenSpec.upto bigintTextsSpec)

/-- 'fundadminlaw01.BigintDigits', WHERE WHAT IT READS IS OF BULK AT MOST 1048576: true; the input reads as it did. -/
def bigintDigitsUptoRow : OpenClaim := { program := "ytnfojnlcclccbaa", sum := "6e85f8e536860bb4870b02bcb61316ee5cb6a1c29913251ec95708e24853c073", func := "fundadmin/fundadminlaw01.BigintDigits", spec := "bigintDigits", named := ["math/bits.overflowError"], apart := false, narrowed := true }
def BigintDigitsUptoSaid : Prop := bigintDigitsUptoRow.holds Try.pinned (OpenSpec.upto bigintDigitsSpec)

end Rows
end Go.Proofs.Ytnfojnlcclccbaa
