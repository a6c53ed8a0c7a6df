/-
  No cell of these rows narrows 'for every input' (looked for: loops, veiled, ifaces, maps, wideKeys, modest, calm, conditions, laid).
  DERIVED. THE GIVEN ROWS OF THIS SEAT. 9 by the template 'for every input the law returns true; each argument reads behind the call as it read before'; 0 by the template 'total and deterministic' (their statements: YtbkbfgedlfbbiaaTotals.lean).
  GIVEN WITH THE SEED: the statements are not yours to turn. If you find one false, say at which input.
  Laid BY PROGRAM, IN A SANDBOX (cutbox-rows.mjs): the forced cells as the released guide's own fill.sh prints them over the translation 6107235b70076cf9… (all of the seat's roots in one cut). By AI agents, Wed Nov 11 2026. No macro, syntax, notation, axiom, sorry.
-/
import Derived.Test.YtbkbfgedlfbbiaaChecked
import GoSem.Claim
import GoSem.ClaimJoined
import GoSem.ClaimMapViews
import Derived.JoinedTies
import Derived.KernelRfl
namespace Go.Proofs.Ytbkbfgedlfbbiaa
/- THE CELL 'sum', in the pinned program and in every row, IS THE sha256 OF THE DUMP (.gsa) THAT YtbkbfgedlfbbiaaProg.lean LOADS. Nothing in Lean hashes anything: it is a label: what it is worth is what the hold of that sum in a sandbox is worth. -/
noncomputable def Try.pinned : Pinned := { name := "ytbkbfgedlfbbiaa", sum := "6107235b70076cf9d2501d153896a0aedf9ebad76db0e98b94bbd61c2efa4eda", checked := Try.checked }
namespace Rows
def none {H : Type} : Left H := { results := [], args := [] }

/-- 'fundadminlaw01.BigintTexts': WHATEVER THE INPUT: true; the input reads as it did. -/
def bigintTextsSpec : ChangeSpec := { name := "bigintTexts", fn := fun _ => fun
  | [d1, d2] => { results := [.lit (.bool true)], args := [d1, d2] }
  | _ => none }
def bigintTextsRow : OpenClaim := { program := "ytbkbfgedlfbbiaa", sum := "6107235b70076cf9d2501d153896a0aedf9ebad76db0e98b94bbd61c2efa4eda", func := "fundadmin/fundadminlaw01.BigintTexts", spec := "bigintTexts", named := ["math/bits.overflowError"], apart := false }
def BigintTextsSaid : Prop := bigintTextsRow.holds Try.pinned (OpenSpec.ofChange bigintTextsSpec)

/-- ITS FALSE NEIGHBOUR: 'it returns false'. Refute it at one input. -/
def bigintTextsWrong : ChangeSpec := { name := "bigintTexts", fn := fun _ => fun
  | [d1, d2] => { results := [.lit (.bool false)], args := [d1, d2] }
  | _ => none }
def BigintTextsWrongFalsely : Prop := bigintTextsRow.holds Try.pinned (OpenSpec.ofChange bigintTextsWrong)

/-- 'fundadminlaw01.BigintDigits': WHATEVER THE INPUT: true; the input reads as it did. -/
def bigintDigitsSpec : ChangeSpec := { name := "bigintDigits", fn := fun _ => fun
  | [d] => { results := [.lit (.bool true)], args := [d] }
  | _ => none }
def bigintDigitsRow : OpenClaim := { program := "ytbkbfgedlfbbiaa", sum := "6107235b70076cf9d2501d153896a0aedf9ebad76db0e98b94bbd61c2efa4eda", func := "fundadmin/fundadminlaw01.BigintDigits", spec := "bigintDigits", named := ["math/bits.overflowError"], apart := false }
def BigintDigitsSaid : Prop := bigintDigitsRow.holds Try.pinned (OpenSpec.ofChange bigintDigitsSpec)

/-- ITS FALSE NEIGHBOUR: 'it returns false'. Refute it at one input. -/
def bigintDigitsWrong : ChangeSpec := { name := "bigintDigits", fn := fun _ => fun
  | [d] => { results := [.lit (.bool false)], args := [d] }
  | _ => none }
def BigintDigitsWrongFalsely : Prop := bigintDigitsRow.holds Try.pinned (OpenSpec.ofChange bigintDigitsWrong)

/-- 'fundadminlaw01.BigintGcd': WHATEVER THE INPUT: true; the input reads as it did. -/
def bigintGcdSpec : ChangeSpec := { name := "bigintGcd", fn := fun _ => fun
  | [d] => { results := [.lit (.bool true)], args := [d] }
  | _ => none }
def bigintGcdRow : OpenClaim := { program := "ytbkbfgedlfbbiaa", sum := "6107235b70076cf9d2501d153896a0aedf9ebad76db0e98b94bbd61c2efa4eda", func := "fundadmin/fundadminlaw01.BigintGcd", spec := "bigintGcd", named := ["math/bits.overflowError"], apart := false }
def BigintGcdSaid : Prop := bigintGcdRow.holds Try.pinned (OpenSpec.ofChange bigintGcdSpec)

/-- ITS FALSE NEIGHBOUR: 'it returns false'. Refute it at one input. -/
def bigintGcdWrong : ChangeSpec := { name := "bigintGcd", fn := fun _ => fun
  | [d] => { results := [.lit (.bool false)], args := [d] }
  | _ => none }
def BigintGcdWrongFalsely : Prop := bigintGcdRow.holds Try.pinned (OpenSpec.ofChange bigintGcdWrong)

/-- 'fundadminlaw01.BigintRing': WHATEVER THE INPUT: true; the input reads as it did. -/
def bigintRingSpec : ChangeSpec := { name := "bigintRing", fn := fun _ => fun
  | [d] => { results := [.lit (.bool true)], args := [d] }
  | _ => none }
def bigintRingRow : OpenClaim := { program := "ytbkbfgedlfbbiaa", sum := "6107235b70076cf9d2501d153896a0aedf9ebad76db0e98b94bbd61c2efa4eda", func := "fundadmin/fundadminlaw01.BigintRing", spec := "bigintRing", named := ["math/bits.overflowError"], apart := false }
def BigintRingSaid : Prop := bigintRingRow.holds Try.pinned (OpenSpec.ofChange bigintRingSpec)

/-- ITS FALSE NEIGHBOUR: 'it returns false'. Refute it at one input. -/
def bigintRingWrong : ChangeSpec := { name := "bigintRing", fn := fun _ => fun
  | [d] => { results := [.lit (.bool false)], args := [d] }
  | _ => none }
def BigintRingWrongFalsely : Prop := bigintRingRow.holds Try.pinned (OpenSpec.ofChange bigintRingWrong)

/-- 'fundadminlaw01.BigintOrder': WHATEVER THE INPUT: true; the input reads as it did. -/
def bigintOrderSpec : ChangeSpec := { name := "bigintOrder", fn := fun _ => fun
  | [d] => { results := [.lit (.bool true)], args := [d] }
  | _ => none }
def bigintOrderRow : OpenClaim := { program := "ytbkbfgedlfbbiaa", sum := "6107235b70076cf9d2501d153896a0aedf9ebad76db0e98b94bbd61c2efa4eda", func := "fundadmin/fundadminlaw01.BigintOrder", spec := "bigintOrder", named := ["math/bits.overflowError"], apart := false }
def BigintOrderSaid : Prop := bigintOrderRow.holds Try.pinned (OpenSpec.ofChange bigintOrderSpec)

/-- ITS FALSE NEIGHBOUR: 'it returns false'. Refute it at one input. -/
def bigintOrderWrong : ChangeSpec := { name := "bigintOrder", fn := fun _ => fun
  | [d] => { results := [.lit (.bool false)], args := [d] }
  | _ => none }
def BigintOrderWrongFalsely : Prop := bigintOrderRow.holds Try.pinned (OpenSpec.ofChange bigintOrderWrong)

/-- 'fundadminlaw01.BigintFits': WHATEVER THE INPUT: true; the input reads as it did. -/
def bigintFitsSpec : ChangeSpec := { name := "bigintFits", fn := fun _ => fun
  | [d1, d2] => { results := [.lit (.bool true)], args := [d1, d2] }
  | _ => none }
def bigintFitsRow : OpenClaim := { program := "ytbkbfgedlfbbiaa", sum := "6107235b70076cf9d2501d153896a0aedf9ebad76db0e98b94bbd61c2efa4eda", func := "fundadmin/fundadminlaw01.BigintFits", spec := "bigintFits", named := ["math/bits.overflowError"], apart := false }
def BigintFitsSaid : Prop := bigintFitsRow.holds Try.pinned (OpenSpec.ofChange bigintFitsSpec)

/-- ITS FALSE NEIGHBOUR: 'it returns false'. Refute it at one input. -/
def bigintFitsWrong : ChangeSpec := { name := "bigintFits", fn := fun _ => fun
  | [d1, d2] => { results := [.lit (.bool false)], args := [d1, d2] }
  | _ => none }
def BigintFitsWrongFalsely : Prop := bigintFitsRow.holds Try.pinned (OpenSpec.ofChange bigintFitsWrong)

/-- 'fundadminlaw01.BigintInts': WHATEVER THE INPUT: true; the input reads as it did. -/
def bigintIntsSpec : ChangeSpec := { name := "bigintInts", fn := fun _ => fun
  | [d1, d2] => { results := [.lit (.bool true)], args := [d1, d2] }
  | _ => none }
def bigintIntsRow : OpenClaim := { program := "ytbkbfgedlfbbiaa", sum := "6107235b70076cf9d2501d153896a0aedf9ebad76db0e98b94bbd61c2efa4eda", func := "fundadmin/fundadminlaw01.BigintInts", spec := "bigintInts", named := ["math/bits.overflowError"], apart := false }
def BigintIntsSaid : Prop := bigintIntsRow.holds Try.pinned (OpenSpec.ofChange bigintIntsSpec)

/-- ITS FALSE NEIGHBOUR: 'it returns false'. Refute it at one input. -/
def bigintIntsWrong : ChangeSpec := { name := "bigintInts", fn := fun _ => fun
  | [d1, d2] => { results := [.lit (.bool false)], args := [d1, d2] }
  | _ => none }
def BigintIntsWrongFalsely : Prop := bigintIntsRow.holds Try.pinned (OpenSpec.ofChange bigintIntsWrong)

/-- 'fundadminlaw01.BigintDivides': WHATEVER THE INPUT: true; the input reads as it did. -/
def bigintDividesSpec : ChangeSpec := { name := "bigintDivides", fn := fun _ => fun
  | [d] => { results := [.lit (.bool true)], args := [d] }
  | _ => none }
def bigintDividesRow : OpenClaim := { program := "ytbkbfgedlfbbiaa", sum := "6107235b70076cf9d2501d153896a0aedf9ebad76db0e98b94bbd61c2efa4eda", func := "fundadmin/fundadminlaw01.BigintDivides", spec := "bigintDivides", named := ["math/bits.overflowError"], apart := false }
def BigintDividesSaid : Prop := bigintDividesRow.holds Try.pinned (OpenSpec.ofChange bigintDividesSpec)

/-- ITS FALSE NEIGHBOUR: 'it returns false'. Refute it at one input. -/
def bigintDividesWrong : ChangeSpec := { name := "bigintDivides", fn := fun _ => fun
  | [d] => { results := [.lit (.bool false)], args := [d] }
  | _ => none }
def BigintDividesWrongFalsely : Prop := bigintDividesRow.holds Try.pinned (OpenSpec.ofChange bigintDividesWrong)

/-- 'fundadminlaw01.BigintExact': WHATEVER THE INPUT: true; the input reads as it did. -/
def bigintExactSpec : ChangeSpec := { name := "bigintExact", fn := fun _ => fun
  | [d1, d2] => { results := [.lit (.bool true)], args := [d1, d2] }
  | _ => none }
def bigintExactRow : OpenClaim := { program := "ytbkbfgedlfbbiaa", sum := "6107235b70076cf9d2501d153896a0aedf9ebad76db0e98b94bbd61c2efa4eda", func := "fundadmin/fundadminlaw01.BigintExact", spec := "bigintExact", named := ["math/bits.overflowError"], apart := false }
def BigintExactSaid : Prop := bigintExactRow.holds Try.pinned (OpenSpec.ofChange bigintExactSpec)

/-- ITS FALSE NEIGHBOUR: 'it returns false'. Refute it at one input. -/
def bigintExactWrong : ChangeSpec := { name := "bigintExact", fn := fun _ => fun
  | [d1, d2] => { results := [.lit (.bool false)], args := [d1, d2] }
  | _ => none }
def BigintExactWrongFalsely : Prop := bigintExactRow.holds Try.pinned (OpenSpec.ofChange bigintExactWrong)

/- THE SECOND FORM. 'bulk': how many values and letters a reading holds, each counted each time it is reached (what is shared counts as often as it is met; a slice's spare places count too). A statement '..UptoSaid' is the law's where the arguments, and the package variables that the reading takes, are together of bulk at most 1048576: NARROWER than '..Said'. Prove '..Said' where nothing that the law and all that it calls make is longer than what came in: it says more and counts as full. Else prove '..UptoSaid'. A law counts once. -/
mutual
def uptoBulk {H : Type} : DataW H → Nat
  | .lit (.string bytes) => bytes.length + 1
  | .lit _ => 1
  | .nil => 1
  | .ptr d => uptoBulk d + 1
  | .slice elems spare => uptoBulkAll elems + uptoBulkAll spare + 1
  | .agg parts => uptoBulkAll parts + 1
  | .iface _ d => uptoBulk d + 1
  | .map entries => uptoBulkEntries entries + 1
  | .held _ => 1
def uptoBulkAll {H : Type} : List (DataW H) → Nat
  | [] => 0
  | d :: r => uptoBulk d + uptoBulkAll r
def uptoBulkEntries {H : Type} : List (Lit × DataW H) → Nat
  | [] => 0
  | x :: r => uptoBulkEntry x + uptoBulkEntries r
def uptoBulkEntry {H : Type} : Lit × DataW H → Nat
  | (.string bytes, d) => bytes.length + uptoBulk d + 1
  | (_, d) => uptoBulk d + 1
 end
def uptoSmall : (H : Type) → List (DataW H) → Bool := fun _ ds => decide (uptoBulkAll ds ≤ 1048576)
def OpenSpec.upto (s : _root_.Go.ChangeSpec) : _root_.Go.OpenSpec := { _root_.Go.OpenSpec.ofChange s with cond := some uptoSmall }

/-- 'fundadminlaw01.BigintTexts', WHERE WHAT IT READS IS OF BULK AT MOST 1048576: true; the input reads as it did. -/
def bigintTextsUptoRow : OpenClaim := { program := "ytbkbfgedlfbbiaa", sum := "6107235b70076cf9d2501d153896a0aedf9ebad76db0e98b94bbd61c2efa4eda", func := "fundadmin/fundadminlaw01.BigintTexts", spec := "bigintTexts", named := ["math/bits.overflowError"], apart := false, narrowed := true }
def BigintTextsUptoSaid : Prop := bigintTextsUptoRow.holds Try.pinned (OpenSpec.upto bigintTextsSpec)

/-- 'fundadminlaw01.BigintDigits', WHERE WHAT IT READS IS OF BULK AT MOST 1048576: true; the input reads as it did. -/
def bigintDigitsUptoRow : OpenClaim := { program := "ytbkbfgedlfbbiaa", sum := "6107235b70076cf9d2501d153896a0aedf9ebad76db0e98b94bbd61c2efa4eda", func := "fundadmin/fundadminlaw01.BigintDigits", spec := "bigintDigits", named := ["math/bits.overflowError"], apart := false, narrowed := true }
def BigintDigitsUptoSaid : Prop := bigintDigitsUptoRow.holds Try.pinned (OpenSpec.upto bigintDigitsSpec)

/-- 'fundadminlaw01.BigintGcd', WHERE WHAT IT READS IS OF BULK AT MOST 1048576: true; the input reads as it did. -/
def bigintGcdUptoRow : OpenClaim := { program := "ytbkbfgedlfbbiaa", sum := "6107235b70076cf9d2501d153896a0aedf9ebad76db0e98b94bbd61c2efa4eda", func := "fundadmin/fundadminlaw01.BigintGcd", spec := "bigintGcd", named := ["math/bits.overflowError"], apart := false, narrowed := true }
def BigintGcdUptoSaid : Prop := bigintGcdUptoRow.holds Try.pinned (OpenSpec.upto bigintGcdSpec)

/-- 'fundadminlaw01.BigintRing', WHERE WHAT IT READS IS OF BULK AT MOST 1048576: true; the input reads as it did. -/
def bigintRingUptoRow : OpenClaim := { program := "ytbkbfgedlfbbiaa", sum := "6107235b70076cf9d2501d153896a0aedf9ebad76db0e98b94bbd61c2efa4eda", func := "fundadmin/fundadminlaw01.BigintRing", spec := "bigintRing", named := ["math/bits.overflowError"], apart := false, narrowed := true }
def BigintRingUptoSaid : Prop := bigintRingUptoRow.holds Try.pinned (OpenSpec.upto bigintRingSpec)

/-- 'fundadminlaw01.BigintOrder', WHERE WHAT IT READS IS OF BULK AT MOST 1048576: true; the input reads as it did. -/
def bigintOrderUptoRow : OpenClaim := { program := "ytbkbfgedlfbbiaa", sum := "6107235b70076cf9d2501d153896a0aedf9ebad76db0e98b94bbd61c2efa4eda", func := "fundadmin/fundadminlaw01.BigintOrder", spec := "bigintOrder", named := ["math/bits.overflowError"], apart := false, narrowed := true }
def BigintOrderUptoSaid : Prop := bigintOrderUptoRow.holds Try.pinned (OpenSpec.upto bigintOrderSpec)

/-- 'fundadminlaw01.BigintFits', WHERE WHAT IT READS IS OF BULK AT MOST 1048576: true; the input reads as it did. -/
def bigintFitsUptoRow : OpenClaim := { program := "ytbkbfgedlfbbiaa", sum := "6107235b70076cf9d2501d153896a0aedf9ebad76db0e98b94bbd61c2efa4eda", func := "fundadmin/fundadminlaw01.BigintFits", spec := "bigintFits", named := ["math/bits.overflowError"], apart := false, narrowed := true }
def BigintFitsUptoSaid : Prop := bigintFitsUptoRow.holds Try.pinned (OpenSpec.upto bigintFitsSpec)

/-- 'fundadminlaw01.BigintInts', WHERE WHAT IT READS IS OF BULK AT MOST 1048576: true; the input reads as it did. -/
def bigintIntsUptoRow : OpenClaim := { program := "ytbkbfgedlfbbiaa", sum := "6107235b70076cf9d2501d153896a0aedf9ebad76db0e98b94bbd61c2efa4eda", func := "fundadmin/fundadminlaw01.BigintInts", spec := "bigintInts", named := ["math/bits.overflowError"], apart := false, narrowed := true }
def BigintIntsUptoSaid : Prop := bigintIntsUptoRow.holds Try.pinned (OpenSpec.upto bigintIntsSpec)

/-- 'fundadminlaw01.BigintDivides', WHERE WHAT IT READS IS OF BULK AT MOST 1048576: true; the input reads as it did. -/
def bigintDividesUptoRow : OpenClaim := { program := "ytbkbfgedlfbbiaa", sum := "6107235b70076cf9d2501d153896a0aedf9ebad76db0e98b94bbd61c2efa4eda", func := "fundadmin/fundadminlaw01.BigintDivides", spec := "bigintDivides", named := ["math/bits.overflowError"], apart := false, narrowed := true }
def BigintDividesUptoSaid : Prop := bigintDividesUptoRow.holds Try.pinned (OpenSpec.upto bigintDividesSpec)

/-- 'fundadminlaw01.BigintExact', WHERE WHAT IT READS IS OF BULK AT MOST 1048576: true; the input reads as it did. -/
def bigintExactUptoRow : OpenClaim := { program := "ytbkbfgedlfbbiaa", sum := "6107235b70076cf9d2501d153896a0aedf9ebad76db0e98b94bbd61c2efa4eda", func := "fundadmin/fundadminlaw01.BigintExact", spec := "bigintExact", named := ["math/bits.overflowError"], apart := false, narrowed := true }
def BigintExactUptoSaid : Prop := bigintExactUptoRow.holds Try.pinned (OpenSpec.upto bigintExactSpec)

end Rows
end Go.Proofs.Ytbkbfgedlfbbiaa
