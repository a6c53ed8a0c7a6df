/-
  No cell of these rows narrows 'for every input' (looked for: loops, veiled, ifaces, maps, wideKeys, modest, calm, conditions, laid).
  DERIVED. THE GIVEN ROWS OF THIS SEAT. 6 by the template 'for every input the law returns true; each argument reads behind the call as it read before'; 0 by the template 'total and deterministic' (their statements: YtipkmppoppjmeaaTotals.lean).
  GIVEN WITH THE SEED: the statements are not yours to turn. If you find one false, say at which input.
  Laid BY PROGRAM, IN A SANDBOX (cutbox-rows.mjs): the forced cells as the released guide's own fill.sh prints them over the translation b8d29500cc58c0be… (all of the seat's roots in one cut). By AI agents, Wed Nov 11 2026. No macro, syntax, notation, axiom, sorry.
-/
import Derived.Test.YtipkmppoppjmeaaChecked
import GoSem.Claim
import GoSem.ClaimJoined
import GoSem.ClaimMapViews
import Derived.JoinedTies
import Derived.KernelRfl
namespace Go.Proofs.Ytipkmppoppjmeaa
/- THE CELL 'sum', in the pinned program and in every row, IS THE sha256 OF THE DUMP (.gsa) THAT YtipkmppoppjmeaaProg.lean LOADS. Nothing in Lean hashes anything: it is a label: what it is worth is what the hold of that sum in a sandbox is worth. -/
noncomputable def Try.pinned : Pinned := { name := "ytipkmppoppjmeaa", sum := "b8d29500cc58c0be741f839311b2b687a7c25bda5060171140bc0264a53142c3", checked := Try.checked }
namespace Rows
def none {H : Type} : Left H := { results := [], args := [] }

/-- 'fundadminlaw13.AsofExact': WHATEVER THE INPUT: true; the input reads as it did. -/
def asofExactSpec : ChangeSpec := { name := "asofExact", fn := fun _ => fun
  | [d1, d2, d3, d4] => { results := [.lit (.bool true)], args := [d1, d2, d3, d4] }
  | _ => none }
def asofExactRow : OpenClaim := { program := "ytipkmppoppjmeaa", sum := "b8d29500cc58c0be741f839311b2b687a7c25bda5060171140bc0264a53142c3", func := "fundadmin/fundadminlaw13.AsofExact", spec := "asofExact", recurses := true, apart := false }
def AsofExactSaid : Prop := asofExactRow.holds Try.pinned (OpenSpec.ofChange asofExactSpec)

/-- ITS FALSE NEIGHBOUR: 'it returns false'. Refute it at one input. -/
def asofExactWrong : ChangeSpec := { name := "asofExact", fn := fun _ => fun
  | [d1, d2, d3, d4] => { results := [.lit (.bool false)], args := [d1, d2, d3, d4] }
  | _ => none }
def AsofExactWrongFalsely : Prop := asofExactRow.holds Try.pinned (OpenSpec.ofChange asofExactWrong)

/-- 'fundadminlaw13.AsofPlays': WHATEVER THE INPUT: true; the input reads as it did. -/
def asofPlaysSpec : ChangeSpec := { name := "asofPlays", fn := fun _ => fun
  | [d] => { results := [.lit (.bool true)], args := [d] }
  | _ => none }
def asofPlaysRow : OpenClaim := { program := "ytipkmppoppjmeaa", sum := "b8d29500cc58c0be741f839311b2b687a7c25bda5060171140bc0264a53142c3", func := "fundadmin/fundadminlaw13.AsofPlays", spec := "asofPlays", recurses := true, apart := false }
def AsofPlaysSaid : Prop := asofPlaysRow.holds Try.pinned (OpenSpec.ofChange asofPlaysSpec)

/-- ITS FALSE NEIGHBOUR: 'it returns false'. Refute it at one input. -/
def asofPlaysWrong : ChangeSpec := { name := "asofPlays", fn := fun _ => fun
  | [d] => { results := [.lit (.bool false)], args := [d] }
  | _ => none }
def AsofPlaysWrongFalsely : Prop := asofPlaysRow.holds Try.pinned (OpenSpec.ofChange asofPlaysWrong)

/-- 'fundadminlaw13.AsofLater': WHATEVER THE INPUT: true; the input reads as it did. -/
def asofLaterSpec : ChangeSpec := { name := "asofLater", fn := fun _ => fun
  | [d] => { results := [.lit (.bool true)], args := [d] }
  | _ => none }
def asofLaterRow : OpenClaim := { program := "ytipkmppoppjmeaa", sum := "b8d29500cc58c0be741f839311b2b687a7c25bda5060171140bc0264a53142c3", func := "fundadmin/fundadminlaw13.AsofLater", spec := "asofLater", recurses := true, apart := false }
def AsofLaterSaid : Prop := asofLaterRow.holds Try.pinned (OpenSpec.ofChange asofLaterSpec)

/-- ITS FALSE NEIGHBOUR: 'it returns false'. Refute it at one input. -/
def asofLaterWrong : ChangeSpec := { name := "asofLater", fn := fun _ => fun
  | [d] => { results := [.lit (.bool false)], args := [d] }
  | _ => none }
def AsofLaterWrongFalsely : Prop := asofLaterRow.holds Try.pinned (OpenSpec.ofChange asofLaterWrong)

/-- 'fundadminlaw13.AsofUnique': WHATEVER THE INPUT: true; the input reads as it did. -/
def asofUniqueSpec : ChangeSpec := { name := "asofUnique", fn := fun _ => fun
  | [d] => { results := [.lit (.bool true)], args := [d] }
  | _ => none }
def asofUniqueRow : OpenClaim := { program := "ytipkmppoppjmeaa", sum := "b8d29500cc58c0be741f839311b2b687a7c25bda5060171140bc0264a53142c3", func := "fundadmin/fundadminlaw13.AsofUnique", spec := "asofUnique", recurses := true, apart := false }
def AsofUniqueSaid : Prop := asofUniqueRow.holds Try.pinned (OpenSpec.ofChange asofUniqueSpec)

/-- ITS FALSE NEIGHBOUR: 'it returns false'. Refute it at one input. -/
def asofUniqueWrong : ChangeSpec := { name := "asofUnique", fn := fun _ => fun
  | [d] => { results := [.lit (.bool false)], args := [d] }
  | _ => none }
def AsofUniqueWrongFalsely : Prop := asofUniqueRow.holds Try.pinned (OpenSpec.ofChange asofUniqueWrong)

/-- 'fundadminlaw13.AsofChanges': WHATEVER THE INPUT: true; the input reads as it did. -/
def asofChangesSpec : ChangeSpec := { name := "asofChanges", fn := fun _ => fun
  | [d] => { results := [.lit (.bool true)], args := [d] }
  | _ => none }
def asofChangesRow : OpenClaim := { program := "ytipkmppoppjmeaa", sum := "b8d29500cc58c0be741f839311b2b687a7c25bda5060171140bc0264a53142c3", func := "fundadmin/fundadminlaw13.AsofChanges", spec := "asofChanges", recurses := true, apart := false }
def AsofChangesSaid : Prop := asofChangesRow.holds Try.pinned (OpenSpec.ofChange asofChangesSpec)

/-- ITS FALSE NEIGHBOUR: 'it returns false'. Refute it at one input. -/
def asofChangesWrong : ChangeSpec := { name := "asofChanges", fn := fun _ => fun
  | [d] => { results := [.lit (.bool false)], args := [d] }
  | _ => none }
def AsofChangesWrongFalsely : Prop := asofChangesRow.holds Try.pinned (OpenSpec.ofChange asofChangesWrong)

/-- 'fundadminlaw13.AsofWithdraws': WHATEVER THE INPUT: true; the input reads as it did. -/
def asofWithdrawsSpec : ChangeSpec := { name := "asofWithdraws", fn := fun _ => fun
  | [d] => { results := [.lit (.bool true)], args := [d] }
  | _ => none }
def asofWithdrawsRow : OpenClaim := { program := "ytipkmppoppjmeaa", sum := "b8d29500cc58c0be741f839311b2b687a7c25bda5060171140bc0264a53142c3", func := "fundadmin/fundadminlaw13.AsofWithdraws", spec := "asofWithdraws", recurses := true, apart := false }
def AsofWithdrawsSaid : Prop := asofWithdrawsRow.holds Try.pinned (OpenSpec.ofChange asofWithdrawsSpec)

/-- ITS FALSE NEIGHBOUR: 'it returns false'. Refute it at one input. -/
def asofWithdrawsWrong : ChangeSpec := { name := "asofWithdraws", fn := fun _ => fun
  | [d] => { results := [.lit (.bool false)], args := [d] }
  | _ => none }
def AsofWithdrawsWrongFalsely : Prop := asofWithdrawsRow.holds Try.pinned (OpenSpec.ofChange asofWithdrawsWrong)

/- THE SECOND FORM. 'bulk': how many values and letters a reading holds, each counted each time it is reached (what is shared counts as often as it is met; a slice's spare places count too). A statement '..UptoSaid' is the law's where the arguments, and the package variables that the reading takes, are together of bulk at most 1048576: NARROWER than '..Said'. Prove '..Said' where nothing that the law and all that it calls make is longer than what came in: it says more and counts as full. Else prove '..UptoSaid'. A law counts once. -/
mutual
def uptoBulk {H : Type} : DataW H → Nat
  | .lit (.string bytes) => bytes.length + 1
  | .lit _ => 1
  | .nil => 1
  | .ptr d => uptoBulk d + 1
  | .slice elems spare => uptoBulkAll elems + uptoBulkAll spare + 1
  | .agg parts => uptoBulkAll parts + 1
  | .iface _ d => uptoBulk d + 1
  | .map entries => uptoBulkEntries entries + 1
  | .held _ => 1
def uptoBulkAll {H : Type} : List (DataW H) → Nat
  | [] => 0
  | d :: r => uptoBulk d + uptoBulkAll r
def uptoBulkEntries {H : Type} : List (Lit × DataW H) → Nat
  | [] => 0
  | x :: r => uptoBulkEntry x + uptoBulkEntries r
def uptoBulkEntry {H : Type} : Lit × DataW H → Nat
  | (.string bytes, d) => bytes.length + uptoBulk d + 1
  | (_, d) => uptoBulk d + 1
 end
def uptoSmall : (H : Type) → List (DataW H) → Bool := fun _ ds => decide (uptoBulkAll ds ≤ 1048576)
def OpenSpec.upto (s : _root_.Go.ChangeSpec) : _root_.Go.OpenSpec := { _root_.Go.OpenSpec.ofChange s with cond := some uptoSmall }

/-- 'fundadminlaw13.AsofExact', WHERE WHAT IT READS IS OF BULK AT MOST 1048576: true; the input reads as it did. -/
def asofExactUptoRow : OpenClaim := { program := "ytipkmppoppjmeaa", sum := "b8d29500cc58c0be741f839311b2b687a7c25bda5060171140bc0264a53142c3", func := "fundadmin/fundadminlaw13.AsofExact", spec := "asofExact", recurses := true, apart := false, narrowed := true }
def AsofExactUptoSaid : Prop := asofExactUptoRow.holds Try.pinned (OpenSpec.upto asofExactSpec)

/-- 'fundadminlaw13.AsofPlays', WHERE WHAT IT READS IS OF BULK AT MOST 1048576: true; the input reads as it did. -/
def asofPlaysUptoRow : OpenClaim := { program := "ytipkmppoppjmeaa", sum := "b8d29500cc58c0be741f839311b2b687a7c25bda5060171140bc0264a53142c3", func := "fundadmin/fundadminlaw13.AsofPlays", spec := "asofPlays", recurses := true, apart := false, narrowed := true }
def AsofPlaysUptoSaid : Prop := asofPlaysUptoRow.holds Try.pinned (OpenSpec.upto asofPlaysSpec)

/-- 'fundadminlaw13.AsofLater', WHERE WHAT IT READS IS OF BULK AT MOST 1048576: true; the input reads as it did. -/
def asofLaterUptoRow : OpenClaim := { program := "ytipkmppoppjmeaa", sum := "b8d29500cc58c0be741f839311b2b687a7c25bda5060171140bc0264a53142c3", func := "fundadmin/fundadminlaw13.AsofLater", spec := "asofLater", recurses := true, apart := false, narrowed := true }
def AsofLaterUptoSaid : Prop := asofLaterUptoRow.holds Try.pinned (OpenSpec.upto asofLaterSpec)

/-- 'fundadminlaw13.AsofUnique', WHERE WHAT IT READS IS OF BULK AT MOST 1048576: true; the input reads as it did. -/
def asofUniqueUptoRow : OpenClaim := { program := "ytipkmppoppjmeaa", sum := "b8d29500cc58c0be741f839311b2b687a7c25bda5060171140bc0264a53142c3", func := "fundadmin/fundadminlaw13.AsofUnique", spec := "asofUnique", recurses := true, apart := false, narrowed := true }
def AsofUniqueUptoSaid : Prop := asofUniqueUptoRow.holds Try.pinned (OpenSpec.upto asofUniqueSpec)

/-- 'fundadminlaw13.AsofChanges', WHERE WHAT IT READS IS OF BULK AT MOST 1048576: true; the input reads as it did. -/
def asofChangesUptoRow : OpenClaim := { program := "ytipkmppoppjmeaa", sum := "b8d29500cc58c0be741f839311b2b687a7c25bda5060171140bc0264a53142c3", func := "fundadmin/fundadminlaw13.AsofChanges", spec := "asofChanges", recurses := true, apart := false, narrowed := true }
def AsofChangesUptoSaid : Prop := asofChangesUptoRow.holds Try.pinned (OpenSpec.upto asofChangesSpec)

/-- 'fundadminlaw13.AsofWithdraws', WHERE WHAT IT READS IS OF BULK AT MOST 1048576: true; the input reads as it did. -/
def asofWithdrawsUptoRow : OpenClaim := { program := "ytipkmppoppjmeaa", sum := "b8d29500cc58c0be741f839311b2b687a7c25bda5060171140bc0264a53142c3", func := "fundadmin/fundadminlaw13.AsofWithdraws", spec := "asofWithdraws", recurses := true, apart := false, narrowed := true }
def AsofWithdrawsUptoSaid : Prop := asofWithdrawsUptoRow.holds Try.pinned (OpenSpec.upto asofWithdrawsSpec)

end Rows
end Go.Proofs.Ytipkmppoppjmeaa
