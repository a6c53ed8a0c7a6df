/-
  No cell of these rows narrows 'for every input' (looked for: loops, veiled, ifaces, maps, wideKeys, modest, calm, conditions, laid).
  DERIVED. THE GIVEN ROWS OF THIS SEAT. 5 by the template 'for every input the law returns true; each argument reads behind the call as it read before'; 0 by the template 'total and deterministic' (their statements: YtikkligjenjinaaTotals.lean).
  GIVEN WITH THE SEED: the statements are not yours to turn. If you find one false, say at which input.
  Laid BY PROGRAM, IN A SANDBOX (cutbox-rows.mjs): the forced cells as the released guide's own fill.sh prints them over the translation 7b158f8e0ffa0e72… (all of the seat's roots in one cut). By AI agents, Wed Nov 11 2026. No macro, syntax, notation, axiom, sorry.
-/
import Derived.Test.YtikkligjenjinaaChecked
import GoSem.Claim
import GoSem.ClaimJoined
import GoSem.ClaimMapViews
import Derived.JoinedTies
import Derived.KernelRfl
namespace Go.Proofs.Ytikkligjenjinaa
/- THE CELL 'sum', in the pinned program and in every row, IS THE sha256 OF THE DUMP (.gsa) THAT YtikkligjenjinaaProg.lean LOADS. Nothing in Lean hashes anything: it is a label: what it is worth is what the hold of that sum in a sandbox is worth. -/
noncomputable def Try.pinned : Pinned := { name := "ytikkligjenjinaa", sum := "7b158f8e0ffa0e721ba174d0935b99a1a97f5a338bda2ae8820d2e26f8613b38", checked := Try.checked }
namespace Rows
def none {H : Type} : Left H := { results := [], args := [] }

/-- 'fundadminlaw06.DaycountExact': WHATEVER THE INPUT: true; the input reads as it did. -/
def daycountExactSpec : ChangeSpec := { name := "daycountExact", fn := fun _ => fun
  | [d1, d2, d3] => { results := [.lit (.bool true)], args := [d1, d2, d3] }
  | _ => none }
def daycountExactRow : OpenClaim := { program := "ytikkligjenjinaa", sum := "7b158f8e0ffa0e721ba174d0935b99a1a97f5a338bda2ae8820d2e26f8613b38", func := "fundadmin/fundadminlaw06.DaycountExact", spec := "daycountExact", unfollowed := true, recurses := true, named := ["math/bits.overflowError"], apart := false }
def DaycountExactSaid : Prop := daycountExactRow.holds Try.pinned (OpenSpec.ofChange daycountExactSpec)

/-- ITS FALSE NEIGHBOUR: 'it returns false'. Refute it at one input. -/
def daycountExactWrong : ChangeSpec := { name := "daycountExact", fn := fun _ => fun
  | [d1, d2, d3] => { results := [.lit (.bool false)], args := [d1, d2, d3] }
  | _ => none }
def DaycountExactWrongFalsely : Prop := daycountExactRow.holds Try.pinned (OpenSpec.ofChange daycountExactWrong)

/-- 'fundadminlaw06.DaycountPeriods': WHATEVER THE INPUT: true; the input reads as it did. -/
def daycountPeriodsSpec : ChangeSpec := { name := "daycountPeriods", fn := fun _ => fun
  | [d] => { results := [.lit (.bool true)], args := [d] }
  | _ => none }
def daycountPeriodsRow : OpenClaim := { program := "ytikkligjenjinaa", sum := "7b158f8e0ffa0e721ba174d0935b99a1a97f5a338bda2ae8820d2e26f8613b38", func := "fundadmin/fundadminlaw06.DaycountPeriods", spec := "daycountPeriods", unfollowed := true, recurses := true, named := ["math/bits.overflowError"], apart := false }
def DaycountPeriodsSaid : Prop := daycountPeriodsRow.holds Try.pinned (OpenSpec.ofChange daycountPeriodsSpec)

/-- ITS FALSE NEIGHBOUR: 'it returns false'. Refute it at one input. -/
def daycountPeriodsWrong : ChangeSpec := { name := "daycountPeriods", fn := fun _ => fun
  | [d] => { results := [.lit (.bool false)], args := [d] }
  | _ => none }
def DaycountPeriodsWrongFalsely : Prop := daycountPeriodsRow.holds Try.pinned (OpenSpec.ofChange daycountPeriodsWrong)

/-- 'fundadminlaw06.DaycountAdds': WHATEVER THE INPUT: true; the input reads as it did. -/
def daycountAddsSpec : ChangeSpec := { name := "daycountAdds", fn := fun _ => fun
  | [d] => { results := [.lit (.bool true)], args := [d] }
  | _ => none }
def daycountAddsRow : OpenClaim := { program := "ytikkligjenjinaa", sum := "7b158f8e0ffa0e721ba174d0935b99a1a97f5a338bda2ae8820d2e26f8613b38", func := "fundadmin/fundadminlaw06.DaycountAdds", spec := "daycountAdds", unfollowed := true, recurses := true, named := ["math/bits.overflowError"], apart := false }
def DaycountAddsSaid : Prop := daycountAddsRow.holds Try.pinned (OpenSpec.ofChange daycountAddsSpec)

/-- ITS FALSE NEIGHBOUR: 'it returns false'. Refute it at one input. -/
def daycountAddsWrong : ChangeSpec := { name := "daycountAdds", fn := fun _ => fun
  | [d] => { results := [.lit (.bool false)], args := [d] }
  | _ => none }
def DaycountAddsWrongFalsely : Prop := daycountAddsRow.holds Try.pinned (OpenSpec.ofChange daycountAddsWrong)

/-- 'fundadminlaw06.DaycountYears': WHATEVER THE INPUT: true; the input reads as it did. -/
def daycountYearsSpec : ChangeSpec := { name := "daycountYears", fn := fun _ => fun
  | [d] => { results := [.lit (.bool true)], args := [d] }
  | _ => none }
def daycountYearsRow : OpenClaim := { program := "ytikkligjenjinaa", sum := "7b158f8e0ffa0e721ba174d0935b99a1a97f5a338bda2ae8820d2e26f8613b38", func := "fundadmin/fundadminlaw06.DaycountYears", spec := "daycountYears", unfollowed := true, recurses := true, named := ["math/bits.overflowError"], apart := false }
def DaycountYearsSaid : Prop := daycountYearsRow.holds Try.pinned (OpenSpec.ofChange daycountYearsSpec)

/-- ITS FALSE NEIGHBOUR: 'it returns false'. Refute it at one input. -/
def daycountYearsWrong : ChangeSpec := { name := "daycountYears", fn := fun _ => fun
  | [d] => { results := [.lit (.bool false)], args := [d] }
  | _ => none }
def DaycountYearsWrongFalsely : Prop := daycountYearsRow.holds Try.pinned (OpenSpec.ofChange daycountYearsWrong)

/-- 'fundadminlaw06.DaycountWords': WHATEVER THE INPUT: true; the input reads as it did. -/
def daycountWordsSpec : ChangeSpec := { name := "daycountWords", fn := fun _ => fun
  | [d1, d2] => { results := [.lit (.bool true)], args := [d1, d2] }
  | _ => none }
def daycountWordsRow : OpenClaim := { program := "ytikkligjenjinaa", sum := "7b158f8e0ffa0e721ba174d0935b99a1a97f5a338bda2ae8820d2e26f8613b38", func := "fundadmin/fundadminlaw06.DaycountWords", spec := "daycountWords", unfollowed := true, recurses := true, named := ["math/bits.overflowError"], apart := false }
def DaycountWordsSaid : Prop := daycountWordsRow.holds Try.pinned (OpenSpec.ofChange daycountWordsSpec)

/-- ITS FALSE NEIGHBOUR: 'it returns false'. Refute it at one input. -/
def daycountWordsWrong : ChangeSpec := { name := "daycountWords", fn := fun _ => fun
  | [d1, d2] => { results := [.lit (.bool false)], args := [d1, d2] }
  | _ => none }
def DaycountWordsWrongFalsely : Prop := daycountWordsRow.holds Try.pinned (OpenSpec.ofChange daycountWordsWrong)

/- THE SECOND FORM. 'bulk': how many values and letters a reading holds, each counted each time it is reached (what is shared counts as often as it is met; a slice's spare places count too). A statement '..UptoSaid' is the law's where the arguments, and the package variables that the reading takes, are together of bulk at most 1048576: NARROWER than '..Said'. Prove '..Said' where nothing that the law and all that it calls make is longer than what came in: it says more and counts as full. Else prove '..UptoSaid'. A law counts once. -/
mutual
def uptoBulk {H : Type} : DataW H → Nat
  | .lit (.string bytes) => bytes.length + 1
  | .lit _ => 1
  | .nil => 1
  | .ptr d => uptoBulk d + 1
  | .slice elems spare => uptoBulkAll elems + uptoBulkAll spare + 1
  | .agg parts => uptoBulkAll parts + 1
  | .iface _ d => uptoBulk d + 1
  | .map entries => uptoBulkEntries entries + 1
  | .held _ => 1
def uptoBulkAll {H : Type} : List (DataW H) → Nat
  | [] => 0
  | d :: r => uptoBulk d + uptoBulkAll r
def uptoBulkEntries {H : Type} : List (Lit × DataW H) → Nat
  | [] => 0
  | x :: r => uptoBulkEntry x + uptoBulkEntries r
def uptoBulkEntry {H : Type} : Lit × DataW H → Nat
  | (.string bytes, d) => bytes.length + uptoBulk d + 1
  | (_, d) => uptoBulk d + 1
 end
def uptoSmall : (H : Type) → List (DataW H) → Bool := fun _ ds => decide (uptoBulkAll ds ≤ 1048576)
def OpenSpec.upto (s : _root_.Go.ChangeSpec) : _root_.Go.OpenSpec := { _root_.Go.OpenSpec.ofChange s with cond := some uptoSmall }

/-- 'fundadminlaw06.DaycountExact', WHERE WHAT IT READS IS OF BULK AT MOST 1048576: true; the input reads as it did. -/
def daycountExactUptoRow : OpenClaim := { program := "ytikkligjenjinaa", sum := "7b158f8e0ffa0e721ba174d0935b99a1a97f5a338bda2ae8820d2e26f8613b38", func := "fundadmin/fundadminlaw06.DaycountExact", spec := "daycountExact", unfollowed := true, recurses := true, named := ["math/bits.overflowError"], apart := false, narrowed := true }
def DaycountExactUptoSaid : Prop := daycountExactUptoRow.holds Try.pinned (OpenSpec.upto daycountExactSpec)

/-- 'fundadminlaw06.DaycountPeriods', WHERE WHAT IT READS IS OF BULK AT MOST 1048576: true; the input reads as it did. -/
def daycountPeriodsUptoRow : OpenClaim := { program := "ytikkligjenjinaa", sum := "7b158f8e0ffa0e721ba174d0935b99a1a97f5a338bda2ae8820d2e26f8613b38", func := "fundadmin/fundadminlaw06.DaycountPeriods", spec := "daycountPeriods", unfollowed := true, recurses := true, named := ["math/bits.overflowError"], apart := false, narrowed := true }
def DaycountPeriodsUptoSaid : Prop := daycountPeriodsUptoRow.holds Try.pinned (OpenSpec.upto daycountPeriodsSpec)

/-- 'fundadminlaw06.DaycountAdds', WHERE WHAT IT READS IS OF BULK AT MOST 1048576: true; the input reads as it did. -/
def daycountAddsUptoRow : OpenClaim := { program := "ytikkligjenjinaa", sum := "7b158f8e0ffa0e721ba174d0935b99a1a97f5a338bda2ae8820d2e26f8613b38", func := "fundadmin/fundadminlaw06.DaycountAdds", spec := "daycountAdds", unfollowed := true, recurses := true, named := ["math/bits.overflowError"], apart := false, narrowed := true }
def DaycountAddsUptoSaid : Prop := daycountAddsUptoRow.holds Try.pinned (OpenSpec.upto daycountAddsSpec)

/-- 'fundadminlaw06.DaycountYears', WHERE WHAT IT READS IS OF BULK AT MOST 1048576: true; the input reads as it did. -/
def daycountYearsUptoRow : OpenClaim := { program := "ytikkligjenjinaa", sum := "7b158f8e0ffa0e721ba174d0935b99a1a97f5a338bda2ae8820d2e26f8613b38", func := "fundadmin/fundadminlaw06.DaycountYears", spec := "daycountYears", unfollowed := true, recurses := true, named := ["math/bits.overflowError"], apart := false, narrowed := true }
def DaycountYearsUptoSaid : Prop := daycountYearsUptoRow.holds Try.pinned (OpenSpec.upto daycountYearsSpec)

/-- 'fundadminlaw06.DaycountWords', WHERE WHAT IT READS IS OF BULK AT MOST 1048576: true; the input reads as it did. -/
def daycountWordsUptoRow : OpenClaim := { program := "ytikkligjenjinaa", sum := "7b158f8e0ffa0e721ba174d0935b99a1a97f5a338bda2ae8820d2e26f8613b38", func := "fundadmin/fundadminlaw06.DaycountWords", spec := "daycountWords", unfollowed := true, recurses := true, named := ["math/bits.overflowError"], apart := false, narrowed := true }
def DaycountWordsUptoSaid : Prop := daycountWordsUptoRow.holds Try.pinned (OpenSpec.upto daycountWordsSpec)

end Rows
end Go.Proofs.Ytikkligjenjinaa
