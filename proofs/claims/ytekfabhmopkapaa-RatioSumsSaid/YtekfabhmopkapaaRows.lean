/-
  No cell of these rows narrows 'for every input' (looked for: loops, veiled, ifaces, maps, wideKeys, modest, calm, conditions, laid).
  DERIVED. THE GIVEN ROWS OF THIS SEAT. 8 by the template 'for every input the law returns true; each argument reads behind the call as it read before'; 0 by the template 'total and deterministic' (their statements: YtekfabhmopkapaaTotals.lean).
  GIVEN WITH THE SEED: the statements are not yours to turn. If you find one false, say at which input.
  Laid BY PROGRAM, IN A SANDBOX (cutbox-rows.mjs): the forced cells as the released guide's own fill.sh prints them over the translation 8545246ba029466b… (all of the seat's roots in one cut). By AI agents, Wed Nov 11 2026. No macro, syntax, notation, axiom, sorry.
-/
import Derived.Test.YtekfabhmopkapaaChecked
import GoSem.Claim
import GoSem.ClaimJoined
import GoSem.ClaimMapViews
import Derived.JoinedTies
import Derived.KernelRfl
namespace Go.Proofs.Ytekfabhmopkapaa
/- THE CELL 'sum', in the pinned program and in every row, IS THE sha256 OF THE DUMP (.gsa) THAT YtekfabhmopkapaaProg.lean LOADS. Nothing in Lean hashes anything: it is a label: what it is worth is what the hold of that sum in a sandbox is worth. -/
noncomputable def Try.pinned : Pinned := { name := "ytekfabhmopkapaa", sum := "8545246ba029466b6a13ca7a4060f73e01bed17adce2b85a6664cc1a3bb8c810", checked := Try.checked }
namespace Rows
def none {H : Type} : Left H := { results := [], args := [] }

/-- 'fundadminlaw02.RatioMakes': WHATEVER THE INPUT: true; the input reads as it did. -/
def ratioMakesSpec : ChangeSpec := { name := "ratioMakes", fn := fun _ => fun
  | [d1, d2, d3, d4] => { results := [.lit (.bool true)], args := [d1, d2, d3, d4] }
  | _ => none }
def ratioMakesRow : OpenClaim := { program := "ytekfabhmopkapaa", sum := "8545246ba029466b6a13ca7a4060f73e01bed17adce2b85a6664cc1a3bb8c810", func := "fundadmin/fundadminlaw02.RatioMakes", spec := "ratioMakes", unfollowed := true, recurses := true, named := ["math/bits.overflowError"], apart := false }
def RatioMakesSaid : Prop := ratioMakesRow.holds Try.pinned (OpenSpec.ofChange ratioMakesSpec)

/-- ITS FALSE NEIGHBOUR: 'it returns false'. Refute it at one input. -/
def ratioMakesWrong : ChangeSpec := { name := "ratioMakes", fn := fun _ => fun
  | [d1, d2, d3, d4] => { results := [.lit (.bool false)], args := [d1, d2, d3, d4] }
  | _ => none }
def RatioMakesWrongFalsely : Prop := ratioMakesRow.holds Try.pinned (OpenSpec.ofChange ratioMakesWrong)

/-- 'fundadminlaw02.RatioField': WHATEVER THE INPUT: true; the input reads as it did. -/
def ratioFieldSpec : ChangeSpec := { name := "ratioField", fn := fun _ => fun
  | [d] => { results := [.lit (.bool true)], args := [d] }
  | _ => none }
def ratioFieldRow : OpenClaim := { program := "ytekfabhmopkapaa", sum := "8545246ba029466b6a13ca7a4060f73e01bed17adce2b85a6664cc1a3bb8c810", func := "fundadmin/fundadminlaw02.RatioField", spec := "ratioField", unfollowed := true, recurses := true, named := ["math/bits.overflowError"], apart := false }
def RatioFieldSaid : Prop := ratioFieldRow.holds Try.pinned (OpenSpec.ofChange ratioFieldSpec)

/-- ITS FALSE NEIGHBOUR: 'it returns false'. Refute it at one input. -/
def ratioFieldWrong : ChangeSpec := { name := "ratioField", fn := fun _ => fun
  | [d] => { results := [.lit (.bool false)], args := [d] }
  | _ => none }
def RatioFieldWrongFalsely : Prop := ratioFieldRow.holds Try.pinned (OpenSpec.ofChange ratioFieldWrong)

/-- 'fundadminlaw02.RatioSums': WHATEVER THE INPUT: true; the input reads as it did. -/
def ratioSumsSpec : ChangeSpec := { name := "ratioSums", fn := fun _ => fun
  | [d1, d2, d3] => { results := [.lit (.bool true)], args := [d1, d2, d3] }
  | _ => none }
def ratioSumsRow : OpenClaim := { program := "ytekfabhmopkapaa", sum := "8545246ba029466b6a13ca7a4060f73e01bed17adce2b85a6664cc1a3bb8c810", func := "fundadmin/fundadminlaw02.RatioSums", spec := "ratioSums", unfollowed := true, recurses := true, named := ["math/bits.overflowError"], apart := false }
def RatioSumsSaid : Prop := ratioSumsRow.holds Try.pinned (OpenSpec.ofChange ratioSumsSpec)

/-- ITS FALSE NEIGHBOUR: 'it returns false'. Refute it at one input. -/
def ratioSumsWrong : ChangeSpec := { name := "ratioSums", fn := fun _ => fun
  | [d1, d2, d3] => { results := [.lit (.bool false)], args := [d1, d2, d3] }
  | _ => none }
def RatioSumsWrongFalsely : Prop := ratioSumsRow.holds Try.pinned (OpenSpec.ofChange ratioSumsWrong)

/-- 'fundadminlaw02.RatioExact': WHATEVER THE INPUT: true; the input reads as it did. -/
def ratioExactSpec : ChangeSpec := { name := "ratioExact", fn := fun _ => fun
  | [d1, d2] => { results := [.lit (.bool true)], args := [d1, d2] }
  | _ => none }
def ratioExactRow : OpenClaim := { program := "ytekfabhmopkapaa", sum := "8545246ba029466b6a13ca7a4060f73e01bed17adce2b85a6664cc1a3bb8c810", func := "fundadmin/fundadminlaw02.RatioExact", spec := "ratioExact", unfollowed := true, recurses := true, named := ["math/bits.overflowError"], apart := false }
def RatioExactSaid : Prop := ratioExactRow.holds Try.pinned (OpenSpec.ofChange ratioExactSpec)

/-- ITS FALSE NEIGHBOUR: 'it returns false'. Refute it at one input. -/
def ratioExactWrong : ChangeSpec := { name := "ratioExact", fn := fun _ => fun
  | [d1, d2] => { results := [.lit (.bool false)], args := [d1, d2] }
  | _ => none }
def RatioExactWrongFalsely : Prop := ratioExactRow.holds Try.pinned (OpenSpec.ofChange ratioExactWrong)

/-- 'fundadminlaw02.RatioFloors': WHATEVER THE INPUT: true; the input reads as it did. -/
def ratioFloorsSpec : ChangeSpec := { name := "ratioFloors", fn := fun _ => fun
  | [d] => { results := [.lit (.bool true)], args := [d] }
  | _ => none }
def ratioFloorsRow : OpenClaim := { program := "ytekfabhmopkapaa", sum := "8545246ba029466b6a13ca7a4060f73e01bed17adce2b85a6664cc1a3bb8c810", func := "fundadmin/fundadminlaw02.RatioFloors", spec := "ratioFloors", unfollowed := true, recurses := true, named := ["math/bits.overflowError"], apart := false }
def RatioFloorsSaid : Prop := ratioFloorsRow.holds Try.pinned (OpenSpec.ofChange ratioFloorsSpec)

/-- ITS FALSE NEIGHBOUR: 'it returns false'. Refute it at one input. -/
def ratioFloorsWrong : ChangeSpec := { name := "ratioFloors", fn := fun _ => fun
  | [d] => { results := [.lit (.bool false)], args := [d] }
  | _ => none }
def RatioFloorsWrongFalsely : Prop := ratioFloorsRow.holds Try.pinned (OpenSpec.ofChange ratioFloorsWrong)

/-- 'fundadminlaw02.RatioSingles': WHATEVER THE INPUT: true; the input reads as it did. -/
def ratioSinglesSpec : ChangeSpec := { name := "ratioSingles", fn := fun _ => fun
  | [d] => { results := [.lit (.bool true)], args := [d] }
  | _ => none }
def ratioSinglesRow : OpenClaim := { program := "ytekfabhmopkapaa", sum := "8545246ba029466b6a13ca7a4060f73e01bed17adce2b85a6664cc1a3bb8c810", func := "fundadmin/fundadminlaw02.RatioSingles", spec := "ratioSingles", unfollowed := true, recurses := true, named := ["math/bits.overflowError"], apart := false }
def RatioSinglesSaid : Prop := ratioSinglesRow.holds Try.pinned (OpenSpec.ofChange ratioSinglesSpec)

/-- ITS FALSE NEIGHBOUR: 'it returns false'. Refute it at one input. -/
def ratioSinglesWrong : ChangeSpec := { name := "ratioSingles", fn := fun _ => fun
  | [d] => { results := [.lit (.bool false)], args := [d] }
  | _ => none }
def RatioSinglesWrongFalsely : Prop := ratioSinglesRow.holds Try.pinned (OpenSpec.ofChange ratioSinglesWrong)

/-- 'fundadminlaw02.RatioOrder': WHATEVER THE INPUT: true; the input reads as it did. -/
def ratioOrderSpec : ChangeSpec := { name := "ratioOrder", fn := fun _ => fun
  | [d] => { results := [.lit (.bool true)], args := [d] }
  | _ => none }
def ratioOrderRow : OpenClaim := { program := "ytekfabhmopkapaa", sum := "8545246ba029466b6a13ca7a4060f73e01bed17adce2b85a6664cc1a3bb8c810", func := "fundadmin/fundadminlaw02.RatioOrder", spec := "ratioOrder", unfollowed := true, recurses := true, named := ["math/bits.overflowError"], apart := false }
def RatioOrderSaid : Prop := ratioOrderRow.holds Try.pinned (OpenSpec.ofChange ratioOrderSpec)

/-- ITS FALSE NEIGHBOUR: 'it returns false'. Refute it at one input. -/
def ratioOrderWrong : ChangeSpec := { name := "ratioOrder", fn := fun _ => fun
  | [d] => { results := [.lit (.bool false)], args := [d] }
  | _ => none }
def RatioOrderWrongFalsely : Prop := ratioOrderRow.holds Try.pinned (OpenSpec.ofChange ratioOrderWrong)

/-- 'fundadminlaw02.RatioPairs': WHATEVER THE INPUT: true; the input reads as it did. -/
def ratioPairsSpec : ChangeSpec := { name := "ratioPairs", fn := fun _ => fun
  | [d] => { results := [.lit (.bool true)], args := [d] }
  | _ => none }
def ratioPairsRow : OpenClaim := { program := "ytekfabhmopkapaa", sum := "8545246ba029466b6a13ca7a4060f73e01bed17adce2b85a6664cc1a3bb8c810", func := "fundadmin/fundadminlaw02.RatioPairs", spec := "ratioPairs", unfollowed := true, recurses := true, named := ["math/bits.overflowError"], apart := false }
def RatioPairsSaid : Prop := ratioPairsRow.holds Try.pinned (OpenSpec.ofChange ratioPairsSpec)

/-- ITS FALSE NEIGHBOUR: 'it returns false'. Refute it at one input. -/
def ratioPairsWrong : ChangeSpec := { name := "ratioPairs", fn := fun _ => fun
  | [d] => { results := [.lit (.bool false)], args := [d] }
  | _ => none }
def RatioPairsWrongFalsely : Prop := ratioPairsRow.holds Try.pinned (OpenSpec.ofChange ratioPairsWrong)

/- THE SECOND FORM. 'bulk': how many values and letters a reading holds, each counted each time it is reached (what is shared counts as often as it is met; a slice's spare places count too). A statement '..UptoSaid' is the law's where the arguments, and the package variables that the reading takes, are together of bulk at most 1048576: NARROWER than '..Said'. Prove '..Said' where nothing that the law and all that it calls make is longer than what came in: it says more and counts as full. Else prove '..UptoSaid'. A law counts once. -/
mutual
def uptoBulk {H : Type} : DataW H → Nat
  | .lit (.string bytes) => bytes.length + 1
  | .lit _ => 1
  | .nil => 1
  | .ptr d => uptoBulk d + 1
  | .slice elems spare => uptoBulkAll elems + uptoBulkAll spare + 1
  | .agg parts => uptoBulkAll parts + 1
  | .iface _ d => uptoBulk d + 1
  | .map entries => uptoBulkEntries entries + 1
  | .held _ => 1
def uptoBulkAll {H : Type} : List (DataW H) → Nat
  | [] => 0
  | d :: r => uptoBulk d + uptoBulkAll r
def uptoBulkEntries {H : Type} : List (Lit × DataW H) → Nat
  | [] => 0
  | x :: r => uptoBulkEntry x + uptoBulkEntries r
def uptoBulkEntry {H : Type} : Lit × DataW H → Nat
  | (.string bytes, d) => bytes.length + uptoBulk d + 1
  | (_, d) => uptoBulk d + 1
 end
def uptoSmall : (H : Type) → List (DataW H) → Bool := fun _ ds => decide (uptoBulkAll ds ≤ 1048576)
def OpenSpec.upto (s : _root_.Go.ChangeSpec) : _root_.Go.OpenSpec := { _root_.Go.OpenSpec.ofChange s with cond := some uptoSmall }

/-- 'fundadminlaw02.RatioMakes', WHERE WHAT IT READS IS OF BULK AT MOST 1048576: true; the input reads as it did. -/
def ratioMakesUptoRow : OpenClaim := { program := "ytekfabhmopkapaa", sum := "8545246ba029466b6a13ca7a4060f73e01bed17adce2b85a6664cc1a3bb8c810", func := "fundadmin/fundadminlaw02.RatioMakes", spec := "ratioMakes", unfollowed := true, recurses := true, named := ["math/bits.overflowError"], apart := false, narrowed := true }
def RatioMakesUptoSaid : Prop := ratioMakesUptoRow.holds Try.pinned (OpenSpec.upto ratioMakesSpec)

/-- 'fundadminlaw02.RatioField', WHERE WHAT IT READS IS OF BULK AT MOST 1048576: true; the input reads as it did. -/
def ratioFieldUptoRow : OpenClaim := { program := "ytekfabhmopkapaa", sum := "8545246ba029466b6a13ca7a4060f73e01bed17adce2b85a6664cc1a3bb8c810", func := "fundadmin/fundadminlaw02.RatioField", spec := "ratioField", unfollowed := true, recurses := true, named := ["math/bits.overflowError"], apart := false, narrowed := true }
def RatioFieldUptoSaid : Prop := ratioFieldUptoRow.holds Try.pinned (OpenSpec.upto ratioFieldSpec)

/-- 'fundadminlaw02.RatioSums', WHERE WHAT IT READS IS OF BULK AT MOST 1048576: true; the input reads as it did. -/
def ratioSumsUptoRow : OpenClaim := { program := "ytekfabhmopkapaa", sum := "8545246ba029466b6a13ca7a4060f73e01bed17adce2b85a6664cc1a3bb8c810", func := "fundadmin/fundadminlaw02.RatioSums", spec := "ratioSums", unfollowed := true, recurses := true, named := ["math/bits.overflowError"], apart := false, narrowed := true }
def RatioSumsUptoSaid : Prop := ratioSumsUptoRow.holds Try.pinned (OpenSpec.upto ratioSumsSpec)

/-- 'fundadminlaw02.RatioExact', WHERE WHAT IT READS IS OF BULK AT MOST 1048576: true; the input reads as it did. -/
def ratioExactUptoRow : OpenClaim := { program := "ytekfabhmopkapaa", sum := "8545246ba029466b6a13ca7a4060f73e01bed17adce2b85a6664cc1a3bb8c810", func := "fundadmin/fundadminlaw02.RatioExact", spec := "ratioExact", unfollowed := true, recurses := true, named := ["math/bits.overflowError"], apart := false, narrowed := true }
def RatioExactUptoSaid : Prop := ratioExactUptoRow.holds Try.pinned (OpenSpec.upto ratioExactSpec)

/-- 'fundadminlaw02.RatioFloors', WHERE WHAT IT READS IS OF BULK AT MOST 1048576: true; the input reads as it did. -/
def ratioFloorsUptoRow : OpenClaim := { program := "ytekfabhmopkapaa", sum := "8545246ba029466b6a13ca7a4060f73e01bed17adce2b85a6664cc1a3bb8c810", func := "fundadmin/fundadminlaw02.RatioFloors", spec := "ratioFloors", unfollowed := true, recurses := true, named := ["math/bits.overflowError"], apart := false, narrowed := true }
def RatioFloorsUptoSaid : Prop := ratioFloorsUptoRow.holds Try.pinned (OpenSpec.upto ratioFloorsSpec)

/-- 'fundadminlaw02.RatioSingles', WHERE WHAT IT READS IS OF BULK AT MOST 1048576: true; the input reads as it did. -/
def ratioSinglesUptoRow : OpenClaim := { program := "ytekfabhmopkapaa", sum := "8545246ba029466b6a13ca7a4060f73e01bed17adce2b85a6664cc1a3bb8c810", func := "fundadmin/fundadminlaw02.RatioSingles", spec := "ratioSingles", unfollowed := true, recurses := true, named := ["math/bits.overflowError"], apart := false, narrowed := true }
def RatioSinglesUptoSaid : Prop := ratioSinglesUptoRow.holds Try.pinned (OpenSpec.upto ratioSinglesSpec)

/-- 'fundadminlaw02.RatioOrder', WHERE WHAT IT READS IS OF BULK AT MOST 1048576: true; the input reads as it did. -/
def ratioOrderUptoRow : OpenClaim := { program := "ytekfabhmopkapaa", sum := "8545246ba029466b6a13ca7a4060f73e01bed17adce2b85a6664cc1a3bb8c810", func := "fundadmin/fundadminlaw02.RatioOrder", spec := "ratioOrder", unfollowed := true, recurses := true, named := ["math/bits.overflowError"], apart := false, narrowed := true }
def RatioOrderUptoSaid : Prop := ratioOrderUptoRow.holds Try.pinned (OpenSpec.upto ratioOrderSpec)

/-- 'fundadminlaw02.RatioPairs', WHERE WHAT IT READS IS OF BULK AT MOST 1048576: true; the input reads as it did. -/
def ratioPairsUptoRow : OpenClaim := { program := "ytekfabhmopkapaa", sum := "8545246ba029466b6a13ca7a4060f73e01bed17adce2b85a6664cc1a3bb8c810", func := "fundadmin/fundadminlaw02.RatioPairs", spec := "ratioPairs", unfollowed := true, recurses := true, named := ["math/bits.overflowError"], apart := false, narrowed := true }
def RatioPairsUptoSaid : Prop := ratioPairsUptoRow.holds Try.pinned (OpenSpec.upto ratioPairsSpec)

end Rows
end Go.Proofs.Ytekfabhmopkapaa
