/-
  No cell of these rows narrows 'for every input' (looked for: loops, veiled, ifaces, maps, wideKeys, modest, calm, conditions, laid).
  DERIVED. THE GIVEN ROWS OF THIS SEAT. 6 by the template 'for every input the law returns true; each argument reads behind the call as it read before'; 0 by the template 'total and deterministic' (their statements: YtakckjccdknjaaaTotals.lean).
  GIVEN WITH THE SEED: the statements are not yours to turn. If you find one false, say at which input.
  Laid BY PROGRAM, IN A SANDBOX (cutbox-rows.mjs): the forced cells as the released guide's own fill.sh prints them over the translation fd4d58580b79e919… (all of the seat's roots in one cut). By AI agents, Wed Nov 11 2026. No macro, syntax, notation, axiom, sorry.
-/
import Derived.Test.YtakckjccdknjaaaChecked
import GoSem.Claim
import GoSem.ClaimJoined
import GoSem.ClaimMapViews
import Derived.JoinedTies
import Derived.KernelRfl
namespace Go.Proofs.Ytakckjccdknjaaa
/- THE CELL 'sum', in the pinned program and in every row, IS THE sha256 OF THE DUMP (.gsa) THAT YtakckjccdknjaaaProg.lean LOADS. Nothing in Lean hashes anything: it is a label: what it is worth is what the hold of that sum in a sandbox is worth. -/
noncomputable def Try.pinned : Pinned := { name := "ytakckjccdknjaaa", sum := "fd4d58580b79e91925f108803f3a539dbdb37778e1a60ff58db67b27af69b3f0", checked := Try.checked }
namespace Rows
def none {H : Type} : Left H := { results := [], args := [] }

/-- 'fundadminlaw08.CalendarExact': WHATEVER THE INPUT: true; the input reads as it did. -/
def calendarExactSpec : ChangeSpec := { name := "calendarExact", fn := fun _ => fun
  | [d1, d2, d3, d4, d5] => { results := [.lit (.bool true)], args := [d1, d2, d3, d4, d5] }
  | _ => none }
def calendarExactRow : OpenClaim := { program := "ytakckjccdknjaaa", sum := "fd4d58580b79e91925f108803f3a539dbdb37778e1a60ff58db67b27af69b3f0", func := "fundadmin/fundadminlaw08.CalendarExact", spec := "calendarExact", apart := false }
def CalendarExactSaid : Prop := calendarExactRow.holds Try.pinned (OpenSpec.ofChange calendarExactSpec)

/-- ITS FALSE NEIGHBOUR: 'it returns false'. Refute it at one input. -/
def calendarExactWrong : ChangeSpec := { name := "calendarExact", fn := fun _ => fun
  | [d1, d2, d3, d4, d5] => { results := [.lit (.bool false)], args := [d1, d2, d3, d4, d5] }
  | _ => none }
def CalendarExactWrongFalsely : Prop := calendarExactRow.holds Try.pinned (OpenSpec.ofChange calendarExactWrong)

/-- 'fundadminlaw08.CalendarPlays': WHATEVER THE INPUT: true; the input reads as it did. -/
def calendarPlaysSpec : ChangeSpec := { name := "calendarPlays", fn := fun _ => fun
  | [d] => { results := [.lit (.bool true)], args := [d] }
  | _ => none }
def calendarPlaysRow : OpenClaim := { program := "ytakckjccdknjaaa", sum := "fd4d58580b79e91925f108803f3a539dbdb37778e1a60ff58db67b27af69b3f0", func := "fundadmin/fundadminlaw08.CalendarPlays", spec := "calendarPlays", apart := false }
def CalendarPlaysSaid : Prop := calendarPlaysRow.holds Try.pinned (OpenSpec.ofChange calendarPlaysSpec)

/-- ITS FALSE NEIGHBOUR: 'it returns false'. Refute it at one input. -/
def calendarPlaysWrong : ChangeSpec := { name := "calendarPlays", fn := fun _ => fun
  | [d] => { results := [.lit (.bool false)], args := [d] }
  | _ => none }
def CalendarPlaysWrongFalsely : Prop := calendarPlaysRow.holds Try.pinned (OpenSpec.ofChange calendarPlaysWrong)

/-- 'fundadminlaw08.CalendarSpoilt': WHATEVER THE INPUT: true; the input reads as it did. -/
def calendarSpoiltSpec : ChangeSpec := { name := "calendarSpoilt", fn := fun _ => fun
  | [d1, d2] => { results := [.lit (.bool true)], args := [d1, d2] }
  | _ => none }
def calendarSpoiltRow : OpenClaim := { program := "ytakckjccdknjaaa", sum := "fd4d58580b79e91925f108803f3a539dbdb37778e1a60ff58db67b27af69b3f0", func := "fundadmin/fundadminlaw08.CalendarSpoilt", spec := "calendarSpoilt", apart := false }
def CalendarSpoiltSaid : Prop := calendarSpoiltRow.holds Try.pinned (OpenSpec.ofChange calendarSpoiltSpec)

/-- ITS FALSE NEIGHBOUR: 'it returns false'. Refute it at one input. -/
def calendarSpoiltWrong : ChangeSpec := { name := "calendarSpoilt", fn := fun _ => fun
  | [d1, d2] => { results := [.lit (.bool false)], args := [d1, d2] }
  | _ => none }
def CalendarSpoiltWrongFalsely : Prop := calendarSpoiltRow.holds Try.pinned (OpenSpec.ofChange calendarSpoiltWrong)

/-- 'fundadminlaw08.CalendarAdds': WHATEVER THE INPUT: true; the input reads as it did. -/
def calendarAddsSpec : ChangeSpec := { name := "calendarAdds", fn := fun _ => fun
  | [d] => { results := [.lit (.bool true)], args := [d] }
  | _ => none }
def calendarAddsRow : OpenClaim := { program := "ytakckjccdknjaaa", sum := "fd4d58580b79e91925f108803f3a539dbdb37778e1a60ff58db67b27af69b3f0", func := "fundadmin/fundadminlaw08.CalendarAdds", spec := "calendarAdds", apart := false }
def CalendarAddsSaid : Prop := calendarAddsRow.holds Try.pinned (OpenSpec.ofChange calendarAddsSpec)

/-- ITS FALSE NEIGHBOUR: 'it returns false'. Refute it at one input. -/
def calendarAddsWrong : ChangeSpec := { name := "calendarAdds", fn := fun _ => fun
  | [d] => { results := [.lit (.bool false)], args := [d] }
  | _ => none }
def CalendarAddsWrongFalsely : Prop := calendarAddsRow.holds Try.pinned (OpenSpec.ofChange calendarAddsWrong)

/-- 'fundadminlaw08.CalendarCounts': WHATEVER THE INPUT: true; the input reads as it did. -/
def calendarCountsSpec : ChangeSpec := { name := "calendarCounts", fn := fun _ => fun
  | [d] => { results := [.lit (.bool true)], args := [d] }
  | _ => none }
def calendarCountsRow : OpenClaim := { program := "ytakckjccdknjaaa", sum := "fd4d58580b79e91925f108803f3a539dbdb37778e1a60ff58db67b27af69b3f0", func := "fundadmin/fundadminlaw08.CalendarCounts", spec := "calendarCounts", apart := false }
def CalendarCountsSaid : Prop := calendarCountsRow.holds Try.pinned (OpenSpec.ofChange calendarCountsSpec)

/-- ITS FALSE NEIGHBOUR: 'it returns false'. Refute it at one input. -/
def calendarCountsWrong : ChangeSpec := { name := "calendarCounts", fn := fun _ => fun
  | [d] => { results := [.lit (.bool false)], args := [d] }
  | _ => none }
def CalendarCountsWrongFalsely : Prop := calendarCountsRow.holds Try.pinned (OpenSpec.ofChange calendarCountsWrong)

/-- 'fundadminlaw08.CalendarAdjusts': WHATEVER THE INPUT: true; the input reads as it did. -/
def calendarAdjustsSpec : ChangeSpec := { name := "calendarAdjusts", fn := fun _ => fun
  | [d] => { results := [.lit (.bool true)], args := [d] }
  | _ => none }
def calendarAdjustsRow : OpenClaim := { program := "ytakckjccdknjaaa", sum := "fd4d58580b79e91925f108803f3a539dbdb37778e1a60ff58db67b27af69b3f0", func := "fundadmin/fundadminlaw08.CalendarAdjusts", spec := "calendarAdjusts", apart := false }
def CalendarAdjustsSaid : Prop := calendarAdjustsRow.holds Try.pinned (OpenSpec.ofChange calendarAdjustsSpec)

/-- ITS FALSE NEIGHBOUR: 'it returns false'. Refute it at one input. -/
def calendarAdjustsWrong : ChangeSpec := { name := "calendarAdjusts", fn := fun _ => fun
  | [d] => { results := [.lit (.bool false)], args := [d] }
  | _ => none }
def CalendarAdjustsWrongFalsely : Prop := calendarAdjustsRow.holds Try.pinned (OpenSpec.ofChange calendarAdjustsWrong)

/- THE SECOND FORM. 'bulk': how many values and letters a reading holds, each counted each time it is reached (what is shared counts as often as it is met; a slice's spare places count too). A statement '..UptoSaid' is the law's where the arguments, and the package variables that the reading takes, are together of bulk at most 1048576: NARROWER than '..Said'. Prove '..Said' where nothing that the law and all that it calls make is longer than what came in: it says more and counts as full. Else prove '..UptoSaid'. A law counts once. -/
mutual
def uptoBulk {H : Type} : DataW H → Nat
  | .lit (.string bytes) => bytes.length + 1
  | .lit _ => 1
  | .nil => 1
  | .ptr d => uptoBulk d + 1
  | .slice elems spare => uptoBulkAll elems + uptoBulkAll spare + 1
  | .agg parts => uptoBulkAll parts + 1
  | .iface _ d => uptoBulk d + 1
  | .map entries => uptoBulkEntries entries + 1
  | .held _ => 1
def uptoBulkAll {H : Type} : List (DataW H) → Nat
  | [] => 0
  | d :: r => uptoBulk d + uptoBulkAll r
def uptoBulkEntries {H : Type} : List (Lit × DataW H) → Nat
  | [] => 0
  | x :: r => uptoBulkEntry x + uptoBulkEntries r
def uptoBulkEntry {H : Type} : Lit × DataW H → Nat
  | (.string bytes, d) => bytes.length + uptoBulk d + 1
  | (_, d) => uptoBulk d + 1
 end
def uptoSmall : (H : Type) → List (DataW H) → Bool := fun _ ds => decide (uptoBulkAll ds ≤ 1048576)
def OpenSpec.upto (s : _root_.Go.ChangeSpec) : _root_.Go.OpenSpec := { _root_.Go.OpenSpec.ofChange s with cond := some uptoSmall }

/-- 'fundadminlaw08.CalendarExact', WHERE WHAT IT READS IS OF BULK AT MOST 1048576: true; the input reads as it did. -/
def calendarExactUptoRow : OpenClaim := { program := "ytakckjccdknjaaa", sum := "fd4d58580b79e91925f108803f3a539dbdb37778e1a60ff58db67b27af69b3f0", func := "fundadmin/fundadminlaw08.CalendarExact", spec := "calendarExact", apart := false, narrowed := true }
def CalendarExactUptoSaid : Prop := calendarExactUptoRow.holds Try.pinned (OpenSpec.upto calendarExactSpec)

/-- 'fundadminlaw08.CalendarPlays', WHERE WHAT IT READS IS OF BULK AT MOST 1048576: true; the input reads as it did. -/
def calendarPlaysUptoRow : OpenClaim := { program := "ytakckjccdknjaaa", sum := "fd4d58580b79e91925f108803f3a539dbdb37778e1a60ff58db67b27af69b3f0", func := "fundadmin/fundadminlaw08.CalendarPlays", spec := "calendarPlays", apart := false, narrowed := true }
def CalendarPlaysUptoSaid : Prop := calendarPlaysUptoRow.holds Try.pinned (OpenSpec.upto calendarPlaysSpec)

/-- 'fundadminlaw08.CalendarSpoilt', WHERE WHAT IT READS IS OF BULK AT MOST 1048576: true; the input reads as it did. -/
def calendarSpoiltUptoRow : OpenClaim := { program := "ytakckjccdknjaaa", sum := "fd4d58580b79e91925f108803f3a539dbdb37778e1a60ff58db67b27af69b3f0", func := "fundadmin/fundadminlaw08.CalendarSpoilt", spec := "calendarSpoilt", apart := false, narrowed := true }
def CalendarSpoiltUptoSaid : Prop := calendarSpoiltUptoRow.holds Try.pinned (OpenSpec.upto calendarSpoiltSpec)

/-- 'fundadminlaw08.CalendarAdds', WHERE WHAT IT READS IS OF BULK AT MOST 1048576: true; the input reads as it did. -/
def calendarAddsUptoRow : OpenClaim := { program := "ytakckjccdknjaaa", sum := "fd4d58580b79e91925f108803f3a539dbdb37778e1a60ff58db67b27af69b3f0", func := "fundadmin/fundadminlaw08.CalendarAdds", spec := "calendarAdds", apart := false, narrowed := true }
def CalendarAddsUptoSaid : Prop := calendarAddsUptoRow.holds Try.pinned (OpenSpec.upto calendarAddsSpec)

/-- 'fundadminlaw08.CalendarCounts', WHERE WHAT IT READS IS OF BULK AT MOST 1048576: true; the input reads as it did. -/
def calendarCountsUptoRow : OpenClaim := { program := "ytakckjccdknjaaa", sum := "fd4d58580b79e91925f108803f3a539dbdb37778e1a60ff58db67b27af69b3f0", func := "fundadmin/fundadminlaw08.CalendarCounts", spec := "calendarCounts", apart := false, narrowed := true }
def CalendarCountsUptoSaid : Prop := calendarCountsUptoRow.holds Try.pinned (OpenSpec.upto calendarCountsSpec)

/-- 'fundadminlaw08.CalendarAdjusts', WHERE WHAT IT READS IS OF BULK AT MOST 1048576: true; the input reads as it did. -/
def calendarAdjustsUptoRow : OpenClaim := { program := "ytakckjccdknjaaa", sum := "fd4d58580b79e91925f108803f3a539dbdb37778e1a60ff58db67b27af69b3f0", func := "fundadmin/fundadminlaw08.CalendarAdjusts", spec := "calendarAdjusts", apart := false, narrowed := true }
def CalendarAdjustsUptoSaid : Prop := calendarAdjustsUptoRow.holds Try.pinned (OpenSpec.upto calendarAdjustsSpec)

end Rows
end Go.Proofs.Ytakckjccdknjaaa
