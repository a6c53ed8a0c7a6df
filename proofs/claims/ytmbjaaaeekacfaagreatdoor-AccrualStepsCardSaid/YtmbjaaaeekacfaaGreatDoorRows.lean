/-
  NARROWER THAN 'FOR EVERY INPUT', by the rows' own cells (each row's printed sentence says how): AccrualExact: laid · AccrualPlays: laid · AccrualSpoilt: laid · AccrualSteps: laid · AccrualDrift: laid · AccrualAdds: laid.
  DERIVED. THE GIVEN ROWS OF THIS SEAT. 6 by the template 'for every input the law returns true; each argument reads behind the call as it read before'; 0 by the template 'total and deterministic' (their statements: YtmbjaaaeekacfaaGreatDoorTotals.lean).
  GIVEN WITH THE SEED: the statements are not yours to turn. If you find one false, say at which input.
  Laid BY PROGRAM, IN A SANDBOX (cutbox-rows.mjs): the forced cells as the released guide's own fill.sh prints them over the translation a642c767128e817d… (all of the seat's roots in one cut). By AI agents, Wed Nov 11 2026. No macro, syntax, notation, axiom, sorry.
-/
import Derived.Test.YtmbjaaaeekacfaaGreatDoorChecked
import GoSem.PinnedTables
import GoSem.Claim
import GoSem.ClaimJoined
import GoSem.ClaimMapViews
import Derived.JoinedTies
import Derived.KernelRfl
namespace Go.Proofs.YtmbjaaaeekacfaaGreatDoor
/- THE CELL 'sum', in the pinned program and in every row, IS THE sha256 OF THE DUMP (.gsa) THAT YtmbjaaaeekacfaaGreatDoorProg.lean LOADS. Nothing in Lean hashes anything: it is a label: what it is worth is what the hold of that sum in a sandbox is worth. -/
noncomputable def Tryz.pinned : Pinned := { name := "ytmbjaaaeekacfaagreatdoor", sum := "a642c767128e817d6cf70a6a9f4775d7918e646c7427fa7cdbf4a0839ffff8da", checked := Tryz.checked }
namespace Rows
def none {H : Type} : Left H := { results := [], args := [] }

/- WHAT THE LISTED PACKAGE-LEVEL VARIABLES READ AS WHEN THE CALL BEGINS. Each datum BY PROGRAM (the guide's laid-datum.mjs) off the statement by which the dump's own 'gosem.cut.vars' lays the variable. In a bare row this is a premise. The card (YtmbjaaaeekacfaaGreatDoorCards.lean) ties it to the program's text. -/
def laid_unicode_utf8_acceptRanges {H : Type} : DataW H := .agg [.agg [.lit (.int .u8 128), .lit (.int .u8 191)], .agg [.lit (.int .u8 160), .lit (.int .u8 191)], .agg [.lit (.int .u8 128), .lit (.int .u8 159)], .agg [.lit (.int .u8 144), .lit (.int .u8 191)], .agg [.lit (.int .u8 128), .lit (.int .u8 143)], .agg [.lit (.int .u8 0), .lit (.int .u8 0)], .agg [.lit (.int .u8 0), .lit (.int .u8 0)], .agg [.lit (.int .u8 0), .lit (.int .u8 0)], .agg [.lit (.int .u8 0), .lit (.int .u8 0)], .agg [.lit (.int .u8 0), .lit (.int .u8 0)], .agg [.lit (.int .u8 0), .lit (.int .u8 0)], .agg [.lit (.int .u8 0), .lit (.int .u8 0)], .agg [.lit (.int .u8 0), .lit (.int .u8 0)], .agg [.lit (.int .u8 0), .lit (.int .u8 0)], .agg [.lit (.int .u8 0), .lit (.int .u8 0)], .agg [.lit (.int .u8 0), .lit (.int .u8 0)]]
/-- One of Go's own tables, pinned by name: the form's constant. -/
def laid_unicode_utf8_first : DataW Unit := Go.Pinned.utf8First

/-- 'fundadminlaw19.AccrualExact': WHATEVER THE INPUT: true; the input reads as it did. -/
def accrualExactSpec : ChangeSpec := { name := "accrualExact", fn := fun _ => fun
  | [d1, d2, d3, d4, d5] => { results := [.lit (.bool true)], args := [d1, d2, d3, d4, d5] }
  | _ => none }
def accrualExactRow : OpenClaim := { program := "ytmbjaaaeekacfaagreatdoor", sum := "a642c767128e817d6cf70a6a9f4775d7918e646c7427fa7cdbf4a0839ffff8da", func := "fundadmin/fundadminlaw19.AccrualExact", spec := "accrualExact", inPlace := ["internal/abi.NoEscape", "internal/bytealg.MakeNoZero", "internal/bytealg.IndexByteString", "internal/bytealg.IndexString"], unfollowed := true, recurses := true, named := ["math/bits.overflowError", "unicode/utf8.first", "unicode/utf8.acceptRanges", "internal/bytealg.MaxLen"], apart := false, laid := [("unicode/utf8.acceptRanges", laid_unicode_utf8_acceptRanges), ("unicode/utf8.first", laid_unicode_utf8_first)] }
def AccrualExactSaid : Prop := accrualExactRow.holds Tryz.pinned (OpenSpec.ofChange accrualExactSpec)

/-- ITS FALSE NEIGHBOUR: 'it returns false'. Refute it at one input. -/
def accrualExactWrong : ChangeSpec := { name := "accrualExact", fn := fun _ => fun
  | [d1, d2, d3, d4, d5] => { results := [.lit (.bool false)], args := [d1, d2, d3, d4, d5] }
  | _ => none }
def AccrualExactWrongFalsely : Prop := accrualExactRow.holds Tryz.pinned (OpenSpec.ofChange accrualExactWrong)

/-- 'fundadminlaw19.AccrualPlays': WHATEVER THE INPUT: true; the input reads as it did. -/
def accrualPlaysSpec : ChangeSpec := { name := "accrualPlays", fn := fun _ => fun
  | [d] => { results := [.lit (.bool true)], args := [d] }
  | _ => none }
def accrualPlaysRow : OpenClaim := { program := "ytmbjaaaeekacfaagreatdoor", sum := "a642c767128e817d6cf70a6a9f4775d7918e646c7427fa7cdbf4a0839ffff8da", func := "fundadmin/fundadminlaw19.AccrualPlays", spec := "accrualPlays", inPlace := ["internal/abi.NoEscape", "internal/bytealg.MakeNoZero", "internal/bytealg.IndexByteString", "internal/bytealg.IndexString"], unfollowed := true, recurses := true, named := ["math/bits.overflowError", "unicode/utf8.first", "unicode/utf8.acceptRanges", "internal/bytealg.MaxLen"], apart := false, laid := [("unicode/utf8.acceptRanges", laid_unicode_utf8_acceptRanges), ("unicode/utf8.first", laid_unicode_utf8_first)] }
def AccrualPlaysSaid : Prop := accrualPlaysRow.holds Tryz.pinned (OpenSpec.ofChange accrualPlaysSpec)

/-- ITS FALSE NEIGHBOUR: 'it returns false'. Refute it at one input. -/
def accrualPlaysWrong : ChangeSpec := { name := "accrualPlays", fn := fun _ => fun
  | [d] => { results := [.lit (.bool false)], args := [d] }
  | _ => none }
def AccrualPlaysWrongFalsely : Prop := accrualPlaysRow.holds Tryz.pinned (OpenSpec.ofChange accrualPlaysWrong)

/-- 'fundadminlaw19.AccrualSpoilt': WHATEVER THE INPUT: true; the input reads as it did. -/
def accrualSpoiltSpec : ChangeSpec := { name := "accrualSpoilt", fn := fun _ => fun
  | [d1, d2, d3] => { results := [.lit (.bool true)], args := [d1, d2, d3] }
  | _ => none }
def accrualSpoiltRow : OpenClaim := { program := "ytmbjaaaeekacfaagreatdoor", sum := "a642c767128e817d6cf70a6a9f4775d7918e646c7427fa7cdbf4a0839ffff8da", func := "fundadmin/fundadminlaw19.AccrualSpoilt", spec := "accrualSpoilt", inPlace := ["internal/abi.NoEscape", "internal/bytealg.MakeNoZero", "internal/bytealg.IndexByteString", "internal/bytealg.IndexString"], unfollowed := true, recurses := true, named := ["math/bits.overflowError", "unicode/utf8.first", "unicode/utf8.acceptRanges", "internal/bytealg.MaxLen"], apart := false, laid := [("unicode/utf8.acceptRanges", laid_unicode_utf8_acceptRanges), ("unicode/utf8.first", laid_unicode_utf8_first)] }
def AccrualSpoiltSaid : Prop := accrualSpoiltRow.holds Tryz.pinned (OpenSpec.ofChange accrualSpoiltSpec)

/-- ITS FALSE NEIGHBOUR: 'it returns false'. Refute it at one input. -/
def accrualSpoiltWrong : ChangeSpec := { name := "accrualSpoilt", fn := fun _ => fun
  | [d1, d2, d3] => { results := [.lit (.bool false)], args := [d1, d2, d3] }
  | _ => none }
def AccrualSpoiltWrongFalsely : Prop := accrualSpoiltRow.holds Tryz.pinned (OpenSpec.ofChange accrualSpoiltWrong)

/-- 'fundadminlaw19.AccrualSteps': WHATEVER THE INPUT: true; the input reads as it did. -/
def accrualStepsSpec : ChangeSpec := { name := "accrualSteps", fn := fun _ => fun
  | [d] => { results := [.lit (.bool true)], args := [d] }
  | _ => none }
def accrualStepsRow : OpenClaim := { program := "ytmbjaaaeekacfaagreatdoor", sum := "a642c767128e817d6cf70a6a9f4775d7918e646c7427fa7cdbf4a0839ffff8da", func := "fundadmin/fundadminlaw19.AccrualSteps", spec := "accrualSteps", inPlace := ["internal/abi.NoEscape", "internal/bytealg.MakeNoZero", "internal/bytealg.IndexByteString", "internal/bytealg.IndexString"], unfollowed := true, recurses := true, named := ["math/bits.overflowError", "unicode/utf8.first", "unicode/utf8.acceptRanges", "internal/bytealg.MaxLen"], apart := false, laid := [("unicode/utf8.acceptRanges", laid_unicode_utf8_acceptRanges), ("unicode/utf8.first", laid_unicode_utf8_first)] }
def AccrualStepsSaid : Prop := accrualStepsRow.holds Tryz.pinned (OpenSpec.ofChange accrualStepsSpec)

/-- ITS FALSE NEIGHBOUR: 'it returns false'. Refute it at one input. -/
def accrualStepsWrong : ChangeSpec := { name := "accrualSteps", fn := fun _ => fun
  | [d] => { results := [.lit (.bool false)], args := [d] }
  | _ => none }
def AccrualStepsWrongFalsely : Prop := accrualStepsRow.holds Tryz.pinned (OpenSpec.ofChange accrualStepsWrong)

/-- 'fundadminlaw19.AccrualDrift': WHATEVER THE INPUT: true; the input reads as it did. -/
def accrualDriftSpec : ChangeSpec := { name := "accrualDrift", fn := fun _ => fun
  | [d] => { results := [.lit (.bool true)], args := [d] }
  | _ => none }
def accrualDriftRow : OpenClaim := { program := "ytmbjaaaeekacfaagreatdoor", sum := "a642c767128e817d6cf70a6a9f4775d7918e646c7427fa7cdbf4a0839ffff8da", func := "fundadmin/fundadminlaw19.AccrualDrift", spec := "accrualDrift", inPlace := ["internal/abi.NoEscape", "internal/bytealg.MakeNoZero", "internal/bytealg.IndexByteString", "internal/bytealg.IndexString"], unfollowed := true, recurses := true, named := ["math/bits.overflowError", "unicode/utf8.first", "unicode/utf8.acceptRanges", "internal/bytealg.MaxLen"], apart := false, laid := [("unicode/utf8.acceptRanges", laid_unicode_utf8_acceptRanges), ("unicode/utf8.first", laid_unicode_utf8_first)] }
def AccrualDriftSaid : Prop := accrualDriftRow.holds Tryz.pinned (OpenSpec.ofChange accrualDriftSpec)

/-- ITS FALSE NEIGHBOUR: 'it returns false'. Refute it at one input. -/
def accrualDriftWrong : ChangeSpec := { name := "accrualDrift", fn := fun _ => fun
  | [d] => { results := [.lit (.bool false)], args := [d] }
  | _ => none }
def AccrualDriftWrongFalsely : Prop := accrualDriftRow.holds Tryz.pinned (OpenSpec.ofChange accrualDriftWrong)

/-- 'fundadminlaw19.AccrualAdds': WHATEVER THE INPUT: true; the input reads as it did. -/
def accrualAddsSpec : ChangeSpec := { name := "accrualAdds", fn := fun _ => fun
  | [d] => { results := [.lit (.bool true)], args := [d] }
  | _ => none }
def accrualAddsRow : OpenClaim := { program := "ytmbjaaaeekacfaagreatdoor", sum := "a642c767128e817d6cf70a6a9f4775d7918e646c7427fa7cdbf4a0839ffff8da", func := "fundadmin/fundadminlaw19.AccrualAdds", spec := "accrualAdds", inPlace := ["internal/abi.NoEscape", "internal/bytealg.MakeNoZero", "internal/bytealg.IndexByteString", "internal/bytealg.IndexString"], unfollowed := true, recurses := true, named := ["math/bits.overflowError", "unicode/utf8.first", "unicode/utf8.acceptRanges", "internal/bytealg.MaxLen"], apart := false, laid := [("unicode/utf8.acceptRanges", laid_unicode_utf8_acceptRanges), ("unicode/utf8.first", laid_unicode_utf8_first)] }
def AccrualAddsSaid : Prop := accrualAddsRow.holds Tryz.pinned (OpenSpec.ofChange accrualAddsSpec)

/-- ITS FALSE NEIGHBOUR: 'it returns false'. Refute it at one input. -/
def accrualAddsWrong : ChangeSpec := { name := "accrualAdds", fn := fun _ => fun
  | [d] => { results := [.lit (.bool false)], args := [d] }
  | _ => none }
def AccrualAddsWrongFalsely : Prop := accrualAddsRow.holds Tryz.pinned (OpenSpec.ofChange accrualAddsWrong)

/- THE SECOND FORM. 'bulk': how many values and letters a reading holds, each counted each time it is reached (what is shared counts as often as it is met; a slice's spare places count too). A statement '..UptoSaid' is the law's where the arguments, and the package variables that the reading takes, are together of bulk at most 1048576: NARROWER than '..Said'. Prove '..Said' where nothing that the law and all that it calls make is longer than what came in: it says more and counts as full. Else prove '..UptoSaid'. A law counts once. -/
mutual
def uptoBulk {H : Type} : DataW H → Nat
  | .lit (.string bytes) => bytes.length + 1
  | .lit _ => 1
  | .nil => 1
  | .ptr d => uptoBulk d + 1
  | .slice elems spare => uptoBulkAll elems + uptoBulkAll spare + 1
  | .agg parts => uptoBulkAll parts + 1
  | .iface _ d => uptoBulk d + 1
  | .map entries => uptoBulkEntries entries + 1
  | .held _ => 1
def uptoBulkAll {H : Type} : List (DataW H) → Nat
  | [] => 0
  | d :: r => uptoBulk d + uptoBulkAll r
def uptoBulkEntries {H : Type} : List (Lit × DataW H) → Nat
  | [] => 0
  | x :: r => uptoBulkEntry x + uptoBulkEntries r
def uptoBulkEntry {H : Type} : Lit × DataW H → Nat
  | (.string bytes, d) => bytes.length + uptoBulk d + 1
  | (_, d) => uptoBulk d + 1
 end
def uptoSmall : (H : Type) → List (DataW H) → Bool := fun _ ds => decide (uptoBulkAll ds ≤ 1048576)
def OpenSpec.upto (s : _root_.Go.ChangeSpec) : _root_.Go.OpenSpec := { _root_.Go.OpenSpec.ofChange s with cond := some uptoSmall }

/-- 'fundadminlaw19.AccrualExact', WHERE WHAT IT READS IS OF BULK AT MOST 1048576: true; the input reads as it did. -/
def accrualExactUptoRow : OpenClaim := { program := "ytmbjaaaeekacfaagreatdoor", sum := "a642c767128e817d6cf70a6a9f4775d7918e646c7427fa7cdbf4a0839ffff8da", func := "fundadmin/fundadminlaw19.AccrualExact", spec := "accrualExact", inPlace := ["internal/abi.NoEscape", "internal/bytealg.MakeNoZero", "internal/bytealg.IndexByteString", "internal/bytealg.IndexString"], unfollowed := true, recurses := true, named := ["math/bits.overflowError", "unicode/utf8.first", "unicode/utf8.acceptRanges", "internal/bytealg.MaxLen"], apart := false, laid := [("unicode/utf8.acceptRanges", laid_unicode_utf8_acceptRanges), ("unicode/utf8.first", laid_unicode_utf8_first)], narrowed := true }
def AccrualExactUptoSaid : Prop := accrualExactUptoRow.holds Tryz.pinned (OpenSpec.upto accrualExactSpec)

/-- 'fundadminlaw19.AccrualPlays', WHERE WHAT IT READS IS OF BULK AT MOST 1048576: true; the input reads as it did. -/
def accrualPlaysUptoRow : OpenClaim := { program := "ytmbjaaaeekacfaagreatdoor", sum := "a642c767128e817d6cf70a6a9f4775d7918e646c7427fa7cdbf4a0839ffff8da", func := "fundadmin/fundadminlaw19.AccrualPlays", spec := "accrualPlays", inPlace := ["internal/abi.NoEscape", "internal/bytealg.MakeNoZero", "internal/bytealg.IndexByteString", "internal/bytealg.IndexString"], unfollowed := true, recurses := true, named := ["math/bits.overflowError", "unicode/utf8.first", "unicode/utf8.acceptRanges", "internal/bytealg.MaxLen"], apart := false, laid := [("unicode/utf8.acceptRanges", laid_unicode_utf8_acceptRanges), ("unicode/utf8.first", laid_unicode_utf8_first)], narrowed := true }
def AccrualPlaysUptoSaid : Prop := accrualPlaysUptoRow.holds Tryz.pinned (OpenSpec.upto accrualPlaysSpec)

/-- 'fundadminlaw19.AccrualSpoilt', WHERE WHAT IT READS IS OF BULK AT MOST 1048576: true; the input reads as it did. -/
def accrualSpoiltUptoRow : OpenClaim := { program := "ytmbjaaaeekacfaagreatdoor", sum := "a642c767128e817d6cf70a6a9f4775d7918e646c7427fa7cdbf4a0839ffff8da", func := "fundadmin/fundadminlaw19.AccrualSpoilt", spec := "accrualSpoilt", inPlace := ["internal/abi.NoEscape", "internal/bytealg.MakeNoZero", "internal/bytealg.IndexByteString", "internal/bytealg.IndexString"], unfollowed := true, recurses := true, named := ["math/bits.overflowError", "unicode/utf8.first", "unicode/utf8.acceptRanges", "internal/bytealg.MaxLen"], apart := false, laid := [("unicode/utf8.acceptRanges", laid_unicode_utf8_acceptRanges), ("unicode/utf8.first", laid_unicode_utf8_first)], narrowed := true }
def AccrualSpoiltUptoSaid : Prop := accrualSpoiltUptoRow.holds Tryz.pinned (OpenSpec.upto accrualSpoiltSpec)

/-- 'fundadminlaw19.AccrualSteps', WHERE WHAT IT READS IS OF BULK AT MOST 1048576: true; the input reads as it did. -/
def accrualStepsUptoRow : OpenClaim := { program := "ytmbjaaaeekacfaagreatdoor", sum := "a642c767128e817d6cf70a6a9f4775d7918e646c7427fa7cdbf4a0839ffff8da", func := "fundadmin/fundadminlaw19.AccrualSteps", spec := "accrualSteps", inPlace := ["internal/abi.NoEscape", "internal/bytealg.MakeNoZero", "internal/bytealg.IndexByteString", "internal/bytealg.IndexString"], unfollowed := true, recurses := true, named := ["math/bits.overflowError", "unicode/utf8.first", "unicode/utf8.acceptRanges", "internal/bytealg.MaxLen"], apart := false, laid := [("unicode/utf8.acceptRanges", laid_unicode_utf8_acceptRanges), ("unicode/utf8.first", laid_unicode_utf8_first)], narrowed := true }
def AccrualStepsUptoSaid : Prop := accrualStepsUptoRow.holds Tryz.pinned (OpenSpec.upto accrualStepsSpec)

/-- 'fundadminlaw19.AccrualDrift', WHERE WHAT IT READS IS OF BULK AT MOST 1048576: true; the input reads as it did. -/
def accrualDriftUptoRow : OpenClaim := { program := "ytmbjaaaeekacfaagreatdoor", sum := "a642c767128e817d6cf70a6a9f4775d7918e646c7427fa7cdbf4a0839ffff8da", func := "fundadmin/fundadminlaw19.AccrualDrift", spec := "accrualDrift", inPlace := ["internal/abi.NoEscape", "internal/bytealg.MakeNoZero", "internal/bytealg.IndexByteString", "internal/bytealg.IndexString"], unfollowed := true, recurses := true, named := ["math/bits.overflowError", "unicode/utf8.first", "unicode/utf8.acceptRanges", "internal/bytealg.MaxLen"], apart := false, laid := [("unicode/utf8.acceptRanges", laid_unicode_utf8_acceptRanges), ("unicode/utf8.first", laid_unicode_utf8_first)], narrowed := true }
def AccrualDriftUptoSaid : Prop := accrualDriftUptoRow.holds Tryz.pinned (OpenSpec.upto accrualDriftSpec)

/-- 'fundadminlaw19.AccrualAdds', WHERE WHAT IT READS IS OF BULK AT MOST 1048576: true; the input reads as it did. -/
def accrualAddsUptoRow : OpenClaim := { program := "ytmbjaaaeekacfaagreatdoor", sum := "a642c767128e817d6cf70a6a9f4775d7918e646c7427fa7cdbf4a0839ffff8da", func := "fundadmin/fundadminlaw19.AccrualAdds", spec := "accrualAdds", inPlace := ["internal/abi.NoEscape", "internal/bytealg.MakeNoZero", "internal/bytealg.IndexByteString", "internal/bytealg.IndexString"], unfollowed := true, recurses := true, named := ["math/bits.overflowError", "unicode/utf8.first", "unicode/utf8.acceptRanges", "internal/bytealg.MaxLen"], apart := false, laid := [("unicode/utf8.acceptRanges", laid_unicode_utf8_acceptRanges), ("unicode/utf8.first", laid_unicode_utf8_first)], narrowed := true }
def AccrualAddsUptoSaid : Prop := accrualAddsUptoRow.holds Tryz.pinned (OpenSpec.upto accrualAddsSpec)

end Rows
end Go.Proofs.YtmbjaaaeekacfaaGreatDoor
