/-
  NARROWER THAN 'FOR EVERY INPUT', by the rows' own cells (each row's printed sentence says how): JournalCorrectsDays: laid · JournalForgetsTheFuture: laid · JournalTells: laid · JournalOfMadeRecords: laid.
  DERIVED. THE GIVEN ROWS OF THIS SEAT. 4 by the template 'for every input the law returns true; each argument reads behind the call as it read before'; 0 by the template 'total and deterministic' (their statements: YtkiempioeffhbaaGreatDoorTotals.lean).
  GIVEN WITH THE SEED: the statements are not yours to turn. If you find one false, say at which input.
  Laid BY PROGRAM, IN A SANDBOX (cutbox-rows.mjs): the forced cells as the released guide's own fill.sh prints them over the translation cda132a69878a221… (all of the seat's roots in one cut). By AI agents, Wed Nov 11 2026. No macro, syntax, notation, axiom, sorry.
-/
import Derived.Test.YtkiempioeffhbaaGreatDoorChecked
import GoSem.PinnedTables
import GoSem.Claim
import GoSem.ClaimJoined
import GoSem.ClaimMapViews
import Derived.JoinedTies
import Derived.KernelRfl
namespace Go.Proofs.YtkiempioeffhbaaGreatDoor
/- THE CELL 'sum', in the pinned program and in every row, IS THE sha256 OF THE DUMP (.gsa) THAT YtkiempioeffhbaaGreatDoorProg.lean LOADS. Nothing in Lean hashes anything: it is a label: what it is worth is what the hold of that sum in a sandbox is worth. -/
noncomputable def Tryz.pinned : Pinned := { name := "ytkiempioeffhbaagreatdoor", sum := "cda132a69878a22169483a38522571c9e0bf4bd07fbf89bdabd06a88f8558651", checked := Tryz.checked }
namespace Rows
def none {H : Type} : Left H := { results := [], args := [] }

/- WHAT THE LISTED PACKAGE-LEVEL VARIABLES READ AS WHEN THE CALL BEGINS. Each datum BY PROGRAM (the guide's laid-datum.mjs) off the statement by which the dump's own 'gosem.cut.vars' lays the variable. In a bare row this is a premise. The card (YtkiempioeffhbaaGreatDoorCards.lean) ties it to the program's text. -/
def laid_unicode_utf8_acceptRanges {H : Type} : DataW H := .agg [.agg [.lit (.int .u8 128), .lit (.int .u8 191)], .agg [.lit (.int .u8 160), .lit (.int .u8 191)], .agg [.lit (.int .u8 128), .lit (.int .u8 159)], .agg [.lit (.int .u8 144), .lit (.int .u8 191)], .agg [.lit (.int .u8 128), .lit (.int .u8 143)], .agg [.lit (.int .u8 0), .lit (.int .u8 0)], .agg [.lit (.int .u8 0), .lit (.int .u8 0)], .agg [.lit (.int .u8 0), .lit (.int .u8 0)], .agg [.lit (.int .u8 0), .lit (.int .u8 0)], .agg [.lit (.int .u8 0), .lit (.int .u8 0)], .agg [.lit (.int .u8 0), .lit (.int .u8 0)], .agg [.lit (.int .u8 0), .lit (.int .u8 0)], .agg [.lit (.int .u8 0), .lit (.int .u8 0)], .agg [.lit (.int .u8 0), .lit (.int .u8 0)], .agg [.lit (.int .u8 0), .lit (.int .u8 0)], .agg [.lit (.int .u8 0), .lit (.int .u8 0)]]
/-- One of Go's own tables, pinned by name: the form's constant. -/
def laid_unicode_utf8_first : DataW Unit := Go.Pinned.utf8First

/-- 'fundadminlaw37.JournalCorrectsDays': WHATEVER THE INPUT: true; the input reads as it did. -/
def journalCorrectsDaysSpec : ChangeSpec := { name := "journalCorrectsDays", fn := fun _ => fun
  | [d1, d2] => { results := [.lit (.bool true)], args := [d1, d2] }
  | _ => none }
def journalCorrectsDaysRow : OpenClaim := { program := "ytkiempioeffhbaagreatdoor", sum := "cda132a69878a22169483a38522571c9e0bf4bd07fbf89bdabd06a88f8558651", func := "fundadmin/fundadminlaw37.JournalCorrectsDays", spec := "journalCorrectsDays", inPlace := ["internal/abi.NoEscape", "internal/bytealg.MakeNoZero", "internal/bytealg.IndexByteString", "internal/bytealg.IndexString"], unfollowed := true, recurses := true, named := ["math/bits.overflowError", "unicode/utf8.first", "unicode/utf8.acceptRanges", "internal/bytealg.MaxLen"], apart := false, laid := [("unicode/utf8.acceptRanges", laid_unicode_utf8_acceptRanges), ("unicode/utf8.first", laid_unicode_utf8_first)] }
def JournalCorrectsDaysSaid : Prop := journalCorrectsDaysRow.holds Tryz.pinned (OpenSpec.ofChange journalCorrectsDaysSpec)

/-- ITS FALSE NEIGHBOUR: 'it returns false'. Refute it at one input. -/
def journalCorrectsDaysWrong : ChangeSpec := { name := "journalCorrectsDays", fn := fun _ => fun
  | [d1, d2] => { results := [.lit (.bool false)], args := [d1, d2] }
  | _ => none }
def JournalCorrectsDaysWrongFalsely : Prop := journalCorrectsDaysRow.holds Tryz.pinned (OpenSpec.ofChange journalCorrectsDaysWrong)

/-- 'fundadminlaw37.JournalForgetsTheFuture': WHATEVER THE INPUT: true; the input reads as it did. -/
def journalForgetsTheFutureSpec : ChangeSpec := { name := "journalForgetsTheFuture", fn := fun _ => fun
  | [d1, d2] => { results := [.lit (.bool true)], args := [d1, d2] }
  | _ => none }
def journalForgetsTheFutureRow : OpenClaim := { program := "ytkiempioeffhbaagreatdoor", sum := "cda132a69878a22169483a38522571c9e0bf4bd07fbf89bdabd06a88f8558651", func := "fundadmin/fundadminlaw37.JournalForgetsTheFuture", spec := "journalForgetsTheFuture", inPlace := ["internal/abi.NoEscape", "internal/bytealg.MakeNoZero", "internal/bytealg.IndexByteString", "internal/bytealg.IndexString"], unfollowed := true, recurses := true, named := ["math/bits.overflowError", "unicode/utf8.first", "unicode/utf8.acceptRanges", "internal/bytealg.MaxLen"], apart := false, laid := [("unicode/utf8.acceptRanges", laid_unicode_utf8_acceptRanges), ("unicode/utf8.first", laid_unicode_utf8_first)] }
def JournalForgetsTheFutureSaid : Prop := journalForgetsTheFutureRow.holds Tryz.pinned (OpenSpec.ofChange journalForgetsTheFutureSpec)

/-- ITS FALSE NEIGHBOUR: 'it returns false'. Refute it at one input. -/
def journalForgetsTheFutureWrong : ChangeSpec := { name := "journalForgetsTheFuture", fn := fun _ => fun
  | [d1, d2] => { results := [.lit (.bool false)], args := [d1, d2] }
  | _ => none }
def JournalForgetsTheFutureWrongFalsely : Prop := journalForgetsTheFutureRow.holds Tryz.pinned (OpenSpec.ofChange journalForgetsTheFutureWrong)

/-- 'fundadminlaw37.JournalTells': WHATEVER THE INPUT: true; the input reads as it did. -/
def journalTellsSpec : ChangeSpec := { name := "journalTells", fn := fun _ => fun
  | [d1, d2, d3] => { results := [.lit (.bool true)], args := [d1, d2, d3] }
  | _ => none }
def journalTellsRow : OpenClaim := { program := "ytkiempioeffhbaagreatdoor", sum := "cda132a69878a22169483a38522571c9e0bf4bd07fbf89bdabd06a88f8558651", func := "fundadmin/fundadminlaw37.JournalTells", spec := "journalTells", inPlace := ["internal/abi.NoEscape", "internal/bytealg.MakeNoZero", "internal/bytealg.IndexByteString", "internal/bytealg.IndexString"], unfollowed := true, recurses := true, named := ["math/bits.overflowError", "unicode/utf8.first", "unicode/utf8.acceptRanges", "internal/bytealg.MaxLen"], apart := false, laid := [("unicode/utf8.acceptRanges", laid_unicode_utf8_acceptRanges), ("unicode/utf8.first", laid_unicode_utf8_first)] }
def JournalTellsSaid : Prop := journalTellsRow.holds Tryz.pinned (OpenSpec.ofChange journalTellsSpec)

/-- ITS FALSE NEIGHBOUR: 'it returns false'. Refute it at one input. -/
def journalTellsWrong : ChangeSpec := { name := "journalTells", fn := fun _ => fun
  | [d1, d2, d3] => { results := [.lit (.bool false)], args := [d1, d2, d3] }
  | _ => none }
def JournalTellsWrongFalsely : Prop := journalTellsRow.holds Tryz.pinned (OpenSpec.ofChange journalTellsWrong)

/-- 'fundadminlaw37.JournalOfMadeRecords': WHATEVER THE INPUT: true; the input reads as it did. -/
def journalOfMadeRecordsSpec : ChangeSpec := { name := "journalOfMadeRecords", fn := fun _ => fun
  | [d1, d2, d3, d4] => { results := [.lit (.bool true)], args := [d1, d2, d3, d4] }
  | _ => none }
def journalOfMadeRecordsRow : OpenClaim := { program := "ytkiempioeffhbaagreatdoor", sum := "cda132a69878a22169483a38522571c9e0bf4bd07fbf89bdabd06a88f8558651", func := "fundadmin/fundadminlaw37.JournalOfMadeRecords", spec := "journalOfMadeRecords", inPlace := ["internal/abi.NoEscape", "internal/bytealg.MakeNoZero", "internal/bytealg.IndexByteString", "internal/bytealg.IndexString"], unfollowed := true, recurses := true, named := ["math/bits.overflowError", "unicode/utf8.first", "unicode/utf8.acceptRanges", "internal/bytealg.MaxLen"], apart := false, laid := [("unicode/utf8.acceptRanges", laid_unicode_utf8_acceptRanges), ("unicode/utf8.first", laid_unicode_utf8_first)] }
def JournalOfMadeRecordsSaid : Prop := journalOfMadeRecordsRow.holds Tryz.pinned (OpenSpec.ofChange journalOfMadeRecordsSpec)

/-- ITS FALSE NEIGHBOUR: 'it returns false'. Refute it at one input. -/
def journalOfMadeRecordsWrong : ChangeSpec := { name := "journalOfMadeRecords", fn := fun _ => fun
  | [d1, d2, d3, d4] => { results := [.lit (.bool false)], args := [d1, d2, d3, d4] }
  | _ => none }
def JournalOfMadeRecordsWrongFalsely : Prop := journalOfMadeRecordsRow.holds Tryz.pinned (OpenSpec.ofChange journalOfMadeRecordsWrong)

/- THE SECOND FORM. 'bulk': how many values and letters a reading holds, each counted each time it is reached (what is shared counts as often as it is met; a slice's spare places count too). A statement '..UptoSaid' is the law's where the arguments, and the package variables that the reading takes, are together of bulk at most 1048576: NARROWER than '..Said'. Prove '..Said' where nothing that the law and all that it calls make is longer than what came in: it says more and counts as full. Else prove '..UptoSaid'. A law counts once. -/
mutual
def uptoBulk {H : Type} : DataW H → Nat
  | .lit (.string bytes) => bytes.length + 1
  | .lit _ => 1
  | .nil => 1
  | .ptr d => uptoBulk d + 1
  | .slice elems spare => uptoBulkAll elems + uptoBulkAll spare + 1
  | .agg parts => uptoBulkAll parts + 1
  | .iface _ d => uptoBulk d + 1
  | .map entries => uptoBulkEntries entries + 1
  | .held _ => 1
def uptoBulkAll {H : Type} : List (DataW H) → Nat
  | [] => 0
  | d :: r => uptoBulk d + uptoBulkAll r
def uptoBulkEntries {H : Type} : List (Lit × DataW H) → Nat
  | [] => 0
  | x :: r => uptoBulkEntry x + uptoBulkEntries r
def uptoBulkEntry {H : Type} : Lit × DataW H → Nat
  | (.string bytes, d) => bytes.length + uptoBulk d + 1
  | (_, d) => uptoBulk d + 1
 end
def uptoSmall : (H : Type) → List (DataW H) → Bool := fun _ ds => decide (uptoBulkAll ds ≤ 1048576)
def OpenSpec.upto (s : _root_.Go.ChangeSpec) : _root_.Go.OpenSpec := { _root_.Go.OpenSpec.ofChange s with cond := some uptoSmall }

/-- 'fundadminlaw37.JournalCorrectsDays', WHERE WHAT IT READS IS OF BULK AT MOST 1048576: true; the input reads as it did. -/
def journalCorrectsDaysUptoRow : OpenClaim := { program := "ytkiempioeffhbaagreatdoor", sum := "cda132a69878a22169483a38522571c9e0bf4bd07fbf89bdabd06a88f8558651", func := "fundadmin/fundadminlaw37.JournalCorrectsDays", spec := "journalCorrectsDays", inPlace := ["internal/abi.NoEscape", "internal/bytealg.MakeNoZero", "internal/bytealg.IndexByteString", "internal/bytealg.IndexString"], unfollowed := true, recurses := true, named := ["math/bits.overflowError", "unicode/utf8.first", "unicode/utf8.acceptRanges", "internal/bytealg.MaxLen"], apart := false, laid := [("unicode/utf8.acceptRanges", laid_unicode_utf8_acceptRanges), ("unicode/utf8.first", laid_unicode_utf8_first)], narrowed := true }
def JournalCorrectsDaysUptoSaid : Prop := journalCorrectsDaysUptoRow.holds Tryz.pinned (OpenSpec.upto journalCorrectsDaysSpec)

/-- 'fundadminlaw37.JournalForgetsTheFuture', WHERE WHAT IT READS IS OF BULK AT MOST 1048576: true; the input reads as it did. -/
def journalForgetsTheFutureUptoRow : OpenClaim := { program := "ytkiempioeffhbaagreatdoor", sum := "cda132a69878a22169483a38522571c9e0bf4bd07fbf89bdabd06a88f8558651", func := "fundadmin/fundadminlaw37.JournalForgetsTheFuture", spec := "journalForgetsTheFuture", inPlace := ["internal/abi.NoEscape", "internal/bytealg.MakeNoZero", "internal/bytealg.IndexByteString", "internal/bytealg.IndexString"], unfollowed := true, recurses := true, named := ["math/bits.overflowError", "unicode/utf8.first", "unicode/utf8.acceptRanges", "internal/bytealg.MaxLen"], apart := false, laid := [("unicode/utf8.acceptRanges", laid_unicode_utf8_acceptRanges), ("unicode/utf8.first", laid_unicode_utf8_first)], narrowed := true }
def JournalForgetsTheFutureUptoSaid : Prop := journalForgetsTheFutureUptoRow.holds Tryz.pinned (OpenSpec.upto journalForgetsTheFutureSpec)

/-- 'fundadminlaw37.JournalTells', WHERE WHAT IT READS IS OF BULK AT MOST 1048576: true; the input reads as it did. -/
def journalTellsUptoRow : OpenClaim := { program := "ytkiempioeffhbaagreatdoor", sum := "cda132a69878a22169483a38522571c9e0bf4bd07fbf89bdabd06a88f8558651", func := "fundadmin/fundadminlaw37.JournalTells", spec := "journalTells", inPlace := ["internal/abi.NoEscape", "internal/bytealg.MakeNoZero", "internal/bytealg.IndexByteString", "internal/bytealg.IndexString"], unfollowed := true, recurses := true, named := ["math/bits.overflowError", "unicode/utf8.first", "unicode/utf8.acceptRanges", "internal/bytealg.MaxLen"], apart := false, laid := [("unicode/utf8.acceptRanges", laid_unicode_utf8_acceptRanges), ("unicode/utf8.first", laid_unicode_utf8_first)], narrowed := true }
def JournalTellsUptoSaid : Prop := journalTellsUptoRow.holds Tryz.pinned (OpenSpec.upto journalTellsSpec)

/-- 'fundadminlaw37.JournalOfMadeRecords', WHERE WHAT IT READS IS OF BULK AT MOST 1048576: true; the input reads as it did. -/
def journalOfMadeRecordsUptoRow : OpenClaim := { program := "ytkiempioeffhbaagreatdoor", sum := "cda132a69878a22169483a38522571c9e0bf4bd07fbf89bdabd06a88f8558651", func := "fundadmin/fundadminlaw37.JournalOfMadeRecords", spec := "journalOfMadeRecords", inPlace := ["internal/abi.NoEscape", "internal/bytealg.MakeNoZero", "internal/bytealg.IndexByteString", "internal/bytealg.IndexString"], unfollowed := true, recurses := true, named := ["math/bits.overflowError", "unicode/utf8.first", "unicode/utf8.acceptRanges", "internal/bytealg.MaxLen"], apart := false, laid := [("unicode/utf8.acceptRanges", laid_unicode_utf8_acceptRanges), ("unicode/utf8.first", laid_unicode_utf8_first)], narrowed := true }
def JournalOfMadeRecordsUptoSaid : Prop := journalOfMadeRecordsUptoRow.holds Tryz.pinned (OpenSpec.upto journalOfMadeRecordsSpec)

end Rows
end Go.Proofs.YtkiempioeffhbaaGreatDoor
