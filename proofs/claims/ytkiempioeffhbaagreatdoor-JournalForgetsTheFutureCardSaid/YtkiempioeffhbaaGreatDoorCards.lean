/-
  DERIVED. GIVEN WITH THE SEED: THE CARDS: each row of YtkiempioeffhbaaGreatDoorRows.lean that lists a variable, with what it lists TIED to the program's text (the seventh form; the later family's looks); each row that meets fmt, with fmt's text TOLD by the authors' own Lean function (tested against real Go, not proved from fmt's source: count such statements apart). THE CARD IS WHAT COUNTS. Prove the row's statement (the work); the ties are given (YtkiempioeffhbaaGreatDoorTie.lean); close each card by the builder's one call (the guide's Derived/Test/ToyasCard.lean, 'card_holds'). Laid BY PROGRAM, IN A SANDBOX (cutbox-door.mjs). By AI agents, Wed Nov 11 2026. No macro, syntax, notation, axiom, sorry.
-/
import Derived.Test.YtkiempioeffhbaaGreatDoorRows
import GoSem.ClaimSeven
namespace Go.Proofs.YtkiempioeffhbaaGreatDoor
namespace Rows

/-- THE TIED CARD OF 'fundadminlaw37.JournalCorrectsDays'. -/
def journalCorrectsDaysCard : Claim7 := { stood := { row := journalCorrectsDaysRow, standIns := [], harness := (true, "287441fd16a4a0f8aac75254a706969e2f0de9df28e69a3b07bc78ae4aacdb69"), looks := false }, kinds := [], alts := [], laidByText := true, laidKinds := [.data, .pinned], laidTests := true, laidLooks := .later }
def JournalCorrectsDaysCardSaid : Prop := Claim7.holds Tryz.pinned (.plain (OpenSpec.ofChange journalCorrectsDaysSpec)) journalCorrectsDaysCard

/-- THE TIED CARD OF 'fundadminlaw37.JournalForgetsTheFuture'. -/
def journalForgetsTheFutureCard : Claim7 := { stood := { row := journalForgetsTheFutureRow, standIns := [], harness := (true, "287441fd16a4a0f8aac75254a706969e2f0de9df28e69a3b07bc78ae4aacdb69"), looks := false }, kinds := [], alts := [], laidByText := true, laidKinds := [.data, .pinned], laidTests := true, laidLooks := .later }
def JournalForgetsTheFutureCardSaid : Prop := Claim7.holds Tryz.pinned (.plain (OpenSpec.ofChange journalForgetsTheFutureSpec)) journalForgetsTheFutureCard

/-- THE TIED CARD OF 'fundadminlaw37.JournalTells'. -/
def journalTellsCard : Claim7 := { stood := { row := journalTellsRow, standIns := [], harness := (true, "287441fd16a4a0f8aac75254a706969e2f0de9df28e69a3b07bc78ae4aacdb69"), looks := false }, kinds := [], alts := [], laidByText := true, laidKinds := [.data, .pinned], laidTests := true, laidLooks := .later }
def JournalTellsCardSaid : Prop := Claim7.holds Tryz.pinned (.plain (OpenSpec.ofChange journalTellsSpec)) journalTellsCard

/-- THE TIED CARD OF 'fundadminlaw37.JournalOfMadeRecords'. -/
def journalOfMadeRecordsCard : Claim7 := { stood := { row := journalOfMadeRecordsRow, standIns := [], harness := (true, "287441fd16a4a0f8aac75254a706969e2f0de9df28e69a3b07bc78ae4aacdb69"), looks := false }, kinds := [], alts := [], laidByText := true, laidKinds := [.data, .pinned], laidTests := true, laidLooks := .later }
def JournalOfMadeRecordsCardSaid : Prop := Claim7.holds Tryz.pinned (.plain (OpenSpec.ofChange journalOfMadeRecordsSpec)) journalOfMadeRecordsCard

/-- THE SECOND FORM's CARD OF 'fundadminlaw37.JournalCorrectsDays'. -/
def journalCorrectsDaysUptoCard : Claim7 := { stood := { row := journalCorrectsDaysUptoRow, standIns := [], harness := (true, "287441fd16a4a0f8aac75254a706969e2f0de9df28e69a3b07bc78ae4aacdb69"), looks := false }, kinds := [], alts := [], laidByText := true, laidKinds := [.data, .pinned], laidTests := true, laidLooks := .later }
def JournalCorrectsDaysUptoCardSaid : Prop := Claim7.holds Tryz.pinned (.plain (OpenSpec.upto journalCorrectsDaysSpec)) journalCorrectsDaysUptoCard

/-- THE SECOND FORM's CARD OF 'fundadminlaw37.JournalForgetsTheFuture'. -/
def journalForgetsTheFutureUptoCard : Claim7 := { stood := { row := journalForgetsTheFutureUptoRow, standIns := [], harness := (true, "287441fd16a4a0f8aac75254a706969e2f0de9df28e69a3b07bc78ae4aacdb69"), looks := false }, kinds := [], alts := [], laidByText := true, laidKinds := [.data, .pinned], laidTests := true, laidLooks := .later }
def JournalForgetsTheFutureUptoCardSaid : Prop := Claim7.holds Tryz.pinned (.plain (OpenSpec.upto journalForgetsTheFutureSpec)) journalForgetsTheFutureUptoCard

/-- THE SECOND FORM's CARD OF 'fundadminlaw37.JournalTells'. -/
def journalTellsUptoCard : Claim7 := { stood := { row := journalTellsUptoRow, standIns := [], harness := (true, "287441fd16a4a0f8aac75254a706969e2f0de9df28e69a3b07bc78ae4aacdb69"), looks := false }, kinds := [], alts := [], laidByText := true, laidKinds := [.data, .pinned], laidTests := true, laidLooks := .later }
def JournalTellsUptoCardSaid : Prop := Claim7.holds Tryz.pinned (.plain (OpenSpec.upto journalTellsSpec)) journalTellsUptoCard

/-- THE SECOND FORM's CARD OF 'fundadminlaw37.JournalOfMadeRecords'. -/
def journalOfMadeRecordsUptoCard : Claim7 := { stood := { row := journalOfMadeRecordsUptoRow, standIns := [], harness := (true, "287441fd16a4a0f8aac75254a706969e2f0de9df28e69a3b07bc78ae4aacdb69"), looks := false }, kinds := [], alts := [], laidByText := true, laidKinds := [.data, .pinned], laidTests := true, laidLooks := .later }
def JournalOfMadeRecordsUptoCardSaid : Prop := Claim7.holds Tryz.pinned (.plain (OpenSpec.upto journalOfMadeRecordsSpec)) journalOfMadeRecordsUptoCard
end Rows
end Go.Proofs.YtkiempioeffhbaaGreatDoor
