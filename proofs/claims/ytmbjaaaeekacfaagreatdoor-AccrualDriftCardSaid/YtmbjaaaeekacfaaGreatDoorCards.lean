/-
  DERIVED. GIVEN WITH THE SEED: THE CARDS: each row of YtmbjaaaeekacfaaGreatDoorRows.lean that lists a variable, with what it lists TIED to the program's text (the seventh form; the later family's looks); each row that meets fmt, with fmt's text TOLD by the authors' own Lean function (tested against real Go, not proved from fmt's source: count such statements apart). THE CARD IS WHAT COUNTS. Prove the row's statement (the work); the ties are given (YtmbjaaaeekacfaaGreatDoorTie.lean); close each card by the builder's one call (the guide's Derived/Test/ToyasCard.lean, 'card_holds'). Laid BY PROGRAM, IN A SANDBOX (cutbox-door.mjs). By AI agents, Wed Nov 11 2026. No macro, syntax, notation, axiom, sorry.
-/
import Derived.Test.YtmbjaaaeekacfaaGreatDoorRows
import GoSem.ClaimSeven
namespace Go.Proofs.YtmbjaaaeekacfaaGreatDoor
namespace Rows

/-- THE TIED CARD OF 'fundadminlaw19.AccrualExact'. -/
def accrualExactCard : Claim7 := { stood := { row := accrualExactRow, standIns := [], harness := (true, "cba27026ddda18c3a857554ba967ef90cb2e75d48d36257bd824c1ae49983183"), looks := false }, kinds := [], alts := [], laidByText := true, laidKinds := [.data, .pinned], laidTests := true, laidLooks := .later }
def AccrualExactCardSaid : Prop := Claim7.holds Tryz.pinned (.plain (OpenSpec.ofChange accrualExactSpec)) accrualExactCard

/-- THE TIED CARD OF 'fundadminlaw19.AccrualPlays'. -/
def accrualPlaysCard : Claim7 := { stood := { row := accrualPlaysRow, standIns := [], harness := (true, "cba27026ddda18c3a857554ba967ef90cb2e75d48d36257bd824c1ae49983183"), looks := false }, kinds := [], alts := [], laidByText := true, laidKinds := [.data, .pinned], laidTests := true, laidLooks := .later }
def AccrualPlaysCardSaid : Prop := Claim7.holds Tryz.pinned (.plain (OpenSpec.ofChange accrualPlaysSpec)) accrualPlaysCard

/-- THE TIED CARD OF 'fundadminlaw19.AccrualSpoilt'. -/
def accrualSpoiltCard : Claim7 := { stood := { row := accrualSpoiltRow, standIns := [], harness := (true, "cba27026ddda18c3a857554ba967ef90cb2e75d48d36257bd824c1ae49983183"), looks := false }, kinds := [], alts := [], laidByText := true, laidKinds := [.data, .pinned], laidTests := true, laidLooks := .later }
def AccrualSpoiltCardSaid : Prop := Claim7.holds Tryz.pinned (.plain (OpenSpec.ofChange accrualSpoiltSpec)) accrualSpoiltCard

/-- THE TIED CARD OF 'fundadminlaw19.AccrualSteps'. -/
def accrualStepsCard : Claim7 := { stood := { row := accrualStepsRow, standIns := [], harness := (true, "cba27026ddda18c3a857554ba967ef90cb2e75d48d36257bd824c1ae49983183"), looks := false }, kinds := [], alts := [], laidByText := true, laidKinds := [.data, .pinned], laidTests := true, laidLooks := .later }
def AccrualStepsCardSaid : Prop := Claim7.holds Tryz.pinned (.plain (OpenSpec.ofChange accrualStepsSpec)) accrualStepsCard

/-- THE TIED CARD OF 'fundadminlaw19.AccrualDrift'. -/
def accrualDriftCard : Claim7 := { stood := { row := accrualDriftRow, standIns := [], harness := (true, "cba27026ddda18c3a857554ba967ef90cb2e75d48d36257bd824c1ae49983183"), looks := false }, kinds := [], alts := [], laidByText := true, laidKinds := [.data, .pinned], laidTests := true, laidLooks := .later }
def AccrualDriftCardSaid : Prop := Claim7.holds Tryz.pinned (.plain (OpenSpec.ofChange accrualDriftSpec)) accrualDriftCard

/-- THE TIED CARD OF 'fundadminlaw19.AccrualAdds'. -/
def accrualAddsCard : Claim7 := { stood := { row := accrualAddsRow, standIns := [], harness := (true, "cba27026ddda18c3a857554ba967ef90cb2e75d48d36257bd824c1ae49983183"), looks := false }, kinds := [], alts := [], laidByText := true, laidKinds := [.data, .pinned], laidTests := true, laidLooks := .later }
def AccrualAddsCardSaid : Prop := Claim7.holds Tryz.pinned (.plain (OpenSpec.ofChange accrualAddsSpec)) accrualAddsCard

/-- THE SECOND FORM's CARD OF 'fundadminlaw19.AccrualExact'. -/
def accrualExactUptoCard : Claim7 := { stood := { row := accrualExactUptoRow, standIns := [], harness := (true, "cba27026ddda18c3a857554ba967ef90cb2e75d48d36257bd824c1ae49983183"), looks := false }, kinds := [], alts := [], laidByText := true, laidKinds := [.data, .pinned], laidTests := true, laidLooks := .later }
def AccrualExactUptoCardSaid : Prop := Claim7.holds Tryz.pinned (.plain (OpenSpec.upto accrualExactSpec)) accrualExactUptoCard

/-- THE SECOND FORM's CARD OF 'fundadminlaw19.AccrualPlays'. -/
def accrualPlaysUptoCard : Claim7 := { stood := { row := accrualPlaysUptoRow, standIns := [], harness := (true, "cba27026ddda18c3a857554ba967ef90cb2e75d48d36257bd824c1ae49983183"), looks := false }, kinds := [], alts := [], laidByText := true, laidKinds := [.data, .pinned], laidTests := true, laidLooks := .later }
def AccrualPlaysUptoCardSaid : Prop := Claim7.holds Tryz.pinned (.plain (OpenSpec.upto accrualPlaysSpec)) accrualPlaysUptoCard

/-- THE SECOND FORM's CARD OF 'fundadminlaw19.AccrualSpoilt'. -/
def accrualSpoiltUptoCard : Claim7 := { stood := { row := accrualSpoiltUptoRow, standIns := [], harness := (true, "cba27026ddda18c3a857554ba967ef90cb2e75d48d36257bd824c1ae49983183"), looks := false }, kinds := [], alts := [], laidByText := true, laidKinds := [.data, .pinned], laidTests := true, laidLooks := .later }
def AccrualSpoiltUptoCardSaid : Prop := Claim7.holds Tryz.pinned (.plain (OpenSpec.upto accrualSpoiltSpec)) accrualSpoiltUptoCard

/-- THE SECOND FORM's CARD OF 'fundadminlaw19.AccrualSteps'. -/
def accrualStepsUptoCard : Claim7 := { stood := { row := accrualStepsUptoRow, standIns := [], harness := (true, "cba27026ddda18c3a857554ba967ef90cb2e75d48d36257bd824c1ae49983183"), looks := false }, kinds := [], alts := [], laidByText := true, laidKinds := [.data, .pinned], laidTests := true, laidLooks := .later }
def AccrualStepsUptoCardSaid : Prop := Claim7.holds Tryz.pinned (.plain (OpenSpec.upto accrualStepsSpec)) accrualStepsUptoCard

/-- THE SECOND FORM's CARD OF 'fundadminlaw19.AccrualDrift'. -/
def accrualDriftUptoCard : Claim7 := { stood := { row := accrualDriftUptoRow, standIns := [], harness := (true, "cba27026ddda18c3a857554ba967ef90cb2e75d48d36257bd824c1ae49983183"), looks := false }, kinds := [], alts := [], laidByText := true, laidKinds := [.data, .pinned], laidTests := true, laidLooks := .later }
def AccrualDriftUptoCardSaid : Prop := Claim7.holds Tryz.pinned (.plain (OpenSpec.upto accrualDriftSpec)) accrualDriftUptoCard

/-- THE SECOND FORM's CARD OF 'fundadminlaw19.AccrualAdds'. -/
def accrualAddsUptoCard : Claim7 := { stood := { row := accrualAddsUptoRow, standIns := [], harness := (true, "cba27026ddda18c3a857554ba967ef90cb2e75d48d36257bd824c1ae49983183"), looks := false }, kinds := [], alts := [], laidByText := true, laidKinds := [.data, .pinned], laidTests := true, laidLooks := .later }
def AccrualAddsUptoCardSaid : Prop := Claim7.holds Tryz.pinned (.plain (OpenSpec.upto accrualAddsSpec)) accrualAddsUptoCard
end Rows
end Go.Proofs.YtmbjaaaeekacfaaGreatDoor
