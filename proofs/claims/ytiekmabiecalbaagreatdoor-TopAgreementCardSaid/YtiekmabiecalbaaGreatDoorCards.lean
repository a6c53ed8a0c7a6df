/-
  DERIVED. GIVEN WITH THE SEED: THE CARDS: each row of YtiekmabiecalbaaGreatDoorRows.lean that lists a variable, with what it lists TIED to the program's text (the seventh form; the later family's looks); each row that meets fmt, with fmt's text TOLD by the authors' own Lean function (tested against real Go, not proved from fmt's source: count such statements apart). THE CARD IS WHAT COUNTS. Prove the row's statement (the work); the ties are given (YtiekmabiecalbaaGreatDoorTie.lean); close each card by the builder's one call (the guide's Derived/Test/ToyasCard.lean, 'card_holds'). Laid BY PROGRAM, IN A SANDBOX (cutbox-door.mjs). By AI agents, Wed Nov 11 2026. No macro, syntax, notation, axiom, sorry.
-/
import Derived.Test.YtiekmabiecalbaaGreatDoorRows
import GoSem.ClaimSeven
namespace Go.Proofs.YtiekmabiecalbaaGreatDoor
namespace Rows

/-- THE TIED CARD OF 'fundadmintop.TopReverts'. -/
def topRevertsCard : Claim7 := { stood := { row := topRevertsRow, standIns := [], harness := (true, "9947ce505f2618d13a82ea49e08ae0b784d03fed8e81b8e7c8ee4031a786c03e"), looks := true }, kinds := [], alts := [], laidByText := true, laidKinds := [.data, .pinned], laidTests := true, laidLooks := .later }
def TopRevertsCardSaid : Prop := Claim7.holds Tryz.pinned (.plain (OpenSpec.ofChange topRevertsSpec)) topRevertsCard

/-- THE TIED CARD OF 'fundadmintop.TopAgreement'. -/
def topAgreementCard : Claim7 := { stood := { row := topAgreementRow, standIns := [], harness := (true, "9947ce505f2618d13a82ea49e08ae0b784d03fed8e81b8e7c8ee4031a786c03e"), looks := true }, kinds := [], alts := [], laidByText := true, laidKinds := [.data, .data, .data, .data, .sentinel, .sentinel, .pinned], laidTests := true, laidLooks := .later }
def TopAgreementCardSaid : Prop := Claim7.holds Tryz.pinned (.plain (OpenSpec.ofChange topAgreementSpec)) topAgreementCard

/-- THE SECOND FORM's CARD OF 'fundadmintop.TopReverts'. -/
def topRevertsUptoCard : Claim7 := { stood := { row := topRevertsUptoRow, standIns := [], harness := (true, "9947ce505f2618d13a82ea49e08ae0b784d03fed8e81b8e7c8ee4031a786c03e"), looks := true }, kinds := [], alts := [], laidByText := true, laidKinds := [.data, .pinned], laidTests := true, laidLooks := .later }
def TopRevertsUptoCardSaid : Prop := Claim7.holds Tryz.pinned (.plain (OpenSpec.upto topRevertsSpec)) topRevertsUptoCard

/-- THE SECOND FORM's CARD OF 'fundadmintop.TopAgreement'. -/
def topAgreementUptoCard : Claim7 := { stood := { row := topAgreementUptoRow, standIns := [], harness := (true, "9947ce505f2618d13a82ea49e08ae0b784d03fed8e81b8e7c8ee4031a786c03e"), looks := true }, kinds := [], alts := [], laidByText := true, laidKinds := [.data, .data, .data, .data, .sentinel, .sentinel, .pinned], laidTests := true, laidLooks := .later }
def TopAgreementUptoCardSaid : Prop := Claim7.holds Tryz.pinned (.plain (OpenSpec.upto topAgreementSpec)) topAgreementUptoCard
end Rows
end Go.Proofs.YtiekmabiecalbaaGreatDoor
