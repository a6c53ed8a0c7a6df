/- JournalTells, the tied card: no condition. -/
import Derived.SevenTiedAt
import Derived.Test.YtkiempioeffhbaaGreatDoorPt43
import Derived.Test.YtkiempioeffhbaaGreatDoorCards
import Derived.Test.YtkiempioeffhbaaGreatDoorTie
namespace Go.Proofs.YtkiempioeffhbaaGreatDoor
set_option maxRecDepth 8000
set_option linter.unusedVariables false
set_option linter.unusedSimpArgs false
theorem journalTellsCard_holds : Rows.JournalTellsCardSaid :=
 Claim7.holds_tied_plain_at .later [] [.data, .pinned] true (true, "287441fd16a4a0f8aac75254a706969e2f0de9df28e69a3b07bc78ae4aacdb69") false
  journalTells_holds (fun _ h => by cases h) Zk (fun _ h => by cases h) journalTells_row_tie rfl ⟨rfl, rfl⟩ Zk rfl
  (fun f fn hf hfn => by
   obtain rfl : f = 5 := Option.some.inj ((show Tryz.prog.funcNamed Rows.journalTellsRow.func = some 5 by kernel_rfl).symm.trans hf) |>.symm
   obtain rfl : fn = Tryz.f5 := (Option.some.inj (Tryz.func5.symm.trans hfn)).symm
   exact ⟨by kernel_rfl, fun j t ht => by
    rw [Tryz.params5] at ht
    have h : t = 25 ∨ t = 3 ∨ t = 9 := by simpa using Array.mem_of_getElem? ht
    rcases h with rfl | rfl | rfl
    all_goals exact (show Tryz.prog.wantsStandIn _ = false by kernel_rfl)⟩)
  Zk
#print axioms journalTellsCard_holds
end Go.Proofs.YtkiempioeffhbaaGreatDoor
