/- JournalForgetsTheFuture, the tied card: no condition. -/
import Derived.SevenTiedAt
import Derived.Test.YtkiempioeffhbaaGreatDoorPg49
import Derived.Test.YtkiempioeffhbaaGreatDoorCards
import Derived.Test.YtkiempioeffhbaaGreatDoorTie
namespace Go.Proofs.YtkiempioeffhbaaGreatDoor
set_option maxRecDepth 8000
theorem journalForgetsTheFutureCard_holds : Rows.JournalForgetsTheFutureCardSaid :=
 Claim7.holds_tied_plain_at .later [] [.data, .pinned] true (true, "287441fd16a4a0f8aac75254a706969e2f0de9df28e69a3b07bc78ae4aacdb69") false
  journalForgetsTheFuture_holds (fun _ h => by cases h) Zk (fun _ h => by cases h) journalForgetsTheFuture_row_tie rfl ⟨rfl, rfl⟩ Zk rfl
  (fun f fn hf hfn => by
   obtain rfl : f = 4 := Option.some.inj ((show Tryz.prog.funcNamed Rows.journalForgetsTheFutureRow.func = some 4 by kernel_rfl).symm.trans hf) |>.symm
   obtain rfl : fn = Tryz.f4 := (Option.some.inj (Tryz.func4.symm.trans hfn)).symm
   exact ⟨by kernel_rfl, fun j t ht => by
    rw [Tryz.params4] at ht
    have h : t = 22 ∨ t = 3 := by simpa using Array.mem_of_getElem? ht
    rcases h with rfl | rfl
    all_goals exact (show Tryz.prog.wantsStandIn _ = false by kernel_rfl)⟩)
  Zk
#print axioms journalForgetsTheFutureCard_holds
end Go.Proofs.YtkiempioeffhbaaGreatDoor
