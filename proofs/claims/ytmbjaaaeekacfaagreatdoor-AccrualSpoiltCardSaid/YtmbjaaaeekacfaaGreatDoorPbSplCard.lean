/- AccrualSpoilt, the tied card: no condition. -/
import Derived.SevenTiedAt
import Derived.Test.YtmbjaaaeekacfaaGreatDoorPb49
import Derived.Test.YtmbjaaaeekacfaaGreatDoorCards
import Derived.Test.YtmbjaaaeekacfaaGreatDoorTie
namespace Go.Proofs.YtmbjaaaeekacfaaGreatDoor
set_option maxRecDepth 8000
theorem accrualSpoiltCard_holds : Rows.AccrualSpoiltCardSaid :=
 Claim7.holds_tied_plain_at .later [] [.data, .pinned] true (true, "cba27026ddda18c3a857554ba967ef90cb2e75d48d36257bd824c1ae49983183") false
  accrualSpoilt_holds (fun _ h => by cases h) (by kernel_rfl) (fun _ h => by cases h) accrualSpoilt_row_tie rfl ⟨rfl, rfl⟩ (by kernel_rfl) rfl
  (fun f fn hf hfn => by
   obtain rfl : f = 5 := Option.some.inj ((show Tryz.prog.funcNamed Rows.accrualSpoiltRow.func = some 5 by kernel_rfl).symm.trans hf) |>.symm
   obtain rfl : fn = Tryz.f5 := (Option.some.inj (Tryz.func5.symm.trans hfn)).symm
   exact ⟨by kernel_rfl, fun j t ht => by
    rw [Tryz.params5] at ht
    have h : t = 42 ∨ t = 3 ∨ t = 27 := by simpa using Array.mem_of_getElem? ht
    rcases h with rfl | rfl | rfl
    all_goals exact (show Tryz.prog.wantsStandIn _ = false by kernel_rfl)⟩)
  (by kernel_rfl)
#print axioms accrualSpoiltCard_holds
end Go.Proofs.YtmbjaaaeekacfaaGreatDoor
