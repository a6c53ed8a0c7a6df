/- AccrualDrift, the tied card: no condition. -/
import Derived.SevenTiedAt
import Derived.Test.YtmbjaaaeekacfaaGreatDoorPb43
import Derived.Test.YtmbjaaaeekacfaaGreatDoorCards
import Derived.Test.YtmbjaaaeekacfaaGreatDoorTie
namespace Go.Proofs.YtmbjaaaeekacfaaGreatDoor
set_option maxRecDepth 8000
theorem accrualDriftCard_holds : Rows.AccrualDriftCardSaid :=
 Claim7.holds_tied_plain_at .later [] [.data, .pinned] true (true, "cba27026ddda18c3a857554ba967ef90cb2e75d48d36257bd824c1ae49983183") false
  accrualDrift_holds (fun _ h => by cases h) (by kernel_rfl) (fun _ h => by cases h) accrualDrift_row_tie rfl ⟨rfl, rfl⟩ (by kernel_rfl) rfl
  (fun f fn hf hfn => by
   obtain rfl : f = 7 := Option.some.inj ((show Tryz.prog.funcNamed Rows.accrualDriftRow.func = some 7 by kernel_rfl).symm.trans hf) |>.symm
   obtain rfl : fn = Tryz.f7 := (Option.some.inj (Tryz.func7.symm.trans hfn)).symm
   exact ⟨by kernel_rfl, fun j t ht => by
    rw [Tryz.params7] at ht
    have h : t = 42 := by simpa using Array.mem_of_getElem? ht
    rcases h with rfl
    all_goals exact (show Tryz.prog.wantsStandIn _ = false by kernel_rfl)⟩)
  (by kernel_rfl)
#print axioms accrualDriftCard_holds
end Go.Proofs.YtmbjaaaeekacfaaGreatDoor
