/- AccrualExact, the tied card: no condition. -/
import Derived.Test.YtmbjaaaeekacfaaGreatDoorPaAcExactProof
import Derived.Test.YtmbjaaaeekacfaaGreatDoorCards
import Derived.Test.YtmbjaaaeekacfaaGreatDoorTie
import Derived.SevenTiedAt
namespace Go.Proofs.YtmbjaaaeekacfaaGreatDoor
set_option maxRecDepth 8000
theorem accrualExactCard_holds : Rows.AccrualExactCardSaid :=
  Claim7.holds_tied_plain_at .later [] [.data, .pinned] true (true, "cba27026ddda18c3a857554ba967ef90cb2e75d48d36257bd824c1ae49983183") false
    accrualExact_holds (fun _ h => by cases h) (by kernel_rfl) (fun _ h => by cases h) accrualExact_row_tie rfl ⟨rfl, rfl⟩ (by kernel_rfl) rfl
    (fun f fn hf hfn => by
      obtain rfl : f = 3 := Option.some.inj ((show Tryz.prog.funcNamed Rows.accrualExactRow.func = some 3 by kernel_rfl).symm.trans hf) |>.symm
      obtain rfl : fn = Tryz.f3 := (Option.some.inj (Tryz.func3.symm.trans hfn)).symm
      exact ⟨by kernel_rfl, fun j t ht => by
        rw [Tryz.params3] at ht
        have h : t = 29 ∨ t = 31 ∨ t = 3 := by simpa using Array.mem_of_getElem? ht
        rcases h with rfl | rfl | rfl
        all_goals exact (show Tryz.prog.wantsStandIn _ = false by kernel_rfl)⟩)
    (by kernel_rfl)
#print axioms accrualExactCard_holds
end Go.Proofs.YtmbjaaaeekacfaaGreatDoor
