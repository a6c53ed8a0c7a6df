/- TopAgreement, the tied card: no condition. -/
import Derived.SevenTiedAt
import Derived.Test.YtiekmabiecalbaaGreatDoorPa44
import Derived.Test.YtiekmabiecalbaaGreatDoorCards
import Derived.Test.YtiekmabiecalbaaGreatDoorTie
namespace Go.Proofs.YtiekmabiecalbaaGreatDoor
set_option maxRecDepth 8000
theorem topAgreementCard_holds : Rows.TopAgreementCardSaid :=
 Claim7.holds_tied_plain_at .later [] [.data, .data, .data, .data, .sentinel, .sentinel, .pinned] true (true, "9947ce505f2618d13a82ea49e08ae0b784d03fed8e81b8e7c8ee4031a786c03e") true
  topAgreement_holds (fun _ h => by cases h) Zk (fun _ h => by cases h) topAgreement_row_tie rfl ⟨rfl, rfl⟩ Zk rfl
  (fun f fn hf hfn => by
   obtain rfl : f = 4 := Option.some.inj ((show Tryz.prog.funcNamed Rows.topAgreementRow.func = some 4 by kernel_rfl).symm.trans hf) |>.symm
   obtain rfl : fn = Tryz.f4 := (Option.some.inj (Tryz.func4.symm.trans hfn)).symm
   exact ⟨by kernel_rfl, fun j t ht => by
    rw [Tryz.params4] at ht
    have h : t = 22 := by simpa using Array.mem_of_getElem? ht
    rcases h with rfl
    all_goals exact (show Tryz.prog.wantsStandIn _ = false by kernel_rfl)⟩)
  Zk
#print axioms topAgreementCard_holds
end Go.Proofs.YtiekmabiecalbaaGreatDoor
