/- Walks, and plain facts for them. -/
import Derived.Deep.DeepHandedRow
import Derived.Lay
import Derived.Test.YtmbjaaaeekacfaaGreatDoorPb32
import Derived.Test.YtmbjaaaeekacfaaGreatDoorPb37
namespace Go.Proofs.YtmbjaaaeekacfaaGreatDoor
set_option maxRecDepth 8000
open Go.RowKit Go.ChangeShapes Go.WideShapes Go.ChangeAt Go.ChangeMaps
theorem accrualSteps_reads : ∀ t ∈ Tryz.f6.params.toList, Tryz.prog.readableRec t = true ∧ t < Tryz.prog.types.size := by
 rw [Tryz.params6]
 intro t ht
 have h : t = 42 := by simpa using ht
 rcases h with rfl
 all_goals exact ⟨by kernel_rfl, of_decide_eq_true (by kernel_rfl)⟩
theorem accrualSteps_contract (H : Type) (enc : TypeId × Value → H) (W : World) (base : Nat) (args : Array Value) (ds gs : List (DataW H)) (before : List MemPlace)
    (hval : ∀ (j : Nat) t v, Tryz.f6.params[j]? = some t → args[j]? = some v → Value.okWide Tryz.prog W .any base t v)
    (hW : DataW.Whole enc Tryz.prog Tryz.f6.params.toList Rows.accrualStepsSpec.vars false W args.toList ds gs before) :
    Calls Tryz.prog 6 args W fun e W' => ∃ v, e = .returned v ∧ Rows.accrualStepsSpec.post enc Tryz.prog Tryz.f6 false true false false W args v W' := by
 have hW' := hW
 obtain ⟨p, q, hA0, hV, rfl, hfz, hnd⟩ := hW
 have hA : DataW.TrodAll enc Tryz.prog W 0 (fun _ => true) true Tryz.f6.params.toList args.toList ds p := hA0
 rw [Tryz.params6] at hA hval
 obtain ⟨v0, vs0, d0, ds0, p0, q0, hargs, rfl, rfl, h0, r0⟩ := trodAll_cons hA
 obtain ⟨rfl, rfl, rfl⟩ := trodAll_nil r0
 obtain rfl : args = #[v0] := by cases args; simp_all
 obtain ⟨A0, xs0, c0, rfl, hI0, hl0, _⟩ := open_slints (hval 0 42 v0 rfl rfl) h0
 refine (asteps_any A0 xs0 c0 W hI0 hl0).mono ?_
 rintro e W' ⟨he, hb⟩
 exact ⟨_, he, law_post hW' rfl rfl rfl rfl rfl accrualSteps_reads hb⟩
def accrualSteps_in : Array Value := #[.slice none 0 0]
set_option maxRecDepth 100000 in
theorem accrualSteps_laid (os : Os) : laidMet Tryz.prog Rows.accrualStepsRow.laid ((World.laidAll Tryz.prog os Rows.accrualStepsRow.laid).forCall (fun _ _ => 0) ⟨#[], accrualSteps_in, []⟩).memory :=
 laidMet_laidAll _ (by kernel_rfl) (by kernel_rfl)
set_option maxRecDepth 100000 in
theorem accrualSteps_seen (os : Os) {H : Type} (enc : TypeId × Value → H) : ∃ x, DataW.whole enc Tryz.prog ((World.laidAll Tryz.prog os Rows.accrualStepsRow.laid).forCall (fun _ _ => 0) ⟨#[], accrualSteps_in, []⟩).memory Tryz.f6.params.toList Rows.accrualStepsSpec.vars false accrualSteps_in.toList 8 = some x :=
 Option.isSome_iff_exists.1 (by kernel_rfl)
set_option maxRecDepth 100000 in
theorem accrualSteps_lifted (os : Os) (started : os.Started) (H : Type) (enc : TypeId × Value → H) (F : Stop.Interp) :
    ReturnsInHanded {} Tryz.checked os 6 .any ((OpenSpec.ofChange Rows.accrualStepsSpec).preRow enc Tryz.prog Tryz.f6 Rows.accrualStepsRow.domain false Rows.accrualStepsRow.laid) (((OpenSpec.ofChange Rows.accrualStepsSpec).at F).post enc Tryz.prog Tryz.f6 false true false false) := by
 obtain ⟨x, hx⟩ := accrualSteps_seen os enc
 refine returnsInHanded_of_row (C := Tryz.checked) (s := OpenSpec.ofChange Rows.accrualStepsSpec) own_knob started (by kernel_rfl) Tryz.func6
  (witness_row_at (enc := enc) (C := Tryz.checked) false (World.laidAll Tryz.prog os Rows.accrualStepsRow.laid) accrualSteps_in (World.laidAll_os _ _ _) (by kernel_rfl) (by kernel_rfl) (by kernel_rfl)
   (OpenSpec.preRow_of_cond 8 hx (by kernel_rfl) (fun k hk => by cases hk) (by kernel_rfl) (accrualSteps_laid os))) ?_
 intro W base args ds gs before hval hW _ _ _ _ _ _
 exact accrualSteps_contract H enc W base args ds gs before hval hW
theorem accrualSteps_holds : Rows.AccrualStepsSaid :=
 OpenClaim.holds_of_cond 6 Tryz.f6 rfl rfl rfl rfl rfl rfl rfl ⟨rfl, rfl, rfl, rfl, rfl⟩ rfl rfl rfl rfl rfl (by kernel_rfl) Tryz.func6 (by kernel_rfl)
  (of_decide_eq_true (by kernel_rfl)) (by unfold Func.isWrapper; first | (rw [if_pos (by decide +kernel)]; kernel_rfl) | (rw [if_neg (by decide +kernel)]; exact ⟨rfl, rfl⟩))
  (fun os started H enc _ F => by rw [OpenClaim.pre_eq_preRow]; exact accrualSteps_lifted os started H enc F)
#print axioms accrualSteps_holds
end Go.Proofs.YtmbjaaaeekacfaaGreatDoor
