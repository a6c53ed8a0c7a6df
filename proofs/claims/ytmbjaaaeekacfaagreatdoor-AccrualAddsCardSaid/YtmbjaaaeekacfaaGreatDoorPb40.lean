/- Walks, and plain facts for them. -/
import Derived.Deep.DeepHandedRow
import Derived.Lay
import Derived.Test.YtmbjaaaeekacfaaGreatDoorPb39
import Derived.Test.YtmbjaaaeekacfaaGreatDoorPb37
namespace Go.Proofs.YtmbjaaaeekacfaaGreatDoor
set_option maxRecDepth 8000
open Go.RowKit Go.ChangeShapes Go.WideShapes Go.ChangeAt Go.ChangeMaps
theorem accrualAdds_reads : ∀ t ∈ Tryz.f8.params.toList, Tryz.prog.readableRec t = true ∧ t < Tryz.prog.types.size := by
 rw [Tryz.params8]
 intro t ht
 have h : t = 42 := by simpa using ht
 rcases h with rfl
 all_goals exact ⟨by kernel_rfl, of_decide_eq_true (by kernel_rfl)⟩
theorem accrualAdds_contract (H : Type) (enc : TypeId × Value → H) (W : World) (base : Nat) (args : Array Value) (ds gs : List (DataW H)) (before : List MemPlace)
    (hval : ∀ (j : Nat) t v, Tryz.f8.params[j]? = some t → args[j]? = some v → Value.okWide Tryz.prog W .any base t v)
    (hW : DataW.Whole enc Tryz.prog Tryz.f8.params.toList Rows.accrualAddsSpec.vars false W args.toList ds gs before) :
    Calls Tryz.prog 8 args W fun e W' => ∃ v, e = .returned v ∧ Rows.accrualAddsSpec.post enc Tryz.prog Tryz.f8 false true false false W args v W' := by
 have hW' := hW
 obtain ⟨p, q, hA0, hV, rfl, hfz, hnd⟩ := hW
 have hA : DataW.TrodAll enc Tryz.prog W 0 (fun _ => true) true Tryz.f8.params.toList args.toList ds p := hA0
 rw [Tryz.params8] at hA hval
 obtain ⟨v0, vs0, d0, ds0, p0, q0, hargs, rfl, rfl, h0, r0⟩ := trodAll_cons hA
 obtain ⟨rfl, rfl, rfl⟩ := trodAll_nil r0
 obtain rfl : args = #[v0] := by cases args; simp_all
 obtain ⟨A0, xs0, c0, rfl, hI0, hl0, _⟩ := open_slints (hval 0 42 v0 rfl rfl) h0
 refine (aadds_any A0 xs0 c0 W hI0 hl0).mono ?_
 rintro e W' ⟨he, hb⟩
 exact ⟨_, he, law_post hW' rfl rfl rfl rfl rfl accrualAdds_reads hb⟩
def accrualAdds_in : Array Value := #[.slice none 0 0]
set_option maxRecDepth 100000 in
theorem accrualAdds_laid (os : Os) : laidMet Tryz.prog Rows.accrualAddsRow.laid ((World.laidAll Tryz.prog os Rows.accrualAddsRow.laid).forCall (fun _ _ => 0) ⟨#[], accrualAdds_in, []⟩).memory :=
 laidMet_laidAll _ (by kernel_rfl) (by kernel_rfl)
set_option maxRecDepth 100000 in
theorem accrualAdds_seen (os : Os) {H : Type} (enc : TypeId × Value → H) : ∃ x, DataW.whole enc Tryz.prog ((World.laidAll Tryz.prog os Rows.accrualAddsRow.laid).forCall (fun _ _ => 0) ⟨#[], accrualAdds_in, []⟩).memory Tryz.f8.params.toList Rows.accrualAddsSpec.vars false accrualAdds_in.toList 8 = some x :=
 Option.isSome_iff_exists.1 (by kernel_rfl)
set_option maxRecDepth 100000 in
theorem accrualAdds_lifted (os : Os) (started : os.Started) (H : Type) (enc : TypeId × Value → H) (F : Stop.Interp) :
    ReturnsInHanded {} Tryz.checked os 8 .any ((OpenSpec.ofChange Rows.accrualAddsSpec).preRow enc Tryz.prog Tryz.f8 Rows.accrualAddsRow.domain false Rows.accrualAddsRow.laid) (((OpenSpec.ofChange Rows.accrualAddsSpec).at F).post enc Tryz.prog Tryz.f8 false true false false) := by
 obtain ⟨x, hx⟩ := accrualAdds_seen os enc
 refine returnsInHanded_of_row (C := Tryz.checked) (s := OpenSpec.ofChange Rows.accrualAddsSpec) own_knob started (by kernel_rfl) Tryz.func8
  (witness_row_at (enc := enc) (C := Tryz.checked) false (World.laidAll Tryz.prog os Rows.accrualAddsRow.laid) accrualAdds_in (World.laidAll_os _ _ _) (by kernel_rfl) (by kernel_rfl) (by kernel_rfl)
   (OpenSpec.preRow_of_cond 8 hx (by kernel_rfl) (fun k hk => by cases hk) (by kernel_rfl) (accrualAdds_laid os))) ?_
 intro W base args ds gs before hval hW _ _ _ _ _ _
 exact accrualAdds_contract H enc W base args ds gs before hval hW
theorem accrualAdds_holds : Rows.AccrualAddsSaid :=
 OpenClaim.holds_of_cond 8 Tryz.f8 rfl rfl rfl rfl rfl rfl rfl ⟨rfl, rfl, rfl, rfl, rfl⟩ rfl rfl rfl rfl rfl (by kernel_rfl) Tryz.func8 (by kernel_rfl)
  (of_decide_eq_true (by kernel_rfl)) (by unfold Func.isWrapper; first | (rw [if_pos (by decide +kernel)]; kernel_rfl) | (rw [if_neg (by decide +kernel)]; exact ⟨rfl, rfl⟩))
  (fun os started H enc _ F => by rw [OpenClaim.pre_eq_preRow]; exact accrualAdds_lifted os started H enc F)
#print axioms accrualAdds_holds
end Go.Proofs.YtmbjaaaeekacfaaGreatDoor
