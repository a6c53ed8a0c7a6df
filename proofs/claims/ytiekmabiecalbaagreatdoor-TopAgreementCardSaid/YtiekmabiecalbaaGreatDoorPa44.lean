/- Walks. -/
import Derived.Deep.DeepHandedRow
import Derived.Lay
import Derived.Test.YtiekmabiecalbaaGreatDoorPa43
namespace Go.Proofs.YtiekmabiecalbaaGreatDoor
set_option maxHeartbeats 16000000
set_option maxRecDepth 8000
section
open Go.RowKit Go.ChangeShapes Go.WideShapes Go.ChangeAt Go.ChangeMaps
theorem topAgreement_reads : ∀ t ∈ Tryz.f4.params.toList, Tryz.prog.readableRec t = true ∧ t < Tryz.prog.types.size := by
 rw [Tryz.params4]
 intro t ht
 have h : t = 22 := by simpa using ht
 rcases h with rfl
 all_goals exact ⟨by kernel_rfl, of_decide_eq_true Zk⟩
theorem topAgreement_contract (H : Type) (enc : TypeId × Value → H) (W : World) (base : Nat) (args : Array Value) (ds gs : List (DataW H)) (before : List MemPlace)
    (hval : ∀ (j : Nat) t v, Tryz.f4.params[j]? = some t → args[j]? = some v → Value.okWide Tryz.prog W .any base t v)
    (hW : DataW.Whole enc Tryz.prog Tryz.f4.params.toList Rows.topAgreementSpec.vars false W args.toList ds gs before) :
    Calls Tryz.prog 4 args W fun e W' => ∃ v, e = .returned v ∧ Rows.topAgreementSpec.post enc Tryz.prog Tryz.f4 false true false false W args v W' := by
 have hW' := hW
 obtain ⟨p, q, hA0, hV, rfl, hfz, hnd⟩ := hW
 have hA : DataW.TrodAll enc Tryz.prog W 0 (fun _ => true) true Tryz.f4.params.toList args.toList ds p := hA0
 rw [Tryz.params4] at hA hval
 obtain ⟨v0, vs0, d0, ds0, p0, q0, hargs, rfl, rfl, h0, r0⟩ := trodAll_cons hA
 obtain ⟨rfl, rfl, rfl⟩ := trodAll_nil r0
 obtain rfl : args = #[v0] := by cases args; simp_all
 obtain ⟨A0, xs0, c0, rfl, hI0, hl0, _⟩ := open_slints (hval 0 22 v0 rfl rfl) h0
 refine (tagree_any A0 xs0 c0 W hI0 hl0).mono ?_
 rintro e W' ⟨he, hb⟩
 exact ⟨_, he, law_post hW' rfl rfl rfl rfl rfl topAgreement_reads hb⟩
def topAgreement_in : Array Value := #[.slice none 0 0]
set_option maxRecDepth 100000 in
theorem topAgreement_laid (os : Os) : laidMet Tryz.prog Rows.topAgreementRow.laid ((World.laidAll Tryz.prog os Rows.topAgreementRow.laid).forCall (fun _ _ => 0) ⟨#[], topAgreement_in, []⟩).memory :=
 laidMet_laidAll _ Zk Zk
set_option maxRecDepth 100000 in
theorem topAgreement_seen (os : Os) {H : Type} (enc : TypeId × Value → H) : ∃ x, DataW.whole enc Tryz.prog ((World.laidAll Tryz.prog os Rows.topAgreementRow.laid).forCall (fun _ _ => 0) ⟨#[], topAgreement_in, []⟩).memory Tryz.f4.params.toList Rows.topAgreementSpec.vars false topAgreement_in.toList 8 = some x :=
 Option.isSome_iff_exists.1 Zk
set_option maxRecDepth 100000 in
theorem topAgreement_lifted (os : Os) (started : os.Started) (H : Type) (enc : TypeId × Value → H) (F : Stop.Interp) :
    ReturnsInHanded {} Tryz.checked os 4 .any ((OpenSpec.ofChange Rows.topAgreementSpec).preRow enc Tryz.prog Tryz.f4 Rows.topAgreementRow.domain false Rows.topAgreementRow.laid) (((OpenSpec.ofChange Rows.topAgreementSpec).at F).post enc Tryz.prog Tryz.f4 false true false false) := by
 obtain ⟨x, hx⟩ := topAgreement_seen os enc
 refine returnsInHanded_of_row (C := Tryz.checked) (s := OpenSpec.ofChange Rows.topAgreementSpec) own_knob started Zk Tryz.func4
  (witness_row_at (enc := enc) (C := Tryz.checked) false (World.laidAll Tryz.prog os Rows.topAgreementRow.laid) topAgreement_in (World.laidAll_os _ _ _) Zk Zk Zk
   (OpenSpec.preRow_of_cond 8 hx Zk (fun k hk => by cases hk) Zk (topAgreement_laid os))) ?_
 intro W base args ds gs before hval hW _ _ _ _ _ _
 exact topAgreement_contract H enc W base args ds gs before hval hW
theorem topAgreement_holds : Rows.TopAgreementSaid :=
 OpenClaim.holds_of_cond 4 Tryz.f4 rfl rfl rfl rfl rfl rfl rfl ⟨rfl, rfl, rfl, rfl, rfl⟩ rfl rfl rfl rfl rfl Zk Tryz.func4 Zk
  (of_decide_eq_true Zk) (by unfold Func.isWrapper; first | (rw [if_pos (by decide +kernel)]; kernel_rfl) | (rw [if_neg (by decide +kernel)]; exact ⟨rfl, rfl⟩))
  (fun os started H enc _ F => by rw [OpenClaim.pre_eq_preRow]; exact topAgreement_lifted os started H enc F)
#print axioms topAgreement_holds
end
end Go.Proofs.YtiekmabiecalbaaGreatDoor
