/- SolverKeepsValue is true for every input: no condition. -/
import Derived.Test.YtadnddffdedjgaaKeeps
import Derived.Test.YtadnddffdedjgaaIntArg
namespace Go.Proofs.Ytadnddffdedjgaa
set_option maxRecDepth 8000
open Go.RowKit Go.ChangeShapes Go.WideShapes Go.ChangeAt Go.ChangeMaps
theorem solverKeepsValue_reads : ∀ t ∈ Try.f4.params.toList, Try.prog.readableRec t = true ∧ t < Try.prog.types.size := by
  rw [Try.params4]
  intro t ht
  have h : t = 22 := by simpa using ht
  rcases h with rfl
  all_goals exact ⟨by kernel_rfl, of_decide_eq_true (by kernel_rfl)⟩
theorem solverKeepsValue_contract (H : Type) (enc : TypeId × Value → H) (W : World) (base : Nat) (args : Array Value) (ds gs : List (DataW H)) (before : List MemPlace)
    (hval : ∀ (j : Nat) t v, Try.f4.params[j]? = some t → args[j]? = some v → Value.okWide Try.prog W .any base t v)
    (hW : DataW.Whole enc Try.prog Try.f4.params.toList Rows.solverKeepsValueSpec.vars false W args.toList ds gs before) :
    Calls Try.prog 4 args W fun e W' => ∃ v, e = .returned v ∧ Rows.solverKeepsValueSpec.post enc Try.prog Try.f4 false true false false W args v W' := by
  have hW' := hW
  obtain ⟨p, q, hA0, hV, rfl, hfz, hnd⟩ := hW
  have hA : DataW.TrodAll enc Try.prog W 0 (fun _ => true) true Try.f4.params.toList args.toList ds p := hA0
  rw [Try.params4] at hA hval
  obtain ⟨v0, vs0, d0, ds0, p0, q0, hargs, rfl, rfl, h0, r0⟩ := trodAll_cons hA
  obtain ⟨rfl, rfl, rfl⟩ := trodAll_nil r0
  obtain rfl : args = #[v0] := by cases args; simp_all
  obtain ⟨A0, xs0, c0, rfl, hI0, hl0, _⟩ := open_slints (hval 0 22 v0 rfl rfl) h0
  refine (keeps_any A0 xs0 c0 W hI0 hl0).mono ?_
  rintro e W' ⟨he, hb⟩
  exact ⟨_, he, law_post hW' rfl rfl rfl rfl rfl solverKeepsValue_reads hb⟩
set_option maxRecDepth 100000 in
theorem solverKeepsValue_lifted (os : Os) (started : os.Started) (H : Type) (enc : TypeId × Value → H) :
    ReturnsInHanded {} Try.checked os 4 .any (Rows.solverKeepsValueSpec.pre6 enc Try.prog Try.f4 Rows.solverKeepsValueRow.domain false) (Rows.solverKeepsValueSpec.post enc Try.prog Try.f4 false true false false) := by
  refine returnsInHanded_of_change (C := Try.checked) own_knob started (by kernel_rfl) Try.func4
    (ChangeSpec.witness6 (enc := enc) (C := Try.checked) false ⟨#[], #[.slice none 0 0], []⟩ 8 (by kernel_rfl) (by kernel_rfl) (by kernel_rfl) (by kernel_rfl)) ?_
  intro W base args ds gs before hval hW _ _
  exact solverKeepsValue_contract H enc W base args ds gs before hval hW
theorem solverKeepsValue_holds : Rows.SolverKeepsValueSaid :=
  OpenClaim.holds_of_wide 4 Try.f4 rfl rfl rfl rfl rfl rfl rfl ⟨rfl, rfl, rfl, rfl, rfl⟩ rfl rfl rfl rfl rfl (by kernel_rfl) Try.func4 (by kernel_rfl)
    (of_decide_eq_true (by kernel_rfl)) (by unfold Func.isWrapper; first | (rw [if_pos (by decide +kernel)]; kernel_rfl) | (rw [if_neg (by decide +kernel)]; exact ⟨rfl, rfl⟩))
    (fun os started H enc _ => solverKeepsValue_lifted os started H enc)
#print axioms solverKeepsValue_holds
end Go.Proofs.Ytadnddffdedjgaa
