/- CalendarJoins is true for every input: no condition. -/
import Derived.Test.YtaokneooejbfkaaJoArg
import Derived.Test.YtaokneooejbfkaaCalArg
namespace Go.Proofs.Ytaokneooejbfkaa
set_option maxRecDepth 8000
open Go.RowKit Go.ChangeShapes Go.WideShapes Go.ChangeAt Go.ChangeMaps
theorem calendarJoins_reads : ∀ t ∈ Try.f3.params.toList, Try.prog.readableRec t = true ∧ t < Try.prog.types.size := by
  rw [Try.params3]
  intro t ht
  have h : t = 22 ∨ t = 25 ∨ t = 9 := by simpa using ht
  rcases h with rfl | rfl | rfl
  all_goals exact ⟨by kernel_rfl, of_decide_eq_true (by kernel_rfl)⟩
theorem calendarJoins_contract (H : Type) (enc : TypeId × Value → H) (W : World) (base : Nat) (args : Array Value) (ds gs : List (DataW H)) (before : List MemPlace)
    (hval : ∀ (j : Nat) t v, Try.f3.params[j]? = some t → args[j]? = some v → Value.okWide Try.prog W .any base t v)
    (hW : DataW.Whole enc Try.prog Try.f3.params.toList Rows.calendarJoinsSpec.vars false W args.toList ds gs before) :
    Calls Try.prog 3 args W fun e W' => ∃ v, e = .returned v ∧ Rows.calendarJoinsSpec.post enc Try.prog Try.f3 false true false false W args v W' := by
  have hW' := hW
  obtain ⟨p, q, hA0, hV, rfl, hfz, hnd⟩ := hW
  have hA : DataW.TrodAll enc Try.prog W 0 (fun _ => true) true Try.f3.params.toList args.toList ds p := hA0
  rw [Try.params3] at hA hval
  obtain ⟨v0, vs0, d0, ds0, p0, q0, hargs, rfl, rfl, h0, r0⟩ := trodAll_cons hA
  obtain ⟨v1, vs1, d1, ds1, p1, q1, rfl, rfl, rfl, h1, r1⟩ := trodAll_cons r0
  obtain ⟨v2, vs2, d2, ds2, p2, q2, rfl, rfl, rfl, h2, r2⟩ := trodAll_cons r1
  obtain ⟨rfl, rfl, rfl⟩ := trodAll_nil r2
  obtain rfl : args = #[v0, v1, v2] := by cases args; simp_all
  obtain ⟨A0, xs0, c0, rfl, hI0, hl0, _⟩ := open_slints (hval 0 22 v0 rfl rfl) h0
  obtain ⟨s1, k1, A1, hs1, c1, rfl, hI1, hl1⟩ := open_cal (hval 1 25 v1 rfl rfl) h1
  obtain ⟨s2, rfl, rfl, rfl, w2⟩ := open_string Try.underlying9 (hval 2 9 v2 rfl rfl) h2
  refine (joins_arg A0 xs0 c0 s1 k1 A1 hs1 c1 s2 W hI0 hl0 hI1 hl1 w2).mono ?_
  rintro e W' ⟨he, hb⟩
  exact ⟨_, he, law_post hW' rfl rfl rfl rfl rfl calendarJoins_reads hb⟩
set_option maxRecDepth 100000 in
theorem calendarJoins_lifted (os : Os) (started : os.Started) (H : Type) (enc : TypeId × Value → H) :
    ReturnsInHanded {} Try.checked os 3 .any (Rows.calendarJoinsSpec.pre6 enc Try.prog Try.f3 Rows.calendarJoinsRow.domain false) (Rows.calendarJoinsSpec.post enc Try.prog Try.f3 false true false false) := by
  refine returnsInHanded_of_change (C := Try.checked) own_knob started (by kernel_rfl) Try.func3
    (ChangeSpec.witness6 (enc := enc) (C := Try.checked) false ⟨#[], #[.slice none 0 0, .agg #[.string ⟨#[]⟩, .bool false, .bool false, .bool false, .bool false, .bool false, .bool false, .bool false, .slice none 0 0], .string ⟨#[]⟩], []⟩ 8 (by kernel_rfl) (by kernel_rfl) (by kernel_rfl) (by kernel_rfl)) ?_
  intro W base args ds gs before hval hW _ _
  exact calendarJoins_contract H enc W base args ds gs before hval hW
theorem calendarJoins_holds : Rows.CalendarJoinsSaid :=
  OpenClaim.holds_of_wide 3 Try.f3 rfl rfl rfl rfl rfl rfl rfl ⟨rfl, rfl, rfl, rfl, rfl⟩ rfl rfl rfl rfl rfl (by kernel_rfl) Try.func3 (by kernel_rfl)
    (of_decide_eq_true (by kernel_rfl)) (by unfold Func.isWrapper; first | (rw [if_pos (by decide +kernel)]; kernel_rfl) | (rw [if_neg (by decide +kernel)]; exact ⟨rfl, rfl⟩))
    (fun os started H enc _ => calendarJoins_lifted os started H enc)
#print axioms calendarJoins_holds
end Go.Proofs.Ytaokneooejbfkaa
