/- Walks. -/
import Derived.Deep.DeepHandedRow
import Derived.Lay
import Derived.Test.YtkiempioeffhbaaGreatDoorPt40
import Derived.Test.YtkiempioeffhbaaGreatDoorPt42
namespace Go.Proofs.YtkiempioeffhbaaGreatDoor
set_option maxHeartbeats 16000000
set_option maxRecDepth 8000
set_option linter.unusedSimpArgs false
set_option linter.unusedVariables false
section
open Go.RowKit Go.ChangeShapes Go.WideShapes Go.ChangeAt Go.ChangeMaps
theorem journalTells_reads : ∀ t ∈ Tryz.f5.params.toList, Tryz.prog.readableRec t = true ∧ t < Tryz.prog.types.size := by
 rw [Tryz.params5]
 intro t ht
 have h : t = 25 ∨ t = 3 ∨ t = 9 := by simpa using ht
 rcases h with rfl | rfl | rfl
 all_goals exact ⟨by kernel_rfl, of_decide_eq_true Zk⟩
theorem journalTells_contract (H : Type) (enc : TypeId × Value → H) (W : World) (base : Nat) (args : Array Value) (ds gs : List (DataW H)) (before : List MemPlace)
    (hval : ∀ (j : Nat) t v, Tryz.f5.params[j]? = some t → args[j]? = some v → Value.okWide Tryz.prog W .any base t v)
    (hW : DataW.Whole enc Tryz.prog Tryz.f5.params.toList Rows.journalTellsSpec.vars false W args.toList ds gs before) :
    Calls Tryz.prog 5 args W fun e W' => ∃ v, e = .returned v ∧ Rows.journalTellsSpec.post enc Tryz.prog Tryz.f5 false true false false W args v W' := by
 have hW' := hW
 obtain ⟨p, q, hA0, hV, rfl, hfz, hnd⟩ := hW
 have hA : DataW.TrodAll enc Tryz.prog W 0 (fun _ => true) true Tryz.f5.params.toList args.toList ds p := hA0
 rw [Tryz.params5] at hA hval
 obtain ⟨v0, vs0, d0, ds0, p0, q0, hargs, rfl, rfl, h0, r0⟩ := trodAll_cons hA
 obtain ⟨v1, vs1, d1, ds1, p1, q1, rfl, rfl, rfl, h1, r1⟩ := trodAll_cons r0
 obtain ⟨v2, vs2, d2, ds2, p2, q2, rfl, rfl, rfl, h2, r2⟩ := trodAll_cons r1
 obtain ⟨rfl, rfl, rfl⟩ := trodAll_nil r2
 obtain rfl : args = #[v0, v1, v2] := by cases args; simp_all
 obtain ⟨L0, hR0, hl0, hw0⟩ := open_recs (hval 0 25 v0 rfl rfl) h0
 obtain ⟨a1, rfl, rfl, rfl, w1⟩ := open_int Tryz.underlying3 (hval 1 3 v1 rfl rfl) h1
 obtain ⟨s2, rfl, rfl, rfl, w2⟩ := open_string Tryz.underlying9 (hval 2 9 v2 rfl rfl) h2
 refine (jtells_any v0 L0 a1 s2 W ⟨hR0, hw0, hl0⟩ (wf_i64 w1).1 (wf_i64 w1).2 w2).mono ?_
 rintro e W' ⟨he, hb⟩
 exact ⟨_, he, law_post hW' rfl rfl rfl rfl rfl journalTells_reads hb⟩
def journalTells_in : Array Value := #[.slice none 0 0, .int .i64 0, .string ⟨#[]⟩]
set_option maxRecDepth 100000 in
theorem journalTells_laid (os : Os) : laidMet Tryz.prog Rows.journalTellsRow.laid ((World.laidAll Tryz.prog os Rows.journalTellsRow.laid).forCall (fun _ _ => 0) ⟨#[], journalTells_in, []⟩).memory :=
 laidMet_laidAll _ Zk Zk
set_option maxRecDepth 100000 in
theorem journalTells_seen (os : Os) {H : Type} (enc : TypeId × Value → H) : ∃ x, DataW.whole enc Tryz.prog ((World.laidAll Tryz.prog os Rows.journalTellsRow.laid).forCall (fun _ _ => 0) ⟨#[], journalTells_in, []⟩).memory Tryz.f5.params.toList Rows.journalTellsSpec.vars false journalTells_in.toList 8 = some x :=
 Option.isSome_iff_exists.1 Zk
set_option maxRecDepth 100000 in
theorem journalTells_lifted (os : Os) (started : os.Started) (H : Type) (enc : TypeId × Value → H) (F : Stop.Interp) :
    ReturnsInHanded {} Tryz.checked os 5 .any ((OpenSpec.ofChange Rows.journalTellsSpec).preRow enc Tryz.prog Tryz.f5 Rows.journalTellsRow.domain false Rows.journalTellsRow.laid) (((OpenSpec.ofChange Rows.journalTellsSpec).at F).post enc Tryz.prog Tryz.f5 false true false false) := by
 obtain ⟨x, hx⟩ := journalTells_seen os enc
 refine returnsInHanded_of_row (C := Tryz.checked) (s := OpenSpec.ofChange Rows.journalTellsSpec) own_knob started Zk Tryz.func5
  (witness_row_at (enc := enc) (C := Tryz.checked) false (World.laidAll Tryz.prog os Rows.journalTellsRow.laid) journalTells_in (World.laidAll_os _ _ _) Zk Zk Zk
   (OpenSpec.preRow_of_cond 8 hx Zk (fun k hk => by cases hk) Zk (journalTells_laid os))) ?_
 intro W base args ds gs before hval hW _ _ _ _ _ _
 exact journalTells_contract H enc W base args ds gs before hval hW
theorem journalTells_holds : Rows.JournalTellsSaid :=
 OpenClaim.holds_of_cond 5 Tryz.f5 rfl rfl rfl rfl rfl rfl rfl ⟨rfl, rfl, rfl, rfl, rfl⟩ rfl rfl rfl rfl rfl Zk Tryz.func5 Zk
  (of_decide_eq_true Zk) (by unfold Func.isWrapper; first | (rw [if_pos (by decide +kernel)]; kernel_rfl) | (rw [if_neg (by decide +kernel)]; exact ⟨rfl, rfl⟩))
  (fun os started H enc _ F => by rw [OpenClaim.pre_eq_preRow]; exact journalTells_lifted os started H enc F)
#print axioms journalTells_holds
end
end Go.Proofs.YtkiempioeffhbaaGreatDoor
