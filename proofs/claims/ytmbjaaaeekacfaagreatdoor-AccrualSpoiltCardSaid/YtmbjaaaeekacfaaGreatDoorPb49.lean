/- Walks, and plain facts for them. -/
import Derived.Deep.DeepHandedRow
import Derived.Lay
import Derived.Test.YtmbjaaaeekacfaaGreatDoorPb48
import Derived.Test.YtmbjaaaeekacfaaGreatDoorPb37
namespace Go.Proofs.YtmbjaaaeekacfaaGreatDoor
set_option maxRecDepth 8000
open Go.RowKit Go.ChangeShapes Go.WideShapes Go.ChangeAt Go.ChangeMaps
theorem accrualSpoilt_reads : ∀ t ∈ Tryz.f5.params.toList, Tryz.prog.readableRec t = true ∧ t < Tryz.prog.types.size := by
 rw [Tryz.params5]
 intro t ht
 have h : t = 42 ∨ t = 3 ∨ t = 27 := by simpa using ht
 rcases h with rfl | rfl | rfl
 all_goals exact ⟨by kernel_rfl, of_decide_eq_true (by kernel_rfl)⟩
theorem accrualSpoilt_contract (H : Type) (enc : TypeId × Value → H) (W : World) (base : Nat) (args : Array Value) (ds gs : List (DataW H)) (before : List MemPlace)
    (hval : ∀ (j : Nat) t v, Tryz.f5.params[j]? = some t → args[j]? = some v → Value.okWide Tryz.prog W .any base t v)
    (hW : DataW.Whole enc Tryz.prog Tryz.f5.params.toList Rows.accrualSpoiltSpec.vars false W args.toList ds gs before) :
    Calls Tryz.prog 5 args W fun e W' => ∃ v, e = .returned v ∧ Rows.accrualSpoiltSpec.post enc Tryz.prog Tryz.f5 false true false false W args v W' := by
 have hW' := hW
 obtain ⟨p, q, hA0, hV, rfl, hfz, hnd⟩ := hW
 have hA : DataW.TrodAll enc Tryz.prog W 0 (fun _ => true) true Tryz.f5.params.toList args.toList ds p := hA0
 rw [Tryz.params5] at hA hval
 obtain ⟨v0, vs0, d0, ds0, p0, q0, hargs, rfl, rfl, h0, r0⟩ := trodAll_cons hA
 obtain ⟨v1, vs1, d1, ds1, p1, q1, rfl, rfl, rfl, h1, r1⟩ := trodAll_cons r0
 obtain ⟨v2, vs2, d2, ds2, p2, q2, rfl, rfl, rfl, h2, r2⟩ := trodAll_cons r1
 obtain ⟨rfl, rfl, rfl⟩ := trodAll_nil r2
 obtain rfl : args = #[v0, v1, v2] := by cases args; simp_all
 obtain ⟨A0, xs0, c0, rfl, hI0, hl0, _⟩ := open_slints (hval 0 42 v0 rfl rfl) h0
 obtain ⟨a1, rfl, rfl, rfl, w1⟩ := open_int Tryz.underlying3 (hval 1 3 v1 rfl rfl) h1
 obtain ⟨s2, M2, t2, N2, rfl, hM2, hN2⟩ := open_rat (hval 2 27 v2 rfl rfl) h2
 refine (aspoilt_any A0 xs0 c0 a1 s2 M2 t2 N2 W hI0 hl0 (wf_i64 w1).1 (wf_i64 w1).2 hM2 hN2).mono ?_
 rintro e W' ⟨he, hb⟩
 exact ⟨_, he, law_post hW' rfl rfl rfl rfl rfl accrualSpoilt_reads hb⟩
def accrualSpoilt_in : Array Value := #[.slice none 0 0, .int .i64 0, .agg #[.bool false, .int .u32 0, .int .u32 0, .int .u32 0, .int .u32 0, .int .u32 0, .int .u32 0, .int .u32 0, .int .u32 0, .int .u32 0, .int .u32 0, .int .u32 0, .int .u32 0, .int .u32 0, .int .u32 0, .int .u32 0, .int .u32 0, .int .u32 0, .int .u32 0, .int .u32 0, .int .u32 0, .int .u32 0, .int .u32 0, .int .u32 0, .int .u32 0, .int .u32 0, .int .u32 0, .int .u32 0, .int .u32 0, .int .u32 0, .int .u32 0, .int .u32 0, .int .u32 0, .bool false, .int .u32 0, .int .u32 0, .int .u32 0, .int .u32 0, .int .u32 0, .int .u32 0, .int .u32 0, .int .u32 0, .int .u32 0, .int .u32 0, .int .u32 0, .int .u32 0, .int .u32 0, .int .u32 0, .int .u32 0, .int .u32 0, .int .u32 0, .int .u32 0, .int .u32 0, .int .u32 0, .int .u32 0, .int .u32 0, .int .u32 0, .int .u32 0, .int .u32 0, .int .u32 0, .int .u32 0, .int .u32 0, .int .u32 0, .int .u32 0, .int .u32 0, .int .u32 0]]
set_option maxRecDepth 100000 in
theorem accrualSpoilt_laid (os : Os) : laidMet Tryz.prog Rows.accrualSpoiltRow.laid ((World.laidAll Tryz.prog os Rows.accrualSpoiltRow.laid).forCall (fun _ _ => 0) ⟨#[], accrualSpoilt_in, []⟩).memory :=
 laidMet_laidAll _ (by kernel_rfl) (by kernel_rfl)
set_option maxRecDepth 100000 in
theorem accrualSpoilt_seen (os : Os) {H : Type} (enc : TypeId × Value → H) : ∃ x, DataW.whole enc Tryz.prog ((World.laidAll Tryz.prog os Rows.accrualSpoiltRow.laid).forCall (fun _ _ => 0) ⟨#[], accrualSpoilt_in, []⟩).memory Tryz.f5.params.toList Rows.accrualSpoiltSpec.vars false accrualSpoilt_in.toList 8 = some x :=
 Option.isSome_iff_exists.1 (by kernel_rfl)
set_option maxRecDepth 100000 in
theorem accrualSpoilt_lifted (os : Os) (started : os.Started) (H : Type) (enc : TypeId × Value → H) (F : Stop.Interp) :
    ReturnsInHanded {} Tryz.checked os 5 .any ((OpenSpec.ofChange Rows.accrualSpoiltSpec).preRow enc Tryz.prog Tryz.f5 Rows.accrualSpoiltRow.domain false Rows.accrualSpoiltRow.laid) (((OpenSpec.ofChange Rows.accrualSpoiltSpec).at F).post enc Tryz.prog Tryz.f5 false true false false) := by
 obtain ⟨x, hx⟩ := accrualSpoilt_seen os enc
 refine returnsInHanded_of_row (C := Tryz.checked) (s := OpenSpec.ofChange Rows.accrualSpoiltSpec) own_knob started (by kernel_rfl) Tryz.func5
  (witness_row_at (enc := enc) (C := Tryz.checked) false (World.laidAll Tryz.prog os Rows.accrualSpoiltRow.laid) accrualSpoilt_in (World.laidAll_os _ _ _) (by kernel_rfl) (by kernel_rfl) (by kernel_rfl)
   (OpenSpec.preRow_of_cond 8 hx (by kernel_rfl) (fun k hk => by cases hk) (by kernel_rfl) (accrualSpoilt_laid os))) ?_
 intro W base args ds gs before hval hW _ _ _ _ _ _
 exact accrualSpoilt_contract H enc W base args ds gs before hval hW
theorem accrualSpoilt_holds : Rows.AccrualSpoiltSaid :=
 OpenClaim.holds_of_cond 5 Tryz.f5 rfl rfl rfl rfl rfl rfl rfl ⟨rfl, rfl, rfl, rfl, rfl⟩ rfl rfl rfl rfl rfl (by kernel_rfl) Tryz.func5 (by kernel_rfl)
  (of_decide_eq_true (by kernel_rfl)) (by unfold Func.isWrapper; first | (rw [if_pos (by decide +kernel)]; kernel_rfl) | (rw [if_neg (by decide +kernel)]; exact ⟨rfl, rfl⟩))
  (fun os started H enc _ F => by rw [OpenClaim.pre_eq_preRow]; exact accrualSpoilt_lifted os started H enc F)
#print axioms accrualSpoilt_holds
end Go.Proofs.YtmbjaaaeekacfaaGreatDoor
