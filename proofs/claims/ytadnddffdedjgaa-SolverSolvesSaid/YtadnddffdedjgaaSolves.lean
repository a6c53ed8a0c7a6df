/- The law SolverSolves, walked. -/
import Derived.Test.YtadnddffdedjgaaRfN
namespace Go.Proofs.Ytadnddffdedjgaa
set_option maxRecDepth 8000
open Go.RowKit
set_option maxHeartbeats 4000000 in
theorem solves_any (us hs : Value) (U : List Int) (H : List (List Int)) (as_ : Value) (A : List Int) (W : World) (hR : RdN W us hs U H) (hA : RdI W as_ A) :
    Calls Try.prog 3 #[.agg #[us, hs], as_] W fun e w' => e = .returned (.bool true) ∧ Below W.heap.size W w' := by
  have HM := Mem.start W
  obtain ⟨r, hr⟩ : ∃ r, Hid (r = Sv.err U H A) := ⟨_, Lib.hid rfl⟩
  have S1 := fun w' hB => ssolve_any us hs as_ U H A w' (hR.below hB) (hA.below hB) r hr
  have S2 := fun w' hB => rSolve_any us hs as_ U H A w' (hR.below hB) (hA.below hB) r hr
  obtain ⟨Au, cu, rfl⟩ := hR.u.form
  have n0 := la_n0 (.slice Au U.length cu) hs
  have n2 := la_nest (.slice Au U.length cu) hs
  clear hR hA
  by_cases h4 : 4 < U.length ∧ U.length ≤ 8
  · have h1 : decide ((4 : Int) < U.length) = true := by simp; omega
    have h2 : decide ((U.length : Int) ≤ 8) = true := by simp; omega
    have h3 : (4 : Int) < U.length := by omega
    have h5 : (U.length : Int) ≤ 8 := by omega
    clear h4
    go_enter Try.func3, Try.ntmps3
    go_wp2_with (first | (go_at_call 11; ((with_reducible refine (awake35_any _).mono ?_); rintro e9 w2 ⟨rfl, hL⟩; replace HM := HM.call hL; clear hL)) | (first | ((with_reducible refine g_ld ?_); refine a_ld HM ?_) | ((with_reducible refine g_st ?_); refine a_st HM ?_; clear HM; intro w1 HM) | ((with_reducible refine g_al ?_); refine a_al HM ?_; clear HM; intro bk w1 HM) | ((with_reducible refine g_bx ?_); refine a_bx HM ?_; clear HM; intro bk w1 HM) | ((with_reducible refine g_bld ?_); refine a_bld ?_)))
    go_ret
    exact ⟨rfl, HM.low⟩
  have hcase : U.length ≤ 4 ∨ 8 < U.length := by omega
  clear h4
  go_enter Try.func3, Try.ntmps3
  rcases hcase with h4 | h4
  all_goals
    first
    | have h3 : ¬ (4 : Int) < U.length := by omega
    | have h3 : (4 : Int) < U.length := by omega
      have h5 : ¬ (U.length : Int) ≤ 8 := by omega
    clear h4
    go_upto_region 3 with (first | fail | (first | ((with_reducible refine g_ld ?_); refine a_ld HM ?_) | ((with_reducible refine g_st ?_); refine a_st HM ?_; clear HM; intro w1 HM) | ((with_reducible refine g_al ?_); refine a_al HM ?_; clear HM; intro bk w1 HM) | ((with_reducible refine g_bx ?_); refine a_bx HM ?_; clear HM; intro bk w1 HM) | ((with_reducible refine g_bld ?_); refine a_bld ?_)))
    go_upto_region 4 with (first | (go_at_call 12; refine (S1 _ HM.low).mono ?_; rintro e9 w2 ⟨s1, rfl, hL1, HS1⟩; replace HM := HM.call hL1) | (first | ((with_reducible refine g_ld ?_); refine a_ld HM ?_) | ((with_reducible refine g_st ?_); refine a_st HM ?_; clear HM; intro w1 HM) | ((with_reducible refine g_al ?_); refine a_al HM ?_; clear HM; intro bk w1 HM) | ((with_reducible refine g_bx ?_); refine a_bx HM ?_; clear HM; intro bk w1 HM) | ((with_reducible refine g_bld ?_); refine a_bld ?_)))
    clear S1 hL1
    go_upto_region 5 with (first | (go_at_call 13; refine (S2 _ HM.low).mono ?_; rintro e9 w5 ⟨s2, rfl, hL2, HS2⟩; replace HM := HM.call hL2) | (first | ((with_reducible refine g_ld ?_); refine a_ld HM ?_) | ((with_reducible refine g_st ?_); refine a_st HM ?_; clear HM; intro w1 HM) | ((with_reducible refine g_al ?_); refine a_al HM ?_; clear HM; intro bk w1 HM) | ((with_reducible refine g_bx ?_); refine a_bx HM ?_; clear HM; intro bk w1 HM) | ((with_reducible refine g_bld ?_); refine a_bld ?_)))
    obtain ⟨m, f, hm, hR1, hR2, hfit⟩ := Sv.both hr.out (Sv.Ans.below HS1.out hL2) HS2.out
    have E := fun w' hB => same_any s1 s2 m f w' (RdS.below hR1 hB) (RdS.below hR2 hB) hm hfit
    have HB5 := Lib.hid HM.low
    clear S2 hL2 HS1 HS2 hm hR1 hR2 hfit HM
    have HM := Mem.start w5
    go_wp2_with (first | first | (go_at_call 14; ((with_reducible refine (E _ HM.low).mono ?_); rintro e9 w2 ⟨rfl, hL⟩; replace HM := HM.call hL; clear hL)) | (go_at_call 11; ((with_reducible refine (awake35_any _).mono ?_); rintro e9 w2 ⟨rfl, hL⟩; replace HM := HM.call hL; clear hL)) | (first | ((with_reducible refine g_ld ?_); refine a_ld HM ?_) | ((with_reducible refine g_st ?_); refine a_st HM ?_; clear HM; intro w1 HM) | ((with_reducible refine g_al ?_); refine a_al HM ?_; clear HM; intro bk w1 HM) | ((with_reducible refine g_bx ?_); refine a_bx HM ?_; clear HM; intro bk w1 HM) | ((with_reducible refine g_bld ?_); refine a_bld ?_)))
    go_ret
    exact ⟨rfl, below_seq HB5.out HM.low⟩
end Go.Proofs.Ytadnddffdedjgaa
