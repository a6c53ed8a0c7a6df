/- The document's Solve, walked; it answers as the program's. -/
import Derived.Test.YtadnddffdedjgaaRfM
namespace Go.Proofs.Ytadnddffdedjgaa
set_option maxRecDepth 8000
open Go.RowKit
namespace Sv
theorem err_of_chk {U : List Int} {H : List (List Int)} {A : List Int} (h : chk U H A ≠ 0) : err U H A = chk U H A := if_neg h
theorem err_circ {U : List Int} {H : List (List Int)} {A : List Int} (h : chk U H A = 0) (hc : Ns.Circ U.length (Ns.gu U) (Ns.gh H)) : err U H A = 351 := by
  unfold err; rw [if_pos h, if_pos hc]
theorem err_none {U : List Int} {H : List (List Int)} {A : List Int} (h : chk U H A = 0) (hc : ¬ Ns.Circ U.length (Ns.gu U) (Ns.gh H)) : err U H A = 0 := by
  unfold err; rw [if_pos h, if_neg hc]
theorem err_spec {U : List Int} {H : List (List Int)} {A : List Int} (h : err U H A = 0) : chk U H A = 0 ∧ ¬ Ns.Circ U.length (Ns.gu U) (Ns.gh H) := by
  by_cases h1 : chk U H A = 0
  · refine ⟨h1, fun hc => ?_⟩
    rw [err_circ h1 hc] at h
    exact absurd h (by decide)
  · rw [err_of_chk h1] at h; exact absurd h h1
/-- What Solve hands back. -/
def Ans (U : List Int) (H : List (List Int)) (A : List Int) (r : Int) (w : World) (s : Value) : Prop := (r ≠ 0 ∧ s = .slice none 0 0) ∨ (r = 0 ∧ ∃ f, Sv.Px U H A f ∧ RdS 66 w s (qrows U.length f))
theorem Ans.below {U : List Int} {H : List (List Int)} {A : List Int} {r : Int} {w w' : World} {s : Value} (h : Ans U H A r w s) (hb : Below w.heap.size w w') : Ans U H A r w' s :=
  h.imp id fun ⟨h0, f, hf, hR⟩ => ⟨h0, f, hf, RdS.below hR hb⟩
theorem rdS_nil (n : Nat) (w : World) (f : Nat → Rat) : RdS n w (.slice none 0 0) (qrows 0 f) := ⟨by simp [qrows, So.ol], none, 0, by simp [qrows, So.ol], by simp [qrows, So.ol], .inl (by simp [qrows, So.ol])⟩
theorem both {U : List Int} {H : List (List Int)} {A : List Int} {r : Int} {w : World} {s1 s2 : Value} (hr : r = err U H A) (h1 : Ans U H A r w s1) (h2 : Ans U H A r w s2) : ∃ m f, m ≤ 8 ∧ RdS 66 w s1 (qrows m f) ∧ RdS 66 w s2 (qrows m f) ∧ ∀ i, i < m → Rt.Fit (f i) := by
  rcases h1 with ⟨h0, rfl⟩ | ⟨h0, f, hf, hR1⟩
  · rcases h2 with ⟨_, rfl⟩ | ⟨h3, _⟩
    · exact ⟨0, fun _ => 0, by omega, rdS_nil _ _ _, rdS_nil _ _ _, fun i hi => by omega⟩
    · exact absurd h3 h0
  · rcases h2 with ⟨h3, _⟩ | ⟨_, g, hg, hR2⟩
    · exact absurd h0 h3
    obtain ⟨hk, hc⟩ := err_spec (hr.symm.trans h0)
    obtain ⟨hG, _, _⟩ := chk_spec hk
    have e : qrows U.length g = qrows U.length f := So.ol_congr fun i hi => by rw [Ns.Pr.uniq hG.ok hc hg.1 hf.1 i hi]
    rw [e] at hR2
    exact ⟨_, f, hG.sh.1, hR1, hR2, hf.2⟩
end Sv
set_option maxHeartbeats 4000000 in
theorem rSolve_any (us hs as_ : Value) (U : List Int) (H : List (List Int)) (A : List Int) (w : World) (hR : RdN w us hs U H) (hA : RdI w as_ A) (r : Int) (hr : Hid (r = Sv.err U H A)) :
    Calls Try.prog 13 #[.agg #[us, hs], as_] w fun e w' => ∃ s, e = .returned (.tuple #[s, .int .i64 r]) ∧ Below w.heap.size w w' ∧ Hid (Sv.Ans U H A r w' s) := by
  have HM := Mem.start w
  have HA := Lib.hid hA
  have HR := Lib.hid hR
  obtain ⟨Au, cu, rfl⟩ := hR.u.form
  obtain ⟨Aa, ca, rfl⟩ := hA.form
  obtain ⟨c, hc⟩ : ∃ c, Hid (c = Ns.chk U H) := ⟨_, Lib.hid rfl⟩
  have C := fun w' hB => rncheck_any _ _ U H w' (hR.below hB) c hc
  have n0 := la_n0 (.slice Au U.length cu) hs
  have n2 := la_nest (.slice Au U.length cu) hs
  clear hR hA
  by_cases h0 : c = 0
  case neg =>
    obtain rfl : r = c := by
      have h1 : Sv.chk U H A = c := by rw [Sv.chk_nest (by rw [← hc.out]; exact h0), ← hc.out]
      rw [hr.out, Sv.err_of_chk (by rw [h1]; exact h0), h1]
    clear hr hc
    go_enter Try.func13, Try.ntmps13
    go_wp2_with (first | (go_at_call 33; ((with_reducible refine (C _ HM.low).mono ?_); rintro e9 w2 ⟨rfl, hL⟩; replace HM := HM.call hL; clear hL)) | (first | ((with_reducible refine g_ld ?_); refine a_ld HM ?_) | ((with_reducible refine g_st ?_); refine a_st HM ?_; clear HM; intro w1 HM) | ((with_reducible refine g_al ?_); refine a_al HM ?_; clear HM; intro bk w1 HM) | ((with_reducible refine g_bx ?_); refine a_bx HM ?_; clear HM; intro bk w1 HM) | ((with_reducible refine g_bld ?_); refine a_bld ?_)))
    go_ret2
    exact ⟨_, rfl, HM.low, Lib.hid (.inl ⟨h0, rfl⟩)⟩
  case pos =>
  subst h0
  by_cases hl : A.length = U.length
  case neg =>
    obtain rfl : r = 350 := by
      have h1 := Sv.chk_len hc.out.symm hl
      rw [hr.out, Sv.err_of_chk (by rw [h1]; decide), h1]
    have hl1 : ¬ (A.length : Int) = U.length := by omega
    clear hr hc
    go_enter Try.func13, Try.ntmps13
    go_wp2_with (first | (go_at_call 33; ((with_reducible refine (C _ HM.low).mono ?_); rintro e9 w2 ⟨rfl, hL⟩; replace HM := HM.call hL; clear hL)) | (first | ((with_reducible refine g_ld ?_); refine a_ld HM ?_) | ((with_reducible refine g_st ?_); refine a_st HM ?_; clear HM; intro w1 HM) | ((with_reducible refine g_al ?_); refine a_al HM ?_; clear HM; intro bk w1 HM) | ((with_reducible refine g_bx ?_); refine a_bx HM ?_; clear HM; intro bk w1 HM) | ((with_reducible refine g_bld ?_); refine a_bld ?_)))
    go_ret2
    exact ⟨_, rfl, HM.low, Lib.hid (.inl ⟨by decide, rfl⟩)⟩
  case pos =>
  have HAL := Lib.hid hl
  rw [hl] at HA ⊢
  clear hl
  have hn8 := (Ns.chk_good hc.out.symm).sh.1
  go_enter Try.func13, Try.ntmps13
  go_wp2_with (first | (go_at_call 33; ((with_reducible refine (C _ HM.low).mono ?_); rintro e9 w2 ⟨rfl, hL⟩; replace HM := HM.call hL; clear hL)) | (first | ((with_reducible refine g_ld ?_); refine a_ld HM ?_) | ((with_reducible refine g_st ?_); refine a_st HM ?_; clear HM; intro w1 HM) | ((with_reducible refine g_al ?_); refine a_al HM ?_; clear HM; intro bk w1 HM) | ((with_reducible refine g_bx ?_); refine a_bx HM ?_; clear HM; intro bk w1 HM) | ((with_reducible refine g_bld ?_); refine a_bld ?_)))
  obtain ⟨b2, rfl⟩ := HM.nm0
  go_loopw [4, 5, 7] (fun sv rv iv wr => ∃ i : Nat, sv = .slice none 0 0 ∧ rv = .int .i64 0 ∧ iv = .int .i64 (i : Nat) ∧ i ≤ U.length ∧ Hid (∀ a ∈ A.take i, Sv.inr a) ∧ Mem w [] [(b2, #[.slice Au U.length cu, hs])] wr) (fun _ _ iv _ => U.length - (intOf iv).toNat)
  case atStart => exact ⟨0, rfl, rfl, rfl, by omega, Lib.hid (by simp), HM.pick⟩
  case round =>
    clear HM
    obtain ⟨i, rfl, rfl, rfl, hi, HQ, HM⟩ := hrel
    by_cases hlt : i < U.length
    · have hlt1 : (i : Int) < U.length := by omega
      obtain ⟨a, ha⟩ : ∃ a, A[i]? = some a := ⟨_, List.getElem?_eq_getElem (by have := HAL.out; omega)⟩
      obtain ⟨b6, off6, cs6, rfl, HB6, ka⟩ := HA.out.at_ ha
      by_cases h1 : a < -1000000000000000
      · obtain rfl : r = 350 := by
          have h9 := Sv.chk_bad hc.out.symm HAL.out (List.mem_of_getElem? ha) (fun h => by unfold Sv.inr at h; omega)
          rw [hr.out, Sv.err_of_chk (by rw [h9]; decide), h9]
        clear hr hc ha
        go_wp2_with (first | fail | (first | ((with_reducible refine g_ld ?_); refine a_ld HM ?_) | ((with_reducible refine g_st ?_); refine a_st HM ?_; clear HM; intro w1 HM) | ((with_reducible refine g_al ?_); refine a_al HM ?_; clear HM; intro bk w1 HM) | ((with_reducible refine g_bx ?_); refine a_bx HM ?_; clear HM; intro bk w1 HM) | ((with_reducible refine g_bld ?_); refine a_bld ?_)))
        go_ret2
        exact ⟨_, rfl, HM.low, Lib.hid (.inl ⟨by decide, rfl⟩)⟩
      by_cases h2 : 1000000000000000 < a
      · obtain rfl : r = 350 := by
          have h9 := Sv.chk_bad hc.out.symm HAL.out (List.mem_of_getElem? ha) (fun h => by unfold Sv.inr at h; omega)
          rw [hr.out, Sv.err_of_chk (by rw [h9]; decide), h9]
        clear hr hc ha
        go_wp2_with (first | fail | (first | ((with_reducible refine g_ld ?_); refine a_ld HM ?_) | ((with_reducible refine g_st ?_); refine a_st HM ?_; clear HM; intro w1 HM) | ((with_reducible refine g_al ?_); refine a_al HM ?_; clear HM; intro bk w1 HM) | ((with_reducible refine g_bx ?_); refine a_bx HM ?_; clear HM; intro bk w1 HM) | ((with_reducible refine g_bld ?_); refine a_bld ?_)))
        go_ret2
        exact ⟨_, rfl, HM.low, Lib.hid (.inl ⟨by decide, rfl⟩)⟩
      have HQ2 : Hid (∀ a ∈ A.take (i + 1), Sv.inr a) := Lib.hid (by
        intro x hx
        rw [List.take_add_one, ha] at hx
        rcases List.mem_append.1 hx with hx | hx
        · exact HQ.out x hx
        · simp at hx; subst hx; unfold Sv.inr; omega)
      clear ha
      go_wp2_with (first | fail | (first | ((with_reducible refine g_ld ?_); refine a_ld HM ?_) | ((with_reducible refine g_st ?_); refine a_st HM ?_; clear HM; intro w1 HM) | ((with_reducible refine g_al ?_); refine a_al HM ?_; clear HM; intro bk w1 HM) | ((with_reducible refine g_bx ?_); refine a_bx HM ?_; clear HM; intro bk w1 HM) | ((with_reducible refine g_bld ?_); refine a_bld ?_)))
      go_roundw
      case rel => exact ⟨i + 1, rfl, rfl, by go_num, by omega, HQ2, HM⟩
      case measure => simp [intOf]; omega
    · have hchk : Sv.chk U H A = 0 := Sv.chk_ok hc.out.symm HAL.out (by have := HQ.out; rwa [List.take_of_length_le (by have := HAL.out; omega)] at this)
      obtain rfl : i = U.length := by omega
      obtain ⟨hG, hAl, hb⟩ := Sv.chk_spec hchk
      by_cases hcc : Ns.Circ U.length (Ns.gu U) (Ns.gh H)
      · obtain rfl : r = 351 := by rw [hr.out, Sv.err_circ hchk hcc]
        have K := fun w' hB => rcircle_any _ _ U H w' (HR.out.below hB) hG 351 (fun h => absurd hcc h) (fun _ => rfl)
        clear hr hc hG hAl hb hcc hchk
        go_wp2_with (first | (go_at_call 27; ((with_reducible refine (K _ HM.low).mono ?_); rintro e9 w2 ⟨rfl, hL⟩; replace HM := HM.call hL; clear hL)) | (first | ((with_reducible refine g_ld ?_); refine a_ld HM ?_) | ((with_reducible refine g_st ?_); refine a_st HM ?_; clear HM; intro w1 HM) | ((with_reducible refine g_al ?_); refine a_al HM ?_; clear HM; intro bk w1 HM) | ((with_reducible refine g_bx ?_); refine a_bx HM ?_; clear HM; intro bk w1 HM) | ((with_reducible refine g_bld ?_); refine a_bld ?_)))
        go_ret2
        exact ⟨_, rfl, HM.low, Lib.hid (.inl ⟨by decide, rfl⟩)⟩
      · obtain rfl : r = 0 := by rw [hr.out, Sv.err_none hchk hcc]
        have K := fun w' hB => rcircle_any _ _ U H w' (HR.out.below hB) hG 0 (fun _ => rfl) (fun h => absurd h hcc)
        obtain ⟨f, hf⟩ := Sv.px_exists hG hcc hb
        have HF := Lib.hid hf
        have S := fun w' hB => rsolve_any _ _ _ U H A f U.length w' (HR.out.below hB) hG (HA.out.below hB) (Lib.hid rfl) hAl hb hcc hf.1 hf.2
        clear hr hc hG hAl hb hcc hchk hf
        go_upto_region 14 with (first | (go_at_call 27; ((with_reducible refine (K _ HM.low).mono ?_); rintro e9 w2 ⟨rfl, hL⟩; replace HM := HM.call hL; clear hL)) | (first | ((with_reducible refine g_ld ?_); refine a_ld HM ?_) | ((with_reducible refine g_st ?_); refine a_st HM ?_; clear HM; intro w1 HM) | ((with_reducible refine g_al ?_); refine a_al HM ?_; clear HM; intro bk w1 HM) | ((with_reducible refine g_bx ?_); refine a_bx HM ?_; clear HM; intro bk w1 HM) | ((with_reducible refine g_bld ?_); refine a_bld ?_)))
        go_wp2_with (first | (go_at_call 34; refine (S _ HM.low).mono ?_; rintro e9 w5 ⟨s1, rfl, hL1, HS1⟩; replace HM := HM.call hL1) | (first | ((with_reducible refine g_ld ?_); refine a_ld HM ?_) | ((with_reducible refine g_st ?_); refine a_st HM ?_; clear HM; intro w1 HM) | ((with_reducible refine g_al ?_); refine a_al HM ?_; clear HM; intro bk w1 HM) | ((with_reducible refine g_bx ?_); refine a_bx HM ?_; clear HM; intro bk w1 HM) | ((with_reducible refine g_bld ?_); refine a_bld ?_)))
        go_ret2
        exact ⟨_, rfl, HM.low, Lib.hid (.inr ⟨rfl, f, HF.out, HS1.out⟩)⟩
end Go.Proofs.Ytadnddffdedjgaa
