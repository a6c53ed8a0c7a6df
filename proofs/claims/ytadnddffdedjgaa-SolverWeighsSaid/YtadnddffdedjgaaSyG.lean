/- check and Solve of the program. -/
import Derived.Test.YtadnddffdedjgaaSyF
namespace Go.Proofs.Ytadnddffdedjgaa
set_option maxRecDepth 8000
open Go.RowKit
namespace Sv
def inr (a : Int) : Prop := -1000000000000000 ≤ a ∧ a ≤ 1000000000000000
open Classical in
/-- What check answers. -/
noncomputable def chk (U : List Int) (H : List (List Int)) (A : List Int) : Int :=
  if Ns.chk U H = 0 then (if A.length = U.length then (if ∀ a ∈ A, inr a then 0 else 350) else 350) else Ns.chk U H
open Classical in
/-- The error of Solve. -/
noncomputable def err (U : List Int) (H : List (List Int)) (A : List Int) : Int :=
  if chk U H A = 0 then (if Ns.Circ U.length (Ns.gu U) (Ns.gh H) then 351 else 0) else chk U H A
theorem chk_nest {U : List Int} {H : List (List Int)} {A : List Int} (h : Ns.chk U H ≠ 0) : chk U H A = Ns.chk U H := if_neg h
theorem chk_len {U : List Int} {H : List (List Int)} {A : List Int} (h : Ns.chk U H = 0) (hl : A.length ≠ U.length) : chk U H A = 350 := by
  unfold chk; rw [if_pos h, if_neg hl]
theorem chk_bad {U : List Int} {H : List (List Int)} {A : List Int} {a : Int} (h : Ns.chk U H = 0) (hl : A.length = U.length) (ha : a ∈ A) (hb : ¬ inr a) : chk U H A = 350 := by
  unfold chk; rw [if_pos h, if_pos hl, if_neg (fun h => hb (h a ha))]
theorem chk_ok {U : List Int} {H : List (List Int)} {A : List Int} (h : Ns.chk U H = 0) (hl : A.length = U.length) (ha : ∀ a ∈ A, inr a) : chk U H A = 0 := by
  unfold chk; rw [if_pos h, if_pos hl, if_pos ha]
theorem chk_spec {U : List Int} {H : List (List Int)} {A : List Int} (h : chk U H A = 0) : Ns.Good U H ∧ A.length = U.length ∧ ∀ i, i < U.length → (Ns.gu A i).natAbs ≤ 1000000000000000 := by
  unfold chk at h
  by_cases h1 : Ns.chk U H = 0
  · rw [if_pos h1] at h
    by_cases h2 : A.length = U.length
    · rw [if_pos h2] at h
      by_cases h3 : ∀ a ∈ A, inr a
      · refine ⟨Ns.chk_good h1, h2, fun i hi => ?_⟩
        have h4 : i < A.length := by omega
        have := h3 A[i] (List.getElem_mem h4)
        rw [Ns.gu_at (List.getElem?_eq_getElem h4)]
        unfold inr at this; omega
      · rw [if_neg h3] at h; cases h
    · rw [if_neg h2] at h; cases h
  · rw [if_neg h1] at h; exact absurd h h1
theorem chk_of {U : List Int} {H : List (List Int)} {A : List Int} (h : Ns.Good U H) (hl : A.length = U.length) (ha : ∀ i, i < U.length → (Ns.gu A i).natAbs ≤ 1000000000000000) : chk U H A = 0 :=
  chk_ok h.good hl fun a hm => by
    obtain ⟨i, hi⟩ := List.getElem?_of_mem hm
    have := ha i (by have := (List.getElem?_eq_some_iff.1 hi).1; omega)
    rw [Ns.gu_at hi] at this
    unfold inr; omega
/-- Prices that answer. -/
def Px (U : List Int) (H : List (List Int)) (A : List Int) (f : Nat → Rat) : Prop := Ns.Pr U.length (Ns.gu U) (Ns.gh H) (Ns.gu A) f ∧ ∀ i, i < U.length → Rt.Fit (f i)
end Sv
set_option maxHeartbeats 4000000 in
theorem scheck_any (us hs as_ : Value) (U : List Int) (H : List (List Int)) (A : List Int) (w : World) (hR : RdN w us hs U H) (hA : RdI w as_ A) (r : Int) (hr : Hid (r = Sv.chk U H A)) :
    Calls Try.prog 31 #[.agg #[us, hs], as_] w fun e w' => e = .returned (.int .i64 r) ∧ Below w.heap.size w w' := by
  have HM := Mem.start w
  have HA := Lib.hid hA
  obtain ⟨Au, cu, rfl⟩ := hR.u.form
  obtain ⟨Aa, ca, rfl⟩ := hA.form
  obtain ⟨c, hc⟩ : ∃ c, Hid (c = Ns.chk U H) := ⟨_, Lib.hid rfl⟩
  have C := fun w' hB => ncheck_any _ _ U H w' (hR.below hB) c hc
  have n0 := la_n0 (.slice Au U.length cu) hs
  have n2 := la_nest (.slice Au U.length cu) hs
  clear hR hA
  by_cases h0 : c = 0
  case neg =>
    obtain rfl : r = c := by rw [hr.out, Sv.chk_nest (by rw [← hc.out]; exact h0), ← hc.out]
    clear hr hc
    go_enter Try.func31, Try.ntmps31
    go_wp2_with (first | (go_at_call 44; ((with_reducible refine (C _ HM.low).mono ?_); rintro e9 w2 ⟨rfl, hL⟩; replace HM := HM.call hL; clear hL)) | (first | ((with_reducible refine g_ld ?_); refine a_ld HM ?_) | ((with_reducible refine g_st ?_); refine a_st HM ?_; clear HM; intro w1 HM) | ((with_reducible refine g_al ?_); refine a_al HM ?_; clear HM; intro bk w1 HM) | ((with_reducible refine g_bx ?_); refine a_bx HM ?_; clear HM; intro bk w1 HM) | ((with_reducible refine g_bld ?_); refine a_bld ?_)))
    go_ret
    exact ⟨rfl, HM.low⟩
  case pos =>
  subst h0
  by_cases hl : A.length = U.length
  case neg =>
    obtain rfl : r = 350 := by rw [hr.out]; exact Sv.chk_len hc.out.symm hl
    have hl1 : ¬ (A.length : Int) = U.length := by omega
    clear hr hc
    go_enter Try.func31, Try.ntmps31
    go_wp2_with (first | (go_at_call 44; ((with_reducible refine (C _ HM.low).mono ?_); rintro e9 w2 ⟨rfl, hL⟩; replace HM := HM.call hL; clear hL)) | (first | ((with_reducible refine g_ld ?_); refine a_ld HM ?_) | ((with_reducible refine g_st ?_); refine a_st HM ?_; clear HM; intro w1 HM) | ((with_reducible refine g_al ?_); refine a_al HM ?_; clear HM; intro bk w1 HM) | ((with_reducible refine g_bx ?_); refine a_bx HM ?_; clear HM; intro bk w1 HM) | ((with_reducible refine g_bld ?_); refine a_bld ?_)))
    go_ret
    exact ⟨rfl, HM.low⟩
  case pos =>
  have hl1 : (A.length : Int) = U.length := by omega
  have hn8 := (Ns.chk_good hc.out.symm).sh.1
  go_enter Try.func31, Try.ntmps31
  go_wp2_with (first | (go_at_call 44; ((with_reducible refine (C _ HM.low).mono ?_); rintro e9 w2 ⟨rfl, hL⟩; replace HM := HM.call hL; clear hL)) | (first | ((with_reducible refine g_ld ?_); refine a_ld HM ?_) | ((with_reducible refine g_st ?_); refine a_st HM ?_; clear HM; intro w1 HM) | ((with_reducible refine g_al ?_); refine a_al HM ?_; clear HM; intro bk w1 HM) | ((with_reducible refine g_bx ?_); refine a_bx HM ?_; clear HM; intro bk w1 HM) | ((with_reducible refine g_bld ?_); refine a_bld ?_)))
  go_loopw [4, 21] (fun rv iv wr => ∃ i : Nat, rv = .int .i64 0 ∧ iv = .int .i64 (i : Nat) ∧ i ≤ U.length ∧ Hid (∀ a ∈ A.take i, Sv.inr a) ∧ Mem w [] [] wr) (fun _ iv _ => U.length - (intOf iv).toNat)
  case atStart => exact ⟨0, rfl, rfl, by omega, Lib.hid (by simp), HM.pick⟩
  case round =>
    clear HM
    obtain ⟨i, rfl, rfl, hi, HQ, HM⟩ := hrel
    by_cases hlt : i < U.length
    · have hlt1 : (i : Int) < U.length := by omega
      obtain ⟨a, ha⟩ : ∃ a, A[i]? = some a := ⟨_, List.getElem?_eq_getElem (by omega)⟩
      obtain ⟨b6, off6, cs6, rfl, HB6, ka⟩ := HA.out.at_ ha
      by_cases h1 : a < -1000000000000000
      · obtain rfl : r = 350 := by rw [hr.out]; exact Sv.chk_bad hc.out.symm hl (List.mem_of_getElem? ha) (fun h => by unfold Sv.inr at h; omega)
        clear hr hc ha
        go_wp2_with (first | fail | (first | ((with_reducible refine g_ld ?_); refine a_ld HM ?_) | ((with_reducible refine g_st ?_); refine a_st HM ?_; clear HM; intro w1 HM) | ((with_reducible refine g_al ?_); refine a_al HM ?_; clear HM; intro bk w1 HM) | ((with_reducible refine g_bx ?_); refine a_bx HM ?_; clear HM; intro bk w1 HM) | ((with_reducible refine g_bld ?_); refine a_bld ?_)))
        go_ret
        exact ⟨rfl, HM.low⟩
      by_cases h2 : 1000000000000000 < a
      · obtain rfl : r = 350 := by rw [hr.out]; exact Sv.chk_bad hc.out.symm hl (List.mem_of_getElem? ha) (fun h => by unfold Sv.inr at h; omega)
        clear hr hc ha
        go_wp2_with (first | fail | (first | ((with_reducible refine g_ld ?_); refine a_ld HM ?_) | ((with_reducible refine g_st ?_); refine a_st HM ?_; clear HM; intro w1 HM) | ((with_reducible refine g_al ?_); refine a_al HM ?_; clear HM; intro bk w1 HM) | ((with_reducible refine g_bx ?_); refine a_bx HM ?_; clear HM; intro bk w1 HM) | ((with_reducible refine g_bld ?_); refine a_bld ?_)))
        go_ret
        exact ⟨rfl, HM.low⟩
      have HQ2 : Hid (∀ a ∈ A.take (i + 1), Sv.inr a) := Lib.hid (by
        intro x hx
        rw [List.take_add_one, ha] at hx
        rcases List.mem_append.1 hx with hx | hx
        · exact HQ.out x hx
        · simp at hx; subst hx; unfold Sv.inr; omega)
      clear ha
      go_wp2_with (first | fail | (first | ((with_reducible refine g_ld ?_); refine a_ld HM ?_) | ((with_reducible refine g_st ?_); refine a_st HM ?_; clear HM; intro w1 HM) | ((with_reducible refine g_al ?_); refine a_al HM ?_; clear HM; intro bk w1 HM) | ((with_reducible refine g_bx ?_); refine a_bx HM ?_; clear HM; intro bk w1 HM) | ((with_reducible refine g_bld ?_); refine a_bld ?_)))
      go_roundw
      case rel => exact ⟨i + 1, rfl, by go_num, by omega, HQ2, HM⟩
      case measure => simp [intOf]; omega
    · obtain rfl : r = 0 := by rw [hr.out]; exact Sv.chk_ok hc.out.symm hl (by have := HQ.out; rwa [List.take_of_length_le (by omega)] at this)
      obtain rfl : i = U.length := by omega
      go_wp2_with (first | fail | (first | ((with_reducible refine g_ld ?_); refine a_ld HM ?_) | ((with_reducible refine g_st ?_); refine a_st HM ?_; clear HM; intro w1 HM) | ((with_reducible refine g_al ?_); refine a_al HM ?_; clear HM; intro bk w1 HM) | ((with_reducible refine g_bx ?_); refine a_bx HM ?_; clear HM; intro bk w1 HM) | ((with_reducible refine g_bld ?_); refine a_bld ?_)))
      go_ret
      exact ⟨rfl, HM.low⟩
set_option maxHeartbeats 4000000 in
theorem ssolve_any (us hs as_ : Value) (U : List Int) (H : List (List Int)) (A : List Int) (w : World) (hR : RdN w us hs U H) (hA : RdI w as_ A) (r : Int) (hr : Hid (r = Sv.err U H A)) :
    Calls Try.prog 12 #[.agg #[us, hs], as_] w fun e w' => ∃ s, e = .returned (.tuple #[s, .int .i64 r]) ∧ Below w.heap.size w w' ∧ Hid ((r ≠ 0 ∧ s = .slice none 0 0) ∨ (r = 0 ∧ ∃ f, Sv.Px U H A f ∧ RdS 66 w' s (qrows U.length f))) := by
  have HM := Mem.start w
  obtain ⟨c, hc⟩ : ∃ c, Hid (c = Sv.chk U H A) := ⟨_, Lib.hid rfl⟩
  have C := fun w' hB => scheck_any us hs as_ U H A w' (hR.below hB) (hA.below hB) c hc
  have n2 := la_nest us hs
  by_cases h0 : c = 0
  case neg =>
    obtain rfl : r = c := by rw [hr.out]; unfold Sv.err; rw [if_neg (by rw [← hc.out]; exact h0), ← hc.out]
    clear hr hc hR hA
    go_enter Try.func12, Try.ntmps12
    go_wp2_with (first | (go_at_call 31; ((with_reducible refine (C _ HM.low).mono ?_); rintro e9 w2 ⟨rfl, hL⟩; replace HM := HM.call hL; clear hL)) | (first | ((with_reducible refine g_ld ?_); refine a_ld HM ?_) | ((with_reducible refine g_st ?_); refine a_st HM ?_; clear HM; intro w1 HM) | ((with_reducible refine g_al ?_); refine a_al HM ?_; clear HM; intro bk w1 HM) | ((with_reducible refine g_bx ?_); refine a_bx HM ?_; clear HM; intro bk w1 HM) | ((with_reducible refine g_bld ?_); refine a_bld ?_)))
    go_ret2
    exact ⟨_, rfl, HM.low, Lib.hid (.inl ⟨h0, rfl⟩)⟩
  case pos =>
  subst h0
  obtain ⟨hG, hAl, hb⟩ := Sv.chk_spec hc.out.symm
  have P := fun w' hB => prices_any us hs as_ U H A w' (hR.below hB) hG (hA.below hB) hAl hb
  have HRE : Hid ((Ns.Circ U.length (Ns.gu U) (Ns.gh H) → r = 351) ∧ (¬ Ns.Circ U.length (Ns.gu U) (Ns.gh H) → r = 0)) := Lib.hid (by
    have h := hr.out
    unfold Sv.err at h
    rw [if_pos hc.out.symm] at h
    exact ⟨fun hp => by rwa [if_pos hp] at h, fun hp => by rwa [if_neg hp] at h⟩)
  clear hr hc hR hA hG hAl hb
  go_enter Try.func12, Try.ntmps12
  go_upto_region 4 with (first | (go_at_call 31; ((with_reducible refine (C _ HM.low).mono ?_); rintro e9 w2 ⟨rfl, hL⟩; replace HM := HM.call hL; clear hL)) | (first | ((with_reducible refine g_ld ?_); refine a_ld HM ?_) | ((with_reducible refine g_st ?_); refine a_st HM ?_; clear HM; intro w1 HM) | ((with_reducible refine g_al ?_); refine a_al HM ?_; clear HM; intro bk w1 HM) | ((with_reducible refine g_bx ?_); refine a_bx HM ?_; clear HM; intro bk w1 HM) | ((with_reducible refine g_bld ?_); refine a_bld ?_)))
  go_wp2_with (first | fail | (first | ((with_reducible refine g_ld ?_); refine a_ld HM ?_) | ((with_reducible refine g_st ?_); refine a_st HM ?_; clear HM; intro w1 HM) | ((with_reducible refine g_al ?_); refine a_al HM ?_; clear HM; intro bk w1 HM) | ((with_reducible refine g_bx ?_); refine a_bx HM ?_; clear HM; intro bk w1 HM) | ((with_reducible refine g_bld ?_); refine a_bld ?_)))
  refine (P _ HM.low).mono ?_
  rintro e9 w2 ⟨hL, h | h⟩
  · obtain ⟨hc, rfl⟩ := h
    replace HM := HM.call hL
    have hr2 : r = 351 := HRE.out.1 hc
    have HR2 := Lib.hid hr2
    clear hr2 HRE hL P C
    go_wp2_with (first | fail | (first | ((with_reducible refine g_ld ?_); refine a_ld HM ?_) | ((with_reducible refine g_st ?_); refine a_st HM ?_; clear HM; intro w1 HM) | ((with_reducible refine g_al ?_); refine a_al HM ?_; clear HM; intro bk w1 HM) | ((with_reducible refine g_bx ?_); refine a_bx HM ?_; clear HM; intro bk w1 HM) | ((with_reducible refine g_bld ?_); refine a_bld ?_)))
    go_ret2
    exact ⟨_, by rw [HR2.out]; rfl, HM.low, Lib.hid (.inl ⟨by rw [HR2.out]; decide, rfl⟩)⟩
  · obtain ⟨hc, s, f, rfl, HS, HF⟩ := h
    replace HM := HM.call hL
    have hr2 : r = 0 := HRE.out.2 hc
    have HR2 := Lib.hid hr2
    clear hr2 HRE hL P C
    go_wp2_with (first | fail | (first | ((with_reducible refine g_ld ?_); refine a_ld HM ?_) | ((with_reducible refine g_st ?_); refine a_st HM ?_; clear HM; intro w1 HM) | ((with_reducible refine g_al ?_); refine a_al HM ?_; clear HM; intro bk w1 HM) | ((with_reducible refine g_bx ?_); refine a_bx HM ?_; clear HM; intro bk w1 HM) | ((with_reducible refine g_bld ?_); refine a_bld ?_)))
    go_ret2
    exact ⟨_, by rw [HR2.out]; rfl, HM.low, Lib.hid (.inr ⟨HR2.out, f, HF.out, HS.out⟩)⟩
end Go.Proofs.Ytadnddffdedjgaa
