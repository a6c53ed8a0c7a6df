/- Plain mathematics of residuals. -/
import Derived.Test.YtadnddffdedjgaaSyO
namespace Go.Proofs.Ytadnddffdedjgaa
set_option maxRecDepth 8000
open Go.RowKit
namespace Ns
open Mx
/-- Numbers over one denominator, all at most B in size. -/
def Cb (n : Nat) (f : Nat → Rat) (B : Nat) : Prop := ∃ D : Int, D ≠ 0 ∧ D.natAbs ≤ B ∧ ∀ i, i < n → ∃ N : Int, N.natAbs ≤ B ∧ f i = Rat.divInt N D
def bigger : Nat := big * 1024
theorem bigger_426 : bigger < Bg.p2 426 := by
  unfold bigger
  rw [show 426 = 416 + 10 from rfl, Bg.p2_add]
  have : Bg.p2 10 = 1024 := by unfold Bg.p2; rfl
  rw [this]
  exact Nat.mul_lt_mul_of_pos_right Sy.big_416 (by decide)
theorem bigger_up {c : Nat} (hc : c ≤ 17179869184) : bigger * c < Bg.p2 460 := by
  have h : Bg.p2 460 = Bg.p2 426 * 17179869184 := by
    rw [show 460 = 426 + 34 from rfl, Bg.p2_add]
    have : Bg.p2 34 = 17179869184 := by unfold Bg.p2; rfl
    rw [this]
  rw [h]
  exact Nat.lt_of_le_of_lt (Nat.mul_le_mul_left _ hc) (Nat.mul_lt_mul_of_pos_right bigger_426 (by decide))
theorem Cb.fit_of {D N : Int} (h0 : D ≠ 0) (hD : D.natAbs ≤ bigger) (hN : N.natAbs ≤ bigger * 17179869184) : Rt.Fit (Rat.divInt N D) := by
  have h1 := bigger_426
  have h2 := bigger_up (Nat.le_refl _)
  exact (Rt.Bd.divInt (i := 460) (j := 426) h0 (by omega) (by omega)).fit
theorem Cb.self {n : Nat} {f : Nat → Rat} (h : Cb n f bigger) {i : Nat} (hi : i < n) : Rt.Fit (f i) := by
  obtain ⟨D, h0, hD, hN⟩ := h
  obtain ⟨N, hNb, e⟩ := hN i hi
  rw [e]
  exact Cb.fit_of h0 hD (Nat.le_trans hNb (Nat.le_mul_of_pos_right _ (by decide)))
theorem Cb.mul {n : Nat} {f : Nat → Rat} (h : Cb n f bigger) {i : Nat} (hi : i < n) {c : Int} (hc : c.natAbs ≤ 1000000) : Rt.Fit ((c : Rat) * f i) := by
  obtain ⟨D, h0, hD, hN⟩ := h
  obtain ⟨N, hNb, e⟩ := hN i hi
  rw [e, divInt_mul]
  refine Cb.fit_of h0 hD ?_
  rw [Int.natAbs_mul, Nat.mul_comm]
  exact Nat.mul_le_mul hNb (by omega)
theorem divInt_whole {a D : Int} (h0 : D ≠ 0) : (a : Rat) = Rat.divInt (a * D) D := by
  have hr : (D : Rat) ≠ 0 := fun e => h0 (int_eq (by rw [e]; rfl))
  rw [Rat.divInt_eq_div, Rat.intCast_mul, Rat.div_def, Rat.mul_assoc, Rat.mul_inv_cancel _ hr, Rat.mul_one]
theorem divInt_sub {M N D : Int} : Rat.divInt M D - Rat.divInt N D = Rat.divInt (M - N) D := by
  rw [Rat.divInt_eq_div, Rat.divInt_eq_div, Rat.divInt_eq_div, Rat.intCast_sub, Rat.div_def, Rat.div_def, Rat.div_def]; grind
theorem Cb.rs {n : Nat} {f : Nat → Rat} {U A : List Int} {H : List (List Int)} (h : Cb n f bigger) (hn : n ≤ 8) (hU : ∀ i, i < n → (gu U i).natAbs ≤ 1000000) (hH : ∀ i j, i < n → j < n → (gh H i j).natAbs ≤ 1000000) (hA : ∀ i, i < n → (gu A i).natAbs ≤ 1000000000) {i k : Nat} (hi : i < n) (hk : k ≤ n) : Rt.Fit (Sv.rs U H A f i k) := by
  obtain ⟨D, h0, hD, hN⟩ := h
  have key : ∀ k, k ≤ n → ∃ M : Int, M.natAbs ≤ bigger * (1000000 * k) ∧ sm k (fun j => (gh H i j : Rat) * f j) = Rat.divInt M D := by
    intro k
    induction k with
    | zero => intro _; exact ⟨0, by simp, by simp [sm]⟩
    | succ k ih =>
      intro hk
      obtain ⟨M, hM, e⟩ := ih (by omega)
      obtain ⟨N, hNb, eN⟩ := hN k (by omega)
      refine ⟨M + gh H i k * N, ?_, by rw [sm, e, eN, divInt_mul, divInt_add]⟩
      have h1 : (gh H i k * N).natAbs ≤ 1000000 * bigger := by rw [Int.natAbs_mul]; exact Nat.mul_le_mul (hH i k hi (by omega)) hNb
      have e1 : bigger * (1000000 * (k + 1)) = bigger * (1000000 * k) + 1000000 * bigger := by
        rw [Nat.mul_add, Nat.mul_one, Nat.mul_add, Nat.mul_comm bigger 1000000]
      omega
  obtain ⟨M, hM, eM⟩ := key k hk
  obtain ⟨N, hNb, eN⟩ := hN i hi
  have e : Sv.rs U H A f i k = Rat.divInt (gu U i * N - gu A i * D - M) D := by
    unfold Sv.rs
    rw [eM, eN, divInt_mul, divInt_whole (a := gu A i) h0, divInt_sub, divInt_sub]
  rw [e]
  refine Cb.fit_of h0 hD ?_
  have h1 : (gu U i * N).natAbs ≤ 1000000 * bigger := by rw [Int.natAbs_mul]; exact Nat.mul_le_mul (hU i hi) hNb
  have h2 : (gu A i * D).natAbs ≤ 1000000000 * bigger := by rw [Int.natAbs_mul]; exact Nat.mul_le_mul (hA i hi) hD
  have h3 : bigger * (1000000 * k) ≤ bigger * 8000000 := Nat.mul_le_mul_left _ (by omega)
  omega
theorem cd_cb {n : Nat} {f : Nat → Rat} (h : Cd n f) : Cb n f bigger := by
  obtain ⟨D, h0, hD, hN⟩ := h
  have hle : big ≤ bigger := Nat.le_mul_of_pos_right _ (by decide)
  exact ⟨D, h0, Nat.le_trans hD hle, fun i hi => by
    obtain ⟨N, hNb, e⟩ := hN i hi
    exact ⟨N, Nat.le_trans hNb hle, e⟩⟩
/-- Some prices moved up by sevenths. -/
theorem cd_moved {n : Nat} {f g : Nat → Rat} (h : Cd n f) (hg : ∀ i, i < n → ∃ m : Int, 0 ≤ m ∧ m ≤ 1000 ∧ g i = f i + Rat.divInt m 7) : Cb n g bigger := by
  obtain ⟨D, h0, hD, hN⟩ := h
  have hb : bigger = big * 1024 := rfl
  refine ⟨D * 7, by omega, by omega, fun i hi => ?_⟩
  obtain ⟨N, hNb, e⟩ := hN i hi
  obtain ⟨m, hm0, hm1, e2⟩ := hg i hi
  refine ⟨N * 7 + m * D, ?_, ?_⟩
  · have h1 : (m * D).natAbs ≤ 1000 * big := by rw [Int.natAbs_mul]; exact Nat.mul_le_mul (by omega) hD
    omega
  · have hr : (D : Rat) ≠ 0 := fun e => h0 (int_eq (by rw [e]; rfl))
    rw [e2, e, Rat.divInt_eq_div, Rat.divInt_eq_div, Rat.divInt_eq_div, Rat.intCast_add, Rat.intCast_mul, Rat.intCast_mul, Rat.intCast_mul]
    have e7 : ((7 : Int) : Rat) = 7 := rfl
    rw [e7, Rat.div_def, Rat.div_def, Rat.div_def, Rat.inv_mul_rev]
    have h1 := Rat.mul_inv_cancel _ hr
    have h2 := Rat.mul_inv_cancel (7 : Rat) (by decide)
    grind
theorem mat_row {n : Nat} {u : Nat → Int} {h : Nat → Nat → Int} {g : Nat → Rat} {i : Nat} (hi : i < n) (hu : 0 < u i) : sm n (fun j => (mat u h i j : Rat) * g j) = (u i : Rat) * g i - sm n fun j => (h i j : Rat) * g j := by
  have e : sm n (fun j => (mat u h i j : Rat) * g j) = sm n (fun j => (if j = i then (u i : Rat) * g i else 0) + -1 * ((h i j : Rat) * g j)) := by
    refine sm_congr fun j hj => ?_
    unfold mat
    rw [if_neg (by omega)]
    by_cases e : i = j
    · subst e; rw [if_pos rfl, if_pos rfl, Rat.intCast_sub]; grind
    · rw [if_neg e, if_neg (fun h => e h.symm), Rat.intCast_neg]; grind
  rw [e, sm_add, sm_diag hi, sm_mul]; grind
/-- Prices whose residuals are 0 wherever there are units are the solution. -/
theorem rs_pr {U A : List Int} {H : List (List Int)} {g : Nat → Rat} (h0 : ∀ i, i < U.length → 0 ≤ gu U i) (hr : ∀ i, i < U.length → 0 < gu U i → Sv.rs U H A g i U.length = 0) (hz : ∀ i, i < U.length → gu U i = 0 → g i = 0) : Pr U.length (gu U) (gh H) (gu A) g := by
  intro i hi
  by_cases hu : 0 < gu U i
  · rw [mat_row hi hu]
    have h1 := hr i hi hu
    unfold Sv.rs at h1
    unfold rhs
    rw [if_neg (by omega)]
    grind
  · have hu0 : gu U i = 0 := by have := h0 i hi; omega
    rw [row_none hi hu0, hz i hi hu0]
    unfold rhs; rw [if_pos hu0]; rfl
theorem pr_rs {U A : List Int} {H : List (List Int)} {g : Nat → Rat} (hp : Pr U.length (gu U) (gh H) (gu A) g) {i : Nat} (hi : i < U.length) (hu : 0 < gu U i) : Sv.rs U H A g i U.length = 0 := by
  have h1 := hp i hi
  rw [mat_row hi hu] at h1
  unfold rhs at h1
  rw [if_neg (by omega)] at h1
  unfold Sv.rs
  grind
theorem pr_none {n : Nat} {u : Nat → Int} {h : Nat → Nat → Int} {a : Nat → Int} {f : Nat → Rat} (hf : Pr n u h a f) {i : Nat} (hi : i < n) (hu : u i = 0) : f i = 0 := by
  have := hf i hi
  rw [row_none hi hu] at this
  rw [this]; unfold rhs; rw [if_pos hu]; rfl
end Ns
end Go.Proofs.Ytadnddffdedjgaa
