/- Plain mathematics of the laws: prices have a common denominator. -/
import Derived.Test.YtadnddffdedjgaaSyE
namespace Go.Proofs.Ytadnddffdedjgaa
set_option maxRecDepth 8000
open Go.RowKit
namespace Ns
open Mx
theorem bd_ent {n : Nat} {A : Mat} (hA : Ent A n (1000000000000000 : Nat)) (hn : n ≤ 8) (f : Nat → Nat) : ∃ D : Int, det n (fun r c => A r (f c)) = D ∧ D.natAbs ≤ big := by
  obtain ⟨D, hD⟩ := Wh.det (n := n) (A := fun r c => A r (f c)) fun r c hr _ => (hA r _ hr).1
  have h2 := Le.det (n := n) (A := fun r c => A r (f c)) (b := (1000000000000000 : Nat)) fun r c hr _ => (hA r _ hr).2
  rw [hD, bd_nat] at h2
  exact ⟨D, hD, Nat.le_trans h2.nat (bd_big hn)⟩
/-- The equations with the right sides in the last column. -/
def zf (n : Nat) (u : Nat → Int) (h : Nat → Nat → Int) (a : Nat → Int) (r c : Nat) : Int := if c < n then mat u h r c else rhs u a r
theorem zf_bound {n : Nat} {u : Nat → Int} {h : Nat → Nat → Int} {a : Nat → Int} (H : Ok n u h) (ha : ∀ i, i < n → (a i).natAbs ≤ 1000000000000000) : ∀ r c, r < n → c ≤ n → (zf n u h a r c).natAbs ≤ 1000000000000000 := by
  intro r c hr _
  unfold zf
  split
  · exact mat_bound H hr (by assumption)
  · unfold rhs; split
    · decide
    · exact ha r hr
theorem zf_ns {n : Nat} {u : Nat → Int} {h : Nat → Nat → Int} {a : Nat → Int} (H : Ok n u h) (hc : ¬ Circ n u h) : Mx.Ns n (ext n (zf n u h a)) := by
  intro x hx i hi
  refine sing H hc (fun i hi => ?_) i hi
  rw [← hx i hi]
  refine sm_congr fun j hj => ?_
  unfold ext zf
  rw [if_pos (by omega), if_pos hj]
theorem zf_solves {n : Nat} {u : Nat → Int} {h : Nat → Nat → Int} {a : Nat → Int} {f : Nat → Rat} (hf : Pr n u h a f) : Solves n (ext n (zf n u h a)) f := by
  intro r hr
  have e : sm n (fun c => ext n (zf n u h a) r c * f c) = sm n (fun j => (mat u h r j : Rat) * f j) := sm_congr fun j hj => by unfold ext zf; rw [if_pos (by omega), if_pos hj]
  rw [e, hf r hr]
  unfold ext zf
  rw [if_pos (Nat.le_refl _), if_neg (Nat.lt_irrefl _)]
/-- All prices over one number. -/
def Cd (n : Nat) (f : Nat → Rat) : Prop := ∃ D : Int, D ≠ 0 ∧ D.natAbs ≤ big ∧ ∀ i, i < n → ∃ N : Int, N.natAbs ≤ big ∧ f i = Rat.divInt N D
theorem cd {n : Nat} {u : Nat → Int} {h : Nat → Nat → Int} {a : Nat → Int} {f : Nat → Rat} (H : Ok n u h) (hc : ¬ Circ n u h) (ha : ∀ i, i < n → (a i).natAbs ≤ 1000000000000000) (hf : Pr n u h a f) : Cd n f := by
  have hE : Ent (ext n (zf n u h a)) n (1000000000000000 : Nat) := ext_ent (by decide) (zf_bound H ha)
  obtain ⟨h0, h1⟩ := cramer (zf_ns (a := a) H hc) ext_unit (zf_solves hf)
  obtain ⟨D, hD, hDb⟩ := bd_ent hE H.n8 id
  have e : (fun r c => ext n (zf n u h a) r (id c)) = ext n (zf n u h a) := rfl
  rw [e] at hD
  have hD0 : D ≠ 0 := fun e => h0 (by rw [hD, e]; rfl)
  refine ⟨D, hD0, hDb, fun i hi => ?_⟩
  obtain ⟨N, hN, hNb⟩ := bd_ent hE H.n8 (fun c => if c = i then n else c)
  refine ⟨N, hNb, ?_⟩
  have h2 := h1 i hi
  have e2 : det n (colA (ext n (zf n u h a)) n i) = N := hN
  rw [e2, hD] at h2
  have hDr : (D : Rat) ≠ 0 := fun e => hD0 (int_eq (by rw [e]; rfl))
  rw [Rat.divInt_eq_div, h2, Rat.div_def, Rat.mul_assoc, Rat.mul_inv_cancel _ hDr, Rat.mul_one]
theorem cd_fit {D N : Int} (h0 : D ≠ 0) (hD : D.natAbs ≤ big) (hN : N.natAbs ≤ big * 36028797018963968) : Rt.Fit (Rat.divInt N D) := by
  have h1 := Sy.big_416
  have h2 : big * 36028797018963968 < Bg.p2 471 := by
    rw [show 471 = 416 + 55 from rfl, Bg.p2_add]
    have : Bg.p2 55 = 36028797018963968 := by unfold Bg.p2; rfl
    rw [this]
    exact Nat.mul_lt_mul_of_pos_right h1 (by decide)
  exact (Rt.Bd.divInt (i := 471) (j := 416) h0 (by omega) (by omega)).fit
theorem divInt_mul {c N D : Int} : (c : Rat) * Rat.divInt N D = Rat.divInt (c * N) D := by
  rw [Rat.divInt_eq_div, Rat.divInt_eq_div, Rat.intCast_mul, Rat.div_def, Rat.div_def, Rat.mul_assoc]
theorem divInt_add {M N D : Int} : Rat.divInt M D + Rat.divInt N D = Rat.divInt (M + N) D := by
  rw [Rat.divInt_eq_div, Rat.divInt_eq_div, Rat.divInt_eq_div, Rat.intCast_add, Rat.div_def, Rat.div_def, Rat.div_def, Rat.add_mul]
/-- Sums of prices times whole numbers fit. -/
theorem cd_sum {n : Nat} {f : Nat → Rat} (h : Cd n f) (hn : n ≤ 8) {c : Nat → Int} (hc : ∀ i, i < n → (c i).natAbs ≤ 1125899906842624) {k : Nat} (hk : k ≤ n) : Rt.Fit (sm k fun j => (c j : Rat) * f j) := by
  obtain ⟨D, h0, hD, hN⟩ := h
  have key : ∀ k, k ≤ n → ∃ M : Int, M.natAbs ≤ big * (1125899906842624 * k) ∧ sm k (fun j => (c j : Rat) * f j) = Rat.divInt M D := by
    intro k
    induction k with
    | zero => intro _; exact ⟨0, by simp, by simp [sm]⟩
    | succ k ih =>
      intro hk
      obtain ⟨M, hM, e⟩ := ih (by omega)
      obtain ⟨N, hNb, eN⟩ := hN k (by omega)
      refine ⟨M + c k * N, ?_, by rw [sm, e, eN, divInt_mul, divInt_add]⟩
      have h1 : (c k * N).natAbs ≤ 1125899906842624 * big := by rw [Int.natAbs_mul]; exact Nat.mul_le_mul (hc k (by omega)) hNb
      have e1 : big * (1125899906842624 * (k + 1)) = big * (1125899906842624 * k) + 1125899906842624 * big := by
        rw [Nat.mul_add, Nat.mul_one, Nat.mul_add, Nat.mul_comm big 1125899906842624]
      omega
  obtain ⟨M, hM, e⟩ := key k hk
  rw [e]
  refine cd_fit h0 hD (Nat.le_trans hM (Nat.mul_le_mul_left _ ?_))
  omega
theorem cd_one {n : Nat} {f : Nat → Rat} (h : Cd n f) {i : Nat} (hi : i < n) {c : Int} (hc : c.natAbs ≤ 1125899906842624) : Rt.Fit ((c : Rat) * f i) := by
  obtain ⟨D, h0, hD, hN⟩ := h
  obtain ⟨N, hNb, eN⟩ := hN i hi
  rw [eN, divInt_mul]
  refine cd_fit h0 hD ?_
  rw [Int.natAbs_mul, Nat.mul_comm]
  exact Nat.mul_le_mul hNb (by omega)
theorem cd_self {n : Nat} {f : Nat → Rat} (h : Cd n f) {i : Nat} (hi : i < n) : Rt.Fit (f i) := by
  have := cd_one h hi (c := 1) (by decide)
  have e : ((1 : Int) : Rat) = 1 := rfl
  rw [e, Rat.one_mul] at this
  exact this
end Ns
end Go.Proofs.Ytadnddffdedjgaa
