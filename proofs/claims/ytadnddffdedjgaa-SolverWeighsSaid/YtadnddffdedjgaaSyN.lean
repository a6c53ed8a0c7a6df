/- What all scene laws of the solver begin with. -/
import Derived.Test.YtadnddffdedjgaaSyM
namespace Go.Proofs.Ytadnddffdedjgaa
set_option maxRecDepth 8000
open Go.RowKit
theorem Sv.made_err {U A : List Int} {H : List (List Int)} (h : Ns.Made false U H) (hl : A.length = U.length) (ha : ∀ a ∈ A, -1000000000000000 ≤ a ∧ a ≤ 1000000000000000) : Sv.err U H A = 0 ∧ ¬ Ns.Circ U.length (Ns.gu U) (Ns.gh H) := by
  have hc : ¬ Ns.Circ U.length (Ns.gu U) (Ns.gh H) := Ns.not_circ h.good.ok.h0 (h.out rfl)
  refine ⟨?_, hc⟩
  unfold Sv.err
  rw [if_pos (Sv.chk_ok h.good.good hl ha), if_neg hc]
theorem Sv.asset_in {neg : Bool} {A : List Int} (h : ∀ a ∈ A, Sc.asset neg a) : ∀ a ∈ A, -1000000000000000 ≤ a ∧ a ≤ 1000000000000000 := fun a ha => by
  obtain ⟨h1, h2, _⟩ := h a ha
  omega
theorem Sv.gu_in {A : List Int} {i : Nat} {lo up : Int} (h : ∀ a ∈ A, lo ≤ a ∧ a ≤ up) (hi : i < A.length) : lo ≤ Ns.gu A i ∧ Ns.gu A i ≤ up := by
  rw [Ns.gu_at (List.getElem?_eq_getElem hi)]
  exact h _ (List.getElem_mem hi)
theorem Sv.gu_abs {A : List Int} {n : Nat} (hl : A.length = n) (h : ∀ a ∈ A, -1000000000000000 ≤ a ∧ a ≤ 1000000000000000) : ∀ i, i < n → (Ns.gu A i).natAbs ≤ 1000000000000000 := fun i hi => by
  have := Sv.gu_in h (i := i) (by omega)
  omega
theorem Ex.lav (x : Rat) : LA 42 (Ex.A (.ok x)) 0 (.agg (Rt.qA x)) := (Ex.fv (qA_size x) 0).la
theorem Ex.lae (x : Rat) : LA 28 (Ex.A (.ok x)) 66 (.int .i64 0) := (Ex.fe (qA_size x) 0).la
theorem Ex.laA (x : Rat) : LA 44 (Ex.A (.ok x)) 0 (.agg (Ex.A (.ok x))) := Ex.la (qA_size x) 0
theorem Ex.saA (x y : Rat) : SA 44 (Ex.A (.ok x)) 0 (.agg (Ex.A (.ok y))) (Ex.A (.ok y)) := Ex.sa (qA_size y) (qA_one y) 0 (Ex.nA_size (qA_size x) 0)
theorem Ex.sa0 (y : Rat) : SA 44 (Ex.nA (Bg.rZ 0 0) 0) 0 (.agg (Ex.A (.ok y))) (Ex.A (.ok y)) := Ex.sa (qA_size y) (qA_one y) 0 (Ex.nA_size (rZ_size 0 0) 0)
theorem Ex.mul_eq {x y z : Rat} (h : z = x * y) (hf : Rt.Fit z) : Ex.ok z = Ex.mul (.ok x) (.ok y) := by
  show _ = Ex.mk (x * y)
  rw [← h, Ex.mk_ok hf]
theorem Ex.add_eq {x y z : Rat} (h : z = x + y) (hf : Rt.Fit z) : Ex.ok z = Ex.add (.ok x) (.ok y) := by
  show _ = Ex.mk (x + y)
  rw [← h, Ex.mk_ok hf]
theorem num_sign_nonneg {x : Rat} (h : 0 ≤ x) : ¬ x.num.sign < 0 := by
  have h1 : 0 ≤ x.num := Rat.num_nonneg.2 h
  intro h2
  have := Int.sign_eq_neg_one_iff_neg.1 (show x.num.sign = -1 by
    rcases Int.lt_trichotomy x.num 0 with h | h | h
    · exact Int.sign_eq_neg_one_of_neg h
    · rw [h] at h2; exact absurd h2 (by decide)
    · rw [Int.sign_eq_one_of_pos h] at h2; exact absurd h2 (by decide))
  omega
end Go.Proofs.Ytadnddffdedjgaa
