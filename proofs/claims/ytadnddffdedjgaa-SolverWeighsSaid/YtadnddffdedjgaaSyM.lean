/- Plain mathematics of the laws: what is kept, rising. -/
import Derived.Test.YtadnddffdedjgaaSyL
import Derived.Test.YtadnddffdedjgaaSyMa
namespace Go.Proofs.Ytadnddffdedjgaa
set_option maxRecDepth 8000
open Go.RowKit
namespace Ns
open Mx
/-- What funds with units hold of fund j. -/
def inn (n : Nat) (u : Nat → Int) (h : Nat → Nat → Int) (j : Nat) : Int := zs n fun i => if 0 < u i then h i j else 0
/-- The units of j that no fund with units holds. -/
def lft (n : Nat) (u : Nat → Int) (h : Nat → Nat → Int) (j : Nat) : Int := u j - inn n u h j
def allA (u a : Nat → Int) (i : Nat) : Int := if 0 < u i then a i else 0
theorem kept {n : Nat} {u : Nat → Int} {h : Nat → Nat → Int} {a : Nat → Int} {f : Nat → Rat} (H : Ok n u h) (hf : Pr n u h a f) : sm n (fun j => (lft n u h j : Rat) * f j) = ((zs n (allA u a) : Int) : Rat) := by
  have h1 : sm n (fun i => if 0 < u i then sm n (fun j => (mat u h i j : Rat) * f j) else 0) = ((zs n (allA u a) : Int) : Rat) := by
    rw [zs_cast]
    refine sm_congr fun i hi => ?_
    unfold allA
    by_cases h0 : 0 < u i
    · rw [if_pos h0, if_pos h0, hf i hi]; unfold rhs; rw [if_neg (by omega)]
    · rw [if_neg h0, if_neg h0]; rfl
  rw [← h1]
  have h2 : sm n (fun i => if 0 < u i then sm n (fun j => (mat u h i j : Rat) * f j) else 0) = sm n (fun i => sm n (fun j => (if 0 < u i then (mat u h i j : Rat) else 0) * f j)) := by
    refine sm_congr fun i hi => ?_
    by_cases h0 : 0 < u i
    · rw [if_pos h0]; exact sm_congr fun j _ => by rw [if_pos h0]
    · rw [if_neg h0]; exact (sm_zero fun j _ => by rw [if_neg h0]; grind).symm
  rw [h2, sm_swap]
  refine sm_congr fun j hj => ?_
  rw [sm_mulr]
  by_cases hu : 0 < u j
  · have e : sm n (fun i => if 0 < u i then (mat u h i j : Rat) else 0) = (lft n u h j : Rat) := by
      have e1 : sm n (fun i => if 0 < u i then (mat u h i j : Rat) else 0) = sm n (fun i => (if i = j then (u j : Rat) else 0) + -1 * ((if 0 < u i then h i j else 0 : Int) : Rat)) := by
        refine sm_congr fun i hi => ?_
        by_cases h0 : 0 < u i
        · rw [if_pos h0, if_pos h0]
          unfold mat
          rw [if_neg (by omega)]
          by_cases e : i = j
          · subst e; rw [if_pos rfl, if_pos rfl, Rat.intCast_sub]; grind
          · rw [if_neg e, if_neg e, Rat.intCast_neg]; grind
        · rw [if_neg h0, if_neg h0]
          have e : ¬ i = j := fun e => h0 (e ▸ hu)
          rw [if_neg e]
          have e0 : ((0 : Int) : Rat) = 0 := rfl
          rw [e0]; grind
      rw [e1, sm_add, sm_diag hj, sm_mul, ← zs_cast]
      unfold lft inn
      rw [Rat.intCast_sub]; grind
    rw [e]
  · have hu0 : u j = 0 := by have := H.u0 j hj; omega
    have hfj : f j = 0 := by
      have := hf j hj
      rw [row_none hj hu0] at this
      rw [this]; unfold rhs; rw [if_pos hu0]; rfl
    rw [hfj]; grind
theorem price_nonneg {n : Nat} {u : Nat → Int} {h : Nat → Nat → Int} {a : Nat → Int} {f : Nat → Rat} (H : Ok n u h) (hc : ¬ Circ n u h) (hf : Pr n u h a f) (ha : ∀ i, i < n → 0 ≤ a i) : ∀ i, i < n → 0 ≤ f i :=
  nonneg H hc fun i hi => by
    rw [hf i hi]
    refine Rat.intCast_nonneg.2 ?_
    unfold rhs; split
    · exact Int.le_refl _
    · exact ha i hi
end Ns
end Go.Proofs.Ytadnddffdedjgaa
