/- The elimination of the program: what it leaves in part; eight ratios. -/
import Derived.Test.YtadnddffdedjgaaSyB
import Derived.Test.YtadnddffdedjgaaField
namespace Go.Proofs.Ytadnddffdedjgaa
set_option maxRecDepth 8000
open Go.RowKit
namespace Sy
/-- Rows before i and the columns of row i before j are those of the next matrix. -/
def pt (n : Nat) (Z : Nat → Nat → Int) (k : Nat) (last : Int) (i j : Nat) : Nat → Nat → Int := fun r c => if r < i ∧ c ≤ n ∨ r = i ∧ c < j then Mx.nx Z k last r c else Z r c
theorem pt_start {n : Nat} {Z : Nat → Nat → Int} {k : Nat} {last : Int} : pt n Z k last 0 0 = Z := by
  funext r c; unfold pt; rw [if_neg (by omega)]
theorem pt_next {n : Nat} {Z : Nat → Nat → Int} {k : Nat} {last : Int} {i : Nat} : pt n Z k last i (n + 1) = pt n Z k last (i + 1) 0 := by
  funext r c; unfold pt
  by_cases h : r < i ∧ c ≤ n ∨ r = i ∧ c < n + 1
  · rw [if_pos h, if_pos (by omega)]
  · rw [if_neg h, if_neg (by omega)]
theorem pt_skip {n : Nat} {Z : Nat → Nat → Int} {k : Nat} {last : Int} : pt n Z k last k 0 = pt n Z k last (k + 1) 0 := by
  funext r c; unfold pt
  by_cases h : r < k ∧ c ≤ n ∨ r = k ∧ c < 0
  · rw [if_pos h, if_pos (by omega)]
  · rw [if_neg h]
    by_cases h2 : r < k + 1 ∧ c ≤ n ∨ r = k + 1 ∧ c < 0
    · rw [if_pos h2]
      obtain rfl : r = k := by omega
      unfold Mx.nx; rw [if_pos rfl]
    · rw [if_neg h2]
theorem pt_set {n : Nat} {Z : Nat → Nat → Int} {k : Nat} {last : Int} {i j : Nat} : upd (pt n Z k last i j) i j (Mx.nx Z k last i j) = pt n Z k last i (j + 1) := by
  funext r c; unfold upd pt
  by_cases h : r = i ∧ c = j
  · obtain ⟨rfl, rfl⟩ := h
    rw [if_pos ⟨rfl, rfl⟩, if_pos (by omega)]
  · rw [if_neg h]
    by_cases h2 : r < i ∧ c ≤ n ∨ r = i ∧ c < j
    · rw [if_pos h2, if_pos (by omega)]
    · rw [if_neg h2, if_neg (by omega)]
theorem pt_at {n : Nat} {Z : Nat → Nat → Int} {k : Nat} {last : Int} {i j c : Nat} (h : j ≤ c) : pt n Z k last i j i c = Z i c := by
  unfold pt; rw [if_neg (by omega)]
theorem pt_row {n : Nat} {Z : Nat → Nat → Int} {k : Nat} {last : Int} {i j c : Nat} : pt n Z k last i j k c = Z k c := by
  unfold pt
  by_cases h : k < i ∧ c ≤ n ∨ k = i ∧ c < j
  · rw [if_pos h]; unfold Mx.nx; rw [if_pos rfl]
  · rw [if_neg h]
/-- Behind the search for a pivot. -/
theorem piv {n k : Nat} {A : Mx.Mat} {m : Bool} {Z Z' : Nat → Nat → Int} {last : Int} (h : Mx.Gz n (n + 1) A k 0 m Z last) (_ : k < n) (hp : ∃ i, k ≤ i ∧ i < n ∧ Z i k ≠ 0 ∧ Z' = fun r => Z (Mx.sw i k r)) : (∃ m', Mx.Gz n (n + 1) A k 0 m' Z' last) ∧ Z' k k ≠ 0 := by
  obtain ⟨i, h1, h2, h3, rfl⟩ := hp
  have e : Mx.sw i k k = i := by
    unfold Mx.sw
    by_cases e : k = i
    · rw [if_pos e]; exact e
    · rw [if_neg e, if_pos rfl]
  refine ⟨?_, by show Z (Mx.sw i k k) k ≠ 0; rw [e]; exact h3⟩
  by_cases hi : k < i
  · exact ⟨_, h.swap (by omega) hi h2⟩
  · obtain rfl : i = k := by omega
    refine ⟨m, h.congr fun r j _ _ _ _ => ?_⟩
    have : Mx.sw i i r = r := by
      unfold Mx.sw
      by_cases e : r = i
      · rw [if_pos e]; exact e.symm
      · rw [if_neg e, if_neg e]
    show Z (Mx.sw i i r) j = Z r j
    rw [this]
end Sy
theorem rows_flat (l : List (Array Value)) : rowsOf l = ((l.map Array.toList).flatten).toArray := by
  induction l with
  | nil => rfl
  | cons c l ih => rw [rowsOf, ih, List.map_cons, List.flatten_cons]; simp
namespace Sy
def Z1l : List Value := .bool false :: List.replicate 32 (.int .u32 0)
theorem zA0 : (Bg.zA 0).toList = Z1l := by rw [← zA_zero, ← Bg.zeroInt]; rfl
theorem rZ0 : (Bg.rZ 0 0).toList = Z1l ++ Z1l := by
  rw [← rZ_zero]; unfold Bg.ratA; rw [← Bg.zeroInt]; rfl
end Sy
namespace So
/-- Eight ratios, the first m of them f. -/
@[irreducible] def arr (f : Nat → Rat) (m : Nat) : Array Value := rowsOf ((List.range 8).map fun i => if i < m then Rt.qA (f i) else Bg.rZ 0 0)
def arl (f : Nat → Rat) (m : Nat) : List (Array Value) := (List.range 8).map fun i => if i < m then Rt.qA (f i) else Bg.rZ 0 0
theorem arr_eq (f : Nat → Rat) (m : Nat) : arr f m = rowsOf (arl f m) := by unfold arr arl; rfl
theorem arl_sizes (f : Nat → Rat) (m : Nat) : ∀ c ∈ arl f m, c.size = 66 := by
  intro c hc
  obtain ⟨i, _, rfl⟩ := List.mem_map.1 hc
  split
  · exact qA_size _
  · exact rZ_size _ _
theorem arr_size (f : Nat → Rat) (m : Nat) : (arr f m).size = 528 := by rw [arr_eq, rows_size (arl_sizes f m)]; simp [arl]
theorem arr_one (f : Nat → Rat) (m : Nat) : (arr f m).all (·.oneCell') = true := by
  rw [arr_eq]
  refine rows_cells_one fun c hc => ?_
  obtain ⟨i, _, rfl⟩ := List.mem_map.1 hc
  split
  · exact qA_one _
  · exact rZ_one 0 0
theorem arl_at (f : Nat → Rat) {m i : Nat} (h8 : i < 8) : (arl f m)[i]? = some (if i < m then Rt.qA (f i) else Bg.rZ 0 0) := by unfold arl; simp [h8]
theorem arl_set (f : Nat → Rat) {i : Nat} (h8 : i < 8) : (arl f i).set i (Rt.qA (f i)) = arl f (i + 1) := by
  apply List.ext_getElem?
  intro j
  rw [List.getElem?_set]
  have hl : ∀ m, (arl f m).length = 8 := fun m => by simp [arl]
  by_cases e : i = j
  · subst e; rw [if_pos rfl, hl, if_pos h8, arl_at f h8, if_pos (by omega)]
  · rw [if_neg e]
    by_cases hj : j < 8
    · rw [arl_at f hj, arl_at f hj]
      by_cases h1 : j < i
      · rw [if_pos h1, if_pos (by omega)]
      · rw [if_neg h1, if_neg (by omega)]
    · rw [List.getElem?_eq_none (by rw [hl]; omega), List.getElem?_eq_none (by rw [hl]; omega)]
end So
theorem la_arr8 (f : Nat → Rat) (m : Nat) : LA 88 (So.arr f m) 0 (.agg (So.arr f m)) := LA.whole (by kernel_rfl) (by rw [So.arr_size]; kernel_rfl)
theorem sa_arr8 (f g : Nat → Rat) (m k : Nat) : SA 88 (So.arr f m) 0 (.agg (So.arr g k)) (So.arr g k) := SA.whole (by rw [So.arr_size]; kernel_rfl) (So.arr_one g k) (by rw [So.arr_size, So.arr_size])
theorem la_arr8i (f : Nat → Rat) {m i : Nat} (hi : i < m) (h8 : i < 8) : LA 42 (So.arr f m) (i * 66) (.agg (Rt.qA (f i))) := by
  rw [So.arr_eq]
  have := So.arl_at f (m := m) h8
  rw [if_pos hi] at this
  exact la_row (by kernel_rfl) (by kernel_rfl) (So.arl_sizes f m) this
theorem sa_arr8i (f : Nat → Rat) {i : Nat} (h8 : i < 8) : SA 42 (So.arr f i) (i * 66) (.agg (Rt.qA (f i))) (So.arr f (i + 1)) := by
  rw [So.arr_eq, So.arr_eq, ← So.arl_set f h8]
  exact sa_row (by kernel_rfl) (So.arl_sizes f i) (So.arl_at f h8) (qA_size _) (qA_one _)
theorem So.arr_zero (f : Nat → Rat) : So.arr f 0 = ((List.replicate 8 (Sy.Z1l ++ Sy.Z1l)).flatten).toArray := by
  rw [So.arr_eq, rows_flat]
  unfold So.arl
  rw [show List.range 8 = [0, 1, 2, 3, 4, 5, 6, 7] from rfl]
  simp only [List.map, Nat.not_lt_zero, if_false, Sy.rZ0]
  rfl
theorem So.arr_same (f g : Nat → Rat) : So.arr f 0 = So.arr g 0 := by rw [So.arr_zero, So.arr_zero]
theorem za_arr8 (f : Nat → Rat) : ZA 88 (So.arr f 0) := ⟨.agg (So.arr f 0), rfl, fun w => by
  rw [So.arr_zero]; kernel_rfl⟩
theorem Sy.cells_zero (n : Int) : Sy.cells n (fun _ _ => 0) = (.int .i64 n :: (List.replicate 72 Sy.Z1l).flatten).toArray := by
  rw [Sy.cells_flat, rows_flat]
  unfold Sy.flat
  have e : ((List.range 72).map fun _ => Bg.zA 0).map Array.toList = List.replicate 72 Sy.Z1l := by
    rw [List.map_map]
    show (List.range 72).map (fun _ => (Bg.zA 0).toList) = _
    rw [Sy.zA0, List.map_const', List.length_range]
  rw [e]; simp
end Go.Proofs.Ytadnddffdedjgaa
