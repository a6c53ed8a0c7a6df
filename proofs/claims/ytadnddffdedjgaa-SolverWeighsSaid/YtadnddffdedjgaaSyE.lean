/- The funds with units, and their equations alone. -/
import Derived.Test.YtadnddffdedjgaaSyD
namespace Go.Proofs.Ytadnddffdedjgaa
set_option maxRecDepth 8000
open Go.RowKit
namespace Ns
open Mx
/-- The first n with p. -/
def wl (p : Nat → Bool) (n : Nat) : List Nat := (List.range n).filter p
theorem wl_succ (p : Nat → Bool) (n : Nat) : wl p (n + 1) = if p n = true then wl p n ++ [n] else wl p n := by
  unfold wl
  rw [List.range_succ, List.filter_append]
  by_cases h : p n = true
  · rw [if_pos h]; simp [h]
  · rw [if_neg h]; simp [h]
theorem wl_mem {p : Nat → Bool} {n i : Nat} : i ∈ wl p n ↔ i < n ∧ p i = true := by unfold wl; simp
theorem wl_len {p : Nat → Bool} (n : Nat) : (wl p n).length ≤ n := Nat.le_trans (List.length_filter_le _ _) (by simp)
/-- The place of j among them. -/
theorem wl_pos {p : Nat → Bool} {n j : Nat} (hj : j < n) (hp : p j = true) : (wl p n)[(wl p j).length]? = some j := by
  induction n with
  | zero => omega
  | succ n ih =>
    rw [wl_succ]
    by_cases e : j = n
    · subst e
      rw [if_pos hp, List.getElem?_append_right (Nat.le_refl _), Nat.sub_self]; rfl
    · have h1 := ih (by omega)
      have h2 := (List.getElem?_eq_some_iff.1 h1).1
      by_cases h : p n = true
      · rw [if_pos h, List.getElem?_append_left h2]; exact h1
      · rw [if_neg h]; exact h1
theorem wl_nodup (p : Nat → Bool) (n : Nat) : (wl p n).Nodup := List.Nodup.sublist List.filter_sublist List.nodup_range
theorem wl_idx {p : Nat → Bool} {n c j : Nat} (h : (wl p n)[c]? = some j) : (wl p j).length = c ∧ j < n ∧ p j = true := by
  obtain ⟨h1, h2⟩ := wl_mem.1 (List.mem_of_getElem? h)
  have h3 := wl_pos h1 h2
  exact ⟨(List.getElem?_inj (List.getElem?_eq_some_iff.1 h3).1 (wl_nodup p n)).1 (by rw [h3, h]), h1, h2⟩
def wh (p : Nat → Bool) (n c : Nat) : Nat := (wl p n).getD c 0
theorem wh_at {p : Nat → Bool} {n c : Nat} (h : c < (wl p n).length) : (wl p n)[c]? = some (wh p n c) := by
  unfold wh; rw [List.getD_eq_getElem?_getD, List.getElem?_eq_getElem h]; rfl
theorem wh_spec {p : Nat → Bool} {n c : Nat} (h : c < (wl p n).length) : (wl p (wh p n c)).length = c ∧ wh p n c < n ∧ p (wh p n c) = true := wl_idx (wh_at h)
theorem sm_wl {p : Nat → Bool} {n : Nat} {G : Nat → Rat} : sm (wl p n).length (fun c => G (wh p n c)) = sm n (fun j => if p j = true then G j else 0) := by
  induction n with
  | zero => rfl
  | succ n ih =>
    rw [sm, ← ih]
    by_cases h : p n = true
    · have e : wl p (n + 1) = wl p n ++ [n] := by rw [wl_succ, if_pos h]
      have hl : (wl p (n + 1)).length = (wl p n).length + 1 := by rw [e]; simp
      rw [hl, sm, if_pos h]
      have e2 : wh p (n + 1) (wl p n).length = n := by
        unfold wh; rw [e, List.getD_eq_getElem?_getD, List.getElem?_append_right (Nat.le_refl _), Nat.sub_self]; rfl
      rw [e2]
      congr 1
      refine sm_congr fun c hc => ?_
      have : wh p (n + 1) c = wh p n c := by
        unfold wh; rw [e, List.getD_eq_getElem?_getD, List.getD_eq_getElem?_getD, List.getElem?_append_left hc]
      rw [this]
    · have e : wl p (n + 1) = wl p n := by rw [wl_succ, if_neg h]
      have e2 : ∀ c, wh p (n + 1) c = wh p n c := fun c => by unfold wh; rw [e]
      rw [e, if_neg h]
      simp only [e2]
      grind
/-- The funds with units. -/
def hu (u : Nat → Int) (i : Nat) : Bool := decide (0 < u i)
theorem hu_iff {u : Nat → Int} {i : Nat} : hu u i = true ↔ 0 < u i := by unfold hu; simp
/-- Their equations, the right sides in the last column. -/
def zw (n : Nat) (u : Nat → Int) (h : Nat → Nat → Int) (a : Nat → Int) (r c : Nat) : Int :=
  if c < (wl (hu u) n).length then mat u h (wh (hu u) n r) (wh (hu u) n c) else if c = (wl (hu u) n).length then a (wh (hu u) n r) else 0
theorem mat_bound {n : Nat} {u : Nat → Int} {h : Nat → Nat → Int} (H : Ok n u h) {i j : Nat} (hi : i < n) (hj : j < n) : (mat u h i j).natAbs ≤ 1000000000000000 := by
  have h1 := H.h0 i j hi hj
  have h2 := H.h1 i j hi hj
  have h3 := H.u0 i hi
  have h4 := H.u1 i hi
  have h5 := H.h0 i i hi hi
  have h6 := H.le hi hi
  unfold mat
  split
  · split <;> decide
  · split <;> omega
theorem zw_bound {n : Nat} {u : Nat → Int} {h : Nat → Nat → Int} {a : Nat → Int} (H : Ok n u h) (ha : ∀ i, i < n → (a i).natAbs ≤ 1000000000000000) : ∀ r c, r < (wl (hu u) n).length → c ≤ (wl (hu u) n).length → (zw n u h a r c).natAbs ≤ 1000000000000000 := by
  intro r c hr hc
  unfold zw
  have h1 := (wh_spec hr).2.1
  by_cases h2 : c < (wl (hu u) n).length
  · rw [if_pos h2]
    exact mat_bound H h1 (wh_spec h2).2.1
  · rw [if_neg h2, if_pos (by omega)]
    exact ha _ h1
/-- Prices of all out of those of the funds with units. -/
def lift (u : Nat → Int) (y : Nat → Rat) (i : Nat) : Rat := if hu u i = true then y (wl (hu u) i).length else 0
theorem lift_row {n : Nat} {u : Nat → Int} {h : Nat → Nat → Int} {a : Nat → Int} {y : Nat → Rat} {i : Nat} (hi : i < n) (hp : hu u i = true) :
    sm n (fun j => (mat u h i j : Rat) * lift u y j) = sm (wl (hu u) n).length (fun c => ext (wl (hu u) n).length (zw n u h a) (wl (hu u) i).length c * y c) := by
  have hr : (wl (hu u) i).length < (wl (hu u) n).length := (List.getElem?_eq_some_iff.1 (wl_pos hi hp)).1
  have hw : wh (hu u) n (wl (hu u) i).length = i := by
    have := wl_pos hi hp
    unfold wh; rw [List.getD_eq_getElem?_getD, this]; rfl
  have e1 : sm (wl (hu u) n).length (fun c => ext (wl (hu u) n).length (zw n u h a) (wl (hu u) i).length c * y c) = sm (wl (hu u) n).length (fun c => (fun j => (mat u h i j : Rat) * lift u y j) (wh (hu u) n c)) := by
    refine sm_congr fun c hc => ?_
    obtain ⟨h1, h2, h3⟩ := wh_spec hc
    unfold ext zw
    rw [if_pos (by omega), if_pos hc, hw]
    show _ = (mat u h i (wh (hu u) n c) : Rat) * lift u y (wh (hu u) n c)
    unfold lift
    rw [if_pos h3, h1]
  rw [e1, sm_wl (p := hu u) (n := n) (G := fun j => (mat u h i j : Rat) * lift u y j)]
  refine sm_congr fun j hj => ?_
  by_cases h2 : hu u j = true
  · rw [if_pos h2]
  · rw [if_neg h2]; unfold lift; rw [if_neg h2]; grind
theorem row_none {n : Nat} {u : Nat → Int} {h : Nat → Nat → Int} {x : Nat → Rat} {i : Nat} (hi : i < n) (h0 : u i = 0) : sm n (fun j => (mat u h i j : Rat) * x j) = x i := by
  rw [sm_one hi (fun j hj hne => by unfold mat; rw [if_pos h0, if_neg (fun h => hne h.symm)]; have : ((0 : Int) : Rat) = 0 := rfl; rw [this]; grind)]
  unfold mat; rw [if_pos h0, if_pos rfl]
  have : ((1 : Int) : Rat) = 1 := rfl
  rw [this]; grind
theorem hu_no {u : Nat → Int} {i : Nat} (h0 : 0 ≤ u i) (h : ¬ hu u i = true) : u i = 0 := by unfold hu at h; simp at h; omega
theorem zw_ns {n : Nat} {u : Nat → Int} {h : Nat → Nat → Int} {a : Nat → Int} (H : Ok n u h) (hc : ¬ Circ n u h) : Mx.Ns (wl (hu u) n).length (ext (wl (hu u) n).length (zw n u h a)) := by
  intro y hy c hc2
  have key := sing H hc (x := lift u y) (fun i hi => by
    by_cases hp : hu u i = true
    · rw [lift_row (a := a) hi hp]
      exact hy _ (List.getElem?_eq_some_iff.1 (wl_pos hi hp)).1
    · rw [row_none hi (hu_no (H.u0 i hi) hp)]
      unfold lift; rw [if_neg hp])
  obtain ⟨h1, h2, h3⟩ := wh_spec hc2
  have := key _ h2
  unfold lift at this
  rwa [if_pos h3, h1] at this
theorem zw_pr {n : Nat} {u : Nat → Int} {h : Nat → Nat → Int} {a : Nat → Int} {y : Nat → Rat} (H : Ok n u h) (hs : Solves (wl (hu u) n).length (ext (wl (hu u) n).length (zw n u h a)) y) : Pr n u h a (lift u y) := by
  intro i hi
  by_cases hp : hu u i = true
  · have hr := (List.getElem?_eq_some_iff.1 (wl_pos hi hp)).1
    have hw : wh (hu u) n (wl (hu u) i).length = i := by
      have := wl_pos hi hp
      unfold wh; rw [List.getD_eq_getElem?_getD, this]; rfl
    rw [lift_row (a := a) hi hp, hs _ hr]
    unfold ext zw rhs
    rw [if_pos (Nat.le_refl _), if_neg (Nat.lt_irrefl _), if_pos rfl, hw, if_neg (by unfold hu at hp; simp at hp; omega)]
  · have h0 := hu_no (H.u0 i hi) hp
    rw [row_none hi h0]
    unfold lift rhs
    rw [if_neg hp, if_pos h0]; rfl
end Ns
end Go.Proofs.Ytadnddffdedjgaa
