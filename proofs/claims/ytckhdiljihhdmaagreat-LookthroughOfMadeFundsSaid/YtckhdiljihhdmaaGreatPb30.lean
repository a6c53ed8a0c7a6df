/- Walks, and plain facts for them. -/
import Derived.Sort.KeysCollected
import Derived.Sort.Walk0
import Derived.Test.YtckhdiljihhdmaaGreatPb02
namespace Go.Proofs.YtckhdiljihhdmaaGreat
set_option maxRecDepth 8000
open Go.RowKit
namespace Lk
theorem lt_irr (a : List UInt8) : ¬ a < a := List.lt_irrefl a
theorem sort_texts {l v : List (List UInt8)} (hn : l.Nodup) (hv : v.Pairwise (· < ·)) (hm : ∀ x, x ∈ l ↔ x ∈ v) : l.mergeSort (fun x y => decide (x ≤ y)) = v := by
 have hvn : v.Nodup := hv.imp (fun {a b} h e => by subst e; exact lt_irr _ h)
 have hp : l.Perm v := (List.perm_ext_iff_of_nodup hn hvn).2 hm
 have tr : ∀ a b c : List UInt8, decide (a ≤ b) = true → decide (b ≤ c) = true → decide (a ≤ c) = true := fun a b c h1 h2 => by simp only [decide_eq_true_eq] at *; exact List.le_trans h1 h2
 have tot : ∀ a b : List UInt8, (decide (a ≤ b) || decide (b ≤ a)) = true := fun a b => by simp only [Bool.or_eq_true, decide_eq_true_eq]; exact List.le_total a b
 refine List.Perm.eq_of_pairwise (le := fun a b => decide (a ≤ b) = true) (fun a b _ _ h1 h2 => ?_) (List.pairwise_mergeSort tr tot l) (hv.imp (fun {a b} h => ?_)) ((List.mergeSort_perm l _).trans hp)
 ·simp only [decide_eq_true_eq] at h1 h2
  exact List.le_antisymm h1 h2
 ·simp only [decide_eq_true_eq]
  rcases List.le_total a b with h1 | h1
  ·exact h1
  ·exact absurd h h1
def ins : List (List UInt8) → List UInt8 → List (List UInt8)
 | [], s => [s]
 | x :: l, s => if x < s then x :: ins l s else if x = s then x :: l else s :: x :: l
theorem lt_tr' {a b c : List UInt8} (h : a < b) (h2 : b < c) : a < c := List.lt_trans h h2
theorem lt_of_not {a b : List UInt8} (h : ¬ a < b) (h2 : a ≠ b) : b < a := by
 rcases List.le_total a b with h1 | h1
 ·exact absurd (List.le_antisymm h1 h) h2
 ·by_cases e : b < a
  ·exact e
  ·exact absurd (List.le_antisymm e h1) h2
theorem mem_ins : ∀ {l : List (List UInt8)} {s x : List UInt8}, x ∈ ins l s ↔ x ∈ l ∨ x = s
 | [], s, x => by simp [ins]
 | y :: l, s, x => by
  rw [ins]
  split
  ·rw [List.mem_cons, mem_ins, List.mem_cons, or_assoc]
  ·split
   ·rename_i h; subst h; rw [List.mem_cons]; constructor
    ·rintro (h | h)
     ·exact .inl (.inl h)
     ·exact .inl (.inr h)
    ·rintro ((h | h) | h)
     ·exact .inl h
     ·exact .inr h
     ·exact .inl h
   ·rw [List.mem_cons]; exact Or.comm
theorem ins_sorted : ∀ {l : List (List UInt8)} {s : List UInt8}, l.Pairwise (· < ·) → (ins l s).Pairwise (· < ·)
 | [], s, _ => by simp [ins]
 | y :: l, s, h => by
  rw [List.pairwise_cons] at h
  rw [ins]
  split
  ·rename_i hy
   rw [List.pairwise_cons]
   refine ⟨fun x hx => ?_, ins_sorted h.2⟩
   rcases mem_ins.1 hx with hx | hx
   ·exact h.1 x hx
   ·rw [hx]; exact hy
  ·split
   ·exact List.pairwise_cons.2 h
   ·rename_i h1 h2
    have h3 := lt_of_not h1 h2
    refine List.pairwise_cons.2 ⟨fun x hx => ?_, List.pairwise_cons.2 h⟩
    rcases List.mem_cons.1 hx with rfl | hx
    ·exact h3
    ·exact lt_tr' h3 (h.1 x hx)
theorem ins_split : ∀ (i : Nat) (l : List (List UInt8)) (s : List UInt8), (∀ x ∈ l.take i, x < s) → ins l s = l.take i ++ ins (l.drop i) s
 | 0, l, s, _ => by simp
 | i + 1, [], s, _ => by simp
 | i + 1, x :: l, s, h => by
  rw [List.take_succ_cons, List.drop_succ_cons, ins, if_pos (h x (by simp)), List.cons_append, ins_split i l s (fun y hy => h y (by simp [hy]))]
theorem ins_len : ∀ (l : List (List UInt8)) (s : List UInt8), (ins l s).length ≤ l.length + 1
 | [], s => by simp [ins]
 | x :: l, s => by
  rw [ins]
  split
  ·have := ins_len l s
   simp only [List.length_cons]; omega
  ·split <;> simp
def nml (acc : List (List UInt8)) (l : List H) : List (List UInt8) := l.foldl (fun a h => ins a h.nm.toList) acc
def nms (acc : List (List UInt8)) (L : List (List H)) : List (List UInt8) := L.foldl nml acc
def names (L : List (List H)) : List (List UInt8) := nms [] L
theorem nml_step {acc : List (List UInt8)} {l : List H} {j : Nat} {h : H} (hj : l[j]? = some h) : nml acc (l.take (j + 1)) = ins (nml acc (l.take j)) h.nm.toList := by
 unfold nml; rw [List.take_add_one, hj, List.foldl_append]; rfl
theorem nms_step {acc : List (List UInt8)} {L : List (List H)} {i : Nat} {l : List H} (hi : L[i]? = some l) : nms acc (L.take (i + 1)) = nml (nms acc (L.take i)) l := by
 unfold nms; rw [List.take_add_one, hi, List.foldl_append]; rfl
theorem nml_sorted : ∀ (l : List H) {acc : List (List UInt8)}, acc.Pairwise (· < ·) → (nml acc l).Pairwise (· < ·)
 | [], _, h => h
 | _ :: l, _, h => nml_sorted l (ins_sorted h)
theorem nms_sorted : ∀ (L : List (List H)) {acc : List (List UInt8)}, acc.Pairwise (· < ·) → (nms acc L).Pairwise (· < ·)
 | [], _, h => h
 | l :: L, _, h => nms_sorted L (nml_sorted l h)
theorem names_sorted (L : List (List H)) : (names L).Pairwise (· < ·) := nms_sorted L .nil
end Lk
end Go.Proofs.YtckhdiljihhdmaaGreat
