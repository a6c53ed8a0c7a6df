/- Records of one size that lie one behind the other: an array, a slice's memory. -/
import Derived.Test.YtekfabhmopkapaaDraw
namespace Go.Proofs.Ytekfabhmopkapaa
set_option maxRecDepth 8000
open Go.RowKit
/-- The cells of records, one behind the other. -/
def rowsOf : List (Array Value) → Array Value
  | [] => #[]
  | c :: l => c ++ rowsOf l
theorem rows_size {n : Nat} : ∀ {l : List (Array Value)}, (∀ c ∈ l, c.size = n) → (rowsOf l).size = n * l.length
  | [], _ => by simp [rowsOf]
  | c :: l, h => by
    rw [rowsOf, Array.size_append, h c List.mem_cons_self, rows_size (fun d hd => h d (List.mem_cons_of_mem _ hd)), List.length_cons, Nat.mul_add, Nat.mul_one, Nat.add_comm]
theorem rows_at {n : Nat} : ∀ {l : List (Array Value)} (_ : ∀ c ∈ l, c.size = n) {k j : Nat} {c : Array Value} (_ : l[k]? = some c) (_ : j < n), (rowsOf l)[n * k + j]? = c[j]?
  | [], _, k, j, c, hk, _ => by simp at hk
  | d :: l, h, k, j, c, hk, hj => by
    have hd := h d List.mem_cons_self
    rw [rowsOf, Array.getElem?_append]
    match k with
    | 0 =>
      obtain rfl : d = c := by simpa using hk
      rw [if_pos (by omega)]; congr 1; omega
    | k + 1 =>
      have e : n * (k + 1) + j = n + (n * k + j) := by rw [Nat.mul_add]; omega
      rw [if_neg (by omega), hd, e, Nat.add_sub_cancel_left]
      exact rows_at (fun d hd => h d (List.mem_cons_of_mem _ hd)) (by simpa using hk) hj
theorem rows_lt {n : Nat} {l : List (Array Value)} (h : ∀ c ∈ l, c.size = n) {k : Nat} {c : Array Value} (hk : l[k]? = some c) : n * k + n ≤ (rowsOf l).size := by
  rw [rows_size h]
  have := (List.getElem?_eq_some_iff.1 hk).1
  have := Nat.mul_le_mul_left n (show k + 1 ≤ l.length by omega)
  rw [Nat.mul_add] at this; omega
theorem rows_mem {l : List (Array Value)} {k : Nat} {c : Array Value} (hk : l[k]? = some c) : c ∈ l := by
  obtain ⟨h1, h2⟩ := List.getElem?_eq_some_iff.1 hk
  rw [← h2]; exact List.getElem_mem h1
theorem rows_extract {n : Nat} {l : List (Array Value)} (h : ∀ c ∈ l, c.size = n) {k : Nat} {c : Array Value} (hk : l[k]? = some c) {a m : Nat} (ha : a + m ≤ n) : (rowsOf l).extract (n * k + a) (n * k + a + m) = c.extract a (a + m) := by
  have hc := h c (rows_mem hk)
  have hl := rows_lt h hk
  apply Array.ext_getElem?
  intro j
  rw [Array.getElem?_extract, Array.getElem?_extract]
  by_cases hj : j < m
  · rw [if_pos (by omega), if_pos (by omega), Nat.add_assoc]
    exact rows_at h hk (by omega)
  · rw [if_neg (by omega), if_neg (by omega)]
theorem sets_at : ∀ (l : List Value) (k : Nat) (c : Array Value) (j : Nat), (setAll c k l)[j]? = if k ≤ j ∧ j < k + l.length ∧ j < c.size then l[j - k]? else c[j]? := by
  intro l
  induction l with
  | nil => intro k c j; simp [setAll]; omega
  | cons x l ih =>
    intro k c j
    rw [setAll, ih]
    simp only [Array.size_setIfInBounds, Array.getElem?_setIfInBounds, List.length_cons]
    by_cases h1 : j = k
    · subst h1
      by_cases h2 : j < c.size
      · rw [if_neg (by omega), if_pos rfl, if_pos h2, if_pos (by omega), Nat.sub_self]; rfl
      · rw [if_neg (by omega), if_pos rfl, if_neg h2, if_neg (by omega), Array.getElem?_eq_none (by omega)]
    · by_cases h2 : k + 1 ≤ j ∧ j < k + 1 + l.length ∧ j < c.size
      · rw [if_pos h2, if_pos (by omega)]
        obtain ⟨d, rfl⟩ : ∃ d, j = k + 1 + d := ⟨j - (k + 1), by omega⟩
        rw [show k + 1 + d - (k + 1) = d from by omega, show k + 1 + d - k = d + 1 from by omega]
        rfl
      · rw [if_neg h2, if_neg (by omega), if_neg (by omega)]
theorem sets_size : ∀ (l : List Value) (k : Nat) (c : Array Value), (setAll c k l).size = c.size := by
  intro l
  induction l with
  | nil => intro k c; rfl
  | cons x l ih => intro k c; rw [setAll, ih, Array.size_setIfInBounds]
theorem rows_set {n : Nat} {l : List (Array Value)} (h : ∀ c ∈ l, c.size = n) {k : Nat} {c d : Array Value} (hk : l[k]? = some c) (hd : d.size = n) : setAll (rowsOf l) (n * k) d.toList = rowsOf (l.set k d) := by
  have hl := rows_lt h hk
  have hkl := (List.getElem?_eq_some_iff.1 hk).1
  have h2 : ∀ x ∈ l.set k d, x.size = n := fun x hx => by
    rcases List.mem_or_eq_of_mem_set hx with hx | rfl
    · exact h x hx
    · exact hd
  have hs : (rowsOf (l.set k d)).size = (rowsOf l).size := by rw [rows_size h, rows_size h2, List.length_set]
  apply Array.ext_getElem?
  intro j
  rw [sets_at, Array.length_toList, hd]
  by_cases hn : n = 0
  · subst hn
    rw [if_neg (by omega)]
    have e1 := rows_size h
    rw [Array.getElem?_eq_none (by omega), Array.getElem?_eq_none (by omega)]
  by_cases hj : j < (rowsOf l).size
  · obtain ⟨q, r, rfl, hr⟩ : ∃ q r, j = n * q + r ∧ r < n := ⟨j / n, j % n, (Nat.div_add_mod j n).symm, Nat.mod_lt _ (by omega)⟩
    have hq : q < l.length := by
      rw [rows_size h] at hj
      exact Nat.lt_of_mul_lt_mul_left (Nat.lt_of_le_of_lt (Nat.le_add_right _ _) hj)
    by_cases e : q = k
    · subst e
      rw [if_pos ⟨by omega, by omega, hj⟩, Nat.add_sub_cancel_left, Array.getElem?_toList, rows_at h2 (k := q) (c := d) (by simp [hkl]) hr]
    · have hne : ¬(n * k ≤ n * q + r ∧ n * q + r < n * k + n ∧ n * q + r < (rowsOf l).size) := by
        rintro ⟨a1, a2, -⟩
        rcases Nat.lt_or_gt_of_ne e with e | e
        · have := Nat.mul_le_mul_left n (show q + 1 ≤ k by omega)
          rw [Nat.mul_add] at this; omega
        · have := Nat.mul_le_mul_left n (show k + 1 ≤ q by omega)
          rw [Nat.mul_add] at this; omega
      rw [if_neg hne, rows_at h (k := q) (c := l[q]) (by simp [hq]) hr, rows_at h2 (k := q) (c := l[q]) (by rw [List.getElem?_set_ne (Ne.symm e)]; simp [hq]) hr]
  · rw [if_neg (by omega), Array.getElem?_eq_none (by omega), Array.getElem?_eq_none (by omega)]
theorem la_row {T : TypeId} {n : Nat} {l : List (Array Value)} {k : Nat} {c : Array Value} (hT : aggT T = some true) (hs : sizT T = some n) (h : ∀ c ∈ l, c.size = n) (hk : l[k]? = some c) : LA T (rowsOf l) (k * n) (.agg c) := by
  rw [Nat.mul_comm]
  refine LA.mid hT hs (rows_lt h hk) ?_
  have e := rows_extract h hk (a := 0) (m := n) (by omega)
  rw [Nat.add_zero] at e
  rw [e, Nat.zero_add]
  have := h c (rows_mem hk)
  rw [← this]; simp
theorem la_rowmid {T : TypeId} {n m a : Nat} {l : List (Array Value)} {k : Nat} {c cs : Array Value} (hT : aggT T = some true) (hs : sizT T = some m) (h : ∀ c ∈ l, c.size = n) (hk : l[k]? = some c) (ha : a + m ≤ n) (hc : c.extract a (a + m) = cs) : LA T (rowsOf l) (k * n + a) (.agg cs) :=
  Nat.mul_comm n k ▸ LA.mid hT hs (by have := rows_lt h hk; omega) (by rw [rows_extract h hk ha]; exact hc)
theorem la_rowone {T : TypeId} {n a : Nat} {l : List (Array Value)} {k : Nat} {c : Array Value} {v : Value} (hT : aggT T = some false) (h : ∀ c ∈ l, c.size = n) (hk : l[k]? = some c) (ha : a < n) (hc : c[a]? = some v) : LA T (rowsOf l) (k * n + a) v :=
  Nat.mul_comm n k ▸ LA.one hT (by rw [rows_at h hk ha]; exact hc)
theorem sa_row {T : TypeId} {n : Nat} {l : List (Array Value)} {k : Nat} {c d : Array Value} (hs : sizT T = some n) (h : ∀ c ∈ l, c.size = n) (hk : l[k]? = some c) (hd : d.size = n) (h1 : d.all (·.oneCell') = true) : SA T (rowsOf l) (k * n) (.agg d) (rowsOf (l.set k d)) :=
  Nat.mul_comm n k ▸ SA.mid (by rw [hd]; exact hs) h1 (by rw [hd]; exact rows_lt h hk) (rows_set h hk hd)
end Go.Proofs.Ytekfabhmopkapaa
