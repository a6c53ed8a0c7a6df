/- Slices: one cell of a record is stored; more. -/
import Derived.Test.YtaokneooejbfkaaEngD
namespace Go.Proofs.Ytaokneooejbfkaa
set_option maxRecDepth 8000
open Go.RowKit
theorem SlAt.inv {n : Nat} {s : Value} {l : List (Array Value)} {B : List (Nat × Array Value)} (h : SlAt n s l B) (h0 : l ≠ []) : ∃ b sp, s = .slice (some ⟨b, 0, none⟩) l.length (l.length + sp.length) ∧ B = [(b, rowsOf (l ++ sp))] ∧ ∀ c ∈ l ++ sp, c.size = n := by
  cases h with
  | nil => exact absurd rfl h0
  | row b l sp h => exact ⟨b, sp, rfl, rfl, h⟩
theorem rows_setone {n : Nat} {l : List (Array Value)} (h : ∀ c ∈ l, c.size = n) {k a : Nat} {c : Array Value} {v : Value} (hk : l[k]? = some c) (ha : a < n) : (rowsOf l).setIfInBounds (k * n + a) v = rowsOf (l.set k (c.setIfInBounds a v)) := by
  have hc := h c (rows_mem hk)
  have hl := rows_lt h hk
  rw [← rows_set h hk (d := c.setIfInBounds a v) (by rw [Array.size_setIfInBounds, hc]), Nat.mul_comm k n]
  apply Array.ext_getElem?
  intro j
  rw [sets_at, Array.length_toList, Array.size_setIfInBounds, hc, Array.getElem?_setIfInBounds]
  by_cases e : n * k + a = j
  · rw [if_pos e, if_pos (by omega), if_pos ⟨by omega, by omega, by omega⟩, Array.getElem?_toList, show j - n * k = a by omega, Array.getElem?_setIfInBounds, if_pos rfl, if_pos (by omega)]
  · rw [if_neg e]
    by_cases hj : n * k ≤ j ∧ j < n * k + n ∧ j < (rowsOf l).size
    · rw [if_pos hj, Array.getElem?_toList, Array.getElem?_setIfInBounds, if_neg (by omega)]
      have := rows_at h hk (j := j - n * k) (by omega)
      rw [← this, show n * k + (j - n * k) = j by omega]
    · rw [if_neg hj]
theorem sa_rowone {T : TypeId} {n a : Nat} {l : List (Array Value)} {k : Nat} {c : Array Value} {v : Value} (hs : sizT T = some 1) (h : ∀ c ∈ l, c.size = n) (hk : l[k]? = some c) (ha : a < n) (hv : v.oneCell' = true) : SA T (rowsOf l) (k * n + a) v (rowsOf (l.set k (c.setIfInBounds a v))) := by
  rw [← rows_setone h hk ha]
  exact SA.one hs hv (by have := rows_lt h hk; rw [Nat.mul_comm]; omega)
theorem Mem.swapA {w0 w : World} {X : List Nat} {B L : List (Nat × Array Value)} (h : Mem w0 X (B ++ L) w) : Mem w0 X (L ++ B) w := h.perm List.perm_append_comm
theorem RdS.form1 {n : Nat} {w : World} {sv : Value} {m : List (Array Value)} (h : RdS n w sv m) : ∃ A cap, sv = .slice A m.length cap := by
  obtain ⟨_, A, cap, e, _⟩ := h; exact ⟨A, cap, e⟩
/-- A callee's blocks join those of the caller. -/
theorem Mem.join {w0 w w' : World} {X : List Nat} {L B : List (Nat × Array Value)} (h : Mem w0 X L w) (k : Mem w [] B w') : Mem w0 X (B ++ L) w' := by
  have hc := h.call k.low
  have hB : ∀ p ∈ B, w.heap.size ≤ p.1 := fun p hp => (k.own p hp).resolve_right (by simp)
  refine ⟨hc.only, fun p hp => ?_, fun p hp => ?_, ?_⟩
  · rcases List.mem_append.1 hp with hp | hp
    · exact k.blk p hp
    · exact hc.blk p hp
  · rcases List.mem_append.1 hp with hp | hp
    · exact .inl (Nat.le_trans h.only.size (hB p hp))
    · exact h.own p hp
  · rw [List.map_append]
    refine List.nodup_append.2 ⟨k.nod, h.nod, fun a ha b hb e => ?_⟩
    obtain ⟨p, hp, rfl⟩ := List.mem_map.1 ha
    obtain ⟨q, hq, rfl⟩ := List.mem_map.1 hb
    have h1 := hB p hp
    have h2 := (h.blk q hq).lt
    omega
end Go.Proofs.Ytaokneooejbfkaa
