/- The scene's nests in the making. -/
import Derived.Test.YtadnddffdedjgaaSyJ
namespace Go.Proofs.Ytadnddffdedjgaa
set_option maxRecDepth 8000
open Go.RowKit
namespace Ns
/-- Columns before j are done, column j up to row i holds S together, the rest is 0. -/
structure Part (n : Nat) (free : Bool) (U : List Int) (H : List (List Int)) (j i : Nat) (S : Int) : Prop where
  len : H.length = n
  lens : ∀ l ∈ H, l.length = n
  ent : ∀ r c, r < n → c < n → 0 ≤ gh H r c ∧ gh H r c ≤ 1000000
  old : ∀ c, c < j → zs n (fun r => gh H r c) ≤ gu U c ∧ (free = false → 0 < gu U c → zs n (fun r => gh H r c) < gu U c)
  new : ∀ c, j < c → c < n → ∀ r, r < n → gh H r c = 0
  cur : j < n → ∀ r, r < n → i ≤ r → gh H r j = 0
  sum : j < n → zs n (fun r => gh H r j) = S
theorem Part.start {n : Nat} {free : Bool} {U : List Int} : Part n free U (List.replicate n (List.replicate n 0)) 0 0 0 := by
  have h : ∀ r c, gh (List.replicate n (List.replicate n 0)) r c = 0 := fun r c => gh_zero (n := n) fun l hl => List.eq_of_mem_replicate hl
  refine ⟨by simp, fun l hl => by rw [List.eq_of_mem_replicate hl]; simp, fun r c _ _ => by rw [h]; exact ⟨by decide, by decide⟩, fun c hc => absurd hc (by omega), fun c _ _ r _ => h r c, fun _ r _ _ => h r 0, fun _ => ?_⟩
  rw [zs_congr (fun r _ => h r 0), zs_zero]
theorem Part.skip {n : Nat} {free : Bool} {U : List Int} {H : List (List Int)} {j i : Nat} {S : Int} (P : Part n free U H j i S) : Part n free U H j (i + 1) S :=
  ⟨P.len, P.lens, P.ent, P.old, P.new, fun hj r hr hi => P.cur hj r hr (by omega), P.sum⟩
theorem Part.put {n : Nat} {free : Bool} {U : List Int} {H : List (List Int)} {j i : Nat} {S k : Int} {l : List Int} (P : Part n free U H j i S) (hi : i < n) (hj : j < n) (hl : H[i]? = some l) (h0 : 0 ≤ k) (h1 : k ≤ 1000000) : Part n free U (H.set i (l.set j k)) j (i + 1) (S + k) := by
  have hll := P.lens l (List.mem_of_getElem? hl)
  have g := gh_set (k := k) hl (show j < l.length by omega)
  refine ⟨by rw [List.length_set]; exact P.len, fun x hx => ?_, fun r c hr hc => ?_, fun c hc => ?_, fun c h2 h3 r hr => ?_, fun _ r hr h2 => ?_, fun _ => ?_⟩
  · rcases List.mem_or_eq_of_mem_set hx with h | rfl
    · exact P.lens x h
    · rw [List.length_set]; exact hll
  · rw [g]
    split
    · exact ⟨h0, h1⟩
    · exact P.ent r c hr hc
  · have e : ∀ r, r < n → gh (H.set i (l.set j k)) r c = gh H r c := fun r _ => by rw [g, if_neg (by omega)]
    rw [zs_congr e]
    exact P.old c hc
  · rw [g, if_neg (by omega)]; exact P.new c h2 h3 r hr
  · rw [g, if_neg (by omega)]; exact P.cur hj r hr (by omega)
  · rw [zs_upd (f := fun r => gh H r j) (i := i) hi (fun r _ hne => by rw [g, if_neg (by omega)]), P.sum hj, P.cur hj i hi (Nat.le_refl _), g, if_pos ⟨rfl, rfl⟩]
    omega
theorem Part.next {n : Nat} {free : Bool} {U : List Int} {H : List (List Int)} {j i : Nat} {S : Int} (P : Part n free U H j i S) (hj : j < n) (h : S ≤ gu U j ∧ (free = false → 0 < gu U j → S < gu U j)) : Part n free U H (j + 1) 0 0 := by
  refine ⟨P.len, P.lens, P.ent, fun c hc => ?_, fun c h1 h2 => P.new c (by omega) h2, fun h1 r hr _ => P.new (j + 1) (by omega) h1 r hr, fun h1 => ?_⟩
  · by_cases e : c = j
    · subst e; rw [P.sum hj]; exact h
    · exact P.old c (by omega)
  · rw [zs_congr (g := fun _ => 0) (fun r hr => P.new (j + 1) (by omega) h1 r hr), zs_zero]
theorem Part.done {n : Nat} {free : Bool} {U : List Int} {H : List (List Int)} (P : Part n free U H n 0 0) (hn : n ≤ 8) (hU : U.length = n) (h0 : ∀ u ∈ U, 0 ≤ u ∧ u ≤ 1000000) : Made free U H := by
  subst hU
  have hu : ∀ i, i < U.length → 0 ≤ gu U i ∧ gu U i ≤ 1000000 := fun i hi => by
    rw [gu_at (List.getElem?_eq_getElem hi)]; exact h0 _ (List.getElem_mem hi)
  refine ⟨⟨⟨hn, P.len⟩, fun i hi => ?_, hn, fun i hi => (hu i hi).1, fun i hi => by have := (hu i hi).2; omega, fun i j hi hj => (P.ent i j hi hj).1, fun i j hi hj => by have := (P.ent i j hi hj).2; omega, fun j hj => (P.old j hj).1⟩, P.lens, fun j hj => (hu j hj).2, fun hf j hj h1 => (P.old j hj).2 hf h1⟩
  have hi2 : i < H.length := by have := P.len; omega
  rw [List.getD_eq_getElem?_getD, List.getElem?_eq_getElem hi2]
  exact P.lens _ (List.getElem_mem hi2)
end Ns
theorem sa_vals (l : List Value) {i : Nat} (v : Value) (h : i < l.length) (hv : v.oneCell' = true) : SA 22 (rowsOf (l.map vc)) i v (rowsOf ((l.set i v).map vc)) := by
  have hs : ∀ c ∈ l.map vc, c.size = 1 := by intro c hc; obtain ⟨x, _, rfl⟩ := List.mem_map.1 hc; rfl
  have h1 : (l.map vc)[i]? = some (vc l[i]) := by rw [List.getElem?_map, List.getElem?_eq_getElem h]; rfl
  have := sa_rowone (T := 22) (n := 1) (a := 0) (l := l.map vc) (k := i) (v := v) (by kernel_rfl) hs h1 (by decide) hv
  rw [Nat.mul_one, Nat.add_zero] at this
  have e : (l.map vc).set i ((vc l[i]).setIfInBounds 0 v) = (l.set i v).map vc := by rw [List.map_set]; rfl
  rw [e] at this
  exact this
theorem la_vals {l : List Value} {i : Nat} {v : Value} (h : l[i]? = some v) : LA 22 (rowsOf (l.map vc)) i v := by
  refine LA.one (by kernel_rfl) ?_
  have hs : ∀ c ∈ l.map vc, c.size = 1 := by intro c hc; obtain ⟨x, _, rfl⟩ := List.mem_map.1 hc; rfl
  have := rows_at hs (k := i) (j := 0) (c := vc v) (by rw [List.getElem?_map, h]; rfl) (by decide)
  rw [Nat.one_mul, Nat.add_zero] at this
  rw [this]; rfl
theorem rv_step {n j br : Nat} {rb : List Nat} (hr : rb.length = j) (hj : j < n) : (rv n rb ++ List.replicate (n - j) (Value.slice none 0 0)).set j (.slice (some ⟨br, 0, none⟩) n n) = rv n (rb ++ [br]) ++ List.replicate (n - (j + 1)) (Value.slice none 0 0) := by
  have hl : (rv n rb).length = j := by simp [rv, hr]
  rw [List.set_append_right _ _ (by omega), hl, Nat.sub_self, show n - j = (n - (j + 1)) + 1 by omega, List.replicate_succ, List.set_cons_zero]
  unfold rv
  rw [List.map_append, List.append_assoc]
  rfl
theorem Mem.ne {w0 w : World} {X : List Nat} {b b' : Nat} {c c' : Array Value} {L : List (Nat × Array Value)} (h : Mem w0 X ((b, c) :: L) w) (hl : Look L b' c') : b ≠ b' := fun e => by
  subst e
  exact (List.nodup_cons.1 h.nod).1 (List.mem_map.2 ⟨_, hl.mem, rfl⟩)
theorem Mem.pushRow {w0 w : World} {X : List Nat} (K : List (Nat × Array Value)) {rows R : List (Nat × Array Value)} {p : Nat × Array Value} (HM : Mem w0 X (p :: (K ++ (rows ++ R))) w) : Mem w0 X (K ++ ((rows ++ [p]) ++ R)) w := by
  refine HM.perm ?_
  rw [List.append_assoc]
  refine List.Perm.trans (List.Perm.append_left K (List.perm_middle (l₁ := rows) (l₂ := R))) ?_
  exact List.perm_middle
theorem za_sl : ZA 22 (vc (.slice none 0 0)) := ⟨.slice none 0 0, rfl, fun w => by kernel_rfl⟩
theorem rep_vals (n : Nat) : List.replicate n (vc (.slice none 0 0)) = (rv n [] ++ List.replicate (n - 0) (Value.slice none 0 0)).map vc := by simp [rv, List.map_replicate]
end Go.Proofs.Ytadnddffdedjgaa
