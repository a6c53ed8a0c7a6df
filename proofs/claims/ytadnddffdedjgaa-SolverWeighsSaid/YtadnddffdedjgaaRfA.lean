/- Rows of any cells in blocks of their own; the document's reach. -/
import Derived.Test.YtadnddffdedjgaaSyK
namespace Go.Proofs.Ytadnddffdedjgaa
set_option maxRecDepth 8000
open Go.RowKit
theorem rows_two {α : Type} {l : List α} {i k : Nat} {q : α} (hi : i < l.length) (hk : l[k]? = some q) (hne : k ≠ i) : ∃ rest, ∀ p', (p' :: q :: rest).Perm (l.set i p') := by
  have hm : q ∈ l.eraseIdx i := List.mem_eraseIdx_iff_getElem?.2 ⟨k, hne, hk⟩
  obtain ⟨m, hm2⟩ := List.mem_iff_getElem?.1 hm
  refine ⟨(l.eraseIdx i).eraseIdx m, fun p' => ?_⟩
  have h1 := perm_at (l := l.set i p') (i := i) (p := p') (by rw [List.getElem?_set]; simp [hi])
  rw [List.eraseIdx_set_eq] at h1
  exact (List.Perm.cons _ (perm_at hm2)).trans h1
theorem Mem.openTwo {w0 w : World} {X : List Nat} (K : List (Nat × Array Value)) {rows R : List (Nat × Array Value)} {i k : Nat} {p q : Nat × Array Value} (HM : Mem w0 X (K ++ (rows ++ R)) w) (hi : rows[i]? = some p) (hk : rows[k]? = some q) (hne : k ≠ i) :
    ∃ rest, Mem w0 X (p :: q :: (K ++ (rest ++ R))) w ∧ ∀ p' w', Mem w0 X (p' :: q :: (K ++ (rest ++ R))) w' → Mem w0 X (K ++ (rows.set i p' ++ R)) w' := by
  have hil := (List.getElem?_eq_some_iff.1 hi).1
  obtain ⟨rest, hr⟩ := rows_two hil hk hne
  have key : ∀ p', (p' :: q :: (K ++ (rest ++ R))).Perm (K ++ (rows.set i p' ++ R)) := fun p' => by
    have h1 : (p' :: q :: (K ++ (rest ++ R))).Perm (K ++ ((p' :: q :: rest) ++ R)) := by
      refine List.Perm.trans (List.Perm.cons _ List.perm_middle.symm) ?_
      exact List.perm_middle.symm
    exact h1.trans (List.Perm.append_left K ((hr p').append_right R))
  refine ⟨rest, HM.perm ?_, fun p' w' h => h.perm (key p').symm⟩
  have e : rows.set i p = rows := by
    apply List.ext_getElem?
    intro j
    rw [List.getElem?_set]
    by_cases e : i = j
    · subst e; rw [if_pos rfl, if_pos hil, hi]
    · rw [if_neg e]
  have := key p
  rwa [e] at this
/-- Rows of any cells, each in its block. -/
def NF (rb : List Nat) (F : Nat → Array Value) : List (Nat × Array Value) := rb.mapIdx fun i b => (b, F i)
theorem NF_at {rb : List Nat} {F : Nat → Array Value} {i b : Nat} (h : rb[i]? = some b) : (NF rb F)[i]? = some (b, F i) := by
  unfold NF; rw [List.getElem?_mapIdx, h]; rfl
theorem NF_len {rb : List Nat} {F : Nat → Array Value} : (NF rb F).length = rb.length := by unfold NF; simp
theorem NF_congr {rb : List Nat} {F G : Nat → Array Value} (h : ∀ i, i < rb.length → F i = G i) : NF rb F = NF rb G := by
  apply List.ext_getElem?
  intro i
  by_cases hi : i < rb.length
  · have hb : rb[i]? = some rb[i] := List.getElem?_eq_getElem hi
    rw [NF_at hb, NF_at hb, h i hi]
  · rw [List.getElem?_eq_none (by rw [NF_len]; omega), List.getElem?_eq_none (by rw [NF_len]; omega)]
theorem NF_add {rb : List Nat} {F : Nat → Array Value} (b : Nat) : NF (rb ++ [b]) F = NF rb F ++ [(b, F rb.length)] := by
  unfold NF; rw [List.mapIdx_append]; simp
theorem NF_set {rb : List Nat} {F G : Nat → Array Value} {i b : Nat} (h1 : rb[i]? = some b) (hg : ∀ k, k < rb.length → k ≠ i → G k = F k) : (NF rb F).set i (b, G i) = NF rb G := by
  have hi := (List.getElem?_eq_some_iff.1 h1).1
  apply List.ext_getElem?
  intro j
  rw [List.getElem?_set]
  by_cases e : i = j
  · subst e; rw [if_pos rfl, if_pos (by rw [NF_len]; exact hi), NF_at h1]
  · rw [if_neg e]
    by_cases hj : j < rb.length
    · have hb : rb[j]? = some rb[j] := List.getElem?_eq_getElem hj
      rw [NF_at hb, NF_at hb, hg j hj (fun h => e h.symm)]
    · rw [List.getElem?_eq_none (by rw [NF_len]; omega), List.getElem?_eq_none (by rw [NF_len]; omega)]
/-- What a slice of slices of cells of one size reads as. -/
def RdG (s : Nat) (w : World) (sv : Value) (n : Nat) (F : Nat → Nat → Array Value) : Prop := ∃ hv : List Value, RdS 1 w sv (hv.map vc) ∧ hv.length = n ∧ ∀ i, i < n → ∃ v, hv[i]? = some v ∧ RdS s w v (So.ol (F i) n)
theorem ol_len (F : Nat → Array Value) (n : Nat) : (So.ol F n).length = n := by unfold So.ol; simp
theorem ol_congr {F G : Nat → Array Value} {n : Nat} (h : ∀ i, i < n → F i = G i) : So.ol F n = So.ol G n := So.ol_congr h
theorem RdG.below {s : Nat} {w w' : World} {sv : Value} {n : Nat} {F : Nat → Nat → Array Value} (h : RdG s w sv n F) (hb : Below w.heap.size w w') : RdG s w' sv n F := by
  obtain ⟨hv, h1, h2, h3⟩ := h
  refine ⟨hv, h1.below hb, h2, fun i hi => ?_⟩
  obtain ⟨v, h4, h5⟩ := h3 i hi
  exact ⟨v, h4, h5.below hb⟩
theorem RdG.form {s : Nat} {w : World} {sv : Value} {n : Nat} {F : Nat → Nat → Array Value} (h : RdG s w sv n F) : ∃ A cap, sv = .slice A n cap := by
  obtain ⟨hv, h1, h2, _⟩ := h
  obtain ⟨A, cap, e⟩ := h1.form1
  rw [List.length_map, h2] at e
  exact ⟨A, cap, e⟩
theorem RdG.at_ {T : TypeId} {s : Nat} {w : World} {A : Option Addr} {k cap n : Nat} {F : Nat → Nat → Array Value} (h : RdG s w (.slice A k cap) n F) (hT : aggT T = some false) {i : Nat} (hi : i < n) : ∃ b off cs A2 cap2, A = Option.some ⟨b, off, none⟩ ∧ Hid (Rbk w b cs) ∧ LA T cs (off + i) (.slice A2 n cap2) ∧ Hid (RdS s w (.slice A2 n cap2) (So.ol (F i) n)) := by
  obtain ⟨hv, h1, h2, h3⟩ := h
  obtain ⟨v, h4, h5⟩ := h3 i hi
  obtain ⟨A2, cap2, e2⟩ := h5.form1
  rw [ol_len] at e2
  subst e2
  obtain ⟨b, off, cs, e, hb, hc⟩ := RdS.one_at h1 (i := i) (v := .slice A2 n cap2) (by rw [List.getElem?_map, h4]; rfl)
  exact ⟨b, off, cs, A2, cap2, e, hb, LA.one hT hc, Lib.hid h5⟩
theorem rdG_own {s : Nat} {w0 w : World} {X : List Nat} {L : List (Nat × Array Value)} {n bh : Nat} {F : Nat → Nat → Array Value} {rb : List Nat} (HM : Mem w0 X L w) (hr : rb.length = n) (hs : ∀ i j, (F i j).size = s)
    (h2 : (bh, rowsOf ((rv n rb).map vc)) ∈ L) (h3 : ∀ q ∈ NF rb (fun i => rowsOf (So.ol (F i) n)), q ∈ L) : RdG s w (.slice (some ⟨bh, 0, none⟩) n n) n F := by
  refine ⟨rv n rb, ?_, by simp [rv, hr], fun i hi => ?_⟩
  · have h := (SlAt.row (n := 1) bh ((rv n rb).map vc) [] (by intro c hc; rw [List.append_nil] at hc; obtain ⟨x, _, rfl⟩ := List.mem_map.1 hc; rfl)).rd HM (by simpa using h2)
    rw [List.length_nil, Nat.add_zero, List.length_map] at h
    have e : (rv n rb).length = n := by simp [rv, hr]
    rw [e] at h
    exact h
  · have hb : rb[i]? = some rb[i] := List.getElem?_eq_getElem (by omega)
    refine ⟨_, by unfold rv; rw [List.getElem?_map, hb]; rfl, ?_⟩
    have h := (SlAt.row (n := s) rb[i] (So.ol (F i) n) [] (by
      intro c hc; rw [List.append_nil] at hc
      unfold So.ol at hc
      obtain ⟨x, _, rfl⟩ := List.mem_map.1 hc
      exact hs i x)).rd HM (by simpa using h3 _ (List.mem_of_getElem? (NF_at hb)))
    rw [List.length_nil, Nat.add_zero, ol_len] at h
    exact h
/-! Rows of bools -/
theorem bc_ol (f : Nat → Bool) (n : Nat) : ∀ c ∈ So.ol (fun j => bc (f j)) n, c.size = 1 := by
  intro c hc; unfold So.ol at hc; obtain ⟨x, _, rfl⟩ := List.mem_map.1 hc; rfl
theorem la_bo1 (f : Nat → Bool) {n j : Nat} (hj : j < n) : LA 4 (rowsOf (So.ol (fun j => bc (f j)) n)) j (.bool (f j)) := by
  refine LA.one (by kernel_rfl) ?_
  have := rows_at (bc_ol f n) (k := j) (j := 0) (c := bc (f j)) (So.ol_at _ hj) (by decide)
  rw [Nat.one_mul, Nat.add_zero] at this
  rw [this]; rfl
theorem sa_bo1 (f g : Nat → Bool) {n j : Nat} {v : Bool} (hj : j < n) (hv : g j = v) (hg : ∀ k, k ≠ j → g k = f k) : SA 4 (rowsOf (So.ol (fun j => bc (f j)) n)) j (.bool v) (rowsOf (So.ol (fun j => bc (g j)) n)) := by
  have := sa_rowone (T := 4) (n := 1) (a := 0) (l := So.ol (fun j => bc (f j)) n) (k := j) (v := .bool v) (by kernel_rfl) (bc_ol f n) (So.ol_at _ hj) (by decide) rfl
  rw [Nat.mul_one, Nat.add_zero] at this
  have e : (So.ol (fun j => bc (f j)) n).set j ((bc (f j)).setIfInBounds 0 (.bool v)) = So.ol (fun j => bc (g j)) n := by
    have e2 : (bc (f j)).setIfInBounds 0 (.bool v) = bc (g j) := by rw [hv]; rfl
    rw [e2]
    exact So.ol_set (F := fun j => bc (f j)) (G := fun j => bc (g j)) fun k _ => by
      by_cases e : k = j
      · subst e; rw [if_pos rfl]
      · rw [if_neg e, hg k e]
  rw [e] at this
  exact this
theorem za_b : ZA 4 (bc false) := ⟨.bool false, rfl, fun w => by kernel_rfl⟩
theorem za_sb : ZA 79 (vc (.slice none 0 0)) := ⟨.slice none 0 0, rfl, fun w => by kernel_rfl⟩
theorem rep_bools (n : Nat) : List.replicate n (bc false) = So.ol (fun _ => bc false) n := by
  unfold So.ol
  apply List.ext_getElem?
  intro i
  by_cases h : i < n
  · rw [List.getElem?_replicate, if_pos h, List.getElem?_map, List.getElem?_range h]; rfl
  · rw [List.getElem?_eq_none (by simp; omega), List.getElem?_eq_none (by simp; omega)]
theorem sa_valsB (l : List Value) {i : Nat} (v : Value) (h : i < l.length) (hv : v.oneCell' = true) : SA 79 (rowsOf (l.map vc)) i v (rowsOf ((l.set i v).map vc)) := by
  have hs : ∀ c ∈ l.map vc, c.size = 1 := by intro c hc; obtain ⟨x, _, rfl⟩ := List.mem_map.1 hc; rfl
  have h1 : (l.map vc)[i]? = some (vc l[i]) := by rw [List.getElem?_map, List.getElem?_eq_getElem h]; rfl
  have := sa_rowone (T := 79) (n := 1) (a := 0) (l := l.map vc) (k := i) (v := v) (by kernel_rfl) hs h1 (by decide) hv
  rw [Nat.mul_one, Nat.add_zero] at this
  have e : (l.map vc).set i ((vc l[i]).setIfInBounds 0 v) = (l.set i v).map vc := by rw [List.map_set]; rfl
  rw [e] at this
  exact this
theorem la_valsB {l : List Value} {i : Nat} {v : Value} (h : l[i]? = some v) : LA 79 (rowsOf (l.map vc)) i v := by
  refine LA.one (by kernel_rfl) ?_
  have hs : ∀ c ∈ l.map vc, c.size = 1 := by intro c hc; obtain ⟨x, _, rfl⟩ := List.mem_map.1 hc; rfl
  have := rows_at hs (k := i) (j := 0) (c := vc v) (by rw [List.getElem?_map, h]; rfl) (by decide)
  rw [Nat.one_mul, Nat.add_zero] at this
  rw [this]; rfl
namespace Ns
open Classical in
noncomputable def pk (h : Nat → Nat → Int) (k i j : Nat) : Bool := decide (Pk h k i j)
theorem pk_iff {h : Nat → Nat → Int} {k i j : Nat} : pk h k i j = true ↔ Pk h k i j := by unfold pk; simp
theorem pk_step {h : Nat → Nat → Int} {k i j : Nat} : pk h (k + 1) i j = (pk h k i j || (pk h k i k && pk h k k j)) := by
  rw [Bool.eq_iff_iff]
  simp only [Bool.or_eq_true, Bool.and_eq_true, pk_iff]
  rfl
theorem pk_col {h : Nat → Nat → Int} {k i : Nat} : pk h (k + 1) i k = pk h k i k := by
  rw [Bool.eq_iff_iff, pk_iff, pk_iff]; exact Pk.col
theorem pk_row {h : Nat → Nat → Int} {k j : Nat} : pk h (k + 1) k j = pk h k k j := by
  rw [Bool.eq_iff_iff, pk_iff, pk_iff]; exact Pk.row
/-- The document's rows of bools: before (k, i, j) one step on. -/
noncomputable def wst (h : Nat → Nat → Int) (k i j : Nat) (a b : Nat) : Bool := if a < i ∨ (a = i ∧ b < j) then pk h (k + 1) a b else pk h k a b
theorem wst_row {h : Nat → Nat → Int} {n k i a b : Nat} (hb : b < n) : wst h k i n a b = wst h k (i + 1) 0 a b := by
  unfold wst
  by_cases e : a < i ∨ (a = i ∧ b < n)
  · rw [if_pos e, if_pos (by omega)]
  · rw [if_neg e, if_neg (by omega)]
theorem wst_mat {h : Nat → Nat → Int} {n k a b : Nat} (ha : a < n) : wst h k n 0 a b = wst h (k + 1) 0 0 a b := by
  unfold wst
  rw [if_pos (by omega), if_neg (by omega)]
theorem wst_start {h : Nat → Nat → Int} {a b : Nat} : wst h 0 0 0 a b = (decide (a = b) || decide (0 < h a b)) := by
  unfold wst
  rw [if_neg (by omega), Bool.eq_iff_iff, pk_iff]
  simp only [Bool.or_eq_true, decide_eq_true_eq]
  rfl
theorem wst_new {h : Nat → Nat → Int} {k i j : Nat} : wst h k i (j + 1) i j = (wst h k i j i j || (wst h k i j i k && wst h k i j k j)) := by
  have e1 : wst h k i j i j = pk h k i j := by unfold wst; rw [if_neg (by omega)]
  have e2 : wst h k i j i k = pk h k i k := by
    unfold wst
    by_cases e : k < j
    · rw [if_pos (by omega), pk_col]
    · rw [if_neg (by omega)]
  have e3 : wst h k i j k j = pk h k k j := by
    unfold wst
    by_cases e : k < i
    · rw [if_pos (by omega), pk_row]
    · rw [if_neg (by omega)]
  have e4 : wst h k i (j + 1) i j = pk h (k + 1) i j := by unfold wst; rw [if_pos (by omega)]
  rw [e1, e2, e3, e4, pk_step]
theorem wst_old {h : Nat → Nat → Int} {k i j a b : Nat} (hne : ¬ (a = i ∧ b = j)) : wst h k i (j + 1) a b = wst h k i j a b := by
  unfold wst
  by_cases e : a < i ∨ (a = i ∧ b < j)
  · rw [if_pos e, if_pos (by omega)]
  · rw [if_neg e, if_neg (by omega)]
theorem wst_done {n : Nat} {h : Nat → Nat → Int} {a b : Nat} (ha : a < n) (hb : b < n) : wst h n 0 0 a b = rch n h a b := by
  unfold wst
  rw [if_neg (by omega), Bool.eq_iff_iff, pk_iff, rch_iff]
  exact Pk.iff ha hb
end Ns
end Go.Proofs.Ytadnddffdedjgaa
