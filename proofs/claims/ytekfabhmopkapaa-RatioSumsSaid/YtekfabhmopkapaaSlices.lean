/- Slices of the call's own: records in a block of the list, spare ones behind them; append. -/
import Derived.Test.YtekfabhmopkapaaCells
import Derived.Deep.AppendSrc
namespace Go.Proofs.Ytekfabhmopkapaa
set_option maxRecDepth 8000
open Go.RowKit
/-- A list of blocks with a hole for some blocks. -/
inductive Hole : (List (Nat × Array Value) → List (Nat × Array Value)) → List (Nat × Array Value) → Prop
  | id : Hole (fun B => B) []
  | front {R : List (Nat × Array Value)} : Hole (fun B => B ++ R) R
  | cons {p : Nat × Array Value} {F : List (Nat × Array Value) → List (Nat × Array Value)} {K : List (Nat × Array Value)} (h : Hole F K) : Hole (fun B => p :: F B) (p :: K)
  | app {R : List (Nat × Array Value)} {F : List (Nat × Array Value) → List (Nat × Array Value)} {K : List (Nat × Array Value)} (h : Hole F K) : Hole (fun B => R ++ F B) (R ++ K)
theorem Hole.perm {F : List (Nat × Array Value) → List (Nat × Array Value)} {K : List (Nat × Array Value)} (h : Hole F K) (B : List (Nat × Array Value)) : (F B).Perm (B ++ K) := by
  induction h with
  | id => simp
  | front => exact .refl _
  | cons h ih => exact (ih.cons _).trans (List.perm_middle.symm)
  | @app R F K h ih =>
    refine (ih.append_left R).trans ?_
    rw [← List.append_assoc, ← List.append_assoc]
    exact List.perm_append_comm.append_right K
theorem Mem.perm {w0 w : World} {X : List Nat} {L L' : List (Nat × Array Value)} (h : Mem w0 X L w) (hp : L'.Perm L) : Mem w0 X L' w :=
  ⟨h.only, fun q hq => h.blk q (hp.mem_iff.1 hq), fun q hq => h.own q (hp.mem_iff.1 hq), (hp.map _).nodup_iff.2 h.nod⟩
/-- A slice value, its records, its block. -/
inductive SlAt (n : Nat) : Value → List (Array Value) → List (Nat × Array Value) → Prop
  | nil : SlAt n (.slice none 0 0) [] []
  | row (b : Nat) (l sp : List (Array Value)) (h : ∀ c ∈ l ++ sp, c.size = n) : SlAt n (.slice (some ⟨b, 0, none⟩) l.length (l.length + sp.length)) l [(b, rowsOf (l ++ sp))]
theorem SlAt.val {n : Nat} {s : Value} {l : List (Array Value)} {B : List (Nat × Array Value)} (h : SlAt n s l B) : ∃ A cap, s = .slice A l.length cap ∧ l.length ≤ cap := by
  cases h with
  | nil => exact ⟨none, 0, rfl, Nat.le_refl _⟩
  | row b l sp h => exact ⟨_, _, rfl, Nat.le_add_right _ _⟩
theorem SlAt.sizes {n : Nat} {s : Value} {l : List (Array Value)} {B : List (Nat × Array Value)} (h : SlAt n s l B) : ∀ c ∈ l, c.size = n := by
  cases h with
  | nil => simp
  | row b l sp h => exact fun c hc => h c (List.mem_append_left _ hc)
theorem rows_append : ∀ (l m : List (Array Value)), rowsOf (l ++ m) = rowsOf l ++ rowsOf m
  | [], m => by simp [rowsOf]
  | c :: l, m => by rw [List.cons_append, rowsOf, rows_append l m, rowsOf, Array.append_assoc]
theorem rows_cells_one {l : List (Array Value)} (h : ∀ c ∈ l, c.all (·.oneCell') = true) : (rowsOf l).all (·.oneCell') = true := by
  induction l with
  | nil => simp [rowsOf]
  | cons c l ih => rw [rowsOf, Array.all_append, h c List.mem_cons_self, ih (fun d hd => h d (List.mem_cons_of_mem _ hd))]; rfl
theorem zeroCells_rows (z : Array Value) : ∀ n : Nat, Builtin.zeroCells z n = rowsOf (List.replicate n z) := by
  intro n
  have hs : ∀ c ∈ List.replicate n z, c.size = z.size := fun c hc => by rw [List.eq_of_mem_replicate hc]
  apply Array.ext_getElem?
  intro j
  have hsz : (rowsOf (List.replicate n z)).size = n * z.size := by rw [rows_size hs, List.length_replicate, Nat.mul_comm]
  by_cases hj : j < n * z.size
  · have hz : 0 < z.size := by
      rcases Nat.eq_zero_or_pos z.size with h | h
      · rw [h] at hj; omega
      · exact h
    have e := Nat.div_add_mod j z.size
    have hm := Nat.mod_lt j hz
    have hq : j / z.size < n := Nat.div_lt_of_lt_mul (by rw [Nat.mul_comm]; exact hj)
    have := rows_at hs (k := j / z.size) (j := j % z.size) (c := z) (by simp [hq]) hm
    rw [e] at this
    rw [this]
    unfold Builtin.zeroCells
    simp [hj, hm]
  · rw [Array.getElem?_eq_none (by unfold Builtin.zeroCells; simp; omega), Array.getElem?_eq_none (by omega)]
theorem blk_take {w : World} {b : Nat} {c : Array Value} (hb : Blk w b c) (o : Nat) : w.cell? ⟨b, o, none⟩ = c[o]? := hb.cell o
/-- append, whatever the room: the slice holds the new records behind the old ones. -/
theorem run_app {w0 w : World} {X : List Nat} {L B K : List (Nat × Array Value)} {F : List (Nat × Array Value) → List (Nat × Array Value)} {n by_ : Nat} {s x : Value} {l m : List (Array Value)} {t tx ty e : TypeId} {i : TypeInfo} {z : Value}
    (HM : Mem w0 X L w) (HS : SlAt n s l B) (hF : Hole F K) (hp : Pk (F B) L)
    (ht : Try.prog.underlying t = some (.slice e)) (hi : Try.prog.info? e = some i) (hz : i.zero = some z) (hn : i.size = n) (hby : i.bytes = by_) (hzn : z.cells.size = n) (h0 : 0 < n)
    (hs : Src Try.prog n tx x m.length (rowsOf m).toList w) (hm : ∀ c ∈ m, c.size = n) (h1 : (l.length + m.length) * (by_ + 1) ≤ 140737488355328) :
    ∃ s' B' w', (Builtin.append_ #[t, tx] ty #[s, x]).run Try.prog w = .ok s' w' ∧ SlAt n s' (l ++ m) B' ∧ Mem w0 X (F B') w' := by
  subst hn
  have hlen : ((rowsOf m).toList).length = m.length * i.size := by rw [Array.length_toList, rows_size hm, Nat.mul_comm]
  have hb1 : l.length + m.length ≤ 140737488355328 := Nat.le_trans (Nat.le_mul_of_pos_right _ (by omega)) h1
  have hb2 : (l.length + m.length) * i.bytes ≤ 140737488355328 := Nat.le_trans (Nat.mul_le_mul_left _ (by omega)) h1
  have HF : Mem w0 X (B ++ K) w := (HM.pk hp).perm (hF.perm B).symm
  have grow : ∀ (A : Option Addr) (cap : Nat), (Builtin.firstCells i.size l.length (.slice A l.length cap)).run Try.prog w.drew = .ok (rowsOf l).toList.toArray w.drew → cap < l.length + m.length → (∀ c ∈ l, c.size = i.size) →
      ∃ s' B' w', (Builtin.append_ #[t, tx] ty #[.slice A l.length cap, x]).run Try.prog w = .ok s' w' ∧ SlAt i.size s' (l ++ m) B' ∧ Mem w0 X (F B') w' := by
    intro A cap hold hg hl
    have hr := run_append_grow_src (P := Try.prog) w t tx ty e i z ht hi hz A l.length cap (rowsOf l).toList hold x m.length (rowsOf m).toList hs hg (by omega) (growslice_fits hg hb2)
    obtain ⟨c, hc⟩ : ∃ c, c = grownCap w (l.length + m.length) cap e := ⟨_, rfl⟩
    have hge := grownCap_ge w (l.length + m.length) cap e
    rw [← hc] at hr hge
    have hcells : ((rowsOf l).toList ++ (rowsOf m).toList).toArray ++ Builtin.zeroCells z.cells (c - (l.length + m.length)) = rowsOf ((l ++ m) ++ List.replicate (c - (l.length + m.length)) z.cells) := by
      rw [zeroCells_rows, rows_append, rows_append]
      apply Array.ext'
      simp [List.append_assoc]
    rw [hcells] at hr
    refine ⟨_, [(w.heap.size, rowsOf ((l ++ m) ++ List.replicate (c - (l.length + m.length)) z.cells))], _, hr, ?_, ?_⟩
    · have := SlAt.row (n := i.size) w.heap.size (l ++ m) (List.replicate (c - (l.length + m.length)) z.cells) (by
        intro d hd
        rcases List.mem_append.1 hd with h | h
        · rcases List.mem_append.1 h with h | h
          · exact hl d h
          · exact hm d h
        · rw [List.eq_of_mem_replicate h]; exact hzn)
      rw [List.length_append, List.length_replicate, show l.length + m.length + (c - (l.length + m.length)) = c from by omega] at this
      exact this
    · have h2 := (HF.drew).new (rowsOf ((l ++ m) ++ List.replicate (c - (l.length + m.length)) z.cells)) e
      have h3 : Mem w0 X ((w.heap.size, rowsOf ((l ++ m) ++ List.replicate (c - (l.length + m.length)) z.cells)) :: K) (w.drew.alloc (.cells (rowsOf ((l ++ m) ++ List.replicate (c - (l.length + m.length)) z.cells)) e)) := by
        have hsub : List.Sublist ((w.heap.size, rowsOf ((l ++ m) ++ List.replicate (c - (l.length + m.length)) z.cells)) :: K) ((w.drew.heap.size, rowsOf ((l ++ m) ++ List.replicate (c - (l.length + m.length)) z.cells)) :: (B ++ K)) := List.Sublist.cons_cons _ (List.sublist_append_right _ _)
        exact ⟨h2.only, fun p hp => h2.blk p (hsub.mem hp), fun p hp => h2.own p (hsub.mem hp), (hsub.map _).nodup h2.nod⟩
      exact h3.perm (hF.perm _)
  cases HS with
  | nil =>
    by_cases hm0 : m.length = 0
    · obtain rfl : m = [] := List.eq_nil_of_length_eq_zero hm0
      refine ⟨.slice none 0 0, [], w, ?_, .nil, HF.perm (hF.perm [])⟩
      have hcells : (Builtin.firstCells i.size 0 x).run Try.prog w = .ok #[] w := by simpa [rowsOf] using hs.cells
      rcases hs.kind with ⟨e', hk⟩ | hk <;> simp [Builtin.append_, run_underlying ht, run_underlying hk, sizeOf, typeInfo, hi, hs.len, hcells]
    · exact grow none 0 (by rw [run_firstCells_none]; simp [rowsOf]) (by simpa using Nat.pos_of_ne_zero hm0) (by simp)
  | row b l sp h =>
    have hl : ∀ c ∈ l, c.size = i.size := fun c hc => h c (List.mem_append_left _ hc)
    have hblk : Blk w b (rowsOf (l ++ sp)) := HF.blk (b, rowsOf (l ++ sp)) (by simp)
    have hrl : (rowsOf l).size = i.size * l.length := rows_size hl
    have hrs : (rowsOf (l ++ sp)).size = i.size * (l ++ sp).length := rows_size h
    by_cases hroom : l.length + m.length ≤ l.length + sp.length
    · have hroom' : m.length ≤ sp.length := by omega
      have hj : ∀ j, j < ((rowsOf m).toList).length → 0 + l.length * i.size + j < (rowsOf (l ++ sp)).size := by
        intro j hj
        rw [hlen] at hj
        rw [hrs, List.length_append, Nat.mul_add, Nat.mul_comm i.size l.length]
        have := Nat.mul_le_mul_right i.size hroom'
        rw [Nat.mul_comm i.size sp.length]; omega
      have hr := run_append_room_src (P := Try.prog) w t tx ty e i ht hi b 0 l.length (l.length + sp.length) x m.length (rowsOf m).toList hs hroom (fun j hj' => by rw [hblk.cell, Array.getElem?_eq_getElem (hj j hj')]; rfl) (fun j hj' => hblk.free _)
      have hset : setAll (rowsOf (l ++ sp)) (0 + l.length * i.size) (rowsOf m).toList = rowsOf ((l ++ m) ++ sp.drop m.length) := by
        apply Array.ext_getElem?
        intro j
        have e1 : rowsOf ((l ++ m) ++ sp.drop m.length) = rowsOf l ++ (rowsOf m ++ rowsOf (sp.drop m.length)) := by rw [rows_append, rows_append, Array.append_assoc]
        have e2 : rowsOf (l ++ sp) = rowsOf l ++ (rowsOf (sp.take m.length) ++ rowsOf (sp.drop m.length)) := by rw [← rows_append, List.take_append_drop, rows_append]
        have s1 : (rowsOf m).size = m.length * i.size := by rw [rows_size hm, Nat.mul_comm]
        have s2 : (rowsOf (sp.take m.length)).size = m.length * i.size := by
          rw [rows_size (fun c hc => h c (List.mem_append_right _ (List.mem_of_mem_take hc))), List.length_take, Nat.min_eq_left hroom', Nat.mul_comm]
        have s4 : (rowsOf l).size = l.length * i.size := by rw [hrl, Nat.mul_comm]
        rw [sets_at, hlen, e1, Nat.zero_add]
        have hle : l.length * i.size + m.length * i.size ≤ (rowsOf (l ++ sp)).size := by
          rw [hrs, List.length_append, Nat.mul_add, Nat.mul_comm i.size l.length, Nat.mul_comm i.size sp.length]
          exact Nat.add_le_add_left (Nat.mul_le_mul_right _ hroom') _
        by_cases c1 : j < l.length * i.size
        · rw [if_neg (by omega), e2, Array.getElem?_append, if_pos (by omega), Array.getElem?_append, if_pos (by omega)]
        · by_cases c2 : j < l.length * i.size + m.length * i.size
          · rw [if_pos ⟨by omega, c2, by omega⟩, Array.getElem?_append, if_neg (by omega), Array.getElem?_append, if_pos (by omega), s4, Array.getElem?_toList]
          · rw [if_neg (by omega), e2, Array.getElem?_append, if_neg (by omega), Array.getElem?_append, if_neg (by omega), Array.getElem?_append, if_neg (by omega), Array.getElem?_append, if_neg (by omega), s1, s2]
      refine ⟨_, [(b, rowsOf ((l ++ m) ++ sp.drop m.length))], _, hr, ?_, ?_⟩
      · have := SlAt.row (n := i.size) b (l ++ m) (sp.drop m.length) (by
          intro d hd
          rcases List.mem_append.1 hd with h' | h'
          · rcases List.mem_append.1 h' with h' | h'
            · exact hl d h'
            · exact hm d h'
          · exact h d (List.mem_append_right _ (List.mem_of_mem_drop h')))
        rw [List.length_append, List.length_drop, show l.length + m.length + (sp.length - m.length) = l.length + sp.length from by omega] at this
        exact this
      · have hput := HF.put (L' := (b, rowsOf ((l ++ m) ++ sp.drop m.length)) :: K) (b := b) (c := rowsOf (l ++ sp)) (c' := rowsOf ((l ++ m) ++ sp.drop m.length)) .here (hset ▸ blk_setCells (rowsOf m).toList (0 + l.length * i.size) _ w hblk) (only_setCells _ _ _ w hblk)
        exact hput.perm (hF.perm _)
    · exact grow (some ⟨b, 0, none⟩) (l.length + sp.length) (by
        refine run_firstCells_some w.drew i.size l.length ⟨b, 0, none⟩ l.length _ (rowsOf l).toList (by rw [Array.length_toList, hrl, Nat.mul_comm]) (fun j v hv => ?_)
        have hc := hblk.cell (0 + j)
        rw [Addr.add_lit]
        show w.cell? _ = _
        rw [hc, Nat.zero_add, rows_append, Array.getElem?_append, if_pos (by
          have := (List.getElem?_eq_some_iff.1 hv).1
          simpa using this), ← Array.getElem?_toList]
        exact hv) (by omega) hl
end Go.Proofs.Ytekfabhmopkapaa
