/- A slice of ints of the call's own, sorted by the library. -/
import Derived.Test.YtaokneooejbfkaaJoB
import Derived.Test.YtaokneooejbfkaaLay
import Derived.Sort.OwnSorted
namespace Go.Proofs.Ytaokneooejbfkaa
set_option maxRecDepth 8000
open Go.RowKit Go.Maps Go.Sort
theorem V1_rows : ∀ vs : List Value, rowsOf (V1 vs) = vs.toArray
  | [] => rfl
  | v :: vs => by
    show #[v] ++ rowsOf (V1 vs) = _
    rw [V1_rows vs]
    apply Array.ext'
    simp
theorem V1_of {sp : List (Array Value)} (h : ∀ c ∈ sp, c.size = 1) : ∃ vs, sp = V1 vs := by
  induction sp with
  | nil => exact ⟨[], rfl⟩
  | cons c sp ih =>
    obtain ⟨vs, rfl⟩ := ih (fun d hd => h d (List.mem_cons_of_mem _ hd))
    obtain ⟨v, rfl⟩ : ∃ v, c = #[v] := by
      have hc := h c List.mem_cons_self
      exact ⟨c[0], by apply Array.ext_getElem?; intro i; match i with | 0 => simp | i + 1 => simp; omega⟩
    exact ⟨v :: vs, rfl⟩
theorem V1_blk {w : World} {b : Nat} {vs us : List Value} (h : Blk w b (rowsOf (V1 vs ++ V1 us))) {j : Nat} {v : Value} (hj : vs[j]? = some v) : w.cell? ⟨b, j, none⟩ = some v := by
  rw [← V1_app, V1_rows] at h
  rw [h.cell]
  have := (List.getElem?_eq_some_iff.1 hj).1
  simp [List.getElem?_append_left this, hj]
section
variable {α : Type} [Inhabited α] (enc : α → Value)
theorem holds_V1 {w : World} {b : Nat} {zs : List α} {us : List Value} (h : Blk w b (rowsOf (V1 (zs.map enc) ++ V1 us))) : Holds enc w b 0 zs.toArray := by
  intro j hj
  have hj' : j < zs.length := by simpa using hj
  refine ⟨?_, h.free _⟩
  rw [Nat.zero_add, V1_blk h (v := enc zs[j]) (by rw [List.getElem?_map, List.getElem?_eq_getElem hj']; rfl)]
  simp [hj']
theorem put_V1 {zs ts : List α} {us : List Value} (hl : ts.length = zs.length) : putCells enc 0 ts.toArray (rowsOf (V1 (zs.map enc) ++ V1 us)) = rowsOf (V1 (ts.map enc) ++ V1 us) := by
  rw [← V1_app, V1_rows, ← V1_app, V1_rows]
  apply Array.ext_getElem?
  intro j
  simp only [putCells, Array.getElem?_mapIdx, List.getElem?_toArray]
  by_cases hj : j < ts.length
  · rw [List.getElem?_append_left (by simpa using (by omega : j < zs.length)), List.getElem?_append_left (by simpa using hj), List.getElem?_map, List.getElem?_map, List.getElem?_eq_getElem (show j < zs.length by omega), List.getElem?_eq_getElem hj]
    simp [hj]
  · rw [List.getElem?_append_right (by simp; omega), List.getElem?_append_right (by simp; omega), List.length_map, List.length_map, hl]
    cases us[j - zs.length]? <;> simp [hj]
theorem blk_sorted {w : World} {b n : Nat} {os : Array Obj} {zs ts : List α} {us : List Value} (h : Blk w b (rowsOf (V1 (zs.map enc) ++ V1 us))) (hl : ts.length = zs.length) :
    Blk (grow (putRow enc (Sort.ahead w n) b 0 ts.toArray) os) b (rowsOf (V1 (ts.map enc) ++ V1 us)) ∧ Only [b] w (grow (putRow enc (Sort.ahead w n) b 0 ts.toArray) os) := by
  obtain ⟨t, hb⟩ := h
  have hg : b < w.heap.size := (Array.getElem?_eq_some_iff.1 hb).1
  refine ⟨⟨t, ?_⟩, rfl, rfl, rfl, by simp, fun k hk hne => ?_⟩
  · rw [heap_grow_old _ _ (by simpa using hg), ← put_V1 enc hl]
    simp [putRow, mapBlock, Sort.ahead, Array.getElem?_modify, hb, onCells]
  · rw [heap_grow_old _ _ (by simpa using hk)]
    have : b ≠ k := fun e => hne (by simp [e])
    simp [putRow, mapBlock, Sort.ahead, Array.getElem?_modify, this]
end
theorem sortI_any {w0 w : World} {X : List Nat} {B : List (Nat × Array Value)} {sv : Value} (zs ts : List Int) (HM : Mem w0 X B w) (HS : SlAt 1 sv (V1 (zs.map (Value.int .i64))) B) (hl : zs.length ≤ 1000000000) (ht : Hid (zs.mergeSort (fun x y => decide (x ≤ y)) = ts)) :
    Calls Try.prog 16 #[sv] w fun e w' => e = .returned (.tuple #[]) ∧ ∃ B', SlAt 1 sv (V1 (ts.map (Value.int .i64))) B' ∧ Mem w0 X B' w' := by
  have hlen : ts.length = zs.length := by rw [← ht.out]; simp
  generalize hv : V1 (zs.map (Value.int .i64)) = l at HS
  cases HS with
  | nil =>
    have h0 : zs = [] := by
      cases zs with
      | nil => rfl
      | cons a r => cases hv
    subst h0
    obtain rfl : ts = [] := List.eq_nil_of_length_eq_zero (by simpa using hlen)
    refine (AnyM.slices_Sort_int_none Try.laySortI none 0 w).mono ?_
    rintro e w' ⟨rfl, rfl⟩
    exact ⟨rfl, [], .nil, HM⟩
  | row b l sp h =>
    subst hv
    obtain ⟨us, rfl⟩ := V1_of (fun c hc => h c (List.mem_append_right _ hc))
    have hb : Blk w b (rowsOf (V1 (zs.map (Value.int .i64)) ++ V1 us)) := HM.blk (b, _) (by simp)
    have hll : (V1 (zs.map (Value.int .i64))).length = zs.length := by rw [V1_len, List.length_map]
    have hlt : (V1 (ts.map (Value.int .i64))).length = zs.length := by rw [V1_len, List.length_map, hlen]
    have hc := AnyM.slices_Sort_int Try.laySortI b 0 ((V1 (zs.map (Value.int .i64))).length + (V1 us).length) zs w (holds_V1 _ hb) hb.lt (by omega)
    rw [← hll] at hc
    refine hc.mono ?_
    rintro e w' ⟨rfl, n, os, rfl⟩
    rw [ht.out]
    obtain ⟨h1, h2⟩ := blk_sorted (Value.int .i64) (n := n) (os := os) hb hlen
    refine ⟨rfl, [(b, _)], ?_, HM.put At.here h1 h2⟩
    have := SlAt.row (n := 1) b (V1 (ts.map (Value.int .i64))) (V1 us) (by
      intro c hc
      rcases List.mem_append.1 hc with hc | hc <;> exact V1_size _ c hc)
    rw [hlt] at this
    rw [hll]
    exact this
/-- The same beside other blocks. -/
theorem sortJ_any {w0 w : World} {X : List Nat} (K : List (Nat × Array Value)) {B : List (Nat × Array Value)} {sv : Value} (zs l : List Int) (HM : Mem w0 X (K ++ B) w) (HS : SlAt 1 sv (Jo.ir zs) B) (hl : zs.length ≤ 1000000000) (hn : zs.Nodup) (h : ∀ x, x ∈ zs ↔ x ∈ l) :
    Calls Try.prog 16 #[sv] w fun e w' => e = .returned (.tuple #[]) ∧ ∃ B', SlAt 1 sv (Jo.ir (Jo.srt l)) B' ∧ Mem w0 X (K ++ B') w' := by
  have hnd := HM.nod
  rw [List.map_append, List.nodup_append] at hnd
  have hB : Mem w0 X B w := ⟨HM.only, fun p hp => HM.blk p (List.mem_append_right _ hp), fun p hp => HM.own p (List.mem_append_right _ hp), hnd.2.1⟩
  refine (sortI_any zs (Jo.srt l) hB.rebase HS hl (Lib.hid (Jo.sort_srt hn h))).mono ?_
  rintro e w' ⟨rfl, B', hS, hM⟩
  exact ⟨rfl, B', hS, HM.part hM⟩
end Go.Proofs.Ytaokneooejbfkaa
