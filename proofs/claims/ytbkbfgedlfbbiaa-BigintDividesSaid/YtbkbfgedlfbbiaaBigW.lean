/- Words for memory that holds limbs. -/
import Derived.Test.YtbkbfgedlfbbiaaCalW
import Derived.Test.YtbkbfgedlfbbiaaBigMath
import Derived.Deep.MidRow
import Derived.Deep.WholeRow
import Derived.ChangeKeysEq
namespace Go.Proofs.Ytbkbfgedlfbbiaa
open Go.RowKit
namespace Bg
def lv (N i : Nat) : Value := .int .u32 (limb N i : Nat)
@[irreducible] def lims (n N : Nat) : List Value := (List.range n).map (lv N)
@[irreducible] def row (n N : Nat) : Array Value := (lims n N).toArray
def magV (N : Nat) : Value := .agg (row 32 N)
@[irreducible] def intA (s : Bool) (N : Nat) : Array Value := (Value.bool s :: lims 32 N).toArray
def intV (s : Bool) (N : Nat) : Value := .agg (intA s N)
theorem lims_row (n N : Nat) : (lims n N).toArray = row n N := by unfold row; rfl
theorem lims_length (n N : Nat) : (lims n N).length = n := by simp [lims]
theorem row_size (n N : Nat) : (row n N).size = n := by simp [row, lims]
theorem intA_size (s : Bool) (N : Nat) : (intA s N).size = 33 := by simp [intA, lims]
theorem lims_at (n N i : Nat) (h : i < n) : (lims n N)[i]? = some (lv N i) := by simp [lims, h]
theorem row_at (n N i : Nat) (h : i < n) : (row n N)[i]? = some (lv N i) := by simp [row, lims, h]
theorem intA_at (s : Bool) (N i : Nat) (h : i < 32) : (intA s N)[i + 1]? = some (lv N i) := by simp [intA, lims, h]
theorem intA_neg (s : Bool) (N : Nat) : (intA s N)[0]? = some (.bool s) := by simp [intA]
theorem row_one (n N : Nat) : (row n N).all (·.oneCell') = true := by
  simp [row, lims, lv, Value.oneCell']
theorem intA_one (s : Bool) (N : Nat) : (intA s N).all (·.oneCell') = true := by
  simp [intA, lims, lv, Value.oneCell']
theorem row_set (n N i x : Nat) (hx : x < 4294967296) : (row n N).setIfInBounds i (.int .u32 (x : Nat)) = row n (setL N i x) := by
  apply Array.ext_getElem?
  intro j
  rw [Array.getElem?_setIfInBounds]
  by_cases hj : j < n
  · rw [row_at n _ j hj]
    by_cases e : i = j
    · subst e; rw [if_pos rfl, row_size, if_pos hj, row_at n _ i hj]; simp [lv, setL_limb _ _ _ _ hx]
    · rw [if_neg e, row_at n _ j hj]; simp [lv, setL_limb _ _ _ _ hx, Ne.symm e]
  · rw [Array.getElem?_eq_none (by rw [row_size]; omega), Array.getElem?_eq_none (by rw [row_size]; omega)]
    by_cases e : i = j
    · subst e; simp [row_size, hj]
    · rw [if_neg e]
theorem row_inj {n N M : Nat} (hN : N < pw n) (hM : M < pw n) : row n N = row n M ↔ N = M := by
  constructor
  · intro h
    refine limb_ext n N M hN hM (fun i hi => ?_)
    have h1 := row_at n N i hi
    rw [h, row_at n M i hi] at h1
    simp [lv] at h1; omega
  · intro h; rw [h]
theorem zero32 : #[Value.int .u32 0, .int .u32 0, .int .u32 0, .int .u32 0, .int .u32 0, .int .u32 0, .int .u32 0, .int .u32 0, .int .u32 0, .int .u32 0, .int .u32 0, .int .u32 0, .int .u32 0, .int .u32 0, .int .u32 0, .int .u32 0, .int .u32 0, .int .u32 0, .int .u32 0, .int .u32 0, .int .u32 0, .int .u32 0, .int .u32 0, .int .u32 0, .int .u32 0, .int .u32 0, .int .u32 0, .int .u32 0, .int .u32 0, .int .u32 0, .int .u32 0, .int .u32 0] = row 32 0 := by
  kernel_rfl
theorem zeroInt : #[Value.bool false, .int .u32 0, .int .u32 0, .int .u32 0, .int .u32 0, .int .u32 0, .int .u32 0, .int .u32 0, .int .u32 0, .int .u32 0, .int .u32 0, .int .u32 0, .int .u32 0, .int .u32 0, .int .u32 0, .int .u32 0, .int .u32 0, .int .u32 0, .int .u32 0, .int .u32 0, .int .u32 0, .int .u32 0, .int .u32 0, .int .u32 0, .int .u32 0, .int .u32 0, .int .u32 0, .int .u32 0, .int .u32 0, .int .u32 0, .int .u32 0, .int .u32 0, .int .u32 0] = intA false 0 := by
  kernel_rfl
end Bg
/-- Block b is just these cells. -/
def Blk (w : World) (b : Nat) (c : Array Value) : Prop := ∃ t, w.heap[b]? = some (.cells c t (0, 0))
theorem Blk.lt {w : World} {b : Nat} {c : Array Value} (h : Blk w b c) : b < w.heap.size := by
  obtain ⟨t, h⟩ := h; exact (Array.getElem?_eq_some_iff.1 h).1
theorem Blk.kept {w w' : World} {b : Nat} {c : Array Value} (h : Blk w b c) (e : w'.heap[b]? = w.heap[b]?) : Blk w' b c := by
  obtain ⟨t, h⟩ := h; exact ⟨t, e.trans h⟩
theorem Blk.below {w w' : World} {b B : Nat} {c : Array Value} (h : Blk w b c) (hb : Below B w w') (hB : b < B) : Blk w' b c := h.kept (hb.block b hB)
theorem Blk.turn {w w' : World} {b : Nat} {r : Option Nat} {c : Array Value} (h : Blk w b c) (hg : w.grownBy w' r) (hne : some b ≠ r) : Blk w' b c := h.kept (hg.block b h.lt hne)
theorem Blk.alloc {w : World} {b : Nat} {c : Array Value} (h : Blk w b c) (o : Obj) : Blk (w.alloc o) b c := h.kept (Below.heap_alloc w o b h.lt)
theorem Blk.new (w : World) (c : Array Value) (t : TypeId) : Blk (w.alloc (.cells c t)) w.heap.size c := ⟨t, heap_alloc_last w _⟩
theorem Blk.drew {w : World} {b : Nat} {c : Array Value} (h : Blk w b c) : Blk w.drew b c := h
theorem Blk.drewN {w : World} {b : Nat} {c : Array Value} (h : Blk w b c) (n : Nat) : Blk (w.drewN n) b c := h.kept (by simp)
theorem Blk.far {w : World} {b : Nat} {c : Array Value} (h : Blk w b c) {p : Addr} (hp : b ≠ p.block) (u : Value) : Blk (w.setCell p u) b c := h.kept (Below.heap_setCell w p u b hp)
theorem Blk.cell {w : World} {b : Nat} {c : Array Value} (h : Blk w b c) (i : Nat) : w.cell? ⟨b, i, none⟩ = c[i]? := by
  obtain ⟨t, h⟩ := h; exact cell_of_row w b i c t _ h
theorem Blk.free {w : World} {b : Nat} {c : Array Value} (h : Blk w b c) (o : Nat) : w.frozen? ⟨b, o, none⟩ = false := by
  obtain ⟨t, h⟩ := h; simp [World.frozen?, h]
theorem Blk.set {w : World} {b : Nat} {c : Array Value} (h : Blk w b c) (i : Nat) (v : Value) : Blk (w.setCell ⟨b, i, none⟩ v) b (c.setIfInBounds i v) := by
  obtain ⟨t, h⟩ := h
  refine ⟨t, ?_⟩
  rw [setCell_eq_setRow w b i c t (0, 0) v h]
  exact setRow_heap w b c _ t _ h
theorem Blk.range {w : World} {b : Nat} {c : Array Value} (h : Blk w b c) : w.rangeAt b 0 c.toList := by
  intro j v hv
  rw [Nat.zero_add, h.cell j]
  simpa using hv
theorem Blk.mag {w : World} {b : Nat} {s : Bool} {N : Nat} (h : Blk w b (Bg.intA s N)) : w.rangeAt b 1 (Bg.lims 32 N) := by
  intro j v hv
  have hj : j < 32 := by
    have := (List.getElem?_eq_some_iff.1 hv).1
    rw [Bg.lims_length] at this
    exact this
  rw [h.cell (1 + j), Nat.add_comm 1 j, Bg.intA_at s N j hj, ← hv, Bg.lims_at 32 N j hj]
theorem Blk.there {w : World} {b : Nat} {c : Array Value} (h : Blk w b c) : w.there b 0 c.size := by
  intro j hj
  rw [Nat.zero_add, h.cell j, h.free j]
  simp [hj]
/-- A limb is read. -/
theorem Blk.limb {w : World} {b n N : Nat} (h : Blk w b (Bg.row n N)) {i : Nat} (hi : i < n) : w.cell? ⟨b, i, none⟩ = some (.int .u32 (Bg.limb N i : Nat)) := by
  rw [h.cell i, Bg.row_at n N i hi]; rfl
/-- A limb is written. -/
theorem Blk.put {w : World} {b n N : Nat} (h : Blk w b (Bg.row n N)) (i x : Nat) (hx : x < 4294967296) : Blk (w.setCell ⟨b, i, none⟩ (.int .u32 (x : Nat))) b (Bg.row n (Bg.setL N i x)) := by
  have := h.set i (.int .u32 (x : Nat))
  rwa [Bg.row_set n N i x hx] at this
/-- The program's three types of limbs. -/
theorem und_mag : Try.prog.underlying 57 = some (.array 32 22) := by kernel_rfl
theorem und_arr : Try.prog.underlying 23 = some (.array 32 22) := by kernel_rfl
theorem siz_mag : (Try.prog.info? 57).map (·.size) = some 32 := by kernel_rfl
theorem siz_arr : (Try.prog.info? 23).map (·.size) = some 32 := by kernel_rfl
theorem siz_int : (Try.prog.info? 25).map (·.size) = some 33 := by kernel_rfl
theorem und_int : ∃ fs, Try.prog.underlying 25 = some (.struct fs) := ⟨_, Try.underlying25⟩
section
variable {ops : Array Oper} {rest : List Oper} {o : Oper} {a : Act} {w : World} {Q : Exit → Act → World → Prop}
theorem ld_mag (N : Nat) (hg : o.guard = none) (x : Operand) (ho : o.op = .load 57 x) (b : Nat) (hx : a.eval x = .pointer (some ⟨b, 0, none⟩)) (hb : Blk w b (Bg.row 32 N))
    (h : wpList Try.prog ops Q rest (a.put o.dst (.agg (Bg.row 32 N))) w) : wpList Try.prog ops Q (o :: rest) a w := by
  obtain ⟨t, hb⟩ := hb
  exact wpList_load_row hg _ x ho b hx t _ _ _ hb und_mag rfl (by rw [Bg.row_size]; exact siz_mag) h
theorem ld_arr (N : Nat) (hg : o.guard = none) (x : Operand) (ho : o.op = .load 23 x) (b : Nat) (hx : a.eval x = .pointer (some ⟨b, 0, none⟩)) (hb : Blk w b (Bg.row 32 N))
    (h : wpList Try.prog ops Q rest (a.put o.dst (.agg (Bg.row 32 N))) w) : wpList Try.prog ops Q (o :: rest) a w := by
  obtain ⟨t, hb⟩ := hb
  exact wpList_load_row hg _ x ho b hx t _ _ _ hb und_arr rfl (by rw [Bg.row_size]; exact siz_arr) h
theorem ld_fld (s : Bool) (N : Nat) (hg : o.guard = none) (x : Operand) (ho : o.op = .load 23 x) (b : Nat) (hx : a.eval x = .pointer (some ⟨b, 1, none⟩)) (hb : Blk w b (Bg.intA s N))
    (h : wpList Try.prog ops Q rest (a.put o.dst (.agg (Bg.row 32 N))) w) : wpList Try.prog ops Q (o :: rest) a w :=
  wpList_load_mid hg _ x ho b 1 hx (Bg.lims 32 N) _ hb.mag und_arr rfl (by rw [Bg.lims_length]; exact siz_arr) (by rw [Bg.lims_row]; exact h)
theorem ld_int (s : Bool) (N : Nat) (hg : o.guard = none) (x : Operand) (ho : o.op = .load 25 x) (b : Nat) (hx : a.eval x = .pointer (some ⟨b, 0, none⟩)) (hb : Blk w b (Bg.intA s N))
    (h : wpList Try.prog ops Q rest (a.put o.dst (.agg (Bg.intA s N))) w) : wpList Try.prog ops Q (o :: rest) a w := by
  obtain ⟨t, hb⟩ := hb
  obtain ⟨fs, hu⟩ := und_int
  exact wpList_load_row hg _ x ho b hx t _ _ _ hb hu rfl (by rw [Bg.intA_size]; exact siz_int) h
theorem st_mag (N : Nat) (c : Array Value) (hg : o.guard = none) (x y : Operand) (ho : o.op = .store 57 x y) (b : Nat) (hx : a.eval x = .pointer (some ⟨b, 0, none⟩)) (hy : a.eval y = .agg (Bg.row 32 N)) (hb : Blk w b c) (hc : c.size = 32)
    (h : wpList Try.prog ops Q rest (a.put o.dst undef) (w.setRow b (Bg.row 32 N))) : wpList Try.prog ops Q (o :: rest) a w := by
  obtain ⟨t, hb⟩ := hb
  exact wpList_plain hg fun _ hK => wp_store_row _ x y ho b _ hx hy t _ hb (by rw [Bg.row_size]; exact siz_mag) (by rw [Bg.row_size, hc]) (Bg.row_one 32 N) (hK _ _ h)
theorem st_arr (N : Nat) (c : Array Value) (hg : o.guard = none) (x y : Operand) (ho : o.op = .store 23 x y) (b : Nat) (hx : a.eval x = .pointer (some ⟨b, 0, none⟩)) (hy : a.eval y = .agg (Bg.row 32 N)) (hb : Blk w b c) (hc : c.size = 32)
    (h : wpList Try.prog ops Q rest (a.put o.dst undef) (w.setRow b (Bg.row 32 N))) : wpList Try.prog ops Q (o :: rest) a w := by
  obtain ⟨t, hb⟩ := hb
  exact wpList_plain hg fun _ hK => wp_store_row _ x y ho b _ hx hy t _ hb (by rw [Bg.row_size]; exact siz_arr) (by rw [Bg.row_size, hc]) (Bg.row_one 32 N) (hK _ _ h)
theorem st_int (s : Bool) (N : Nat) (c : Array Value) (hg : o.guard = none) (x y : Operand) (ho : o.op = .store 25 x y) (b : Nat) (hx : a.eval x = .pointer (some ⟨b, 0, none⟩)) (hy : a.eval y = .agg (Bg.intA s N)) (hb : Blk w b c) (hc : c.size = 33)
    (h : wpList Try.prog ops Q rest (a.put o.dst undef) (w.setRow b (Bg.intA s N))) : wpList Try.prog ops Q (o :: rest) a w := by
  obtain ⟨t, hb⟩ := hb
  exact wpList_plain hg fun _ hK => wp_store_row _ x y ho b _ hx hy t _ hb (by rw [Bg.intA_size]; exact siz_int) (by rw [Bg.intA_size, hc]) (Bg.intA_one s N) (hK _ _ h)
end
/-- A whole block is written. -/
theorem Blk.setRow {w : World} {b : Nat} {c : Array Value} (h : Blk w b c) (c' : Array Value) : Blk (w.setRow b c') b c' := by
  obtain ⟨t, h⟩ := h; exact ⟨t, setRow_heap w b c c' t _ h⟩
theorem heap_setRow (w : World) (g : Nat) (c : Array Value) (k : Nat) (h : k ≠ g) : (w.setRow g c).heap[k]? = w.heap[k]? := by
  simp only [World.setRow, Array.getElem?_modify]
  rw [if_neg (by omega)]
theorem Blk.farRow {w : World} {b g : Nat} {c : Array Value} (h : Blk w b c) (hne : b ≠ g) (c' : Array Value) : Blk (w.setRow g c') b c := h.kept (heap_setRow w g c' b hne)
theorem below_setRow {B : Nat} {a w : World} (h : Below B a w) {g : Nat} (hg : B ≤ g) (c : Array Value) : Below B a (w.setRow g c) :=
  h.trans ⟨rfl, rfl, rfl, by simp, fun k hk => heap_setRow _ _ _ _ (by omega)⟩
/-- What may have turned is block b alone, and new blocks. -/
theorem grown_setRow {a w : World} {b : Nat} (h : a.grownBy w (some b)) {g : Nat} (hg : g = b ∨ a.heap.size ≤ g) (c : Array Value) : a.grownBy (w.setRow g c) (some b) :=
  ⟨h.os, h.tape, h.output, by simpa using h.size, fun k hk hne => (heap_setRow _ _ _ _ (fun e => by subst e; rcases hg with rfl | hg; exact hne rfl; omega)).trans (h.block k hk hne)⟩
end Go.Proofs.Ytbkbfgedlfbbiaa
