/- Walks. -/
import Derived.Sort.OwnSorted
import Derived.Test.YtiekmabiecalbaaGreatDoorPa25
import Derived.Test.YtiekmabiecalbaaGreatDoorLay
namespace Go.Proofs.YtiekmabiecalbaaGreatDoor
set_option maxHeartbeats 16000000
set_option maxRecDepth 8000
section
open Go.RowKit Go.Maps Go.Sort
def V1 (vs : List Value) : List (Array Value) := vs.map fun v => #[v]
theorem V1_size (vs : List Value) : ∀ c ∈ V1 vs, c.size = 1 := by
 intro c hc
 obtain ⟨v, _, rfl⟩ := List.mem_map.1 hc
 rfl
theorem V1_len (vs : List Value) : (V1 vs).length = vs.length := List.length_map _
theorem V1_app (a b : List Value) : V1 (a ++ b) = V1 a ++ V1 b := List.map_append
theorem V1_one {vs : List Value} (h : ∀ v ∈ vs, v.oneCell' = true) : ∀ c ∈ V1 vs, c.all (·.oneCell') = true := by
 intro c hc
 obtain ⟨v, hv, rfl⟩ := List.mem_map.1 hc
 simp [h v hv]
theorem V1_rows : ∀ vs : List Value, rowsOf (V1 vs) = vs.toArray
 | [] => rfl
 | v :: vs => by
  show #[v] ++ rowsOf (V1 vs) = _
  rw [V1_rows vs]
  apply Array.ext'
  simp
theorem V1_of {sp : List (Array Value)} (h : ∀ c ∈ sp, c.size = 1) : ∃ vs, sp = V1 vs := by
 induction sp with
 | nil => exact ⟨[], rfl⟩
 | cons c sp ih =>
  obtain ⟨vs, rfl⟩ := ih (fun d hd => h d (List.mem_cons_of_mem _ hd))
  obtain ⟨v, rfl⟩ : ∃ v, c = #[v] := by
   have hc := h c List.mem_cons_self
   exact ⟨c[0], by apply Array.ext_getElem?; intro i; match i with | 0 => simp | i + 1 => simp; omega⟩
  exact ⟨v :: vs, rfl⟩
theorem V1_blk {w : World} {b : Nat} {vs us : List Value} (h : Blk w b (rowsOf (V1 vs ++ V1 us))) {j : Nat} {v : Value} (hj : vs[j]? = some v) : w.cell? ⟨b, j, none⟩ = some v := by
 rw [← V1_app, V1_rows] at h
 rw [h.cell]
 have := (List.getElem?_eq_some_iff.1 hj).1
 simp [List.getElem?_append_left this, hj]
section
variable {α : Type} [Inhabited α] (enc : α → Value)
theorem holds_V1 {w : World} {b : Nat} {zs : List α} {us : List Value} (h : Blk w b (rowsOf (V1 (zs.map enc) ++ V1 us))) : Holds enc w b 0 zs.toArray := by
 intro j hj
 have hj' : j < zs.length := by simpa using hj
 refine ⟨?_, h.free _⟩
 rw [Nat.zero_add, V1_blk h (v := enc zs[j]) (by rw [List.getElem?_map, List.getElem?_eq_getElem hj']; rfl)]
 simp [hj']
theorem put_V1 {zs ts : List α} {us : List Value} (hl : ts.length = zs.length) : putCells enc 0 ts.toArray (rowsOf (V1 (zs.map enc) ++ V1 us)) = rowsOf (V1 (ts.map enc) ++ V1 us) := by
 rw [← V1_app, V1_rows, ← V1_app, V1_rows]
 apply Array.ext_getElem?
 intro j
 simp only [putCells, Array.getElem?_mapIdx, List.getElem?_toArray]
 by_cases hj : j < ts.length
 ·rw [List.getElem?_append_left (by simpa using (by omega : j < zs.length)), List.getElem?_append_left (by simpa using hj), List.getElem?_map, List.getElem?_map, List.getElem?_eq_getElem (show j < zs.length by omega), List.getElem?_eq_getElem hj]
  simp [hj]
 ·rw [List.getElem?_append_right (by simp; omega), List.getElem?_append_right (by simp; omega), List.length_map, List.length_map, hl]
  cases us[j - zs.length]? <;> simp [hj]
theorem blk_sorted {w : World} {b n : Nat} {os : Array Obj} {zs ts : List α} {us : List Value} (h : Blk w b (rowsOf (V1 (zs.map enc) ++ V1 us))) (hl : ts.length = zs.length) :
    Blk (grow (putRow enc (Sort.ahead w n) b 0 ts.toArray) os) b (rowsOf (V1 (ts.map enc) ++ V1 us)) ∧ Only [b] w (grow (putRow enc (Sort.ahead w n) b 0 ts.toArray) os) := by
 obtain ⟨t, hb⟩ := h
 have hg : b < w.heap.size := (Array.getElem?_eq_some_iff.1 hb).1
 refine ⟨⟨t, ?_⟩, rfl, rfl, rfl, by simp, fun k hk hne => ?_⟩
 ·rw [heap_grow_old _ _ (by simpa using hg), ← put_V1 enc hl]
  simp [putRow, mapBlock, Sort.ahead, Array.getElem?_modify, hb, onCells]
 ·rw [heap_grow_old _ _ (by simpa using hk)]
  have : b ≠ k := fun e => hne (by simp [e])
  simp [putRow, mapBlock, Sort.ahead, Array.getElem?_modify, this]
end
theorem sortI_any {w0 w : World} {X : List Nat} {B : List (Nat × Array Value)} {sv : Value} (zs ts : List Int) (HM : Mem w0 X B w) (HS : SlAt 1 sv (V1 (zs.map (Value.int .i64))) B) (hl : zs.length ≤ 1000000000) (ht : Hid (zs.mergeSort (fun x y => decide (x ≤ y)) = ts)) :
    Calls Tryz.prog 90 #[sv] w fun e w' => e = .returned (.tuple #[]) ∧ ∃ B', SlAt 1 sv (V1 (ts.map (Value.int .i64))) B' ∧ Mem w0 X B' w' := by
 have hlen : ts.length = zs.length := by rw [← ht.out]; simp
 generalize hv : V1 (zs.map (Value.int .i64)) = l at HS
 cases HS with
 | nil =>
  have h0 : zs = [] := by
   cases zs with
   | nil => rfl
   | cons a r => cases hv
  subst h0
  obtain rfl : ts = [] := List.eq_nil_of_length_eq_zero (by simpa using hlen)
  refine (AnyM.slices_Sort_int_none Tryz.laySortI none 0 w).mono ?_
  rintro e w' ⟨rfl, rfl⟩
  exact ⟨rfl, [], .nil, HM⟩
 | row b l sp h =>
  subst hv
  obtain ⟨us, rfl⟩ := V1_of (fun c hc => h c (List.mem_append_right _ hc))
  have hb : Blk w b (rowsOf (V1 (zs.map (Value.int .i64)) ++ V1 us)) := HM.blk (b, _) Zs
  have hll : (V1 (zs.map (Value.int .i64))).length = zs.length := by rw [V1_len, List.length_map]
  have hlt : (V1 (ts.map (Value.int .i64))).length = zs.length := by rw [V1_len, List.length_map, hlen]
  have hc := AnyM.slices_Sort_int Tryz.laySortI b 0 ((V1 (zs.map (Value.int .i64))).length + (V1 us).length) zs w (holds_V1 _ hb) hb.lt Zo
  rw [← hll] at hc
  refine hc.mono ?_
  rintro e w' ⟨rfl, n, os, rfl⟩
  rw [ht.out]
  obtain ⟨h1, h2⟩ := blk_sorted (Value.int .i64) (n := n) (os := os) hb hlen
  refine ⟨rfl, [(b, _)], ?_, HM.put At.here h1 h2⟩
  have := SlAt.row (n := 1) b (V1 (ts.map (Value.int .i64))) (V1 us) (by
   intro c hc
   rcases List.mem_append.1 hc with hc | hc <;> exact V1_size _ c hc)
  rw [hlt] at this
  rw [hll]
  exact this
end
section
open Go.RowKit Go.Maps
def IRng (w : World) (b r n : Nat) (f : ByteArray → Option Nat) (S : List (ByteArray × Nat)) (cnt : Nat) : Prop :=
 ∃ (D : DataW Unit) (left : Lit → Bool), w.ranges Tryz.prog 9 (plainElem Tryz.prog 3) b r n D left cnt ∧ IView D f ∧ (S.map (·.1)).Nodup ∧ (∀ p ∈ S, f p.1 = some p.2) ∧ ∀ s, s ∈ S.map (·.1) ↔ ((f s).isSome = true ∧ left (.string s.data.toList) = false)
theorem IRng.left_eq {w : World} {b r n : Nat} {f : ByteArray → Option Nat} {S : List (ByteArray × Nat)} {cnt : Nat} (h : IRng w b r n f S cnt) : w.rangeLeft b r = cnt := by
 obtain ⟨D, left, h1, _⟩ := h; exact h1.left_eq
theorem IRng.ne {w : World} {b r n : Nat} {f : ByteArray → Option Nat} {S : List (ByteArray × Nat)} {cnt : Nat} (h : IRng w b r n f S cnt) {x : Nat} {c : Array Value} (hb : Blk w x c) : x ≠ b ∧ x ≠ r := by
 obtain ⟨D, left, ⟨es, clock, since, seen, c0, hb1, _, _, _, hr1, _⟩, _⟩ := h
 obtain ⟨t, hx⟩ := hb
 constructor <;> rintro rfl
 ·rw [hb1] at hx; cases hx
 ·rw [hr1] at hx; cases hx
theorem IRng.lt {w : World} {b r n : Nat} {f : ByteArray → Option Nat} {S : List (ByteArray × Nat)} {cnt : Nat} (h : IRng w b r n f S cnt) : b < w.heap.size ∧ r < w.heap.size := by
 obtain ⟨D, left, h1, _⟩ := h; exact ⟨h1.owns.lt, h1.lt⟩
theorem IRng.kept {w w' : World} {b r n : Nat} {f : ByteArray → Option Nat} {S : List (ByteArray × Nat)} {cnt : Nat} (h : IRng w b r n f S cnt) (e1 : w'.heap[b]? = w.heap[b]?) (e2 : w'.heap[r]? = w.heap[r]?) : IRng w' b r n f S cnt := by
 obtain ⟨D, left, ⟨es, clock, since, seen, c0, hb1, F, hs, hD, hr1, rest⟩, h2⟩ := h
 exact ⟨D, left, ⟨es, clock, since, seen, c0, e1.trans hb1, F, hs, hD, e2.trans hr1, rest⟩, h2⟩
theorem Mem.rebase {w0 w : World} {X : List Nat} {L : List (Nat × Array Value)} (h : Mem w0 X L w) : Mem w (L.map (·.1)) L w := ⟨Only.refl _ _, h.blk, fun p hp => .inr (List.mem_map.2 ⟨p, hp, rfl⟩), h.nod⟩
theorem Mem.trans {w0 w w' : World} {X : List Nat} {L L' : List (Nat × Array Value)} (h : Mem w0 X L w) (k : Mem w (L.map (·.1)) L' w') : Mem w0 X L' w' := by
 refine ⟨⟨k.only.os.trans h.only.os, k.only.tape.trans h.only.tape, k.only.output.trans h.only.output, Nat.le_trans h.only.size k.only.size, fun x hx hn => ?_⟩, k.blk, fun p hp => ?_, k.nod⟩
 ·refine (k.only.block x (Nat.lt_of_lt_of_le hx h.only.size) (fun hm => ?_)).trans (h.only.block x hx hn)
  obtain ⟨p, hp, rfl⟩ := List.mem_map.1 hm
  rcases h.own p hp with h1 | h1
  ·omega
  ·exact hn h1
 ·rcases k.own p hp with h1 | h1
  ·exact .inl (Nat.le_trans h.only.size h1)
  ·obtain ⟨q, hq, e⟩ := List.mem_map.1 h1
   rw [← e]; exact h.own q hq
theorem Mem.stay {w w' : World} {L L' : List (Nat × Array Value)} (k : Mem w (L.map (·.1)) L' w') {b : Nat} (hb : b < w.heap.size) (hL : ∀ p ∈ L, p.1 ≠ b) : w'.heap[b]? = w.heap[b]? :=
 k.only.block b hb (fun h => by obtain ⟨p, hp, e⟩ := List.mem_map.1 h; exact hL p hp e)
section
variable {ops : Array Oper} {rest : List Oper} {a a2 : Act} {w : World} {Q : Exit → Act → World → Prop} {d : Option Tmp} {ty : TypeId} {ps : String} {af : Array Edge} {x : Operand} {b r n cnt : Nat} {f : ByteArray → Option Nat} {S : List (ByteArray × Nat)}
theorem g_rng (h : OpG ops Q rest a w { dst := d, op := .range 142 x, type := ty, pos := ps, after := af, guard := none }) : wpList Tryz.prog ops Q ({ dst := d, op := .range 142 x, type := ty, pos := ps, after := af, guard := none } :: rest) a w := h
theorem a_rng {a2 : Nat → Act} (HI : IMap w b n f) (h : ∀ r w' cnt, IRng w' b r n f [] cnt → w.heap.size ≤ r → Below w.heap.size w w' → wpList Tryz.prog ops Q rest (a2 r) w')
    (hx : a.eval x = .map (some b) := by (conv => lhs; whnf) <;> rfl) (ha : ∀ r, a.put d (.pointer (some ⟨r, 0, none⟩)) = a2 r := by intro r; ((try simp only [Act.put, Za, Zx, Zy]) <;> rfl)) :
    OpG ops Q rest a w { dst := d, op := .range 142 x, type := ty, pos := ps, after := af, guard := none } := by
 obtain ⟨D, h1, h2⟩ := HI
 refine wpList_range_own w rfl x _ rfl 9 3 str_law und_smap _ b n D hx h1 fun w' k1 k2 _ => ?_
 rw [ha]
 refine h _ w' _ ⟨D, _, k1, h2, by simp, by simp, fun s => ?_⟩ (Nat.le_refl _) ⟨k2.os, k2.tape, k2.output, k2.size, fun i hi => k2.block i hi Zs⟩
 rw [h2.has s]
 cases (f s).isSome <;> simp
theorem g_nx (h : OpG ops Q rest a w { dst := d, op := .next x false, type := ty, pos := ps, after := af, guard := none }) : wpList Tryz.prog ops Q ({ dst := d, op := .next x false, type := ty, pos := ps, after := af, guard := none } :: rest) a w := h
theorem a_nx {a3 : Act} {a4 : ByteArray → Nat → Act} (HR : IRng w b r n f S cnt)
        (hDone : cnt = 0 → Hid (∀ s i, (s, i) ∈ S ↔ f s = some i) → wpList Tryz.prog ops Q rest a3 w)
    (hMore : ∀ (s : ByteArray) (i : Nat) (w' : World) (cnt' : Nat), IRng w' b r n f (S ++ [(s, i)]) cnt' → cnt' < cnt → w.grownBy w' (some r) → s.size ≤ maxLen → f s = some i → (Instr.entry (.pointer (some ⟨r, 0, none⟩))).run Tryz.prog w' = .ok (.tuple #[.string s, .int .i64 (i : Nat)]) w' → wpList Tryz.prog ops Q rest (a4 s i) w')
    (hx : a.eval x = .pointer (some ⟨r, 0, none⟩) := by (conv => lhs; whnf) <;> rfl) (h3 : a.put d (.tuple #[.bool false]) = a3 := by ((try simp only [Act.put, Za, Zx, Zy]) <;> rfl)) (h4 : ∀ s i, a.put d (.tuple #[.bool true, .string s, .int .i64 (i : Nat)]) = a4 s i := by intro s i; ((try simp only [Act.put, Za, Zx, Zy]) <;> rfl)) :
    OpG ops Q rest a w { dst := d, op := .next x false, type := ty, pos := ps, after := af, guard := none } := by
 obtain ⟨D, left, h1, h2, hn, hf, hS⟩ := HR
 refine wpList_next_ranges w rfl x rfl 9 str_law (plainElem Tryz.prog 3) encStr (Value.int .i64) (fun key kl hk => by obtain ⟨y, hy, _⟩ := Maps.keyOf_str Tryz.underlying9 hk; exact ⟨y, hy⟩) (fun v y hv => by obtain ⟨c, rfl, _⟩ := plainElem_int_inv Tryz.underlying3 hv; exact ⟨c, rfl⟩) b r n D left cnt hx h1 ?_ ?_
 ·intro h0 hl
  rw [h3]
  refine hDone h0 (Zi fun s i => ⟨fun hm => hf _ hm, fun e => ?_⟩)
  have := (hS s).2 ⟨by rw [e]; rfl, hl _⟩
  obtain ⟨p, hp, rfl⟩ := List.mem_map.1 this
  have e2 := hf p hp
  rw [e] at e2
  injection e2 with e2
  obtain ⟨p1, p2⟩ := p
  simp only at e2
  rw [e2]; exact hp
 ·intro y c kl yd w' cnt' hkey hlk hv hat hrg hlt hg hsz hen
  obtain ⟨y', ey, rfl, hlen⟩ := Maps.keyOf_str Tryz.underlying9 hkey
  obtain rfl : y = y' := encStr_inj ey
  obtain ⟨c', ec, rfl, _⟩ := plainElem_int_inv Tryz.underlying3 hv
  cases ec
  obtain ⟨s, hs⟩ : ∃ s : ByteArray, s = ⟨y.toArray⟩ := ⟨_, rfl⟩
  have hsd : s.data.toList = y := by rw [hs]
  have hes : encStr y = .string s := by rw [hs]
  have hfs : ∃ i, f s = some i := by
   cases e : f s with
   | some i => exact ⟨i, rfl⟩
   | none =>
    have h5 := h2.has s
    rw [e, hsd, has_true_of_atKey hat] at h5
    cases h5
  obtain ⟨i, hi⟩ := hfs
  have hci : c = (i : Int) := by
   have h5 := h2 s (.lit (.int .i64 0))
   rw [hi, hsd, hat] at h5
   simpa using h5
  subst hci
  rw [hes] at hen ⊢
  rw [h4]
  have hnew : s ∉ S.map (·.1) := fun hm => by
   have := ((hS s).1 hm).2
   rw [hsd, hlk] at this; cases this
  refine hMore s i w' cnt' ⟨D, _, hrg, h2, ?_, ?_, ?_⟩ hlt hg (by rw [hs]; show y.toArray.size ≤ _; simpa using hlen) hi hen
  ·rw [List.map_append, List.nodup_append]
   exact ⟨hn, by simp, fun p hp q hq e => hnew (by simp at hq; rw [← hq, ← e]; exact hp)⟩
  ·intro p hp
   rcases List.mem_append.1 hp with hp | hp
   ·exact hf p hp
   ·rw [List.mem_singleton.1 hp]; exact hi
  ·intro t
   rw [List.map_append, List.mem_append, hS t]
   by_cases e : t = s
   ·subst e
    simp [hi, hsd, Lit.sameKey]
   ·have hne : t.data.toList ≠ y := fun h => e (As.key_inj (by rw [h, hsd]))
    simp [e, Lit.sameKey, hne]
end
end
end Go.Proofs.YtiekmabiecalbaaGreatDoor
