/- Calendars as records of nine cells; what lies beside the blocks that a call knows; a map of ints to bools. -/
import Derived.Test.YtaokneooejbfkaaSlicesD
import Derived.Test.YtaokneooejbfkaaCalMath
import Derived.Maps.OwnSet
import Derived.Maps.OwnOps
import Derived.Maps.Views
import Derived.Carry
namespace Go.Proofs.Ytaokneooejbfkaa
set_option maxRecDepth 8000
open Go.RowKit Go.Maps
/-- Values as records of one cell. -/
def V1 (vs : List Value) : List (Array Value) := vs.map fun v => #[v]
theorem V1_size (vs : List Value) : ∀ c ∈ V1 vs, c.size = 1 := by
  intro c hc
  obtain ⟨v, _, rfl⟩ := List.mem_map.1 hc
  rfl
theorem V1_len (vs : List Value) : (V1 vs).length = vs.length := List.length_map _
theorem V1_app (a b : List Value) : V1 (a ++ b) = V1 a ++ V1 b := List.map_append
theorem V1_one {vs : List Value} (h : ∀ v ∈ vs, v.oneCell' = true) : ∀ c ∈ V1 vs, c.all (·.oneCell') = true := by
  intro c hc
  obtain ⟨v, hv, rfl⟩ := List.mem_map.1 hc
  simp [h v hv]
/-- The records of ints. -/
def Jo.ir (hs : List Int) : List (Array Value) := V1 (hs.map (Value.int .i64))
theorem Jo.ir_len (hs : List Int) : (Jo.ir hs).length = hs.length := by simp [Jo.ir, V1]
theorem Jo.ir_at {hs : List Int} {i : Nat} {x : Int} (h : hs[i]? = some x) : (Jo.ir hs)[i]? = some #[.int .i64 x] := by simp [Jo.ir, V1, h]
theorem Jo.ir_app (a : List Int) (x : Int) : Jo.ir (a ++ [x]) = Jo.ir a ++ [#[.int .i64 x]] := by simp [Jo.ir, V1]
theorem Jo.ir_one (hs : List Int) : ∀ c ∈ Jo.ir hs, c.all (·.oneCell') = true := V1_one (fun v hv => by obtain ⟨x, _, rfl⟩ := List.mem_map.1 hv; rfl)
/-- Ints that a slice of records reads as. -/
theorem rdS_ints {w : World} {A : Option Addr} {n cap : Nat} {hs : List Int} (h : RdS 1 w (.slice A n cap) (Jo.ir hs)) : n = hs.length ∧ IntsAt w A hs := by
  obtain ⟨A', cap', e⟩ := RdS.form1 h
  injection e with e1 e2 e3
  rw [Jo.ir_len] at e2
  refine ⟨e2, ?_⟩
  by_cases h0 : hs = []
  · exact .inl h0
  right
  have hp : 0 < hs.length := List.length_pos_iff.2 h0
  obtain ⟨hz, A2, cap2, e, _, h4⟩ := h
  injection e with e1 e2 e3
  rcases h4 with h4 | ⟨b, off, cs, rfl, hb, hc⟩
  · exact absurd h4 (by intro h; have := Jo.ir_len hs; rw [h] at this; simp at this; omega)
  · refine ⟨b, off, e1, hb.lt, fun j hj => ?_⟩
    rw [hb.cell, hc j (by rw [Jo.ir_len]; omega)]
    have := rows_at hz (Jo.ir_at (List.getElem?_eq_getElem hj)) (j := 0) (by decide)
    rw [Nat.one_mul, Nat.add_zero] at this
    rw [this]
    simp [List.getD, hj]
theorem cell_blk {w : World} {b o : Nat} {v : Value} (h : w.cell? ⟨b, o, none⟩ = some v) : ∃ c, Rbk w b c ∧ c[o]? = some v := by
  have e : ∃ c t fr, w.heap[b]? = some (.cells c t fr) := by
    have h' := h
    unfold World.cell? at h'
    split at h'
    · rename_i c t fr hh; exact ⟨c, t, fr, hh⟩
    · cases h'
  obtain ⟨c, t, fr, hh⟩ := e
  have hR : Rbk w b c := ⟨t, fr, hh⟩
  exact ⟨c, hR, by rw [← hR.cell]; exact h⟩
theorem IntsAt.ld {w : World} {A : Option Addr} {hs : List Int} (h : IntsAt w A hs) {j : Nat} {x : Int} (hj : hs[j]? = some x) : ∃ b off cs, A = some ⟨b, off, none⟩ ∧ Hid (Rbk w b cs) ∧ LA 3 cs (off + j) (.int .i64 x) := by
  have hl := (List.getElem?_eq_some_iff.1 hj).1
  obtain ⟨b, off, rfl, _, hc⟩ := h.at_ hl
  have h1 := hc j hl
  obtain ⟨c, hR, hv⟩ := cell_blk h1
  refine ⟨b, off, c, rfl, Lib.hid hR, LA.one (by kernel_rfl) ?_⟩
  rw [hv]
  simp [List.getD, hj]
/-- A calendar and where its holidays lie. -/
structure Jo.C where
  s : ByteArray
  k : Nat → Bool
  hs : List Int
  A : Option Addr
  c : Nat
def Jo.cc (s : ByteArray) (k : Nat → Bool) (v : Value) : Array Value := #[.string s, .bool (k 0), .bool (k 1), .bool (k 2), .bool (k 3), .bool (k 4), .bool (k 5), .bool (k 6), v]
def Jo.C.v (x : Jo.C) : Value := .slice x.A x.hs.length x.c
def Jo.C.cells (x : Jo.C) : Array Value := Jo.cc x.s x.k x.v
theorem Jo.c_sizes (l : List Jo.C) : ∀ c ∈ l.map Jo.C.cells, c.size = 9 := by
  intro c hc
  obtain ⟨m, _, rfl⟩ := List.mem_map.1 hc
  rfl
theorem Jo.cc_one (s : ByteArray) (k : Nat → Bool) (v : Value) (hv : v.oneCell' = true) : (Jo.cc s k v).all (·.oneCell') = true := by
  have h1 : ∀ b, (Value.bool b).oneCell' = true := fun _ => rfl
  have h2 : (Value.string s).oneCell' = true := rfl
  simp [Jo.cc, hv, h1, h2]
theorem Jo.c_one (l : List Jo.C) : ∀ c ∈ l.map Jo.C.cells, c.all (·.oneCell') = true := by
  intro c hc
  obtain ⟨m, _, rfl⟩ := List.mem_map.1 hc
  exact Jo.cc_one _ _ _ rfl
theorem Jo.cc_week (s : ByteArray) (k : Nat → Bool) (v : Value) {i : Nat} (hi : i < 7) : (Jo.cc s k v)[1 + i]? = some (.bool (k i)) := by
  match i, hi with
  | 0, _ | 1, _ | 2, _ | 3, _ | 4, _ | 5, _ | 6, _ => rfl
/-- A calendar in a block of its own. -/
def Jo.wk (k : Nat → Bool) : Array Value := #[.bool (k 0), .bool (k 1), .bool (k 2), .bool (k 3), .bool (k 4), .bool (k 5), .bool (k 6)]
section
variable (s : ByteArray) (k : Nat → Bool) (v : Value)
theorem la_cc : LA 25 (Jo.cc s k v) 0 (.agg (Jo.cc s k v)) := LA.whole (by kernel_rfl) (by kernel_rfl)
theorem la_cname : LA 9 (Jo.cc s k v) 0 (.string s) := LA.one (by kernel_rfl) rfl
theorem la_cweek : LA 23 (Jo.cc s k v) 1 (.agg (Jo.wk k)) := LA.mid (n := 7) (by kernel_rfl) (by kernel_rfl) (by show 1 + 7 ≤ 9; omega) rfl
theorem la_cday {i : Nat} (hi : i < 7) : LA 4 (Jo.cc s k v) (1 + i) (.bool (k i)) := LA.one (by kernel_rfl) (Jo.cc_week s k v hi)
theorem la_chol : LA 22 (Jo.cc s k v) 8 v := LA.one (by kernel_rfl) rfl
theorem sa_chol {u : Value} (hu : u.oneCell' = true) : SA 22 (Jo.cc s k v) 8 u (Jo.cc s k u) := SA.one (by kernel_rfl) hu (by show 8 < 9; omega)
theorem sa_cday {i : Nat} (hi : i < 7) (z : Bool) : SA 4 (Jo.cc s k v) (1 + i) (.bool z) (Jo.cc s (fun j => if j = i then z else k j) v) := by
  have := SA.one (T := 4) (c := Jo.cc s k v) (k := 1 + i) (v := .bool z) (by kernel_rfl) rfl (by show 1 + i < 9; omega)
  have e : (Jo.cc s k v).setIfInBounds (1 + i) (.bool z) = Jo.cc s (fun j => if j = i then z else k j) v := by
    match i, hi with
    | 0, _ | 1, _ | 2, _ | 3, _ | 4, _ | 5, _ | 6, _ => rfl
  rw [e] at this
  exact this
theorem sa_cc (c : Array Value) (hc : c.size = 9) (hv : v.oneCell' = true) : SA 25 c 0 (.agg (Jo.cc s k v)) (Jo.cc s k v) := SA.whole (by kernel_rfl) (Jo.cc_one s k v hv) (by rw [hc]; rfl)
end
def Jo.zk (_ : Nat) : Bool := false
def Jo.z : Array Value := Jo.cc { data := #[] } Jo.zk (.slice none 0 0)
theorem za_cc : ZA 25 Jo.z := ⟨.agg Jo.z, rfl, fun w => by kernel_rfl⟩
/-- A slice reads as calendars. -/
structure Jo.Rd (w : World) (sv : Value) (l : List Jo.C) : Prop where
  rd : RdS 9 w sv (l.map Jo.C.cells)
  hol : ∀ x ∈ l, IntsAt w x.A x.hs ∧ x.hs.length ≤ 9223372036854775807
theorem Jo.Rd.below {w w' : World} {sv : Value} {l : List Jo.C} (h : Jo.Rd w sv l) (hb : Below w.heap.size w w') : Jo.Rd w' sv l := ⟨h.rd.below hb, fun x hx => ⟨(h.hol x hx).1.below hb, (h.hol x hx).2⟩⟩
theorem Jo.Rd.form {w : World} {sv : Value} {l : List Jo.C} (h : Jo.Rd w sv l) : ∃ A cap, sv = .slice A l.length cap := by
  obtain ⟨A, cap, e⟩ := RdS.form1 h.rd
  rw [List.length_map] at e
  exact ⟨A, cap, e⟩
theorem Jo.Rd.at_ {w : World} {A : Option Addr} {n cap : Nat} {l : List Jo.C} (h : Jo.Rd w (.slice A n cap) l) {i : Nat} {x : Jo.C} (hx : l[i]? = some x) :
    ∃ b off cs, A = some ⟨b, off, none⟩ ∧ Hid (Rbk w b cs) ∧ LA 25 cs (off + i * 9) (.agg x.cells) ∧ (∀ j, j < 7 → LA 4 cs (off + i * 9 + (1 + j)) (.bool (x.k j))) ∧ LA 22 cs (off + i * 9 + 8) x.v := by
  obtain ⟨b, off, cs, cap', e, hb, hc⟩ := h.rd.get (k := i) (c := x.cells) (by rw [List.getElem?_map, hx]; rfl)
  injection e with e1 e2 e3
  refine ⟨b, off, cs, e1, Lib.hid hb, la_in (n := 9) (by kernel_rfl) (by kernel_rfl) rfl hc (by decide), fun j hj => LA.one (by kernel_rfl) ?_, LA.one (by kernel_rfl) ?_⟩
  · rw [hc (1 + j) (by omega)]; exact Jo.cc_week _ _ _ hj
  · rw [hc 8 (by decide)]; rfl
/-! What lies beside the blocks that a call knows. -/
/-- All that a call knows, from here on. -/
theorem Mem.rebase {w0 w : World} {X : List Nat} {L : List (Nat × Array Value)} (h : Mem w0 X L w) : Mem w (L.map (·.1)) L w :=
  ⟨Only.refl _ _, h.blk, fun p hp => .inr (List.mem_map_of_mem hp), h.nod⟩
theorem Mem.onto {w0 w w' : World} {X : List Nat} {L L' : List (Nat × Array Value)} (h : Mem w0 X L w) (k : Mem w (L.map (·.1)) L' w') : Mem w0 X L' w' := by
  have ho : ∀ b ∈ L.map (·.1), w0.heap.size ≤ b ∨ b ∈ X := fun b hb => by
    obtain ⟨p, hp, rfl⟩ := List.mem_map.1 hb
    exact h.own p hp
  refine ⟨⟨k.only.os.trans h.only.os, k.only.tape.trans h.only.tape, k.only.output.trans h.only.output, Nat.le_trans h.only.size k.only.size, fun i hi hn => ?_⟩, k.blk, fun p hp => ?_, k.nod⟩
  · refine (k.only.block i (Nat.lt_of_lt_of_le hi h.only.size) fun hm => ?_).trans (h.only.block i hi hn)
    rcases ho i hm with h1 | h1
    · omega
    · exact hn h1
  · rcases k.own p hp with h1 | h1
    · exact .inl (Nat.le_trans h.only.size h1)
    · exact ho _ h1
/-- Another block of the call's own has turned. -/
theorem Mem.side {w0 w w' : World} {X : List Nat} {L : List (Nat × Array Value)} (h : Mem w0 X L w) {b : Nat} (hg : w.grownBy w' (some b)) (hb : w0.heap.size ≤ b) (hL : ∀ p ∈ L, p.1 ≠ b) : Mem w0 X L w' := by
  have ho := Only.of_grown hg
  refine ⟨⟨ho.os.trans h.only.os, ho.tape.trans h.only.tape, ho.output.trans h.only.output, Nat.le_trans h.only.size ho.size, fun k hk hn => ?_⟩, fun p hp => ?_, h.own, h.nod⟩
  · exact (ho.block k (Nat.lt_of_lt_of_le hk h.only.size) (by simp; omega)).trans (h.only.block k hk hn)
  · exact (h.blk p hp).kept (ho.block _ (h.blk p hp).lt (by simpa using hL p hp))
/-- A block beside those of the list is not among those that come. -/
theorem Mem.beside {w w' : World} {L L' : List (Nat × Array Value)} {b : Nat} (k : Mem w (L.map (·.1)) L' w') (hb : b < w.heap.size) (hL : ∀ p ∈ L, p.1 ≠ b) : ∀ p ∈ L', p.1 ≠ b := fun p hp e => by
  rcases k.own _ hp with h1 | h1
  · omega
  · obtain ⟨q, hq, e2⟩ := List.mem_map.1 h1
    exact hL q hq (e2.trans e)
theorem Mem.besideK {w w' : World} {L L' : List (Nat × Array Value)} {b : Nat} (k : Mem w (L.map (·.1)) L' w') (hb : b < w.heap.size) (hL : ∀ p ∈ L, p.1 ≠ b) : w'.heap[b]? = w.heap[b]? :=
  k.only.block b hb fun hm => by obtain ⟨q, hq, e⟩ := List.mem_map.1 hm; exact hL q hq e
/-- A part of what is known goes its own way. -/
theorem Mem.part {w0 w w' : World} {X : List Nat} {K B B' : List (Nat × Array Value)} (h : Mem w0 X (K ++ B) w) (k : Mem w (B.map (·.1)) B' w') : Mem w0 X (K ++ B') w' := by
  have hn := h.nod
  rw [List.map_append, List.nodup_append] at hn
  have hoff : ∀ p ∈ K, p.1 ∉ B.map (·.1) := fun p hp hm => hn.2.2 p.1 (List.mem_map_of_mem hp) p.1 hm rfl
  have hB : Mem w0 X B w := ⟨h.only, fun p hp => h.blk p (List.mem_append_right _ hp), fun p hp => h.own p (List.mem_append_right _ hp), hn.2.1⟩
  have hB' := hB.onto k
  refine ⟨hB'.only, fun p hp => ?_, fun p hp => ?_, ?_⟩
  · rcases List.mem_append.1 hp with hp | hp
    · have hb := h.blk p (List.mem_append_left _ hp)
      exact hb.kept (k.only.block _ hb.lt (hoff p hp))
    · exact k.blk p hp
  · rcases List.mem_append.1 hp with hp | hp
    · exact h.own p (List.mem_append_left _ hp)
    · exact hB'.own p hp
  · rw [List.map_append, List.nodup_append]
    refine ⟨hn.1, k.nod, fun a ha b hb e => ?_⟩
    subst e
    obtain ⟨p, hp, rfl⟩ := List.mem_map.1 ha
    obtain ⟨q, hq, e⟩ := List.mem_map.1 hb
    rcases k.own q hq with h1 | h1
    · have := (h.blk p (List.mem_append_left _ hp)).lt
      omega
    · rw [e] at h1; exact hoff p hp h1
/-! A map of ints to bools. -/
theorem und_bmap : Try.prog.underlying 44 = some (.map 3 4) := Try.underlying44
theorem int_law : Keyed Try.prog 3 := int_keyed Try.underlying3
theorem ikey_mk {x : Int} (h : (Lit.int .i64 x).wf = true) : keyOf Try.prog 3 (.int .i64 x) = some (.int .i64 x) := keyOf_int_mk Try.underlying3 h
theorem bool_zero (w : World) : (zeroValue 4).run Try.prog w = .ok (.bool false) w := by kernel_rfl
def JView (D : DataW Unit) (f : Int → Bool) : Prop := ∀ (x : Int) (z : DataW Unit), D.atKey (.int .i64 x) z = if f x = true then .lit (.bool true) else z
/-- Block b is a map of at most n entries, true at the keys of f. -/
def JMap (w : World) (b n : Nat) (f : Int → Bool) : Prop :=
  ∃ D : DataW Unit, w.ownsMap Try.prog 3 (plainElem Try.prog 4) b n D ∧ JView D f
theorem JMap.made (w : World) : JMap (w.alloc (.map #[] 0)) w.heap.size 0 (fun _ => false) := ⟨.map [], World.ownsMap_made _ _ _ _, fun _ _ => rfl⟩
theorem JMap.lt {w : World} {b n : Nat} {f : Int → Bool} (h : JMap w b n f) : b < w.heap.size := by obtain ⟨D, h1, _⟩ := h; exact h1.lt
theorem JMap.kept {w w' : World} {b n : Nat} {f : Int → Bool} (h : JMap w b n f) (e : w'.heap[b]? = w.heap[b]?) : JMap w' b n f := by
  obtain ⟨D, ⟨es, clock, hb, r⟩, h2⟩ := h
  exact ⟨D, ⟨es, clock, e.trans hb, r⟩, h2⟩
theorem JMap.mono {w : World} {b n n' : Nat} {f : Int → Bool} (h : JMap w b n f) (hn : n ≤ n') : JMap w b n' f := by
  obtain ⟨D, h1, h2⟩ := h
  exact ⟨D, h1.mono hn, h2⟩
theorem JMap.congr {w : World} {b n : Nat} {f g : Int → Bool} (h : JMap w b n f) (e : ∀ x, f x = g x) : JMap w b n g := by
  obtain ⟨D, h1, h2⟩ := h
  exact ⟨D, h1, fun x z => by rw [h2 x z, e x]⟩
section
variable {ops : Array Oper} {rest : List Oper} {a a2 : Act} {w : World} {Q : Exit → Act → World → Prop} {d : Option Tmp} {ty : TypeId} {ps : String} {af : Array Edge} {x y z : Operand} {b n : Nat} {f : Int → Bool} {k : Int}
theorem g_updb (h : OpG ops Q rest a w { dst := d, op := .mapUpdate 44 x y z, type := ty, pos := ps, after := af, guard := none }) : wpList Try.prog ops Q ({ dst := d, op := .mapUpdate 44 x y z, type := ty, pos := ps, after := af, guard := none } :: rest) a w := h
theorem a_updb (HI : JMap w b n f) (hn : n ≤ 4611686018427387903) (hk : (Lit.int .i64 k).wf = true) (h : ∀ w', JMap w' b (n + 1) (fun t => decide (t = k) || f t) → w.grownBy w' (some b) → wpList Try.prog ops Q rest a2 w')
    (hx : a.eval x = .map (some b) := by (conv => lhs; whnf) <;> rfl) (hy : a.eval y = .int .i64 k := by (conv => lhs; whnf) <;> rfl) (hz : a.eval z = .bool true := by (conv => lhs; whnf) <;> rfl) (ha : a.put d undef = a2 := by ((try simp only [Act.put, List.setIfInBounds_toArray, List.set_cons_succ, List.set_cons_zero]) <;> rfl)) :
    OpG ops Q rest a w { dst := d, op := .mapUpdate 44 x y z, type := ty, pos := ps, after := af, guard := none } := by
  obtain ⟨D, h1, h2⟩ := HI
  have hD := h1.isMap
  refine wpList_mapUpdate_own w rfl x y z _ rfl 3 4 int_law und_bmap _ b n D hx h1 (by unfold maxLen; omega) _ _ _ hy hz (ikey_mk hk) _ [] (plainElem_bool Try.underlying4 true) fun w' k1 k2 => ha ▸ h w' ⟨_, k1, fun t u => ?_⟩ k2
  by_cases e : t = k
  · subst e
    rw [atKey_put_same hD (by simp [WideAt.IsKeyLit])]
    simp
  · rw [atKey_put_other (fun h => e (by injection h)), h2 t u]
    simp [e]
theorem g_lkb {c : Bool} (h : OpG ops Q rest a w { dst := d, op := .lookup 44 x y c, type := ty, pos := ps, after := af, guard := none }) : wpList Try.prog ops Q ({ dst := d, op := .lookup 44 x y c, type := ty, pos := ps, after := af, guard := none } :: rest) a w := h
theorem a_lkb (v : Bool) (HI : JMap w b n f) (hk : (Lit.int .i64 k).wf = true) (hv : f k = v) (h : wpList Try.prog ops Q rest a2 w)
    (hx : a.eval x = .map (some b) := by (conv => lhs; whnf) <;> rfl) (hy : a.eval y = .int .i64 k := by (conv => lhs; whnf) <;> rfl) (ha : a.put d (.bool v) = a2 := by ((try simp only [Act.put, List.setIfInBounds_toArray, List.set_cons_succ, List.set_cons_zero]) <;> rfl)) :
    OpG ops Q rest a w { dst := d, op := .lookup 44 x y false, type := ty, pos := ps, after := af, guard := none } := by
  obtain ⟨D, h1, h2⟩ := HI
  refine wpList_plain rfl fun K' hK' => ?_
  obtain ⟨u, pl, hrun, hu⟩ := h1.lookup int_law und_bmap (bool_zero w) (plainElem_bool Try.underlying4 false) (ikey_mk hk)
  rw [h2 k, hv] at hu
  have e : u = .bool v := by
    unfold plainElem at hu
    rw [Try.underlying4] at hu
    cases u <;> simp at hu
    cases v <;> simp at hu <;> simp [hu]
  subst e
  unfold Oper.wp
  simp [execOp, hx, hy, hrun, Result.andThen]
  exact hK' _ _ (ha ▸ h)
end
end Go.Proofs.Ytaokneooejbfkaa
