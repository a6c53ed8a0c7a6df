/- Marks in memory; a map[string]int of the call's own, by the function that it is. -/
import Derived.Test.YtipkmppoppjmeaaEngD
import Derived.Test.YtipkmppoppjmeaaAsMath
import Derived.Maps.OwnSet
import Derived.Maps.Views
import Derived.Maps.RangeWalk
import Derived.Sort.KeysCollected
import Derived.Deep.LoopGhost
namespace Go.Proofs.Ytipkmppoppjmeaa
set_option maxRecDepth 8000
open Go.RowKit Go.Maps
/-- The cells of a mark. -/
def As.c (m : As.Mk) : Array Value := #[.string m.key, .int .i64 m.kn, .bool m.vd]
theorem As.c_size (M : List As.Mk) : ∀ c ∈ M.map As.c, c.size = 3 := by
  intro c hc
  obtain ⟨m, _, rfl⟩ := List.mem_map.1 hc
  rfl
theorem As.c_one (M : List As.Mk) : ∀ c ∈ M.map As.c, c.all (·.oneCell') = true := by
  intro c hc
  obtain ⟨m, _, rfl⟩ := List.mem_map.1 hc
  simp [As.c, Value.oneCell']
/-- A slice value reads as marks. -/
def As.Rd (w : World) (sv : Value) (M : List As.Mk) : Prop := RdS 3 w sv (M.map As.c) ∧ M.length ≤ 9223372036854775807
theorem As.Rd.form {w : World} {sv : Value} {M : List As.Mk} (h : As.Rd w sv M) : ∃ A cap, sv = .slice A M.length cap := by
  obtain ⟨⟨_, A, cap, e, _⟩, _⟩ := h
  rw [List.length_map] at e
  exact ⟨A, cap, e⟩
theorem As.Rd.below {w w' : World} {sv : Value} {M : List As.Mk} (h : As.Rd w sv M) (hb : Below w.heap.size w w') : As.Rd w' sv M := ⟨h.1.below hb, h.2⟩
theorem As.Rd.at_ {w : World} {A : Option Addr} {n cap : Nat} {M : List As.Mk} (h : As.Rd w (.slice A n cap) M) {i : Nat} {m : As.Mk} (hm : M[i]? = some m) :
    ∃ b off cs, A = some ⟨b, off, none⟩ ∧ Hid (Rbk w b cs) ∧ LA 46 cs (off + i * 3) (.agg (As.c m)) ∧ LA 9 cs (off + i * 3) (.string m.key) ∧ LA 3 cs (off + i * 3 + 1) (.int .i64 m.kn) ∧ LA 4 cs (off + i * 3 + 2) (.bool m.vd) := by
  obtain ⟨b, off, cs, cap', e, hb, hc⟩ := h.1.get (k := i) (c := As.c m) (by rw [List.getElem?_map, hm]; rfl)
  injection e with e1 e2 e3
  refine ⟨b, off, cs, e1, Lib.hid hb, la_in (n := 3) (by kernel_rfl) (by kernel_rfl) rfl hc (by decide), LA.one (by kernel_rfl) ?_, LA.one (by kernel_rfl) ?_, LA.one (by kernel_rfl) ?_⟩
  · have := hc 0 (by decide); rw [Nat.add_zero] at this; rw [this]; rfl
  · have := hc 1 (by decide); rw [this]; rfl
  · have := hc 2 (by decide); rw [this]; rfl
theorem As.Rd.cells {w : World} {A : Option Addr} {n cap : Nat} {M : List As.Mk} (h : As.Rd w (.slice A n cap) M) {i : Nat} {m : As.Mk} (hm : M[i]? = some m) :
    ∃ b off, A = some ⟨b, off, none⟩ ∧ w.cell? ⟨b, off + i * 3, none⟩ = some (.string m.key) ∧ w.cell? ⟨b, off + i * 3 + 1, none⟩ = some (.int .i64 m.kn) ∧ w.cell? ⟨b, off + i * 3 + 2, none⟩ = some (.bool m.vd) := by
  obtain ⟨b, off, cs, cap', e, hb, hc⟩ := h.1.get (k := i) (c := As.c m) (by rw [List.getElem?_map, hm]; rfl)
  injection e with e1 e2 e3
  refine ⟨b, off, e1, ?_, ?_, ?_⟩
  · have := hc 0 (by decide); rw [Nat.add_zero] at this; rw [hb.cell, this]; rfl
  · have := hc 1 (by decide); rw [hb.cell, this]; rfl
  · have := hc 2 (by decide); rw [hb.cell, this]; rfl
/-- A mark in a block of its own. -/
theorem As.sa (m m' : As.Mk) : SA 46 (As.c m) 0 (.agg (As.c m')) (As.c m') := SA.whole (by kernel_rfl) (As.c_one [m'] _ (by simp)) rfl
def As.z0 : As.Mk := ⟨{ data := #[] }, 0, false⟩
theorem As.za : ZA 46 (As.c As.z0) := ⟨.agg (As.c As.z0), rfl, fun w => by kernel_rfl⟩
theorem As.la (m : As.Mk) : LA 46 (As.c m) 0 (.agg (As.c m)) := LA.mid (n := 3) (k := 0) (by kernel_rfl) (by kernel_rfl) (by show 0 + 3 ≤ 3; omega) rfl
theorem As.la0 (m : As.Mk) : LA 9 (As.c m) 0 (.string m.key) := LA.one (by kernel_rfl) rfl
theorem As.la1 (m : As.Mk) : LA 3 (As.c m) 1 (.int .i64 m.kn) := LA.one (by kernel_rfl) rfl
theorem As.la2 (m : As.Mk) : LA 4 (As.c m) 2 (.bool m.vd) := LA.one (by kernel_rfl) rfl
/-- Another block of the call's own has turned. -/
theorem Mem.side {w0 w w' : World} {X : List Nat} {L : List (Nat × Array Value)} (h : Mem w0 X L w) {b : Nat} (hg : w.grownBy w' (some b)) (hb : w0.heap.size ≤ b) (hL : ∀ p ∈ L, p.1 ≠ b) : Mem w0 X L w' := by
  have ho := Only.of_grown hg
  refine ⟨⟨ho.os.trans h.only.os, ho.tape.trans h.only.tape, ho.output.trans h.only.output, Nat.le_trans h.only.size ho.size, fun k hk hn => ?_⟩, fun p hp => ?_, h.own, h.nod⟩
  · exact (ho.block k (Nat.lt_of_lt_of_le hk h.only.size) (by simp; omega)).trans (h.only.block k hk hn)
  · exact (h.blk p hp).kept (ho.block _ (h.blk p hp).lt (by simpa using hL p hp))
theorem Mem.side0 {w0 w w' : World} {X : List Nat} {L : List (Nat × Array Value)} (h : Mem w0 X L w) {b : Nat} (hg : w.grownBy w' (some b)) (hb : w0.heap.size ≤ b) : Mem w0 X [] w' :=
  (h.pk .nil).side hg hb (by simp)
theorem Mem.drewN {w0 w : World} {X : List Nat} {L : List (Nat × Array Value)} (h : Mem w0 X L w) (n : Nat) : Mem w0 X L (w.drewN n) :=
  ⟨⟨h.only.os, h.only.tape, h.only.output, h.only.size, h.only.block⟩, h.blk, h.own, h.nod⟩
/-- A callee's blocks join those of the caller. -/
theorem Mem.join {w0 w w' : World} {X : List Nat} {L B : List (Nat × Array Value)} (h : Mem w0 X L w) (k : Mem w [] B w') : Mem w0 X (B ++ L) w' := by
  have hc := h.call k.low
  have hB : ∀ p ∈ B, w.heap.size ≤ p.1 := fun p hp => (k.own p hp).resolve_right (by simp)
  refine ⟨hc.only, fun p hp => ?_, fun p hp => ?_, ?_⟩
  · rcases List.mem_append.1 hp with hp | hp
    · exact k.blk p hp
    · exact hc.blk p hp
  · rcases List.mem_append.1 hp with hp | hp
    · exact .inl (Nat.le_trans h.only.size (hB p hp))
    · exact h.own p hp
  · rw [List.map_append]
    refine List.nodup_append.2 ⟨k.nod, h.nod, fun a ha b hb e => ?_⟩
    obtain ⟨p, hp, rfl⟩ := List.mem_map.1 ha
    obtain ⟨q, hq, rfl⟩ := List.mem_map.1 hb
    have h1 := hB p hp
    have h2 := (h.blk q hq).lt
    omega
theorem str_law : Keyed Try.prog 9 := string_keyed Try.underlying9
theorem int_zero (w : World) : (zeroValue 3).run Try.prog w = .ok (.int .i64 0) w := by kernel_rfl
theorem und_smap : Try.prog.underlying 49 = some (.map 9 3) := Try.underlying49
/-- What a map reads as. -/
def IView (D : DataW Unit) (f : ByteArray → Option Nat) : Prop := ∀ (s : ByteArray) (z : DataW Unit), D.atKey (.string s.data.toList) z = ((f s).map fun i : Nat => DataW.lit (.int .i64 (i : Int))).getD z
/-- Block b is a map of at most n entries that is the function f. -/
def IMap (w : World) (b n : Nat) (f : ByteArray → Option Nat) : Prop :=
  ∃ D : DataW Unit, w.ownsMap Try.prog 9 (plainElem Try.prog 3) b n D ∧ IView D f
theorem IMap.made (w : World) : IMap (w.alloc (.map #[] 0)) w.heap.size 0 (fun _ => none) := ⟨.map [], World.ownsMap_made _ _ _ _, fun _ _ => rfl⟩
theorem IMap.lt {w : World} {b n : Nat} {f : ByteArray → Option Nat} (h : IMap w b n f) : b < w.heap.size := by obtain ⟨D, h1, _⟩ := h; exact h1.lt
theorem IMap.below {w w' : World} {b n : Nat} {f : ByteArray → Option Nat} (h : IMap w b n f) (hb : Below w.heap.size w w') : IMap w' b n f := by
  obtain ⟨D, h1, h2⟩ := h
  exact ⟨D, h1.kept (row := none) ⟨hb.os, hb.tape, hb.output, hb.size, fun i hi _ => hb.block i hi⟩ (by simp), h2⟩
theorem IMap.mono {w : World} {b n n' : Nat} {f : ByteArray → Option Nat} (h : IMap w b n f) (hn : n ≤ n') : IMap w b n' f := by
  obtain ⟨D, h1, h2⟩ := h
  exact ⟨D, h1.mono hn, h2⟩
theorem IMap.congr {w : World} {b n : Nat} {f g : ByteArray → Option Nat} (h : IMap w b n f) (e : ∀ s, f s = g s) : IMap w b n g := by
  obtain ⟨D, h1, h2⟩ := h
  exact ⟨D, h1, fun s z => by rw [h2 s z, e s]⟩
theorem IView.put {D : DataW Unit} {f : ByteArray → Option Nat} (h : IView D f) (hD : IsMap D) (s : ByteArray) (i : Nat) : IView (D.put (.string s.data.toList) (.lit (.int .i64 (i : Int)))) (fun t => if s = t then some i else f t) := by
  intro t z
  by_cases e : s = t
  · subst e
    rw [atKey_put_same hD (by simp [WideAt.IsKeyLit])]
    simp
  · rw [atKey_put_other (fun h => e (As.key_inj (by injection h with h; exact h.symm)))]
    simp only [if_neg e]
    exact h t z
theorem IView.del {D : DataW Unit} {f : ByteArray → Option Nat} (h : IView D f) (s : ByteArray) : IView (D.del (.string s.data.toList)) (fun t => if s = t then none else f t) := by
  intro t z
  by_cases e : s = t
  · subst e
    rw [atKey_del_same]
    simp
  · rw [atKey_del_other (fun h => e (As.key_inj (by injection h with h; exact h.symm)))]
    simp only [if_neg e]
    exact h t z
theorem IView.has {D : DataW Unit} {f : ByteArray → Option Nat} (h : IView D f) (s : ByteArray) : Maps.has D (.string s.data.toList) = (f s).isSome := by
  cases e : f s with
  | none => exact has_false_of_atKey (fun z => by rw [h s z, e]; rfl)
  | some i => exact has_true_of_atKey (y := .lit (.int .i64 (i : Int))) (fun z => by rw [h s z, e]; rfl)
theorem key_mk {s : ByteArray} (h : s.size ≤ maxLen) : keyOf Try.prog 9 (.string s) = some (.string s.data.toList) := by
  simp [keyOf, Try.underlying9, mapKey, h]
theorem len_small {n : Nat} (h : n ≤ 4611686018427387904) : n ≤ maxLen := by unfold maxLen; omega
theorem i64_wf {i : Nat} (h : i ≤ 4611686018427387904) : (Lit.int .i64 (i : Int)).wf = true := by
  simp [Lit.wf, IntKind.min, IntKind.max, IntKind.signed, IntKind.bits]; omega
section
variable {ops : Array Oper} {rest : List Oper} {a a2 : Act} {w : World} {Q : Exit → Act → World → Prop} {d : Option Tmp} {ty : TypeId} {ps : String} {af : Array Edge} {x y z : Operand} {b n : Nat} {f : ByteArray → Option Nat} {s : ByteArray}
theorem g_upd (h : OpG ops Q rest a w { dst := d, op := .mapUpdate 49 x y z, type := ty, pos := ps, after := af, guard := none }) : wpList Try.prog ops Q ({ dst := d, op := .mapUpdate 49 x y z, type := ty, pos := ps, after := af, guard := none } :: rest) a w := h
theorem a_upd (i : Nat) (HI : IMap w b n f) (hn : n ≤ 4611686018427387903) (hs : s.size ≤ maxLen) (hi : i ≤ 4611686018427387904) (h : ∀ w', IMap w' b (n + 1) (fun t => if s = t then some i else f t) → w.grownBy w' (some b) → wpList Try.prog ops Q rest a2 w')
    (hx : a.eval x = .map (some b) := by (conv => lhs; whnf) <;> rfl) (hy : a.eval y = .string s := by (conv => lhs; whnf) <;> rfl) (hz : a.eval z = .int .i64 (i : Int) := by (conv => lhs; whnf) <;> rfl) (ha : a.put d undef = a2 := by ((try simp only [Act.put, List.setIfInBounds_toArray, List.set_cons_succ, List.set_cons_zero]) <;> rfl)) :
    OpG ops Q rest a w { dst := d, op := .mapUpdate 49 x y z, type := ty, pos := ps, after := af, guard := none } := by
  obtain ⟨D, h1, h2⟩ := HI
  have hD := h1.isMap
  exact wpList_mapUpdate_own w rfl x y z _ rfl 9 3 str_law und_smap _ b n D hx h1 (by unfold maxLen; omega) _ _ _ hy hz (key_mk hs) _ [] (plainElem_int Try.underlying3 (i64_wf hi)) fun w' k1 k2 => ha ▸ h w' ⟨_, k1, h2.put hD s i⟩ k2
theorem g_del {t t2 : TypeId} (h : OpG ops Q rest a w { dst := d, op := .call { callee := .builtin .delete, args := #[x, y], argTypes := #[t, t2] }, type := ty, pos := ps, after := af, guard := none }) : wpList Try.prog ops Q ({ dst := d, op := .call { callee := .builtin .delete, args := #[x, y], argTypes := #[t, t2] }, type := ty, pos := ps, after := af, guard := none } :: rest) a w := h
theorem a_del (HI : IMap w b n f) (hs : s.size ≤ maxLen) (h : ∀ w', IMap w' b n (fun t => if s = t then none else f t) → w.grownBy w' (some b) → wpList Try.prog ops Q rest a2 w')
    (hx : a.eval x = .map (some b) := by (conv => lhs; whnf) <;> rfl) (hy : a.eval y = .string s := by (conv => lhs; whnf) <;> rfl) (ha : a.put d (.tuple #[]) = a2 := by ((try simp only [Act.put, List.setIfInBounds_toArray, List.set_cons_succ, List.set_cons_zero]) <;> rfl)) :
    OpG ops Q rest a w { dst := d, op := .call { callee := .builtin .delete, args := #[x, y], argTypes := #[49, 9] }, type := ty, pos := ps, after := af, guard := none } := by
  obtain ⟨D, h1, h2⟩ := HI
  exact wpList_delete_own w rfl x y _ _ rfl 3 str_law und_smap _ b n D hx h1 _ _ hy (key_mk hs) fun w' k1 k2 => ha ▸ h w' ⟨_, k1, h2.del s⟩ k2.grown
theorem g_lk {c : Bool} (h : OpG ops Q rest a w { dst := d, op := .lookup 49 x y c, type := ty, pos := ps, after := af, guard := none }) : wpList Try.prog ops Q ({ dst := d, op := .lookup 49 x y c, type := ty, pos := ps, after := af, guard := none } :: rest) a w := h
theorem a_lk (o : Option Nat) (HI : IMap w b n f) (hs : s.size ≤ maxLen) (ho : f s = o) (h : wpList Try.prog ops Q rest a2 w)
    (hx : a.eval x = .map (some b) := by (conv => lhs; whnf) <;> rfl) (hy : a.eval y = .string s := by (conv => lhs; whnf) <;> rfl) (ha : a.put d (.tuple #[.int .i64 (o.getD 0 : Nat), .bool o.isSome]) = a2 := by ((try simp only [Act.put, List.setIfInBounds_toArray, List.set_cons_succ, List.set_cons_zero]) <;> rfl)) :
    OpG ops Q rest a w { dst := d, op := .lookup 49 x y true, type := ty, pos := ps, after := af, guard := none } := by
  obtain ⟨D, h1, h2⟩ := HI
  refine wpList_lookup_own_ok_int w rfl x y _ rfl 9 3 .i64 str_law und_smap Try.underlying3 (int_zero w) b n D hx h1 _ _ hy (key_mk hs) fun c hat _ => ?_
  rw [h2 s, ho] at hat
  rw [h2.has s, ho]
  have hc : c = ((o.getD 0 : Nat) : Int) := by
    cases o with
    | none => simp at hat; simpa using hat.symm
    | some i => simp at hat; simpa using hat.symm
  rw [hc, ha]
  exact h
end
end Go.Proofs.Ytipkmppoppjmeaa
