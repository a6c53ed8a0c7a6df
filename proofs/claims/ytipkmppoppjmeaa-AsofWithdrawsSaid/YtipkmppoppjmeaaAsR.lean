/- A map of the call's own, ranged over: what was seen. -/
import Derived.Test.YtipkmppoppjmeaaAsS
namespace Go.Proofs.Ytipkmppoppjmeaa
set_option maxRecDepth 8000
open Go.RowKit Go.Maps
/-- A range over the map at b, its iterator at r: S was seen, cnt entries are to come. -/
def IRng (w : World) (b r n : Nat) (f : ByteArray → Option Nat) (S : List (ByteArray × Nat)) (cnt : Nat) : Prop :=
  ∃ (D : DataW Unit) (left : Lit → Bool), w.ranges Try.prog 9 (plainElem Try.prog 3) b r n D left cnt ∧ IView D f ∧ (S.map (·.1)).Nodup ∧ (∀ p ∈ S, f p.1 = some p.2) ∧ ∀ s, s ∈ S.map (·.1) ↔ ((f s).isSome = true ∧ left (.string s.data.toList) = false)
theorem IRng.left_eq {w : World} {b r n : Nat} {f : ByteArray → Option Nat} {S : List (ByteArray × Nat)} {cnt : Nat} (h : IRng w b r n f S cnt) : w.rangeLeft b r = cnt := by
  obtain ⟨D, left, h1, _⟩ := h; exact h1.left_eq
theorem IRng.ne {w : World} {b r n : Nat} {f : ByteArray → Option Nat} {S : List (ByteArray × Nat)} {cnt : Nat} (h : IRng w b r n f S cnt) {x : Nat} {c : Array Value} (hb : Blk w x c) : x ≠ b ∧ x ≠ r := by
  obtain ⟨D, left, ⟨es, clock, since, seen, c0, hb1, _, _, _, hr1, _⟩, _⟩ := h
  obtain ⟨t, hx⟩ := hb
  constructor <;> rintro rfl
  · rw [hb1] at hx; cases hx
  · rw [hr1] at hx; cases hx
theorem IRng.lt {w : World} {b r n : Nat} {f : ByteArray → Option Nat} {S : List (ByteArray × Nat)} {cnt : Nat} (h : IRng w b r n f S cnt) : b < w.heap.size ∧ r < w.heap.size := by
  obtain ⟨D, left, h1, _⟩ := h; exact ⟨h1.owns.lt, h1.lt⟩
theorem IRng.kept {w w' : World} {b r n : Nat} {f : ByteArray → Option Nat} {S : List (ByteArray × Nat)} {cnt : Nat} (h : IRng w b r n f S cnt) (e1 : w'.heap[b]? = w.heap[b]?) (e2 : w'.heap[r]? = w.heap[r]?) : IRng w' b r n f S cnt := by
  obtain ⟨D, left, ⟨es, clock, since, seen, c0, hb1, F, hs, hD, hr1, rest⟩, h2⟩ := h
  exact ⟨D, left, ⟨es, clock, since, seen, c0, e1.trans hb1, F, hs, hD, e2.trans hr1, rest⟩, h2⟩
theorem IRng.owns {w : World} {b r n : Nat} {f : ByteArray → Option Nat} {S : List (ByteArray × Nat)} {cnt : Nat} (h : IRng w b r n f S cnt) : IMap w b n f := by
  obtain ⟨D, left, h1, h2, _⟩ := h; exact ⟨D, h1.owns, h2⟩
theorem IMap.kept {w w' : World} {b n : Nat} {f : ByteArray → Option Nat} (h : IMap w b n f) (e : w'.heap[b]? = w.heap[b]?) : IMap w' b n f := by
  obtain ⟨D, ⟨es, clock, hb, F, hs, hD⟩, h2⟩ := h
  exact ⟨D, ⟨es, clock, e.trans hb, F, hs, hD⟩, h2⟩
theorem IMap.ne {w : World} {b n : Nat} {f : ByteArray → Option Nat} (h : IMap w b n f) {x : Nat} {c : Array Value} (hb : Blk w x c) : x ≠ b := by
  obtain ⟨D, ⟨es, clock, hb1, _⟩, _⟩ := h
  obtain ⟨t, hx⟩ := hb
  rintro rfl
  rw [hb1] at hx; cases hx
/-- From now on: what is known now. -/
theorem Mem.rebase {w0 w : World} {X : List Nat} {L : List (Nat × Array Value)} (h : Mem w0 X L w) : Mem w (L.map (·.1)) L w := ⟨Only.refl _ _, h.blk, fun p hp => .inr (List.mem_map.2 ⟨p, hp, rfl⟩), h.nod⟩
theorem Mem.trans {w0 w w' : World} {X : List Nat} {L L' : List (Nat × Array Value)} (h : Mem w0 X L w) (k : Mem w (L.map (·.1)) L' w') : Mem w0 X L' w' := by
  refine ⟨⟨k.only.os.trans h.only.os, k.only.tape.trans h.only.tape, k.only.output.trans h.only.output, Nat.le_trans h.only.size k.only.size, fun x hx hn => ?_⟩, k.blk, fun p hp => ?_, k.nod⟩
  · refine (k.only.block x (Nat.lt_of_lt_of_le hx h.only.size) (fun hm => ?_)).trans (h.only.block x hx hn)
    obtain ⟨p, hp, rfl⟩ := List.mem_map.1 hm
    rcases h.own p hp with h1 | h1
    · omega
    · exact hn h1
  · rcases k.own p hp with h1 | h1
    · exact .inl (Nat.le_trans h.only.size h1)
    · obtain ⟨q, hq, e⟩ := List.mem_map.1 h1
      rw [← e]; exact h.own q hq
/-- A block that is none of those that are known stays. -/
theorem Mem.stay {w w' : World} {L L' : List (Nat × Array Value)} (k : Mem w (L.map (·.1)) L' w') {b : Nat} (hb : b < w.heap.size) (hL : ∀ p ∈ L, p.1 ≠ b) : w'.heap[b]? = w.heap[b]? :=
  k.only.block b hb (fun h => by obtain ⟨p, hp, e⟩ := List.mem_map.1 h; exact hL p hp e)
section
variable {ops : Array Oper} {rest : List Oper} {a a2 : Act} {w : World} {Q : Exit → Act → World → Prop} {d : Option Tmp} {ty : TypeId} {ps : String} {af : Array Edge} {x : Operand} {b r n cnt : Nat} {f : ByteArray → Option Nat} {S : List (ByteArray × Nat)}
theorem g_rng (h : OpG ops Q rest a w { dst := d, op := .range 49 x, type := ty, pos := ps, after := af, guard := none }) : wpList Try.prog ops Q ({ dst := d, op := .range 49 x, type := ty, pos := ps, after := af, guard := none } :: rest) a w := h
theorem a_rng {a2 : Nat → Act} (HI : IMap w b n f) (h : ∀ r w' cnt, IRng w' b r n f [] cnt → w.heap.size ≤ r → Below w.heap.size w w' → wpList Try.prog ops Q rest (a2 r) w')
    (hx : a.eval x = .map (some b) := by (conv => lhs; whnf) <;> rfl) (ha : ∀ r, a.put d (.pointer (some ⟨r, 0, none⟩)) = a2 r := by intro r; ((try simp only [Act.put, List.setIfInBounds_toArray, List.set_cons_succ, List.set_cons_zero]) <;> rfl)) :
    OpG ops Q rest a w { dst := d, op := .range 49 x, type := ty, pos := ps, after := af, guard := none } := by
  obtain ⟨D, h1, h2⟩ := HI
  refine wpList_range_own w rfl x _ rfl 9 3 str_law und_smap _ b n D hx h1 fun w' k1 k2 _ => ?_
  rw [ha]
  refine h _ w' _ ⟨D, _, k1, h2, by simp, by simp, fun s => ?_⟩ (Nat.le_refl _) ⟨k2.os, k2.tape, k2.output, k2.size, fun i hi => k2.block i hi (by simp)⟩
  rw [h2.has s]
  cases (f s).isSome <;> simp
theorem g_nx (h : OpG ops Q rest a w { dst := d, op := .next x false, type := ty, pos := ps, after := af, guard := none }) : wpList Try.prog ops Q ({ dst := d, op := .next x false, type := ty, pos := ps, after := af, guard := none } :: rest) a w := h
theorem a_nx {a3 : Act} {a4 : ByteArray → Nat → Act} (HR : IRng w b r n f S cnt)
        (hDone : cnt = 0 → Hid (∀ s i, (s, i) ∈ S ↔ f s = some i) → wpList Try.prog ops Q rest a3 w)
    (hMore : ∀ (s : ByteArray) (i : Nat) (w' : World) (cnt' : Nat), IRng w' b r n f (S ++ [(s, i)]) cnt' → cnt' < cnt → w.grownBy w' (some r) → s.size ≤ maxLen → f s = some i → (Instr.entry (.pointer (some ⟨r, 0, none⟩))).run Try.prog w' = .ok (.tuple #[.string s, .int .i64 (i : Nat)]) w' → wpList Try.prog ops Q rest (a4 s i) w')
    (hx : a.eval x = .pointer (some ⟨r, 0, none⟩) := by (conv => lhs; whnf) <;> rfl) (h3 : a.put d (.tuple #[.bool false]) = a3 := by ((try simp only [Act.put, List.setIfInBounds_toArray, List.set_cons_succ, List.set_cons_zero]) <;> rfl)) (h4 : ∀ s i, a.put d (.tuple #[.bool true, .string s, .int .i64 (i : Nat)]) = a4 s i := by intro s i; ((try simp only [Act.put, List.setIfInBounds_toArray, List.set_cons_succ, List.set_cons_zero]) <;> rfl)) :
    OpG ops Q rest a w { dst := d, op := .next x false, type := ty, pos := ps, after := af, guard := none } := by
  obtain ⟨D, left, h1, h2, hn, hf, hS⟩ := HR
  refine wpList_next_ranges w rfl x rfl 9 str_law (plainElem Try.prog 3) encStr (Value.int .i64) (fun key kl hk => by obtain ⟨y, hy, _⟩ := Maps.keyOf_str Try.underlying9 hk; exact ⟨y, hy⟩) (fun v y hv => by obtain ⟨c, rfl, _⟩ := plainElem_int_inv Try.underlying3 hv; exact ⟨c, rfl⟩) b r n D left cnt hx h1 ?_ ?_
  · intro h0 hl
    rw [h3]
    refine hDone h0 (Lib.hid fun s i => ⟨fun hm => hf _ hm, fun e => ?_⟩)
    have := (hS s).2 ⟨by rw [e]; rfl, hl _⟩
    obtain ⟨p, hp, rfl⟩ := List.mem_map.1 this
    have e2 := hf p hp
    rw [e] at e2
    injection e2 with e2
    obtain ⟨p1, p2⟩ := p
    simp only at e2
    rw [e2]; exact hp
  · intro y c kl yd w' cnt' hkey hlk hv hat hrg hlt hg hsz hen
    obtain ⟨y', ey, rfl, hlen⟩ := Maps.keyOf_str Try.underlying9 hkey
    obtain rfl : y = y' := encStr_inj ey
    obtain ⟨c', ec, rfl, _⟩ := plainElem_int_inv Try.underlying3 hv
    cases ec
    obtain ⟨s, hs⟩ : ∃ s : ByteArray, s = ⟨y.toArray⟩ := ⟨_, rfl⟩
    have hsd : s.data.toList = y := by rw [hs]
    have hes : encStr y = .string s := by rw [hs]
    have hfs : ∃ i, f s = some i := by
      cases e : f s with
      | some i => exact ⟨i, rfl⟩
      | none =>
        have h5 := h2.has s
        rw [e, hsd, has_true_of_atKey hat] at h5
        cases h5
    obtain ⟨i, hi⟩ := hfs
    have hci : c = (i : Int) := by
      have h5 := h2 s (.lit (.int .i64 0))
      rw [hi, hsd, hat] at h5
      simpa using h5
    subst hci
    rw [hes] at hen ⊢
    rw [h4]
    have hnew : s ∉ S.map (·.1) := fun hm => by
      have := ((hS s).1 hm).2
      rw [hsd, hlk] at this; cases this
    refine hMore s i w' cnt' ⟨D, _, hrg, h2, ?_, ?_, ?_⟩ hlt hg (by rw [hs]; show y.toArray.size ≤ _; simpa using hlen) hi hen
    · rw [List.map_append, List.nodup_append]
      exact ⟨hn, by simp, fun p hp q hq e => hnew (by simp at hq; rw [← hq, ← e]; exact hp)⟩
    · intro p hp
      rcases List.mem_append.1 hp with hp | hp
      · exact hf p hp
      · rw [List.mem_singleton.1 hp]; exact hi
    · intro t
      rw [List.map_append, List.mem_append, hS t]
      by_cases e : t = s
      · subst e
        simp [hi, hsd, Lit.sameKey]
      · have hne : t.data.toList ≠ y := fun h => e (As.key_inj (by rw [h, hsd]))
        simp [e, Lit.sameKey, hne]
end
end Go.Proofs.Ytipkmppoppjmeaa
