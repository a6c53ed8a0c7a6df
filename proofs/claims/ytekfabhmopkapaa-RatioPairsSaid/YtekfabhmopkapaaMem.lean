/- What a call knows of memory: a list of blocks with their cells; each operation hands the list on. -/
import Derived.Test.YtekfabhmopkapaaEngA
namespace Go.Proofs.Ytekfabhmopkapaa
set_option maxRecDepth 8000
open Go.RowKit
/-- Nothing that stood has turned but the blocks of X. -/
structure Only (X : List Nat) (w w' : World) : Prop where
  os : w'.os = w.os
  tape : w'.tape = w.tape
  output : w'.output = w.output
  size : w.heap.size ≤ w'.heap.size
  block : ∀ k, k < w.heap.size → k ∉ X → w'.heap[k]? = w.heap[k]?
theorem Only.refl (X : List Nat) (w : World) : Only X w w := ⟨rfl, rfl, rfl, Nat.le_refl _, fun _ _ _ => rfl⟩
theorem Only.below {w w' : World} (h : Only [] w w') : Below w.heap.size w w' := ⟨h.os, h.tape, h.output, h.size, fun k hk => h.block k hk (by simp)⟩
theorem Only.of {w w' : World} (h : Below w.heap.size w w') (X : List Nat) : Only X w w' := ⟨h.os, h.tape, h.output, h.size, fun k hk _ => h.block k hk⟩
theorem Only.of_grown {w w' : World} {b : Nat} (h : w.grownBy w' (some b)) : Only [b] w w' := ⟨h.os, h.tape, h.output, h.size, fun k hk hn => h.block k hk (fun e => hn (by cases e; simp))⟩
theorem Only.trans {X : List Nat} {a b c : World} (h : Only X a b) (k : Only X b c) : Only X a c :=
  ⟨k.os.trans h.os, k.tape.trans h.tape, k.output.trans h.output, Nat.le_trans h.size k.size, fun i hi hn => (k.block i (Nat.lt_of_lt_of_le hi h.size) hn).trans (h.block i hi hn)⟩
/-- The blocks that a call knows. -/
structure Mem (w0 : World) (X : List Nat) (L : List (Nat × Array Value)) (w : World) : Prop where
  only : Only X w0 w
  blk : ∀ p ∈ L, Blk w p.1 p.2
  own : ∀ p ∈ L, w0.heap.size ≤ p.1 ∨ p.1 ∈ X
  nod : (L.map (·.1)).Nodup
theorem Mem.start (w : World) : Mem w [] [] w := ⟨Only.refl _ _, by simp, by simp, by simp⟩
theorem Mem.start1 (w : World) {b : Nat} {c : Array Value} (h : Blk w b c) : Mem w [b] [(b, c)] w := ⟨Only.refl _ _, by simpa using h, by simp, by simp⟩
theorem Mem.low {w0 w : World} {L : List (Nat × Array Value)} (h : Mem w0 [] L w) : Below w0.heap.size w0 w := h.only.below
/-- A block of the caller's that is only read. -/
theorem Mem.ro {w0 w : World} {X : List Nat} {L : List (Nat × Array Value)} (h : Mem w0 X L w) {b : Nat} {c : Array Value} (hb : Blk w0 b c) (hn : b ∉ X) : Blk w b c := hb.kept (h.only.block b hb.lt hn)
inductive Look : List (Nat × Array Value) → Nat → Array Value → Prop
  | here {b : Nat} {c : Array Value} {L : List (Nat × Array Value)} : Look ((b, c) :: L) b c
  | there {p : Nat × Array Value} {L : List (Nat × Array Value)} {b : Nat} {c : Array Value} (h : Look L b c) : Look (p :: L) b c
theorem Look.mem {L : List (Nat × Array Value)} {b : Nat} {c : Array Value} (h : Look L b c) : (b, c) ∈ L := by
  induction h with
  | here => exact List.mem_cons_self
  | there _ ih => exact List.mem_cons_of_mem _ ih
theorem Mem.get {w0 w : World} {X : List Nat} {L : List (Nat × Array Value)} (h : Mem w0 X L w) {b : Nat} {c : Array Value} (hl : Look L b c) : Blk w b c := h.blk _ hl.mem
/-- Block b holds c' instead of c. -/
inductive At : List (Nat × Array Value) → Nat → Array Value → Array Value → List (Nat × Array Value) → Prop
  | here {b : Nat} {c c' : Array Value} {L : List (Nat × Array Value)} : At ((b, c) :: L) b c c' ((b, c') :: L)
  | there {p : Nat × Array Value} {L L' : List (Nat × Array Value)} {b : Nat} {c c' : Array Value} (h : At L b c c' L') : At (p :: L) b c c' (p :: L')
theorem At.mem {L L' : List (Nat × Array Value)} {b : Nat} {c c' : Array Value} (h : At L b c c' L') : (b, c) ∈ L := by
  induction h with
  | here => exact List.mem_cons_self
  | there _ ih => exact List.mem_cons_of_mem _ ih
theorem At.keys {L L' : List (Nat × Array Value)} {b : Nat} {c c' : Array Value} (h : At L b c c' L') : L'.map (·.1) = L.map (·.1) := by
  induction h with
  | here => rfl
  | there _ ih => simp [ih]
theorem At.at_ {L L' : List (Nat × Array Value)} {b : Nat} {c c' : Array Value} (h : At L b c c' L') (hn : (L.map (·.1)).Nodup) : ∀ p ∈ L', p = (b, c') ∨ (p.1 ≠ b ∧ p ∈ L) := by
  induction h with
  | @here b c c' L =>
    intro p hp
    rcases List.mem_cons.1 hp with rfl | hp
    · exact .inl rfl
    · refine .inr ⟨fun e => ?_, List.mem_cons_of_mem _ hp⟩
      have : b ∉ L.map (·.1) := by simpa using (List.nodup_cons.1 hn).1
      exact this (List.mem_map.2 ⟨p, hp, e⟩)
  | @there q L L' b c c' h ih =>
    intro p hp
    have hn' : (L.map (·.1)).Nodup := (List.nodup_cons.1 hn).2
    rcases List.mem_cons.1 hp with rfl | hp
    · refine .inr ⟨fun e => ?_, List.mem_cons_self⟩
      have h1 := (List.nodup_cons.1 hn).1
      exact h1 (List.mem_map.2 ⟨(b, c), h.mem, e.symm⟩)
    · rcases ih hn' p hp with h1 | ⟨h1, h2⟩
      · exact .inl h1
      · exact .inr ⟨h1, List.mem_cons_of_mem _ h2⟩
theorem Mem.put {w0 w w' : World} {X : List Nat} {L L' : List (Nat × Array Value)} (h : Mem w0 X L w) {b : Nat} {c c' : Array Value} (ha : At L b c c' L') (hb : Blk w' b c') (ho : Only [b] w w') : Mem w0 X L' w' := by
  refine ⟨⟨ho.os.trans h.only.os, ho.tape.trans h.only.tape, ho.output.trans h.only.output, Nat.le_trans h.only.size ho.size, fun k hk hn => ?_⟩, fun p hp => ?_, fun p hp => ?_, by rw [ha.keys]; exact h.nod⟩
  · refine (ho.block k (Nat.lt_of_lt_of_le hk h.only.size) (fun e => ?_)).trans (h.only.block k hk hn)
    have : k = b := by simpa using e
    subst this
    rcases h.own _ ha.mem with h1 | h1
    · exact Nat.lt_irrefl _ (Nat.lt_of_lt_of_le hk h1)
    · exact hn h1
  · rcases ha.at_ h.nod p hp with rfl | ⟨h1, h2⟩
    · exact hb
    · exact (h.blk p h2).kept (ho.block _ (h.blk p h2).lt (by simpa using h1))
  · rcases ha.at_ h.nod p hp with rfl | ⟨h1, h2⟩
    · have h3 := h.own _ ha.mem
      exact h3
    · exact h.own p h2
theorem Mem.drew {w0 w : World} {X : List Nat} {L : List (Nat × Array Value)} (h : Mem w0 X L w) : Mem w0 X L w.drew :=
  ⟨⟨h.only.os, h.only.tape, h.only.output, h.only.size, h.only.block⟩, h.blk, h.own, h.nod⟩
theorem Mem.new {w0 w : World} {X : List Nat} {L : List (Nat × Array Value)} (h : Mem w0 X L w) (c : Array Value) (t : TypeId) : Mem w0 X ((w.heap.size, c) :: L) (w.alloc (.cells c t)) := by
  refine ⟨⟨h.only.os, h.only.tape, h.only.output, by have := h.only.size; simp; omega, fun k hk hn => (Below.heap_alloc w _ k (Nat.lt_of_lt_of_le hk h.only.size)).trans (h.only.block k hk hn)⟩, fun p hp => ?_, fun p hp => ?_, ?_⟩
  · rcases List.mem_cons.1 hp with rfl | hp
    · exact Blk.new w c t
    · exact (h.blk p hp).alloc _
  · rcases List.mem_cons.1 hp with rfl | hp
    · exact .inl h.only.size
    · exact h.own p hp
  · refine List.nodup_cons.2 ⟨fun e => ?_, h.nod⟩
    obtain ⟨p, hp, e⟩ := List.mem_map.1 e
    have := (h.blk p hp).lt
    simp only at e
    omega
theorem Mem.call {w0 w w' : World} {X : List Nat} {L : List (Nat × Array Value)} (h : Mem w0 X L w) (hb : Below w.heap.size w w') : Mem w0 X L w' :=
  ⟨⟨hb.os.trans h.only.os, hb.tape.trans h.only.tape, hb.output.trans h.only.output, Nat.le_trans h.only.size hb.size, fun k hk hn => (hb.block k (Nat.lt_of_lt_of_le hk h.only.size)).trans (h.only.block k hk hn)⟩,
    fun p hp => (h.blk p hp).below hb (h.blk p hp).lt, h.own, h.nod⟩
theorem Mem.tail {w0 w : World} {X : List Nat} {p : Nat × Array Value} {L : List (Nat × Array Value)} (h : Mem w0 X (p :: L) w) : Mem w0 X L w :=
  ⟨h.only, fun q hq => h.blk q (List.mem_cons_of_mem _ hq), fun q hq => h.own q (List.mem_cons_of_mem _ hq), (List.nodup_cons.1 h.nod).2⟩
/-- The first is left, the second goes. -/
theorem Mem.skip1 {w0 w : World} {X : List Nat} {p q : Nat × Array Value} {L : List (Nat × Array Value)} (h : Mem w0 X (p :: q :: L) w) : Mem w0 X (p :: L) w := by
  have hn := h.nod
  simp only [List.map_cons, List.nodup_cons, List.mem_cons] at hn
  exact ⟨h.only, fun r hr => h.blk r (by simp at hr ⊢; rcases hr with rfl | hr <;> simp [*]), fun r hr => h.own r (by simp at hr ⊢; rcases hr with rfl | hr <;> simp [*]), by
    simp only [List.map_cons, List.nodup_cons]
    exact ⟨fun e => hn.1 (.inr e), hn.2.2⟩⟩
/-- Fewer blocks: those that are asked for, in the order of the list. -/
inductive Sub : List (Nat × Array Value) → List (Nat × Array Value) → Prop
  | nil {L : List (Nat × Array Value)} : Sub [] L
  | keep {p : Nat × Array Value} {K L : List (Nat × Array Value)} (h : Sub K L) : Sub (p :: K) (p :: L)
  | skip {p : Nat × Array Value} {K L : List (Nat × Array Value)} (h : Sub K L) : Sub K (p :: L)
theorem Sub.sub {K L : List (Nat × Array Value)} (h : Sub K L) : List.Sublist K L := by
  induction h with
  | nil => exact List.nil_sublist _
  | keep _ ih => exact ih.cons_cons _
  | skip _ ih => exact ih.cons _
theorem Sub.refl : ∀ L : List (Nat × Array Value), Sub L L
  | [] => .nil
  | _ :: L => .keep (Sub.refl L)
theorem Mem.less {w0 w : World} {X : List Nat} {K L : List (Nat × Array Value)} (h : Mem w0 X L w) (hs : Sub K L) : Mem w0 X K w :=
  ⟨h.only, fun p hp => h.blk p (hs.sub.mem hp), fun p hp => h.own p (hs.sub.mem hp), (hs.sub.map _).nodup h.nod⟩
/-- L without p. -/
inductive Rm : List (Nat × Array Value) → Nat × Array Value → List (Nat × Array Value) → Prop
  | here {p : Nat × Array Value} {L : List (Nat × Array Value)} : Rm (p :: L) p L
  | there {p q : Nat × Array Value} {L L' : List (Nat × Array Value)} (h : Rm L p L') : Rm (q :: L) p (q :: L')
theorem Rm.perm {L L' : List (Nat × Array Value)} {p : Nat × Array Value} (h : Rm L p L') : (p :: L').Perm L := by
  induction h with
  | here => exact .refl _
  | there _ ih => exact (List.Perm.swap _ _ _).trans (ih.cons _)
/-- Some blocks of a list, in any order. -/
inductive Pk : List (Nat × Array Value) → List (Nat × Array Value) → Prop
  | nil {L : List (Nat × Array Value)} : Pk [] L
  | cons {p : Nat × Array Value} {K L L' : List (Nat × Array Value)} (h : Rm L p L') (k : Pk K L') : Pk (p :: K) L
theorem Pk.mem {K L : List (Nat × Array Value)} (h : Pk K L) : ∀ q ∈ K, q ∈ L := by
  induction h with
  | nil => intro q hq; cases hq
  | cons hr _ ih =>
    intro q hq
    rcases List.mem_cons.1 hq with rfl | hq
    · exact hr.perm.mem_iff.1 List.mem_cons_self
    · exact hr.perm.mem_iff.1 (List.mem_cons_of_mem _ (ih q hq))
theorem Mem.rm {w0 w : World} {X : List Nat} {L L' : List (Nat × Array Value)} {p : Nat × Array Value} (h : Mem w0 X L w) (hr : Rm L p L') : Mem w0 X (p :: L') w :=
  ⟨h.only, fun q hq => h.blk q (hr.perm.mem_iff.1 hq), fun q hq => h.own q (hr.perm.mem_iff.1 hq), (hr.perm.map _).nodup_iff.2 h.nod⟩
theorem Mem.pk {K : List (Nat × Array Value)} : ∀ {L : List (Nat × Array Value)} {w0 w : World} {X : List Nat}, Mem w0 X L w → Pk K L → Mem w0 X K w := by
  induction K with
  | nil => intro L w0 w X h _; exact ⟨h.only, by simp, by simp, by simp⟩
  | cons p K ih =>
    intro L w0 w X h hk
    cases hk with
    | cons hr k =>
      have h1 := h.rm hr
      have h2 := ih h1.tail k
      refine ⟨h.only, fun q hq => ?_, fun q hq => ?_, ?_⟩
      · rcases List.mem_cons.1 hq with rfl | hq
        · exact h1.blk _ List.mem_cons_self
        · exact h2.blk _ hq
      · rcases List.mem_cons.1 hq with rfl | hq
        · exact h1.own _ List.mem_cons_self
        · exact h2.own _ hq
      · refine List.nodup_cons.2 ⟨fun e => ?_, h2.nod⟩
        obtain ⟨q, hq, e⟩ := List.mem_map.1 e
        exact (List.nodup_cons.1 h1.nod).1 (List.mem_map.2 ⟨q, k.mem q hq, e⟩)
theorem Pk.refl : ∀ L : List (Nat × Array Value), Pk L L
  | [] => .nil
  | _ :: L => .cons .here (Pk.refl L)
theorem Pk.skip {p : Nat × Array Value} {K L : List (Nat × Array Value)} (h : Pk K L) : Pk K (p :: L) := by
  induction h with
  | nil => exact .nil
  | cons hr _ ih => exact .cons (.there hr) ih
theorem Pk.pre : ∀ B R : List (Nat × Array Value), Pk B (B ++ R)
  | [], _ => .nil
  | _ :: B, R => .cons .here (Pk.pre B R)
theorem Pk.post : ∀ B R : List (Nat × Array Value), Pk R (B ++ R)
  | [], R => .refl R
  | _ :: B, R => .skip (Pk.post B R)
theorem Mem.pick {K L : List (Nat × Array Value)} {w0 w : World} {X : List Nat} (h : Mem w0 X L w) (hs : Pk K L := by (repeat (first | exact Pk.nil | exact Pk.refl _ | exact Pk.pre _ _ | exact Pk.post _ _ | (apply Pk.cons; focus (repeat (first | exact Rm.here | apply Rm.there))) | apply Pk.skip))) : Mem w0 X K w := h.pk hs
/-- A name for a block of the list. -/
theorem Mem.nm0 {w0 w : World} {X : List Nat} {b : Nat} {c : Array Value} {L : List (Nat × Array Value)} (_ : Mem w0 X ((b, c) :: L) w) : ∃ x, x = b := ⟨b, rfl⟩
theorem Mem.nm1 {w0 w : World} {X : List Nat} {p0 : Nat × Array Value} {b : Nat} {c : Array Value} {L : List (Nat × Array Value)} (_ : Mem w0 X (p0 :: (b, c) :: L) w) : ∃ x, x = b := ⟨b, rfl⟩
theorem Mem.nm2 {w0 w : World} {X : List Nat} {p0 p1 : Nat × Array Value} {b : Nat} {c : Array Value} {L : List (Nat × Array Value)} (_ : Mem w0 X (p0 :: p1 :: (b, c) :: L) w) : ∃ x, x = b := ⟨b, rfl⟩
theorem Mem.nm3 {w0 w : World} {X : List Nat} {p0 p1 p2 : Nat × Array Value} {b : Nat} {c : Array Value} {L : List (Nat × Array Value)} (_ : Mem w0 X (p0 :: p1 :: p2 :: (b, c) :: L) w) : ∃ x, x = b := ⟨b, rfl⟩
theorem Mem.nm4 {w0 w : World} {X : List Nat} {p0 p1 p2 p3 : Nat × Array Value} {b : Nat} {c : Array Value} {L : List (Nat × Array Value)} (_ : Mem w0 X (p0 :: p1 :: p2 :: p3 :: (b, c) :: L) w) : ∃ x, x = b := ⟨b, rfl⟩
theorem Mem.nm5 {w0 w : World} {X : List Nat} {p0 p1 p2 p3 p4 : Nat × Array Value} {b : Nat} {c : Array Value} {L : List (Nat × Array Value)} (_ : Mem w0 X (p0 :: p1 :: p2 :: p3 :: p4 :: (b, c) :: L) w) : ∃ x, x = b := ⟨b, rfl⟩
theorem Mem.nm6 {w0 w : World} {X : List Nat} {p0 p1 p2 p3 p4 p5 : Nat × Array Value} {b : Nat} {c : Array Value} {L : List (Nat × Array Value)} (_ : Mem w0 X (p0 :: p1 :: p2 :: p3 :: p4 :: p5 :: (b, c) :: L) w) : ∃ x, x = b := ⟨b, rfl⟩
/-- Loading type T at place k of a block with cells c gives v. -/
def LA (T : TypeId) (c : Array Value) (k : Nat) (v : Value) : Prop := ∀ w b, Blk w b c → (loadVar T ⟨b, k, none⟩).run Try.prog w = .ok v w
/-- Storing v as type T at place k turns the cells c into c'. -/
def SA (T : TypeId) (c : Array Value) (k : Nat) (v : Value) (c' : Array Value) : Prop := ∀ w b, Blk w b c → ∃ w', (storeVar T ⟨b, k, none⟩ v).run Try.prog w = .ok () w' ∧ Blk w' b c' ∧ Only [b] w w'
/-- A new variable of type T holds the cells c. -/
def ZA (T : TypeId) (c : Array Value) : Prop := ∃ z, z.cells = c ∧ ∀ w, (zeroValue T).run Try.prog w = .ok z w
noncomputable def aggT (T : TypeId) : Option Bool := match Try.prog.underlying T with
  | some (.struct _) | some (.array ..) => some true
  | some _ => some false
  | none => none
noncomputable def sizT (T : TypeId) : Option Nat := (Try.prog.info? T).map (·.size)
theorem run_agg {T : TypeId} {t : Bool} (h : aggT T = some t) (w : World) : (isAgg T).run Try.prog w = .ok t w := by
  unfold aggT at h
  cases hu : Try.prog.underlying T with
  | none => rw [hu] at h; simp at h
  | some d =>
    rw [hu] at h
    simp only [isAgg, Sem.run_bind, run_underlying hu, Result.andThen_ok]
    cases d <;> simp_all
theorem run_siz {T : TypeId} {n : Nat} (h : sizT T = some n) (w : World) : (sizeOf T).run Try.prog w = .ok n w := by
  unfold sizT at h
  cases hu : Try.prog.info? T with
  | none => rw [hu] at h; simp at h
  | some d =>
    rw [hu] at h
    simp only [Option.map_some, Option.some.injEq] at h
    simp [sizeOf, typeInfo, hu, h]
theorem LA.one {T : TypeId} {c : Array Value} {k : Nat} {v : Value} (hT : aggT T = some false) (h : c[k]? = some v) : LA T c k v := fun w b hb => by
  have hc := hb.cell k
  rw [h] at hc
  simp only [loadVar, Sem.run_bind, run_agg hT, Result.andThen_ok, Bool.false_eq_true, if_false]
  simp [hc]
theorem LA.mid {T : TypeId} {c cs : Array Value} {k n : Nat} (hT : aggT T = some true) (hs : sizT T = some n) (hk : k + n ≤ c.size) (h : c.extract k (k + n) = cs) : LA T c k (.agg cs) := fun w b hb => by
  have hr : (loadCells ⟨b, k, none⟩ cs.toList.length).run Try.prog w = .ok cs.toList.toArray w :=
    run_loadCells_list (P := Try.prog) w ⟨b, k, none⟩ cs.toList (fun j v hv => by
      rw [Addr.add_mid, hb.cell (k + j)]
      subst h
      simp only [Array.getElem?_toList, Array.getElem?_extract] at hv
      split at hv
      · exact hv
      · cases hv)
  have hl : cs.toList.length = n := by rw [← h]; simp; omega
  rw [hl] at hr
  simp only [loadVar, Sem.run_bind, run_agg hT, Result.andThen_ok, if_true, run_siz hs, hr, Sem.run_pure]
theorem LA.whole {T : TypeId} {c : Array Value} (hT : aggT T = some true) (hs : sizT T = some c.size) : LA T c 0 (.agg c) :=
  LA.mid hT hs (by omega) (by simp)
theorem Only.setRow (w : World) (b : Nat) (c : Array Value) : Only [b] w (w.setRow b c) := ⟨rfl, rfl, rfl, by simp [World.setRow], fun k _ hn => setRow_other w b k c (by simpa using hn)⟩
theorem SA.one {T : TypeId} {c : Array Value} {k : Nat} {v : Value} (hs : sizT T = some 1) (hv : v.oneCell' = true) (hk : k < c.size) : SA T c k v (c.setIfInBounds k v) := fun w b hb => by
  have hc := hb.cell k
  rw [Array.getElem?_eq_getElem hk] at hc
  have hf := hb.free k
  have hcs : v.cells = #[v] := by cases v <;> simp_all [Value.oneCell', Value.cells]
  refine ⟨w.setCell ⟨b, k, none⟩ v, ?_, hb.set k v, ?_⟩
  · have e : (⟨b, k, none⟩ : Addr).add 0 = ⟨b, k, none⟩ := by rw [Addr.add_mid]; rfl
    simp only [storeVar, Sem.run_bind, run_siz hs, Result.andThen_ok, hcs]
    simp [storeCells, e, run_store _ _ _ _ _ hv, hc, hf]
  · obtain ⟨t, ht⟩ := hb
    rw [setCell_eq_setRow w b k c t (0, 0) v ht]
    exact Only.setRow _ _ _
def setAll : Array Value → Nat → List Value → Array Value
  | c, _, [] => c
  | c, k, v :: l => setAll (c.setIfInBounds k v) (k + 1) l
theorem blk_setCells {b : Nat} : ∀ (l : List Value) (k : Nat) (c : Array Value) (w : World), Blk w b c → Blk (w.setCells b k l) b (setAll c k l)
  | [], _, _, _, h => h
  | v :: l, k, _, _, h => blk_setCells l (k + 1) _ _ (h.set k v)
theorem only_setCells {b : Nat} : ∀ (l : List Value) (k : Nat) (c : Array Value) (w : World), Blk w b c → Only [b] w (w.setCells b k l)
  | [], _, _, w, _ => Only.refl _ w
  | v :: l, k, c, w, h => by
    refine Only.trans ?_ (only_setCells l (k + 1) _ _ (h.set k v))
    obtain ⟨t, ht⟩ := h
    rw [setCell_eq_setRow w b k c t (0, 0) v ht]
    exact Only.setRow _ _ _
theorem SA.mid {T : TypeId} {c cs c' : Array Value} {k : Nat} (hs : sizT T = some cs.size) (h1 : cs.all (·.oneCell') = true) (hk : k + cs.size ≤ c.size) (h : setAll c k cs.toList = c') : SA T c k (.agg cs) c' := fun w b hb => by
  refine ⟨w.setCells b k cs.toList, ?_, h ▸ blk_setCells _ _ _ _ hb, only_setCells _ _ _ _ hb⟩
  refine run_storeVar_mid w b k T cs (fun j hj => ?_) hs h1
  rw [hb.cell (k + j), hb.free (k + j)]
  refine ⟨?_, rfl⟩
  rw [Array.getElem?_eq_getElem (by omega)]
  rfl
theorem SA.whole {T : TypeId} {c cs : Array Value} (hs : sizT T = some cs.size) (h1 : cs.all (·.oneCell') = true) (hk : cs.size = c.size) : SA T c 0 (.agg cs) cs := fun w b hb => by
  obtain ⟨t, ht⟩ := hb
  have hb' : Blk w b c := ⟨t, ht⟩
  refine ⟨w.setRow b cs, ?_, hb'.setRow cs, Only.setRow _ _ _⟩
  exact run_storeVar_row w b t T c cs ht hs hk.symm h1
/-- The operation is carried out: it has no guard, or its guard holds the Bool that it asks for. -/
def WantT (ops : Array Oper) (o : Oper) (a : Act) : Prop := o.guard = none ∨ ∃ j want d, o.guard = some (j, want) ∧ (ops[j]?).bind (·.dst) = some d ∧ a.tmps[d]? = some (.bool want)
theorem WantT.wanted {ops : Array Oper} {o : Oper} {a : Act} (h : WantT ops o a) : Region.wanted o (yielded ops a.tmps) = true := by
  rcases h with h | ⟨j, want, d, h1, h2, h3⟩
  · simp [Region.wanted, h]
  · simp [Region.wanted, h1, yielded, h2, h3]
section
variable {ops : Array Oper} {rest : List Oper} {a : Act} {w w0 : World} {X : List Nat} {L L' : List (Nat × Array Value)} {Q : Exit → Act → World → Prop}
theorem m_ld {d : Option Tmp} {ty : TypeId} {ps : String} {af : Array Edge} {g : Option (Nat × Bool)} {T : TypeId} {x : Operand} {b k : Nat} {c : Array Value} {v : Value} (hw : WantT ops { dst := d, op := .load T x, type := ty, pos := ps, after := af, guard := g } a) (hx : a.eval x = .pointer (some ⟨b, k, none⟩)) (hb : Blk w b c) (hv : LA T c k v)
    (h : wpList Try.prog ops Q rest (a.put d v) w) : wpList Try.prog ops Q ({ dst := d, op := .load T x, type := ty, pos := ps, after := af, guard := g } :: rest) a w := by
  refine wpList_step fun K hK => ?_
  rw [if_pos hw.wanted]
  unfold Oper.wp execOp
  simp only [hx, Instr.loadAt, Instr.sureAddr, Sem.run_bind, Sem.run_pure, Result.andThen_ok, hv w b hb]
  exact hK _ _ h
theorem m_st {d : Option Tmp} {ty : TypeId} {ps : String} {af : Array Edge} {g : Option (Nat × Bool)} {T : TypeId} {x y : Operand} {b k : Nat} {c c' : Array Value} {v : Value} (HM : Mem w0 X L w) (hw : WantT ops { dst := d, op := .store T x y, type := ty, pos := ps, after := af, guard := g } a) (hx : a.eval x = .pointer (some ⟨b, k, none⟩)) (hy : a.eval y = v) (ha : At L b c c' L') (hv : SA T c k v c')
    (h : ∀ w', Mem w0 X L' w' → wpList Try.prog ops Q rest (a.put d undef) w') : wpList Try.prog ops Q ({ dst := d, op := .store T x y, type := ty, pos := ps, after := af, guard := g } :: rest) a w := by
  refine wpList_step fun K hK => ?_
  rw [if_pos hw.wanted]
  obtain ⟨w', hr, hb', hO⟩ := hv w b (HM.blk _ ha.mem)
  unfold Oper.wp execOp
  simp only [hx, hy, Instr.storeAt, Instr.sureAddr, Sem.run_bind, Sem.run_pure, Result.andThen_ok, hr]
  exact hK _ _ (h w' (HM.put ha hb' hO))
theorem m_al {d : Option Tmp} {ty : TypeId} {ps : String} {af : Array Edge} {g : Option (Nat × Bool)} {T : TypeId} {c : Array Value} (HM : Mem w0 X L w) (hw : WantT ops { dst := d, op := .alloc T, type := ty, pos := ps, after := af, guard := g } a) (hz : ZA T c)
    (h : ∀ b w', Mem w0 X ((b, c) :: L) w' → wpList Try.prog ops Q rest (a.put d (.pointer (some ⟨b, 0, none⟩))) w') : wpList Try.prog ops Q ({ dst := d, op := .alloc T, type := ty, pos := ps, after := af, guard := g } :: rest) a w := by
  refine wpList_step fun K hK => ?_
  rw [if_pos hw.wanted]
  obtain ⟨z, hzc, hz⟩ := hz
  unfold Oper.wp execOp
  simp only [Instr.alloc, Sem.run_bind, hz, Result.andThen_ok, newVar, newRow, hzc, run_newObj_alloc, Sem.run_pure]
  exact hK _ _ (h _ _ (HM.new c T))
theorem m_bx {d : Option Tmp} {ty : TypeId} {ps : String} {af : Array Edge} {g : Option (Nat × Bool)} {T : TypeId} {x : Operand} {v : Value} {c : Array Value} (HM : Mem w0 X L w) (hw : WantT ops { dst := d, op := .box T x, type := ty, pos := ps, after := af, guard := g } a) (hx : a.eval x = v) (hz : v.cells = c)
    (h : ∀ b w', Mem w0 X ((b, c) :: L) w' → wpList Try.prog ops Q rest (a.put d (.pointer (some ⟨b, 0, none⟩))) w') : wpList Try.prog ops Q ({ dst := d, op := .box T x, type := ty, pos := ps, after := af, guard := g } :: rest) a w := by
  refine wpList_step fun K hK => ?_
  rw [if_pos hw.wanted]
  unfold Oper.wp execOp
  simp only [hx, Instr.box, Sem.run_bind, Result.andThen_ok, newVar, newRow, hz, run_newObj_alloc, Sem.run_pure]
  exact hK _ _ (h _ _ (HM.new c T))
end
end Go.Proofs.Ytekfabhmopkapaa
