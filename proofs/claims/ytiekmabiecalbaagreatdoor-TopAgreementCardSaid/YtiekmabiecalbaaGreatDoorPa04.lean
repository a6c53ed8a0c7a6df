/- Walks. -/
import Derived.Deep.RegionHeld
import Derived.Lib.MinMax
import Derived.Deep.AppendSrc
import Derived.Test.YtiekmabiecalbaaGreatDoorPa01
namespace Go.Proofs.YtiekmabiecalbaaGreatDoor
set_option maxHeartbeats 16000000
open Go.RowKit
set_option maxRecDepth 8000
section
theorem z9_11 {P : Prop} (h : P := by
 induction h with
 | here => exact List.mem_cons_self
 | there _ ih => exact List.mem_cons_of_mem _ ih) : P := h
theorem z9_12 {P : Prop} (h : P := by
 subst hji; exact hy.wpOp hi (hS _ _ hn hH) ⟨⟨hH.1, fun hk => hH.2 hk.unset⟩, H⟩) : P := h
theorem z9_13 {P : Prop} (h : P := by
 unfold execOp
 simp only [ho, hx, Sem.run_bind, h w, Result.andThen_ok, Sem.run_pure]) : P := h
theorem z9_14 {P : Prop} (h : P := by
 simp [hr, Result.andThen]
 refine hK _ _ (ha _ ▸ h _ _ ?_)
 exact HM.new _ e) : P := h
end
section
structure Only (X : List Nat) (w w' : World) : Prop where
 os : w'.os = w.os
 tape : w'.tape = w.tape
 output : w'.output = w.output
 size : w.heap.size ≤ w'.heap.size
 block : ∀ k, k < w.heap.size → k ∉ X → w'.heap[k]? = w.heap[k]?
theorem Only.refl (X : List Nat) (w : World) : Only X w w := ⟨rfl, rfl, rfl, Nat.le_refl _, fun _ _ _ => rfl⟩
theorem Only.below {w w' : World} (h : Only [] w w') : Below w.heap.size w w' := ⟨h.os, h.tape, h.output, h.size, fun k hk => h.block k hk Zs⟩
theorem Only.of {w w' : World} (h : Below w.heap.size w w') (X : List Nat) : Only X w w' := ⟨h.os, h.tape, h.output, h.size, fun k hk _ => h.block k hk⟩
theorem Only.of_grown {w w' : World} {b : Nat} (h : w.grownBy w' (some b)) : Only [b] w w' := ⟨h.os, h.tape, h.output, h.size, fun k hk hn => h.block k hk (fun e => hn (by cases e; simp))⟩
theorem Only.trans {X : List Nat} {a b c : World} (h : Only X a b) (k : Only X b c) : Only X a c :=
 ⟨k.os.trans h.os, k.tape.trans h.tape, k.output.trans h.output, Nat.le_trans h.size k.size, fun i hi hn => (k.block i (Nat.lt_of_lt_of_le hi h.size) hn).trans (h.block i hi hn)⟩
structure Mem (w0 : World) (X : List Nat) (L : List (Nat × Array Value)) (w : World) : Prop where
 only : Only X w0 w
 blk : ∀ p ∈ L, Blk w p.1 p.2
 own : ∀ p ∈ L, w0.heap.size ≤ p.1 ∨ p.1 ∈ X
 nod : (L.map (·.1)).Nodup
theorem Mem.start (w : World) : Mem w [] [] w := ⟨Only.refl _ _, by simp, by simp, by simp⟩
theorem Mem.start1 (w : World) {b : Nat} {c : Array Value} (h : Blk w b c) : Mem w [b] [(b, c)] w := ⟨Only.refl _ _, by simpa using h, by simp, by simp⟩
theorem Mem.low {w0 w : World} {L : List (Nat × Array Value)} (h : Mem w0 [] L w) : Below w0.heap.size w0 w := h.only.below
theorem Mem.ro {w0 w : World} {X : List Nat} {L : List (Nat × Array Value)} (h : Mem w0 X L w) {b : Nat} {c : Array Value} (hb : Blk w0 b c) (hn : b ∉ X) : Blk w b c := hb.kept (h.only.block b hb.lt hn)
def Rbk (w : World) (b : Nat) (c : Array Value) : Prop := ∃ t fr, w.heap[b]? = some (.cells c t fr)
theorem Blk.rbk {w : World} {b : Nat} {c : Array Value} (h : Blk w b c) : Rbk w b c := by obtain ⟨t, h⟩ := h; exact ⟨t, _, h⟩
theorem Rbk.lt {w : World} {b : Nat} {c : Array Value} (h : Rbk w b c) : b < w.heap.size := by
 obtain ⟨t, fr, h⟩ := h; exact (Array.getElem?_eq_some_iff.1 h).1
theorem Rbk.kept {w w' : World} {b : Nat} {c : Array Value} (h : Rbk w b c) (e : w'.heap[b]? = w.heap[b]?) : Rbk w' b c := by
 obtain ⟨t, fr, h⟩ := h; exact ⟨t, fr, e.trans h⟩
theorem Rbk.below {w w' : World} {b B : Nat} {c : Array Value} (h : Rbk w b c) (hb : Below B w w') (hB : b < B) : Rbk w' b c := h.kept (hb.block b hB)
theorem Rbk.cell {w : World} {b : Nat} {c : Array Value} (h : Rbk w b c) (i : Nat) : w.cell? ⟨b, i, none⟩ = c[i]? := by
 obtain ⟨t, fr, h⟩ := h; exact cell_of_row w b i c t _ h
theorem Mem.rro {w0 w : World} {X : List Nat} {L : List (Nat × Array Value)} (h : Mem w0 X L w) {b : Nat} {c : Array Value} (hb : Rbk w0 b c) (hn : b ∉ X) : Rbk w b c := hb.kept (h.only.block b hb.lt hn)
inductive Look : List (Nat × Array Value) → Nat → Array Value → Prop
 | here {b : Nat} {c : Array Value} {L : List (Nat × Array Value)} : Look ((b, c) :: L) b c
 | there {p : Nat × Array Value} {L : List (Nat × Array Value)} {b : Nat} {c : Array Value} (h : Look L b c) : Look (p :: L) b c
theorem Look.mem {L : List (Nat × Array Value)} {b : Nat} {c : Array Value} (h : Look L b c) : (b, c) ∈ L := by
 exact z9_11
theorem Mem.get {w0 w : World} {X : List Nat} {L : List (Nat × Array Value)} (h : Mem w0 X L w) {b : Nat} {c : Array Value} (hl : Look L b c) : Blk w b c := h.blk _ hl.mem
inductive At : List (Nat × Array Value) → Nat → Array Value → Array Value → List (Nat × Array Value) → Prop
 | here {b : Nat} {c c' : Array Value} {L : List (Nat × Array Value)} : At ((b, c) :: L) b c c' ((b, c') :: L)
 | there {p : Nat × Array Value} {L L' : List (Nat × Array Value)} {b : Nat} {c c' : Array Value} (h : At L b c c' L') : At (p :: L) b c c' (p :: L')
theorem At.mem {L L' : List (Nat × Array Value)} {b : Nat} {c c' : Array Value} (h : At L b c c' L') : (b, c) ∈ L := by
 exact z9_11
theorem At.keys {L L' : List (Nat × Array Value)} {b : Nat} {c c' : Array Value} (h : At L b c c' L') : L'.map (·.1) = L.map (·.1) := by
 induction h with
 | here => rfl
 | there _ ih => simp [ih]
theorem At.at_ {L L' : List (Nat × Array Value)} {b : Nat} {c c' : Array Value} (h : At L b c c' L') (hn : (L.map (·.1)).Nodup) : ∀ p ∈ L', p = (b, c') ∨ (p.1 ≠ b ∧ p ∈ L) := by
 induction h with
 | @here b c c' L =>
  intro p hp
  rcases List.mem_cons.1 hp with rfl | hp
  ·exact .inl rfl
  ·refine .inr ⟨fun e => ?_, List.mem_cons_of_mem _ hp⟩
   have : b ∉ L.map (·.1) := by simpa using (List.nodup_cons.1 hn).1
   exact this (List.mem_map.2 ⟨p, hp, e⟩)
 | @there q L L' b c c' h ih =>
  intro p hp
  have hn' : (L.map (·.1)).Nodup := (List.nodup_cons.1 hn).2
  rcases List.mem_cons.1 hp with rfl | hp
  ·refine .inr ⟨fun e => ?_, List.mem_cons_self⟩
   have h1 := (List.nodup_cons.1 hn).1
   exact h1 (List.mem_map.2 ⟨(b, c), h.mem, e.symm⟩)
  ·rcases ih hn' p hp with h1 | ⟨h1, h2⟩
   ·exact .inl h1
   ·exact .inr ⟨h1, List.mem_cons_of_mem _ h2⟩
theorem Mem.put {w0 w w' : World} {X : List Nat} {L L' : List (Nat × Array Value)} (h : Mem w0 X L w) {b : Nat} {c c' : Array Value} (ha : At L b c c' L') (hb : Blk w' b c') (ho : Only [b] w w') : Mem w0 X L' w' := by
 refine ⟨⟨ho.os.trans h.only.os, ho.tape.trans h.only.tape, ho.output.trans h.only.output, Nat.le_trans h.only.size ho.size, fun k hk hn => ?_⟩, fun p hp => ?_, fun p hp => ?_, by rw [ha.keys]; exact h.nod⟩
 ·refine (ho.block k (Nat.lt_of_lt_of_le hk h.only.size) (fun e => ?_)).trans (h.only.block k hk hn)
  have : k = b := by simpa using e
  subst this
  rcases h.own _ ha.mem with h1 | h1
  ·exact Nat.lt_irrefl _ (Nat.lt_of_lt_of_le hk h1)
  ·exact hn h1
 ·rcases ha.at_ h.nod p hp with rfl | ⟨h1, h2⟩
  ·exact hb
  ·exact (h.blk p h2).kept (ho.block _ (h.blk p h2).lt (by simpa using h1))
 ·rcases ha.at_ h.nod p hp with rfl | ⟨h1, h2⟩
  ·have h3 := h.own _ ha.mem
   exact h3
  ·exact h.own p h2
theorem Mem.drew {w0 w : World} {X : List Nat} {L : List (Nat × Array Value)} (h : Mem w0 X L w) : Mem w0 X L w.drew :=
 ⟨⟨h.only.os, h.only.tape, h.only.output, h.only.size, h.only.block⟩, h.blk, h.own, h.nod⟩
theorem Mem.new {w0 w : World} {X : List Nat} {L : List (Nat × Array Value)} (h : Mem w0 X L w) (c : Array Value) (t : TypeId) : Mem w0 X ((w.heap.size, c) :: L) (w.alloc (.cells c t)) := by
 refine ⟨⟨h.only.os, h.only.tape, h.only.output, by have := h.only.size; simp; omega, fun k hk hn => (Below.heap_alloc w _ k (Nat.lt_of_lt_of_le hk h.only.size)).trans (h.only.block k hk hn)⟩, fun p hp => ?_, fun p hp => ?_, ?_⟩
 ·rcases List.mem_cons.1 hp with rfl | hp
  ·exact Blk.new w c t
  ·exact (h.blk p hp).alloc _
 ·rcases List.mem_cons.1 hp with rfl | hp
  ·exact .inl h.only.size
  ·exact h.own p hp
 ·refine List.nodup_cons.2 ⟨fun e => ?_, h.nod⟩
  obtain ⟨p, hp, e⟩ := List.mem_map.1 e
  have := (h.blk p hp).lt
  simp only at e
  omega
theorem Mem.call {w0 w w' : World} {X : List Nat} {L : List (Nat × Array Value)} (h : Mem w0 X L w) (hb : Below w.heap.size w w') : Mem w0 X L w' :=
 ⟨⟨hb.os.trans h.only.os, hb.tape.trans h.only.tape, hb.output.trans h.only.output, Nat.le_trans h.only.size hb.size, fun k hk hn => (hb.block k (Nat.lt_of_lt_of_le hk h.only.size)).trans (h.only.block k hk hn)⟩,
  fun p hp => (h.blk p hp).below hb (h.blk p hp).lt, h.own, h.nod⟩
theorem Mem.tail {w0 w : World} {X : List Nat} {p : Nat × Array Value} {L : List (Nat × Array Value)} (h : Mem w0 X (p :: L) w) : Mem w0 X L w :=
 ⟨h.only, fun q hq => h.blk q (List.mem_cons_of_mem _ hq), fun q hq => h.own q (List.mem_cons_of_mem _ hq), (List.nodup_cons.1 h.nod).2⟩
inductive Sub : List (Nat × Array Value) → List (Nat × Array Value) → Prop
 | nil {L : List (Nat × Array Value)} : Sub [] L
 | keep {p : Nat × Array Value} {K L : List (Nat × Array Value)} (h : Sub K L) : Sub (p :: K) (p :: L)
 | skip {p : Nat × Array Value} {K L : List (Nat × Array Value)} (h : Sub K L) : Sub K (p :: L)
theorem Sub.sub {K L : List (Nat × Array Value)} (h : Sub K L) : List.Sublist K L := by
 induction h with
 | nil => exact List.nil_sublist _
 | keep _ ih => exact ih.cons_cons _
 | skip _ ih => exact ih.cons _
theorem Sub.refl : ∀ L : List (Nat × Array Value), Sub L L
 | [] => .nil
 | _ :: L => .keep (Sub.refl L)
theorem Mem.less {w0 w : World} {X : List Nat} {K L : List (Nat × Array Value)} (h : Mem w0 X L w) (hs : Sub K L) : Mem w0 X K w :=
 ⟨h.only, fun p hp => h.blk p (hs.sub.mem hp), fun p hp => h.own p (hs.sub.mem hp), (hs.sub.map _).nodup h.nod⟩
inductive Rm : List (Nat × Array Value) → Nat × Array Value → List (Nat × Array Value) → Prop
 | here {p : Nat × Array Value} {L : List (Nat × Array Value)} : Rm (p :: L) p L
 | there {p q : Nat × Array Value} {L L' : List (Nat × Array Value)} (h : Rm L p L') : Rm (q :: L) p (q :: L')
theorem Rm.perm {L L' : List (Nat × Array Value)} {p : Nat × Array Value} (h : Rm L p L') : (p :: L').Perm L := by
 induction h with
 | here => exact .refl _
 | there _ ih => exact (List.Perm.swap _ _ _).trans (ih.cons _)
inductive Pk : List (Nat × Array Value) → List (Nat × Array Value) → Prop
 | nil {L : List (Nat × Array Value)} : Pk [] L
 | cons {p : Nat × Array Value} {K L L' : List (Nat × Array Value)} (h : Rm L p L') (k : Pk K L') : Pk (p :: K) L
theorem Pk.mem {K L : List (Nat × Array Value)} (h : Pk K L) : ∀ q ∈ K, q ∈ L := by
 induction h with
 | nil => intro q hq; cases hq
 | cons hr _ ih =>
  intro q hq
  rcases List.mem_cons.1 hq with rfl | hq
  ·exact hr.perm.mem_iff.1 List.mem_cons_self
  ·exact hr.perm.mem_iff.1 (List.mem_cons_of_mem _ (ih q hq))
theorem Mem.rm {w0 w : World} {X : List Nat} {L L' : List (Nat × Array Value)} {p : Nat × Array Value} (h : Mem w0 X L w) (hr : Rm L p L') : Mem w0 X (p :: L') w :=
 ⟨h.only, fun q hq => h.blk q (hr.perm.mem_iff.1 hq), fun q hq => h.own q (hr.perm.mem_iff.1 hq), (hr.perm.map _).nodup_iff.2 h.nod⟩
theorem Mem.pk {K : List (Nat × Array Value)} : ∀ {L : List (Nat × Array Value)} {w0 w : World} {X : List Nat}, Mem w0 X L w → Pk K L → Mem w0 X K w := by
 induction K with
 | nil => intro L w0 w X h _; exact ⟨h.only, by simp, by simp, by simp⟩
 | cons p K ih =>
  intro L w0 w X h hk
  cases hk with
  | cons hr k =>
   have h1 := h.rm hr
   have h2 := ih h1.tail k
   refine ⟨h.only, fun q hq => ?_, fun q hq => ?_, ?_⟩
   ·rcases List.mem_cons.1 hq with rfl | hq
    ·exact h1.blk _ List.mem_cons_self
    ·exact h2.blk _ hq
   ·rcases List.mem_cons.1 hq with rfl | hq
    ·exact h1.own _ List.mem_cons_self
    ·exact h2.own _ hq
   ·refine List.nodup_cons.2 ⟨fun e => ?_, h2.nod⟩
    obtain ⟨q, hq, e⟩ := List.mem_map.1 e
    exact (List.nodup_cons.1 h1.nod).1 (List.mem_map.2 ⟨q, k.mem q hq, e⟩)
theorem Pk.refl : ∀ L : List (Nat × Array Value), Pk L L
 | [] => .nil
 | _ :: L => .cons .here (Pk.refl L)
theorem Pk.skip {p : Nat × Array Value} {K L : List (Nat × Array Value)} (h : Pk K L) : Pk K (p :: L) := by
 induction h with
 | nil => exact .nil
 | cons hr _ ih => exact .cons (.there hr) ih
theorem Pk.pre : ∀ B R : List (Nat × Array Value), Pk B (B ++ R)
 | [], _ => .nil
 | _ :: B, R => .cons .here (Pk.pre B R)
theorem Mem.pick {K L : List (Nat × Array Value)} {w0 w : World} {X : List Nat} (h : Mem w0 X L w) (hs : Pk K L := by (repeat (first | exact Pk.nil | exact Pk.refl _ | exact Pk.pre _ _ | exact Pk.post _ _ | (apply Pk.cons; focus (repeat (first | exact Rm.here | apply Rm.there))) | apply Pk.skip))) : Mem w0 X K w := h.pk hs
theorem Mem.nm0 {w0 w : World} {X : List Nat} {b : Nat} {c : Array Value} {L : List (Nat × Array Value)} (_ : Mem w0 X ((b, c) :: L) w) : ∃ x, x = b := ⟨b, rfl⟩
theorem Mem.nm1 {w0 w : World} {X : List Nat} {p0 : Nat × Array Value} {b : Nat} {c : Array Value} {L : List (Nat × Array Value)} (_ : Mem w0 X (p0 :: (b, c) :: L) w) : ∃ x, x = b := ⟨b, rfl⟩
theorem Mem.nm2 {w0 w : World} {X : List Nat} {p0 p1 : Nat × Array Value} {b : Nat} {c : Array Value} {L : List (Nat × Array Value)} (_ : Mem w0 X (p0 :: p1 :: (b, c) :: L) w) : ∃ x, x = b := ⟨b, rfl⟩
theorem Mem.nm3 {w0 w : World} {X : List Nat} {p0 p1 p2 : Nat × Array Value} {b : Nat} {c : Array Value} {L : List (Nat × Array Value)} (_ : Mem w0 X (p0 :: p1 :: p2 :: (b, c) :: L) w) : ∃ x, x = b := ⟨b, rfl⟩
theorem Mem.nm5 {w0 w : World} {X : List Nat} {p0 p1 p2 p3 p4 : Nat × Array Value} {b : Nat} {c : Array Value} {L : List (Nat × Array Value)} (_ : Mem w0 X (p0 :: p1 :: p2 :: p3 :: p4 :: (b, c) :: L) w) : ∃ x, x = b := ⟨b, rfl⟩
def LA (T : TypeId) (c : Array Value) (k : Nat) (v : Value) : Prop := ∀ w b, Rbk w b c → (loadVar T ⟨b, k, none⟩).run Tryz.prog w = .ok v w
def SA (T : TypeId) (c : Array Value) (k : Nat) (v : Value) (c' : Array Value) : Prop := ∀ w b, Blk w b c → ∃ w', (storeVar T ⟨b, k, none⟩ v).run Tryz.prog w = .ok () w' ∧ Blk w' b c' ∧ Only [b] w w'
def ZA (T : TypeId) (c : Array Value) : Prop := ∃ z, z.cells = c ∧ ∀ w, (zeroValue T).run Tryz.prog w = .ok z w
noncomputable def aggT (T : TypeId) : Option Bool := match Tryz.prog.underlying T with
 | some (.struct _) | some (.array ..) => some true
 | some _ => some false
 | none => none
noncomputable def sizT (T : TypeId) : Option Nat := (Tryz.prog.info? T).map (·.size)
theorem run_agg {T : TypeId} {t : Bool} (h : aggT T = some t) (w : World) : (isAgg T).run Tryz.prog w = .ok t w := by
 unfold aggT at h
 cases hu : Tryz.prog.underlying T with
 | none => rw [hu] at h; simp at h
 | some d =>
  rw [hu] at h
  simp only [isAgg, Sem.run_bind, run_underlying hu, Result.andThen_ok]
  cases d <;> simp_all
theorem run_siz {T : TypeId} {n : Nat} (h : sizT T = some n) (w : World) : (sizeOf T).run Tryz.prog w = .ok n w := by
 unfold sizT at h
 cases hu : Tryz.prog.info? T with
 | none => rw [hu] at h; simp at h
 | some d =>
  rw [hu] at h
  simp only [Option.map_some, Option.some.injEq] at h
  simp [sizeOf, typeInfo, hu, h]
theorem LA.one {T : TypeId} {c : Array Value} {k : Nat} {v : Value} (hT : aggT T = some false) (h : c[k]? = some v) : LA T c k v := fun w b hb => by
 have hc := hb.cell k
 rw [h] at hc
 simp only [loadVar, Sem.run_bind, run_agg hT, Result.andThen_ok, Bool.false_eq_true, if_false]
 simp [hc]
theorem LA.mid {T : TypeId} {c cs : Array Value} {k n : Nat} (hT : aggT T = some true) (hs : sizT T = some n) (hk : k + n ≤ c.size) (h : c.extract k (k + n) = cs) : LA T c k (.agg cs) := fun w b hb => by
 have hr : (loadCells ⟨b, k, none⟩ cs.toList.length).run Tryz.prog w = .ok cs.toList.toArray w :=
  run_loadCells_list (P := Tryz.prog) w ⟨b, k, none⟩ cs.toList (fun j v hv => by
   rw [Addr.add_mid, hb.cell (k + j)]
   subst h
   simp only [Array.getElem?_toList, Array.getElem?_extract] at hv
   split at hv
   ·exact hv
   ·cases hv)
 have hl : cs.toList.length = n := by rw [← h]; simp; omega
 rw [hl] at hr
 simp only [loadVar, Sem.run_bind, run_agg hT, Result.andThen_ok, if_true, run_siz hs, hr, Sem.run_pure]
theorem LA.whole {T : TypeId} {c : Array Value} (hT : aggT T = some true) (hs : sizT T = some c.size) : LA T c 0 (.agg c) :=
 LA.mid hT hs Zo Zs
theorem Only.setRow (w : World) (b : Nat) (c : Array Value) : Only [b] w (w.setRow b c) := ⟨rfl, rfl, rfl, by simp [World.setRow], fun k _ hn => setRow_other w b k c (by simpa using hn)⟩
theorem SA.one {T : TypeId} {c : Array Value} {k : Nat} {v : Value} (hs : sizT T = some 1) (hv : v.oneCell' = true) (hk : k < c.size) : SA T c k v (c.setIfInBounds k v) := fun w b hb => by
 have hc := hb.cell k
 rw [Array.getElem?_eq_getElem hk] at hc
 have hf := hb.free k
 have hcs : v.cells = #[v] := by cases v <;> simp_all [Value.oneCell', Value.cells]
 refine ⟨w.setCell ⟨b, k, none⟩ v, ?_, hb.set k v, ?_⟩
 ·have e : (⟨b, k, none⟩ : Addr).add 0 = ⟨b, k, none⟩ := by rw [Addr.add_mid]; rfl
  simp only [storeVar, Sem.run_bind, run_siz hs, Result.andThen_ok, hcs]
  simp [storeCells, e, run_store _ _ _ _ _ hv, hc, hf]
 ·obtain ⟨t, ht⟩ := hb
  rw [setCell_eq_setRow w b k c t (0, 0) v ht]
  exact Only.setRow _ _ _
def setAll : Array Value → Nat → List Value → Array Value
 | c, _, [] => c
 | c, k, v :: l => setAll (c.setIfInBounds k v) (k + 1) l
theorem blk_setCells {b : Nat} : ∀ (l : List Value) (k : Nat) (c : Array Value) (w : World), Blk w b c → Blk (w.setCells b k l) b (setAll c k l)
 | [], _, _, _, h => h
 | v :: l, k, _, _, h => blk_setCells l (k + 1) _ _ (h.set k v)
theorem only_setCells {b : Nat} : ∀ (l : List Value) (k : Nat) (c : Array Value) (w : World), Blk w b c → Only [b] w (w.setCells b k l)
 | [], _, _, w, _ => Only.refl _ w
 | v :: l, k, c, w, h => by
  refine Only.trans ?_ (only_setCells l (k + 1) _ _ (h.set k v))
  obtain ⟨t, ht⟩ := h
  rw [setCell_eq_setRow w b k c t (0, 0) v ht]
  exact Only.setRow _ _ _
theorem SA.mid {T : TypeId} {c cs c' : Array Value} {k : Nat} (hs : sizT T = some cs.size) (h1 : cs.all (·.oneCell') = true) (hk : k + cs.size ≤ c.size) (h : setAll c k cs.toList = c') : SA T c k (.agg cs) c' := fun w b hb => by
 refine ⟨w.setCells b k cs.toList, ?_, h ▸ blk_setCells _ _ _ _ hb, only_setCells _ _ _ _ hb⟩
 refine run_storeVar_mid w b k T cs (fun j hj => ?_) hs h1
 rw [hb.cell (k + j), hb.free (k + j)]
 refine ⟨?_, rfl⟩
 rw [Array.getElem?_eq_getElem Zo]
 rfl
theorem SA.whole {T : TypeId} {c cs : Array Value} (hs : sizT T = some cs.size) (h1 : cs.all (·.oneCell') = true) (hk : cs.size = c.size) : SA T c 0 (.agg cs) cs := fun w b hb => by
 obtain ⟨t, ht⟩ := hb
 have hb' : Blk w b c := ⟨t, ht⟩
 refine ⟨w.setRow b cs, ?_, hb'.setRow cs, Only.setRow _ _ _⟩
 exact run_storeVar_row w b t T c cs ht hs hk.symm h1
def WantT (ops : Array Oper) (o : Oper) (a : Act) : Prop := o.guard = none ∨ ∃ j want d, o.guard = some (j, want) ∧ (ops[j]?).bind (·.dst) = some d ∧ a.tmps[d]? = some (.bool want)
theorem WantT.wanted {ops : Array Oper} {o : Oper} {a : Act} (h : WantT ops o a) : Region.wanted o (yielded ops a.tmps) = true := by
 rcases h with h | ⟨j, want, d, h1, h2, h3⟩
 ·simp [Region.wanted, h]
 ·simp [Region.wanted, h1, yielded, h2, h3]
section
variable {ops : Array Oper} {rest : List Oper} {a : Act} {w w0 : World} {X : List Nat} {L L' : List (Nat × Array Value)} {Q : Exit → Act → World → Prop}
theorem m_ld {d : Option Tmp} {ty : TypeId} {ps : String} {af : Array Edge} {g : Option (Nat × Bool)} {T : TypeId} {x : Operand} {b k : Nat} {c : Array Value} {v : Value} (hw : WantT ops { dst := d, op := .load T x, type := ty, pos := ps, after := af, guard := g } a) (hx : a.eval x = .pointer (some ⟨b, k, none⟩)) (hb : Rbk w b c) (hv : LA T c k v)
    (h : wpList Tryz.prog ops Q rest (a.put d v) w) : wpList Tryz.prog ops Q ({ dst := d, op := .load T x, type := ty, pos := ps, after := af, guard := g } :: rest) a w := by
 refine wpList_step fun K hK => ?_
 rw [if_pos hw.wanted]
 unfold Oper.wp execOp
 simp only [hx, Instr.loadAt, Instr.sureAddr, Sem.run_bind, Sem.run_pure, Result.andThen_ok, hv w b hb]
 exact hK _ _ h
theorem m_st {d : Option Tmp} {ty : TypeId} {ps : String} {af : Array Edge} {g : Option (Nat × Bool)} {T : TypeId} {x y : Operand} {b k : Nat} {c c' : Array Value} {v : Value} (HM : Mem w0 X L w) (hw : WantT ops { dst := d, op := .store T x y, type := ty, pos := ps, after := af, guard := g } a) (hx : a.eval x = .pointer (some ⟨b, k, none⟩)) (hy : a.eval y = v) (ha : At L b c c' L') (hv : SA T c k v c')
    (h : ∀ w', Mem w0 X L' w' → wpList Tryz.prog ops Q rest (a.put d undef) w') : wpList Tryz.prog ops Q ({ dst := d, op := .store T x y, type := ty, pos := ps, after := af, guard := g } :: rest) a w := by
 refine wpList_step fun K hK => ?_
 rw [if_pos hw.wanted]
 obtain ⟨w', hr, hb', hO⟩ := hv w b (HM.blk _ ha.mem)
 unfold Oper.wp execOp
 simp only [hx, hy, Instr.storeAt, Instr.sureAddr, Sem.run_bind, Sem.run_pure, Result.andThen_ok, hr]
 exact hK _ _ (h w' (HM.put ha hb' hO))
theorem m_al {d : Option Tmp} {ty : TypeId} {ps : String} {af : Array Edge} {g : Option (Nat × Bool)} {T : TypeId} {c : Array Value} (HM : Mem w0 X L w) (hw : WantT ops { dst := d, op := .alloc T, type := ty, pos := ps, after := af, guard := g } a) (hz : ZA T c)
    (h : ∀ b w', Mem w0 X ((b, c) :: L) w' → wpList Tryz.prog ops Q rest (a.put d (.pointer (some ⟨b, 0, none⟩))) w') : wpList Tryz.prog ops Q ({ dst := d, op := .alloc T, type := ty, pos := ps, after := af, guard := g } :: rest) a w := by
 refine wpList_step fun K hK => ?_
 rw [if_pos hw.wanted]
 obtain ⟨z, hzc, hz⟩ := hz
 unfold Oper.wp execOp
 simp only [Instr.alloc, Sem.run_bind, hz, Result.andThen_ok, newVar, newRow, hzc, run_newObj_alloc, Sem.run_pure]
 exact hK _ _ (h _ _ (HM.new c T))
theorem m_bx {d : Option Tmp} {ty : TypeId} {ps : String} {af : Array Edge} {g : Option (Nat × Bool)} {T : TypeId} {x : Operand} {v : Value} {c : Array Value} (HM : Mem w0 X L w) (hw : WantT ops { dst := d, op := .box T x, type := ty, pos := ps, after := af, guard := g } a) (hx : a.eval x = v) (hz : v.cells = c)
    (h : ∀ b w', Mem w0 X ((b, c) :: L) w' → wpList Tryz.prog ops Q rest (a.put d (.pointer (some ⟨b, 0, none⟩))) w') : wpList Tryz.prog ops Q ({ dst := d, op := .box T x, type := ty, pos := ps, after := af, guard := g } :: rest) a w := by
 refine wpList_step fun K hK => ?_
 rw [if_pos hw.wanted]
 unfold Oper.wp execOp
 simp only [hx, Instr.box, Sem.run_bind, Result.andThen_ok, newVar, newRow, hz, run_newObj_alloc, Sem.run_pure]
 exact hK _ _ (h _ _ (HM.new c T))
end
end
section
section
variable {P : Program} {md : Region.Mode} {ops : Array Oper} {Q : Exit → Act → World → Prop} {S1 S2 : World → Prop} {K : List Nat}
def NoneUp (K : List Nat) (listed : Array Bool) : Prop := K.all (fun k => !listed.getD k false) = true
theorem NoneUp.at_ {K : List Nat} {listed : Array Bool} (h : NoneUp K listed) {k : Nat} (hk : k ∈ K) : listed.getD k false = false := by
 have := List.all_eq_true.1 h k hk
 simpa using this
theorem NoneUp.mk {K : List Nat} {listed : Array Bool} (h : ∀ k ∈ K, listed.getD k false = false) : NoneUp K listed :=
 List.all_eq_true.2 (fun k hk => by simp [h k hk])
theorem getD_set_ne' {listed : Array Bool} {i j : Nat} (d : Bool) (h : i ≠ j) : (listed.setIfInBounds i true).getD j d = listed.getD j d := by
 simp [Array.getElem?_setIfInBounds_ne h]
theorem NoneUp.set {K : List Nat} {listed : Array Bool} (h : NoneUp K listed) {i : Nat} (hi : i ∉ K) : NoneUp K (listed.setIfInBounds i true) :=
 .mk fun k hk => by
  have hne : i ≠ k := by intro e; subst e; exact hi hk
  rw [getD_set_ne' false hne]; exact h.at_ hk
theorem NoneUp.unset {K : List Nat} {listed : Array Bool} {i : Nat} (h : NoneUp K (listed.setIfInBounds i true)) : NoneUp K listed :=
 .mk fun k hk => by
  have h1 := h.at_ hk
  by_cases e : i = k
  ·subst e
   rcases Nat.lt_or_ge i listed.size with h2 | h2
   ·simp [h2] at h1
   ·simp [Array.getElem?_eq_none h2]
  ·rwa [getD_set_ne' false e] at h1
def Held (S1 S2 : World → Prop) (K : List Nat) (listed : Array Bool) (w : World) : Prop := S1 w ∧ (NoneUp K listed → S2 w)
def wpAnyL (P : Program) (md : Region.Mode) (ops : Array Oper) (Q : Exit → Act → World → Prop) (S1 S2 : World → Prop) (K : List Nat) : Nat → Array Bool → Act → World → Prop
 | 0, listed, a, w => Region.ready md ops listed = [] ∧ Q .normal a w
 | fuel + 1, listed, a, w =>
  (Region.ready md ops listed = [] → Q .normal a w) ∧
  ∀ i ∈ Region.ready md ops listed, wpOp P ops Q i (fun a' w' => Held S1 S2 K (listed.setIfInBounds i true) w' ∧ wpAnyL P md ops Q S1 S2 K fuel (listed.setIfInBounds i true) a' w') a w
theorem wpAny_of_L : ∀ (fuel : Nat) (listed : Array Bool) (a : Act) (w : World), wpAnyL P md ops Q S1 S2 K fuel listed a w → wpAny P md ops Q fuel listed a w
 | 0, _, _, _, h => h
 | fuel + 1, _, _, _, h => ⟨h.1, fun i hi => wpOp_mono (fun a' w' h' => wpAny_of_L fuel _ a' w' h'.2) (h.2 i hi)⟩
def Region.waitsB (md : Region.Mode) (ops : Array Oper) (i : Nat) (D : List Nat) : Bool :=
 !D.contains i && D.all (fun d => match ops[d]? with | none => false | some o => o.after.any fun e => Region.binds md e && (e.on == i || D.contains e.on))
theorem wait_spec {i : Nat} {D : List Nat} (h : Region.waitsB md ops i D = true) : i ∉ D ∧ ∀ d ∈ D, ∃ o, ops[d]? = some o ∧ ∃ e ∈ o.after, Region.binds md e = true ∧ (e.on = i ∨ e.on ∈ D) := by
 unfold Region.waitsB at h
 rw [Bool.and_eq_true] at h
 refine ⟨by simpa using h.1, fun d hd => ?_⟩
 have := List.all_eq_true.1 h.2 d hd
 cases ho : ops[d]? with
 | none => rw [ho] at this; simp at this
 | some o =>
  rw [ho] at this
  obtain ⟨e, he, hb⟩ := Array.any_eq_true'.1 this
  simp only [Bool.and_eq_true, Bool.or_eq_true, beq_iff_eq] at hb
  exact ⟨o, rfl, e, he, hb.1, by simpa using hb.2⟩
theorem wpAnyL_first {i : Nat} {oi : Oper} {v : Value} {D : List Nat} {S : World → Prop} (hi : ops[i]? = some oi) (hsel : ∀ (j : Nat) (o : Oper) cs b, ops[j]? = some o → o.op ≠ .select cs b)
    (hQ : ∀ c a w, Q (.panic c) (a.put oi.dst v) w → Q (.panic c) a w) (hD : i ∉ D) (hDs : ∀ d ∈ D, ∃ o, ops[d]? = some o ∧ ∃ e ∈ o.after, Region.binds md e = true ∧ (e.on = i ∨ e.on ∈ D)) (hiK : i ∉ K)
    (hS : ∀ listed w, NoneUp D listed → Held S1 S2 K listed w → S w) :
    ∀ (fuel : Nat) (listed : Array Bool) (a : Act) (w : World),
     (∀ j oj, ops[j]? = some oj → j ≠ i → listed.getD j true = false → (∀ e ∈ oj.after, Region.binds md e = true → e.on ≠ i) → oi.apart ops oj = true) →
     i ∈ Region.ready md ops listed → NoneUp D listed → YieldsIf P ops S oi v a → Held S1 S2 K listed w →
     wpAnyL P md ops Q S1 S2 K fuel (listed.setIfInBounds i true) (a.put oi.dst v) w → wpAnyL P md ops Q S1 S2 K (fuel + 1) listed a w := by
 intro fuel
 induction fuel with
 | zero =>
  intro listed a w _ hr hn hy hH H
  refine ⟨fun h => (by rw [h] at hr; cases hr), fun j hj => ?_⟩
  by_cases hji : j = i
  ·exact z9_12
  ·have := ready_mono hj hji
   rw [H.1] at this
   cases this
 | succ fuel ih =>
  intro listed a w hfree hr hn hy hH H
  refine ⟨fun h => (by rw [h] at hr; cases hr), fun j hj => ?_⟩
  by_cases hji : j = i
  ·exact z9_12
  ·have h1 := H.2 j (ready_mono hj hji)
   obtain ⟨hjun, oj, hoj, hall⟩ := mem_ready.1 hj
   have hiun : listed.getD i false = false := by
    have h0 := (mem_ready.1 hr).1
    rcases Nat.lt_or_ge i listed.size with h' | h'
    ·simp [h'] at h0 ⊢; exact h0
    ·simp [Array.getElem?_eq_none h']
   have hnot : ∀ e ∈ oj.after, Region.binds md e = true → e.on ≠ i := fun e he hb heq => by
    have h1 := hall e he hb
    rw [heq, hiun] at h1
    cases h1
   have hjD : j ∉ D := fun hd => by
    obtain ⟨o, ho, e, he, hb, hor⟩ := hDs j hd
    rw [hoj] at ho
    cases ho
    have h1 := hall e he hb
    rcases hor with hor | hor
    ·exact hnot e he hb hor
    ·rw [hn.at_ hor] at h1; cases h1
   have h2 := wpOp_putIf hoj (hfree j oj hoj hji hjun hnot) (fun cs b => hsel i oi cs b hi) (fun cs b => hsel j oj cs b hoj) hQ hy h1
   have hfree' : ∀ k ok, ops[k]? = some ok → k ≠ i → (listed.setIfInBounds j true).getD k true = false →
       (∀ e ∈ ok.after, Region.binds md e = true → e.on ≠ i) → oi.apart ops ok = true := fun k ok hk hki hun hno => by
    refine hfree k ok hk hki ?_ hno
    by_cases hjk : j = k
    ·subst hjk; exact hjun
    ·rw [getD_set_ne true hjk] at hun; exact hun
   refine wpOp_mono (fun a' w' h3 => ?_) h2
   have hH' : Held S1 S2 K (listed.setIfInBounds j true) w' := ⟨h3.2.1.1, fun hk => h3.2.1.2 (by
    rw [Array.setIfInBounds_comm _ _ (Ne.symm hji)]
    exact hk.set hiK)⟩
   refine ⟨hH', ih (listed.setIfInBounds j true) a' w' hfree' (ready_mono hr (Ne.symm hji)) (hn.set hjD) h3.1 hH' ?_⟩
   rw [Array.setIfInBounds_comm _ _ hji]
   exact h3.2.2
def Region.takeB (md : Region.Mode) (ops : Array Oper) (listed : Array Bool) (i : Nat) (K D : List Nat) : Bool :=
 Region.noSelect ops && Region.free md ops listed i && (Region.ready md ops listed).contains i && Region.waitsB md ops i D && !K.contains i && D.all (fun k => !listed.getD k false)
theorem takeL {i : Nat} {oi : Oper} {v : Value} {d : Tmp} {D : List Nat} {S : World → Prop} {fuel : Nat} {listed : Array Bool} {a : Act} {w : World} (hi : ops[i]? = some oi) (hd : oi.dst = some d) (hb : Region.takeB md ops listed i K D = true)
    (hQ : ∀ c a w, Q (.panic c) (a.put (some d) v) w → Q (.panic c) a w) (hS : ∀ listed w, NoneUp D listed → Held S1 S2 K listed w → S w) (hH : Held S1 S2 K listed w) (hy : YieldsIf P ops S oi v a)
    (h : wpAnyL P md ops Q S1 S2 K fuel (listed.setIfInBounds i true) { a with tmps := a.tmps.setIfInBounds d v } w) : wpAnyL P md ops Q S1 S2 K (fuel + 1) listed a w := by
 unfold Region.takeB at hb
 simp only [Bool.and_eq_true] at hb
 obtain ⟨⟨⟨⟨⟨h1, h2⟩, h3⟩, h4⟩, h5⟩, h6⟩ := hb
 exact wpAnyL_first (D := D) (S := S) hi (Region.noSelect_spec h1) (by rw [hd]; exact hQ) (wait_spec h4).1 (wait_spec h4).2 (by simpa using h5) hS fuel listed a w (Region.free_spec hi h2) (by simpa using h3) h6 hy hH (by rw [hd]; exact h)
theorem take1 {i : Nat} {oi : Oper} {v : Value} {d : Tmp} {fuel : Nat} {listed : Array Bool} {a : Act} {w : World} (hi : ops[i]? = some oi) (hd : oi.dst = some d) (hb : Region.takeB md ops listed i K [] = true)
    (hQ : ∀ c a w, Q (.panic c) (a.put (some d) v) w → Q (.panic c) a w) (hH : Held S1 S2 K listed w) (hy : YieldsIf P ops S1 oi v a)
    (h : wpAnyL P md ops Q S1 S2 K fuel (listed.setIfInBounds i true) { a with tmps := a.tmps.setIfInBounds d v } w) : wpAnyL P md ops Q S1 S2 K (fuel + 1) listed a w :=
 takeL (D := []) hi hd hb hQ (fun _ _ _ hH => hH.1) hH hy h
theorem take2 {i : Nat} {oi : Oper} {v : Value} {d : Tmp} {fuel : Nat} {listed : Array Bool} {a : Act} {w : World} (D : List Nat) (hKD : K.all (D.contains ·) = true) (hi : ops[i]? = some oi) (hd : oi.dst = some d) (hb : Region.takeB md ops listed i K D = true)
    (hQ : ∀ c a w, Q (.panic c) (a.put (some d) v) w → Q (.panic c) a w) (hH : Held S1 S2 K listed w) (hy : YieldsIf P ops (fun w => S1 w ∧ S2 w) oi v a)
    (h : wpAnyL P md ops Q S1 S2 K fuel (listed.setIfInBounds i true) { a with tmps := a.tmps.setIfInBounds d v } w) : wpAnyL P md ops Q S1 S2 K (fuel + 1) listed a w :=
 takeL (D := D) hi hd hb hQ (fun _ _ hn hH => ⟨hH.1, hH.2 (.mk fun k hk => hn.at_ (by simpa using List.all_eq_true.1 hKD k hk))⟩) hH hy h
theorem wpAnyL_done {listed : Array Bool} {a : Act} {w : World} (hr : (Region.ready md ops listed).isEmpty = true) (h : Q .normal a w) :
    ∀ fuel, wpAnyL P md ops Q S1 S2 K fuel listed a w
 | 0 => ⟨by simpa using hr, h⟩
 | _ + 1 => ⟨fun _ => h, by rw [show Region.ready md ops listed = [] by simpa using hr]; simp⟩
theorem one_L {i : Nat} {oi : Oper} {fuel : Nat} {listed : Array Bool} {a : Act} {w : World} (hr : (Region.ready md ops listed == [i]) = true) (hi : ops[i]? = some oi) (hw : Region.wanted oi (yielded ops a.tmps) = true)
    (h : ∀ K' : Act → World → Prop, (∀ a' w', Held S1 S2 K (listed.setIfInBounds i true) w' → wpAnyL P md ops Q S1 S2 K fuel (listed.setIfInBounds i true) a' w' → K' a' w') → Oper.wp P oi a w K' Q) : wpAnyL P md ops Q S1 S2 K (fuel + 1) listed a w := by
 have hr' : Region.ready md ops listed = [i] := by simpa using hr
 refine ⟨fun h0 => (by rw [h0] at hr'; cases hr'), ?_⟩
 rw [hr']
 intro j hj
 obtain rfl : j = i := by simpa using hj
 unfold wpOp
 rw [hi]
 simp only [hw, if_true]
 exact .inl (h _ fun _ _ h1 h2 => ⟨h1, h2⟩)
theorem two_L {i j : Nat} {fuel : Nat} {listed : Array Bool} {a : Act} {w : World} (hr : (Region.ready md ops listed == [i, j]) = true)
    (h1 : wpOp P ops Q i (fun a' w' => Held S1 S2 K (listed.setIfInBounds i true) w' ∧ wpAnyL P md ops Q S1 S2 K fuel (listed.setIfInBounds i true) a' w') a w)
    (h2 : wpOp P ops Q j (fun a' w' => Held S1 S2 K (listed.setIfInBounds j true) w' ∧ wpAnyL P md ops Q S1 S2 K fuel (listed.setIfInBounds j true) a' w') a w) : wpAnyL P md ops Q S1 S2 K (fuel + 1) listed a w := by
 have hr' : Region.ready md ops listed = [i, j] := by simpa using hr
 refine ⟨fun h0 => (by rw [h0] at hr'; cases hr'), ?_⟩
 rw [hr']
 intro k hk
 rcases List.mem_cons.1 hk with rfl | hk
 ·exact h1
 ·obtain rfl : k = j := by simpa using hk
  exact h2
theorem op_L {i : Nat} {oi : Oper} {a : Act} {w : World} {R : Act → World → Prop} (hi : ops[i]? = some oi) (hw : Region.wanted oi (yielded ops a.tmps) = true) (h : Oper.wp P oi a w R Q) : wpOp P ops Q i R a w := by
 unfold wpOp
 rw [hi]
 simp only [hw, if_true]
 exact .inl h
theorem start_L {id : Nat} {a : Act} {w : World} (S1 S2 : World → Prop) (K : List Nat) (hm : P.follows .mixedOrders = true)
    (h : wpAnyL P .any ops Q S1 S2 K ops.size (Array.replicate ops.size false) a w.drew) : (Code.region id ops true).wp P Q a w :=
 wp_region_any hm (wpAny_of_L _ _ _ _ h)
end
section
variable {md : Region.Mode} {ops : Array Oper} {Q : Exit → Act → World → Prop} {S1 S2 : World → Prop} {K : List Nat} {w0 w : World} {X : List Nat} {L L' : List (Nat × Array Value)} {i : Nat} {oi : Oper} {d : Tmp} {fuel : Nat} {listed : Array Bool} {a : Act}
theorem y_ld {S : World → Prop} {T : TypeId} {x : Operand} {b k : Nat} {c : Array Value} {v : Value} (hw : Region.wanted oi (yielded ops a.tmps) = true) (ho : oi.op = .load T x) (hx : a.eval x = .pointer (some ⟨b, k, none⟩)) (hb : ∀ w, S w → Rbk w b c) (hv : LA T c k v) : YieldsIf Tryz.prog ops S oi v a :=
 .inl ⟨hw, fun w hS => by
  unfold execOp
  simp only [ho, hx, Instr.loadAt, Instr.sureAddr, Sem.run_bind, Sem.run_pure, Result.andThen_ok, hv w b (hb w hS)]⟩
theorem o_call {R : Act → World → Prop} {v : Value} {f : FuncId} {args : Array Value} (hc : Calls Tryz.prog f args w fun e w' => e = .returned v ∧ Below w.heap.size w w') (HM : Mem w0 X L w) (hd : oi.dst = some d) (he : ∀ w, (execOp a.eval oi).run Tryz.prog w = .ok (.enter f args) w)
    (h : ∀ w', Mem w0 X L w' → R { a with tmps := a.tmps.setIfInBounds d v } w') : Oper.wp Tryz.prog oi a w R Q := by
 unfold Oper.wp
 rw [he, Oper.upon_enter]
 refine hc.mono ?_
 rintro e w' ⟨rfl, hb⟩
 rw [hd]
 exact h w' (HM.call hb)
theorem o_callg {R : Act → World → Prop} {f : FuncId} {args : Array Value} {Pc : Ending → World → Prop} (hc : Calls Tryz.prog f args w Pc) (hd : oi.dst = some d) (he : ∀ w, (execOp a.eval oi).run Tryz.prog w = .ok (.enter f args) w)
    (h : ∀ e w', Pc e w' → ∃ v, e = .returned v ∧ R { a with tmps := a.tmps.setIfInBounds d v } w') : Oper.wp Tryz.prog oi a w R Q := by
 unfold Oper.wp
 rw [he, Oper.upon_enter]
 refine hc.mono ?_
 intro e w' hp
 obtain ⟨v, rfl, hv⟩ := h e w' hp
 rw [hd]
 exact hv
theorem o_st {R : Act → World → Prop} {T : TypeId} {x y : Operand} {b k : Nat} {c c' : Array Value} {v : Value} (HM : Mem w0 X L w) (hd : oi.dst = none) (ho : oi.op = .store T x y) (hx : a.eval x = .pointer (some ⟨b, k, none⟩)) (hy : a.eval y = v) (ha : At L b c c' L') (hv : SA T c k v c')
    (h : ∀ w', Mem w0 X L' w' → R a w') : Oper.wp Tryz.prog oi a w R Q := by
 obtain ⟨w', hr, hb', hO⟩ := hv w b (HM.blk _ ha.mem)
 unfold Oper.wp execOp
 simp only [ho, hx, hy, Instr.storeAt, Instr.sureAddr, Sem.run_bind, Sem.run_pure, Result.andThen_ok, hr, Oper.upon_skip]
 rw [hd]
 exact h w' (HM.put ha hb' hO)
theorem o_al {R : Act → World → Prop} {T : TypeId} {c : Array Value} (HM : Mem w0 X L w) (hd : oi.dst = some d) (ho : oi.op = .alloc T) (hz : ZA T c)
    (h : ∀ b w', Mem w0 X ((b, c) :: L) w' → R { a with tmps := a.tmps.setIfInBounds d (.pointer (some ⟨b, 0, none⟩)) } w') : Oper.wp Tryz.prog oi a w R Q := by
 obtain ⟨z, hzc, hz⟩ := hz
 unfold Oper.wp execOp
 simp only [ho, Instr.alloc, Sem.run_bind, hz, Result.andThen_ok, newVar, newRow, hzc, run_newObj_alloc, Sem.run_pure, Oper.upon_value]
 rw [hd]
 exact h _ _ (HM.new c T)
end
theorem start_M {id : Nat} {w0 w : World} {X : List Nat} {L : List (Nat × Array Value)} {ops : Array Oper} {Q : Exit → Act → World → Prop} {a : Act} (K : List Nat) (HM : Mem w0 X L w) (hm : Tryz.prog.follows .mixedOrders = true)
    (h : ∀ w1, Mem w0 X L w1 → wpAnyL Tryz.prog .any ops Q (fun _ => True) (fun w' => Mem w0 X L w') K ops.size (Array.replicate ops.size false) a w1) : (Code.region id ops true).wp Tryz.prog Q a w :=
 start_L _ _ K hm (h _ HM.drew)
theorem start_M2 {id : Nat} {w0 w : World} {X : List Nat} {L0 L : List (Nat × Array Value)} {ops : Array Oper} {Q : Exit → Act → World → Prop} {a : Act} (K : List Nat) (HM : Mem w0 X L w) (_hs : Sub L0 L) (hm : Tryz.prog.follows .mixedOrders = true)
    (h : ∀ w1, Mem w0 X L w1 → wpAnyL Tryz.prog .any ops Q (fun _ => True) (fun w' => Mem w0 X L0 w') K ops.size (Array.replicate ops.size false) a w1) : (Code.region id ops true).wp Tryz.prog Q a w :=
 start_L _ _ K hm (h _ HM.drew)
section
variable {md : Region.Mode} {ops : Array Oper} {Q : Exit → Act → World → Prop} {K : List Nat} {w0 w : World} {X : List Nat} {L L' : List (Nat × Array Value)} {i : Nat} {oi : Oper} {d : Tmp} {fuel : Nat} {listed : Array Bool} {a : Act}
theorem heldE (HM : Mem w0 X L' w) (hs : Sub L L' := by first | exact Sub.refl _ | (repeat (first | exact Sub.nil | refine Sub.keep ?_ | refine Sub.skip ?_))) : Held (fun _ => True) (fun w' => Mem w0 X L w') K listed w := ⟨trivial, fun _ => HM.less hs⟩
theorem heldN {S2 : World → Prop} (h : K.all (fun k => !listed.getD k false) = false := by kernel_rfl) : Held (fun _ => True) S2 K listed w := ⟨trivial, fun hn => by unfold NoneUp at hn; rw [h] at hn; cases hn⟩
theorem t_pure {S2 : World → Prop} {v : Value} (hi : ops[i]? = some oi) (hd : oi.dst = some d) (hb : Region.takeB md ops listed i K [] = true)
    (hQ : ∀ c a w, Q (.panic c) (a.put (some d) v) w → Q (.panic c) a w) (hH : Held (fun _ => True) S2 K listed w) (hw : Region.wanted oi (yielded ops a.tmps) = true) (hy : ∀ w, (execOp a.eval oi).run Tryz.prog w = .ok (.value v) w)
    (h : wpAnyL Tryz.prog md ops Q (fun _ => True) S2 K fuel (listed.setIfInBounds i true) { a with tmps := a.tmps.setIfInBounds d v } w) : wpAnyL Tryz.prog md ops Q (fun _ => True) S2 K (fuel + 1) listed a w :=
 take1 hi hd hb hQ hH (.inl ⟨hw, fun w _ => hy w⟩) h
theorem t_move {S2 : World → Prop} {x : Operand} {v : Value} (hi : ops[i]? = some oi) (hd : oi.dst = some d) (hb : Region.takeB md ops listed i K [] = true)
    (hQ : ∀ c a w, Q (.panic c) (a.put (some d) v) w → Q (.panic c) a w) (hH : Held (fun _ => True) S2 K listed w) (hw : Region.wanted oi (yielded ops a.tmps) = true) (ho : oi.op = .move x ∨ oi.op = .assign x) (hx : a.eval x = v)
    (h : wpAnyL Tryz.prog md ops Q (fun _ => True) S2 K fuel (listed.setIfInBounds i true) { a with tmps := a.tmps.setIfInBounds d v } w) : wpAnyL Tryz.prog md ops Q (fun _ => True) S2 K (fuel + 1) listed a w :=
 take1 hi hd hb hQ hH (.inl ⟨hw, fun w _ => by unfold execOp; rcases ho with ho | ho <;> simp [ho, hx]⟩) h
theorem t_off {S2 : World → Prop} (hi : ops[i]? = some oi) (hd : oi.dst = some d) (hb : Region.takeB md ops listed i K [] = true)
    (hQ : ∀ c a w, Q (.panic c) (a.put (some d) undef) w → Q (.panic c) a w) (hH : Held (fun _ => True) S2 K listed w) (hw : Region.wanted oi (yielded ops a.tmps) = false)
    (h : wpAnyL Tryz.prog md ops Q (fun _ => True) S2 K fuel (listed.setIfInBounds i true) { a with tmps := a.tmps.setIfInBounds d undef } w) : wpAnyL Tryz.prog md ops Q (fun _ => True) S2 K (fuel + 1) listed a w :=
 take1 hi hd hb hQ hH (.inr ⟨hw, rfl⟩) h
theorem rd_look {b : Nat} {c : Array Value} (hl : Look L b c) : ∀ w, Mem w0 X L w → Rbk w b c := fun _ h => (h.get hl).rbk
theorem rd_ro {b : Nat} {c : Array Value} (hb : Blk w0 b c) (hn : b ∉ X) : ∀ w, Mem w0 X L w → Rbk w b c := fun _ h => (h.ro hb hn).rbk
theorem rd_rro {b : Nat} {c : Array Value} (hb : Rbk w0 b c) (hn : b ∉ X) : ∀ w, Mem w0 X L w → Rbk w b c := fun _ h => h.rro hb hn
theorem t_ld (D : List Nat) {T : TypeId} {x : Operand} {b k : Nat} {c : Array Value} {v : Value} (hKD : K.all (D.contains ·) = true) (hi : ops[i]? = some oi) (hd : oi.dst = some d) (hb : Region.takeB md ops listed i K D = true)
    (hQ : ∀ c a w, Q (.panic c) (a.put (some d) v) w → Q (.panic c) a w) (hH : Held (fun _ => True) (fun w' => Mem w0 X L w') K listed w) (hw : Region.wanted oi (yielded ops a.tmps) = true) (ho : oi.op = .load T x) (hx : a.eval x = .pointer (some ⟨b, k, none⟩)) (hl : ∀ w, Mem w0 X L w → Rbk w b c) (hv : LA T c k v)
    (h : wpAnyL Tryz.prog md ops Q (fun _ => True) (fun w' => Mem w0 X L w') K fuel (listed.setIfInBounds i true) { a with tmps := a.tmps.setIfInBounds d v } w) : wpAnyL Tryz.prog md ops Q (fun _ => True) (fun w' => Mem w0 X L w') K (fuel + 1) listed a w :=
 take2 D hKD hi hd hb hQ hH (y_ld hw ho hx (fun _ h => hl _ h.2) hv) h
theorem t_eq (D : List Nat) {v : Value} (hKD : K.all (D.contains ·) = true) (hi : ops[i]? = some oi) (hd : oi.dst = some d) (hb : Region.takeB md ops listed i K D = true)
    (hQ : ∀ c a w, Q (.panic c) (a.put (some d) v) w → Q (.panic c) a w) (hH : Held (fun _ => True) (fun w' => Mem w0 X L w') K listed w) (hy : YieldsIf Tryz.prog ops (fun w => True ∧ Mem w0 X L w) oi v a)
    (h : wpAnyL Tryz.prog md ops Q (fun _ => True) (fun w' => Mem w0 X L w') K fuel (listed.setIfInBounds i true) { a with tmps := a.tmps.setIfInBounds d v } w) : wpAnyL Tryz.prog md ops Q (fun _ => True) (fun w' => Mem w0 X L w') K (fuel + 1) listed a w :=
 take2 D hKD hi hd hb hQ hH hy h
theorem o_ld {R : Act → World → Prop} {T : TypeId} {x : Operand} {b k : Nat} {c : Array Value} {v : Value} (hd : oi.dst = some d) (ho : oi.op = .load T x) (hx : a.eval x = .pointer (some ⟨b, k, none⟩)) (hb : Rbk w b c) (hv : LA T c k v)
    (h : R { a with tmps := a.tmps.setIfInBounds d v } w) : Oper.wp Tryz.prog oi a w R Q := by
 unfold Oper.wp execOp
 simp only [ho, hx, Instr.loadAt, Instr.sureAddr, Sem.run_bind, Sem.run_pure, Result.andThen_ok, hv w b hb, Oper.upon_value]
 rw [hd]
 exact h
end
section
variable {o : Oper} {a : Act}
theorem h_bin {op : BinOp} {T T2 : TypeId} {x y : Operand} {vx vy v : Value} (ho : o.op = .binOp op T x y T2) (hx : a.eval x = vx) (hy : a.eval y = vy)
    (h : ∀ w, (do eqGuard op T x y vx vy; binOp op T vx vy : Sem Value).run Tryz.prog w = .ok v w) : ∀ w, (execOp a.eval o).run Tryz.prog w = .ok (.value v) w := fun w => by
 unfold execOp
 have h1 := h w
 simp only [Sem.run_bind] at h1
 simp only [ho, hx, hy, Sem.run_bind, h1, Result.andThen_ok, Sem.run_pure]
theorem noGuard {op : BinOp} {T : TypeId} {x y : Operand} {k k2 : IntKind} {m n : Int} (w : World) : (eqGuard op T x y (.int k m) (.int k2 n)).run Tryz.prog w = .ok () w := by
 unfold eqGuard
 cases op <;> simp
theorem v_arith {op : BinOp} {T : TypeId} {x y : Operand} {k : IntKind} {m n r : Int} (hr : (op = .add ∧ r = m + n) ∨ (op = .sub ∧ r = m - n) ∨ (op = .mul ∧ r = m * n)) (hk : k.wrap r = r) :
    ∀ w, (do eqGuard op T x y (.int k m) (.int k n); binOp op T (.int k m) (.int k n) : Sem Value).run Tryz.prog w = .ok (.int k r) w := fun w => by
 rw [Sem.run_bind, noGuard, Result.andThen_ok]
 rcases hr with ⟨rfl, rfl⟩ | ⟨rfl, rfl⟩ | ⟨rfl, rfl⟩ <;> simp [binOp, Op.intArith, hk]
theorem h_not {T : TypeId} {x : Operand} {t : Bool} (ho : o.op = .unOp .not T x) (hx : a.eval x = .bool t) : ∀ w, (execOp a.eval o).run Tryz.prog w = .ok (.value (.bool (!t))) w := fun w => by
 unfold execOp
 simp [ho, hx, Op.unary]
theorem h_cv {T T2 : TypeId} {x : Operand} {vx v : Value} (ho : o.op = .convert T T2 x) (hx : a.eval x = vx) (h : ∀ w, (convert T T2 vx).run Tryz.prog w = .ok v w) : ∀ w, (execOp a.eval o).run Tryz.prog w = .ok (.value v) w := fun w => by
 exact z9_13
theorem h_pick {c x y : Operand} {t : Bool} {vx vy v : Value} (ho : o.op = .pick c x y) (hc : a.eval c = .bool t) (hx : a.eval x = vx) (hy : a.eval y = vy) (h : v = if t = true then vx else vy) : ∀ w, (execOp a.eval o).run Tryz.prog w = .ok (.value v) w := fun w => by
 unfold execOp
 simp [ho, hc, hx, hy, h, asBool]
theorem h_ext {x : Operand} {i : Nat} {vs : Array Value} {v : Value} (ho : o.op = .extract x i) (hx : a.eval x = .tuple vs) (h : vs.toList[i]? = some v) : ∀ w, (execOp a.eval o).run Tryz.prog w = .ok (.value v) w := fun w => by
 unfold execOp
 have h' : vs[i]? = some v := by simpa using h
 simp [ho, hx, h', Instr.extract]
theorem h_fa {T : TypeId} {x : Operand} {i : Nat} {vx v : Value} (ho : o.op = .fieldAddr T x i) (hx : a.eval x = vx) (h : ∀ w, (Instr.fieldAt T vx i).run Tryz.prog w = .ok v w) : ∀ w, (execOp a.eval o).run Tryz.prog w = .ok (.value v) w := fun w => by
 exact z9_13
theorem h_ia {T : TypeId} {x y : Operand} {vx vy v : Value} (ho : o.op = .indexAddr T x y) (hx : a.eval x = vx) (hy : a.eval y = vy) (h : ∀ w, (Instr.indexAt T vx vy).run Tryz.prog w = .ok v w) : ∀ w, (execOp a.eval o).run Tryz.prog w = .ok (.value v) w := fun w => by
 unfold execOp
 simp only [ho, hx, hy, Sem.run_bind, h w, Result.andThen_ok, Sem.run_pure]
noncomputable def goF (f : FuncId) : Bool := match Tryz.prog.funcs[f]? with
 | some fn => !(fn.name == "runtime.NumGoroutine") && fn.body.isSome
 | none => false
theorem h_call {f : FuncId} {xs : Array Operand} {ts : Array TypeId} {args : Array Value} (ho : o.op = .call { callee := .value (.func f), args := xs, argTypes := ts }) (hf : goF f = true) (hx : xs.map a.eval = args) : ∀ w, (execOp a.eval o).run Tryz.prog w = .ok (.enter f args) w := fun w => by
 unfold goF at hf
 cases hg : Tryz.prog.funcs[f]? with
 | none => rw [hg] at hf; simp at hf
 | some fn =>
  rw [hg] at hf
  simp only [Bool.and_eq_true, Bool.not_eq_true'] at hf
  have h1 : ¬ fn.name = "runtime.NumGoroutine" := by simpa using hf.1
  have hb : ¬ fn.body = none := by intro h; simp [h] at hf
  unfold execOp
  simp [ho, resolve, Act.eval, Deferred.ofValue, invoke, callFunc, hg, h1, hb, ← hx]
theorem h_call1 {f : FuncId} {ts : Array TypeId} {x1 : Operand} {v1 : Value} (ho : o.op = .call { callee := .value (.func f), args := #[x1], argTypes := ts }) (hf : goF f = true) (h1 : a.eval x1 = v1) : ∀ w, (execOp a.eval o).run Tryz.prog w = .ok (.enter f #[v1]) w := h_call ho hf (by simp [h1])
theorem h_call2 {f : FuncId} {ts : Array TypeId} {x1 x2 : Operand} {v1 v2 : Value} (ho : o.op = .call { callee := .value (.func f), args := #[x1, x2], argTypes := ts }) (hf : goF f = true) (h1 : a.eval x1 = v1) (h2 : a.eval x2 = v2) : ∀ w, (execOp a.eval o).run Tryz.prog w = .ok (.enter f #[v1, v2]) w := h_call ho hf (by simp [h1, h2])
end
inductive Atf : List (Nat × Array Value) → Nat → Array Value → (Array Value → List (Nat × Array Value)) → Prop
 | here {b : Nat} {c : Array Value} {L : List (Nat × Array Value)} : Atf ((b, c) :: L) b c fun c' => (b, c') :: L
 | there {p : Nat × Array Value} {L : List (Nat × Array Value)} {b : Nat} {c : Array Value} {F : Array Value → List (Nat × Array Value)} (h : Atf L b c F) : Atf (p :: L) b c fun c' => p :: F c'
theorem Atf.at_ {L : List (Nat × Array Value)} {b : Nat} {c : Array Value} {F : Array Value → List (Nat × Array Value)} (h : Atf L b c F) (c' : Array Value) : At L b c c' (F c') := by
 induction h with
 | here => exact .here
 | there _ ih => exact .there ih
section
variable {ops : Array Oper} {rest : List Oper} {a a2 : Act} {w w0 : World} {X : List Nat} {L L' : List (Nat × Array Value)} {Q : Exit → Act → World → Prop} {d : Option Tmp} {ty T : TypeId} {ps : String} {af : Array Edge} {g : Option (Nat × Bool)} {x y : Operand} {b k : Nat} {c c' : Array Value} {v : Value}
def OpG (ops : Array Oper) (Q : Exit → Act → World → Prop) (rest : List Oper) (a : Act) (w : World) (o : Oper) : Prop := wpList Tryz.prog ops Q (o :: rest) a w
theorem g_ld (h : OpG ops Q rest a w { dst := d, op := .load T x, type := ty, pos := ps, after := af, guard := g }) : wpList Tryz.prog ops Q ({ dst := d, op := .load T x, type := ty, pos := ps, after := af, guard := g } :: rest) a w := h
theorem g_st (h : OpG ops Q rest a w { dst := d, op := .store T x y, type := ty, pos := ps, after := af, guard := g }) : wpList Tryz.prog ops Q ({ dst := d, op := .store T x y, type := ty, pos := ps, after := af, guard := g } :: rest) a w := h
theorem g_al (h : OpG ops Q rest a w { dst := d, op := .alloc T, type := ty, pos := ps, after := af, guard := g }) : wpList Tryz.prog ops Q ({ dst := d, op := .alloc T, type := ty, pos := ps, after := af, guard := g } :: rest) a w := h
theorem g_bx (h : OpG ops Q rest a w { dst := d, op := .box T x, type := ty, pos := ps, after := af, guard := g }) : wpList Tryz.prog ops Q ({ dst := d, op := .box T x, type := ty, pos := ps, after := af, guard := g } :: rest) a w := h
def RdB (w0 : World) (X : List Nat) (L : List (Nat × Array Value)) (b : Nat) (c : Array Value) : Prop := Look L b c ∨ (Hid (Rbk w0 b c) ∧ b ∉ X)
theorem RdB.look (h : Look L b c) : RdB w0 X L b c := .inl h
theorem RdB.ro (h : Hid (Blk w0 b c)) (hn : b ∉ X) : RdB w0 X L b c := .inr ⟨Zi h.out.rbk, hn⟩
theorem RdB.rro (h : Hid (Rbk w0 b c)) (hn : b ∉ X) : RdB w0 X L b c := .inr ⟨h, hn⟩
theorem RdB.at_ (h : RdB w0 X L b c) (HM : Mem w0 X L w) : Rbk w b c := h.elim (fun h => (HM.get h).rbk) fun h => HM.rro h.1.out h.2
theorem a_ld (HM : Mem w0 X L w) (h : wpList Tryz.prog ops Q rest a2 w) (hw : WantT ops { dst := d, op := .load T x, type := ty, pos := ps, after := af, guard := g } a := by first | exact Or.inl rfl | exact Or.inr ⟨_, _, _, rfl, rfl, rfl⟩) (hx : a.eval x = .pointer (some ⟨b, k, none⟩) := by (conv => lhs; whnf) <;> rfl) (hb : RdB w0 X L b c := by (first | (apply RdB.look; ((repeat (first | exact Look.here | apply Look.there)); done)) | (apply RdB.ro; (focus assumption); (focus simp)) | (apply RdB.rro; (focus assumption); (focus simp)))) (hv : LA T c k v := by (first | (with_reducible (first | assumption | exact la_z _ | exact la_i _ _ | exact la_mag _ | exact la_arr _ | exact la_fldz _ | exact la_fld _ _ | exact la_negz _ | exact la_neg _ _)) | exact la_z _ | exact la_i _ _ | exact la_mag _ | exact la_arr _ | exact la_fldz _ | exact la_fld _ _ | exact la_negz _ | exact la_neg _ _ | assumption | exact LA.one Zk rfl)) (ha : a.put d v = a2 := by ((try simp only [Act.put, Za, Zx, Zy]) <;> rfl)) : OpG ops Q rest a w { dst := d, op := .load T x, type := ty, pos := ps, after := af, guard := g } := m_ld hw hx (hb.at_ HM) hv (ha ▸ h)
theorem a_st {F : Array Value → List (Nat × Array Value)} (HM : Mem w0 X L w) (h : ∀ w', Mem w0 X (F c') w' → wpList Tryz.prog ops Q rest a2 w') (hw : WantT ops { dst := d, op := .store T x y, type := ty, pos := ps, after := af, guard := g } a := by first | exact Or.inl rfl | exact Or.inr ⟨_, _, _, rfl, rfl, rfl⟩) (hx : a.eval x = .pointer (some ⟨b, k, none⟩) := by (conv => lhs; whnf) <;> rfl) (hy : a.eval y = v := by (conv => lhs; whnf) <;> rfl) (hat : Atf L b c F := by (repeat (first | exact Atf.here | apply Atf.there))) (hv : SA T c k v c' := by (first | (with_reducible assumption) | ((with_reducible (first | refine sa_z _ ?_ | refine sa_i _ _ ?_ | refine sa_mag _ ?_ | refine sa_arr _ ?_)); (first | exact zA_size _ | exact Bg.intA_size _ _ | exact Bg.row_size _ _)) | (with_reducible exact sa_neg _ _ _) | ((first | refine sa_z _ ?_ | refine sa_i _ _ ?_ | refine sa_mag _ ?_ | refine sa_arr _ ?_); (first | exact zA_size _ | exact Bg.intA_size _ _ | exact Bg.row_size _ _)) | exact sa_neg _ _ _ | assumption)) (ha : a.put d undef = a2 := by ((try simp only [Act.put, Za, Zx, Zy]) <;> rfl)) : OpG ops Q rest a w { dst := d, op := .store T x y, type := ty, pos := ps, after := af, guard := g } := m_st HM hw hx hy (hat.at_ _) hv (ha ▸ h)
theorem a_al {a2 : Nat → Act} (HM : Mem w0 X L w) (h : ∀ b w', Mem w0 X ((b, c) :: L) w' → wpList Tryz.prog ops Q rest (a2 b) w') (hw : WantT ops { dst := d, op := .alloc T, type := ty, pos := ps, after := af, guard := g } a := by first | exact Or.inl rfl | exact Or.inr ⟨_, _, _, rfl, rfl, rfl⟩) (hz : ZA T c := by (first | (with_reducible (first | assumption | exact za_int | exact za_mag | exact za_arr)) | assumption)) (ha : ∀ b, a.put d (.pointer (some ⟨b, 0, none⟩)) = a2 b := by intro b; ((try simp only [Act.put, Za, Zx, Zy]) <;> rfl)) : OpG ops Q rest a w { dst := d, op := .alloc T, type := ty, pos := ps, after := af, guard := g } := m_al HM hw hz fun b w9 h9 => (ha b).symm ▸ h b w9 h9
theorem a_bx {a2 : Nat → Act} (HM : Mem w0 X L w) (h : ∀ b w', Mem w0 X ((b, c) :: L) w' → wpList Tryz.prog ops Q rest (a2 b) w') (hw : WantT ops { dst := d, op := .box T x, type := ty, pos := ps, after := af, guard := g } a := by first | exact Or.inl rfl | exact Or.inr ⟨_, _, _, rfl, rfl, rfl⟩) (hx : a.eval x = v := by (conv => lhs; whnf) <;> rfl) (hz : v.cells = c := by (conv => lhs; whnf) <;> rfl) (ha : ∀ b, a.put d (.pointer (some ⟨b, 0, none⟩)) = a2 b := by intro b; ((try simp only [Act.put, Za, Zx, Zy]) <;> rfl)) : OpG ops Q rest a w { dst := d, op := .box T x, type := ty, pos := ps, after := af, guard := g } := m_bx HM hw hx hz fun b w9 h9 => (ha b).symm ▸ h b w9 h9
end
section
variable {md : Region.Mode} {ops : Array Oper} {Q : Exit → Act → World → Prop} {S2 : World → Prop} {K : List Nat} {w0 w : World} {X : List Nat} {L L' : List (Nat × Array Value)} {oi : Oper} {d : Tmp} {fuel : Nat} {listed : Array Bool} {a a2 : Act} {b k : Nat} {c c' : Array Value} {T T2 : TypeId} {x y : Operand} {v vx vy : Value}
theorem k_off (i : Nat) (hH : Held (fun _ => True) S2 K listed w) (h : wpAnyL Tryz.prog md ops Q (fun _ => True) S2 K fuel (listed.setIfInBounds i true) a2 w) (hi : ops[i]? = some oi := by rfl) (hd : oi.dst = some d := by rfl) (hb : Region.takeB md ops listed i K [] = true := by kernel_rfl) (hQ : ∀ c a w, Q (.panic c) (a.put (some d) undef) w → Q (.panic c) a w := by exact fun _ _ _ h => h) (hw : Region.wanted oi (yielded ops a.tmps) = false := by rfl) (ha : ({ a with tmps := a.tmps.setIfInBounds d undef } : Act) = a2 := by ((try simp only [Za, Zx, Zy]) <;> rfl)) : wpAnyL Tryz.prog md ops Q (fun _ => True) S2 K (fuel + 1) listed a w := t_off hi hd hb hQ hH hw (ha ▸ h)
theorem k_mv (i : Nat) (hH : Held (fun _ => True) S2 K listed w) (h : wpAnyL Tryz.prog md ops Q (fun _ => True) S2 K fuel (listed.setIfInBounds i true) a2 w) (hi : ops[i]? = some oi := by rfl) (hd : oi.dst = some d := by rfl) (hb : Region.takeB md ops listed i K [] = true := by kernel_rfl) (hQ : ∀ c a w, Q (.panic c) (a.put (some d) v) w → Q (.panic c) a w := by exact fun _ _ _ h => h) (hw : Region.wanted oi (yielded ops a.tmps) = true := by rfl) (ho : oi.op = .move x ∨ oi.op = .assign x := by first | exact .inl rfl | exact .inr rfl) (hx : a.eval x = v := by (conv => lhs; whnf) <;> rfl) (ha : ({ a with tmps := a.tmps.setIfInBounds d v } : Act) = a2 := by ((try simp only [Za, Zx, Zy]) <;> rfl)) : wpAnyL Tryz.prog md ops Q (fun _ => True) S2 K (fuel + 1) listed a w := t_move hi hd hb hQ hH hw ho hx (ha ▸ h)
theorem k_bin (i : Nat) {op : BinOp} (hH : Held (fun _ => True) S2 K listed w) (h : wpAnyL Tryz.prog md ops Q (fun _ => True) S2 K fuel (listed.setIfInBounds i true) a2 w) (hi : ops[i]? = some oi := by rfl) (hd : oi.dst = some d := by rfl) (hb : Region.takeB md ops listed i K [] = true := by kernel_rfl) (hQ : ∀ c a w, Q (.panic c) (a.put (some d) v) w → Q (.panic c) a w := by exact fun _ _ _ h => h) (hw : Region.wanted oi (yielded ops a.tmps) = true := by rfl) (ho : oi.op = .binOp op T x y T2 := by rfl) (hx : a.eval x = vx := by (conv => lhs; whnf) <;> rfl) (hy : a.eval y = vy := by (conv => lhs; whnf) <;> rfl) (hv : ∀ w, (do eqGuard op T x y vx vy; binOp op T vx vy : Sem Value).run Tryz.prog w = .ok v w := by (intro w9; first | (go_simp; done) | (go_simp; rfl))) (ha : ({ a with tmps := a.tmps.setIfInBounds d v } : Act) = a2 := by ((try simp only [Za, Zx, Zy]) <;> rfl)) : wpAnyL Tryz.prog md ops Q (fun _ => True) S2 K (fuel + 1) listed a w := t_pure hi hd hb hQ hH hw (h_bin ho hx hy hv) (ha ▸ h)
theorem k_add (i : Nat) {op : BinOp} (hH : Held (fun _ => True) S2 K listed w) (h : wpAnyL Tryz.prog md ops Q (fun _ => True) S2 K fuel (listed.setIfInBounds i true) a2 w) (hi : ops[i]? = some oi := by rfl) (hd : oi.dst = some d := by rfl) (hb : Region.takeB md ops listed i K [] = true := by kernel_rfl) (hQ : ∀ c a w, Q (.panic c) (a.put (some d) v) w → Q (.panic c) a w := by exact fun _ _ _ h => h) (hw : Region.wanted oi (yielded ops a.tmps) = true := by rfl) (ho : oi.op = .binOp op T x y T2 := by rfl) (hx : a.eval x = vx := by (conv => lhs; whnf) <;> rfl) (hy : a.eval y = vy := by (conv => lhs; whnf) <;> rfl) (hv : ∀ w, (do eqGuard op T x y vx vy; binOp op T vx vy : Sem Value).run Tryz.prog w = .ok v w := by first | (refine v_arith (.inl ⟨rfl, rfl⟩) ?_; (first | exact IntWalk.i64_in _ Zo | exact IntWalk.u64_in _ Zo | exact IntWalk.u32_in _ Zo)) | (intro w9; first | (go_simp; done) | (go_simp; rfl))) (ha : ({ a with tmps := a.tmps.setIfInBounds d v } : Act) = a2 := by ((try simp only [Za, Zx, Zy]) <;> rfl)) : wpAnyL Tryz.prog md ops Q (fun _ => True) S2 K (fuel + 1) listed a w := t_pure hi hd hb hQ hH hw (h_bin ho hx hy hv) (ha ▸ h)
theorem k_sub (i : Nat) {op : BinOp} (hH : Held (fun _ => True) S2 K listed w) (h : wpAnyL Tryz.prog md ops Q (fun _ => True) S2 K fuel (listed.setIfInBounds i true) a2 w) (hi : ops[i]? = some oi := by rfl) (hd : oi.dst = some d := by rfl) (hb : Region.takeB md ops listed i K [] = true := by kernel_rfl) (hQ : ∀ c a w, Q (.panic c) (a.put (some d) v) w → Q (.panic c) a w := by exact fun _ _ _ h => h) (hw : Region.wanted oi (yielded ops a.tmps) = true := by rfl) (ho : oi.op = .binOp op T x y T2 := by rfl) (hx : a.eval x = vx := by (conv => lhs; whnf) <;> rfl) (hy : a.eval y = vy := by (conv => lhs; whnf) <;> rfl) (hv : ∀ w, (do eqGuard op T x y vx vy; binOp op T vx vy : Sem Value).run Tryz.prog w = .ok v w := by first | (refine v_arith (.inr (.inl ⟨rfl, rfl⟩)) ?_; (first | exact IntWalk.i64_in _ Zo | exact IntWalk.u64_in _ Zo | exact IntWalk.u32_in _ Zo)) | (intro w9; first | (go_simp; done) | (go_simp; rfl))) (ha : ({ a with tmps := a.tmps.setIfInBounds d v } : Act) = a2 := by ((try simp only [Za, Zx, Zy]) <;> rfl)) : wpAnyL Tryz.prog md ops Q (fun _ => True) S2 K (fuel + 1) listed a w := t_pure hi hd hb hQ hH hw (h_bin ho hx hy hv) (ha ▸ h)
theorem k_not (i : Nat) {t : Bool} (hH : Held (fun _ => True) S2 K listed w) (h : wpAnyL Tryz.prog md ops Q (fun _ => True) S2 K fuel (listed.setIfInBounds i true) a2 w) (hi : ops[i]? = some oi := by rfl) (hd : oi.dst = some d := by rfl) (hb : Region.takeB md ops listed i K [] = true := by kernel_rfl) (hQ : ∀ c a w, Q (.panic c) (a.put (some d) v) w → Q (.panic c) a w := by exact fun _ _ _ h => h) (hw : Region.wanted oi (yielded ops a.tmps) = true := by rfl) (ho : oi.op = .unOp .not T x := by rfl) (hx : a.eval x = .bool t := by (conv => lhs; whnf) <;> rfl) (hv : Value.bool (!t) = v := by rfl) (ha : ({ a with tmps := a.tmps.setIfInBounds d v } : Act) = a2 := by ((try simp only [Za, Zx, Zy]) <;> rfl)) : wpAnyL Tryz.prog md ops Q (fun _ => True) S2 K (fuel + 1) listed a w := t_pure hi hd hb hQ hH hw (hv ▸ h_not ho hx) (ha ▸ h)
theorem k_cv (i : Nat) (hH : Held (fun _ => True) S2 K listed w) (h : wpAnyL Tryz.prog md ops Q (fun _ => True) S2 K fuel (listed.setIfInBounds i true) a2 w) (hi : ops[i]? = some oi := by rfl) (hd : oi.dst = some d := by rfl) (hb : Region.takeB md ops listed i K [] = true := by kernel_rfl) (hQ : ∀ c a w, Q (.panic c) (a.put (some d) v) w → Q (.panic c) a w := by exact fun _ _ _ h => h) (hw : Region.wanted oi (yielded ops a.tmps) = true := by rfl) (ho : oi.op = .convert T T2 x := by rfl) (hx : a.eval x = vx := by (conv => lhs; whnf) <;> rfl) (hv : ∀ w, (convert T T2 vx).run Tryz.prog w = .ok v w := by (intro w9; go_simp; (try rw [IntWalk.u64_in _ Zo]); first | done | rfl)) (ha : ({ a with tmps := a.tmps.setIfInBounds d v } : Act) = a2 := by ((try simp only [Za, Zx, Zy]) <;> rfl)) : wpAnyL Tryz.prog md ops Q (fun _ => True) S2 K (fuel + 1) listed a w := t_pure hi hd hb hQ hH hw (h_cv ho hx hv) (ha ▸ h)
theorem k_fa (i : Nat) {n : Nat} (hH : Held (fun _ => True) S2 K listed w) (h : wpAnyL Tryz.prog md ops Q (fun _ => True) S2 K fuel (listed.setIfInBounds i true) a2 w) (hi : ops[i]? = some oi := by rfl) (hd : oi.dst = some d := by rfl) (hb : Region.takeB md ops listed i K [] = true := by kernel_rfl) (hQ : ∀ c a w, Q (.panic c) (a.put (some d) v) w → Q (.panic c) a w := by exact fun _ _ _ h => h) (hw : Region.wanted oi (yielded ops a.tmps) = true := by rfl) (ho : oi.op = .fieldAddr T x n := by rfl) (hx : a.eval x = vx := by (conv => lhs; whnf) <;> rfl) (hv : ∀ w, (Instr.fieldAt T vx n).run Tryz.prog w = .ok v w := by (intro w9; first | (go_simp; done) | (go_simp; rfl))) (ha : ({ a with tmps := a.tmps.setIfInBounds d v } : Act) = a2 := by ((try simp only [Za, Zx, Zy]) <;> rfl)) : wpAnyL Tryz.prog md ops Q (fun _ => True) S2 K (fuel + 1) listed a w := t_pure hi hd hb hQ hH hw (h_fa ho hx hv) (ha ▸ h)
theorem k_ia (i : Nat) (hH : Held (fun _ => True) S2 K listed w) (h : wpAnyL Tryz.prog md ops Q (fun _ => True) S2 K fuel (listed.setIfInBounds i true) a2 w) (hi : ops[i]? = some oi := by rfl) (hd : oi.dst = some d := by rfl) (hb : Region.takeB md ops listed i K [] = true := by kernel_rfl) (hQ : ∀ c a w, Q (.panic c) (a.put (some d) v) w → Q (.panic c) a w := by exact fun _ _ _ h => h) (hw : Region.wanted oi (yielded ops a.tmps) = true := by rfl) (ho : oi.op = .indexAddr T x y := by rfl) (hx : a.eval x = vx := by (conv => lhs; whnf) <;> rfl) (hy : a.eval y = vy := by (conv => lhs; whnf) <;> rfl) (hv : ∀ w, (Instr.indexAt T vx vy).run Tryz.prog w = .ok v w := by (intro w9; first | (go_simp; done) | (go_simp; rfl))) (ha : ({ a with tmps := a.tmps.setIfInBounds d v } : Act) = a2 := by ((try simp only [Za, Zx, Zy]) <;> rfl)) : wpAnyL Tryz.prog md ops Q (fun _ => True) S2 K (fuel + 1) listed a w := t_pure hi hd hb hQ hH hw (h_ia ho hx hy hv) (ha ▸ h)
theorem k_pick (i : Nat) {z : Operand} {t : Bool} (hH : Held (fun _ => True) S2 K listed w) (h : wpAnyL Tryz.prog md ops Q (fun _ => True) S2 K fuel (listed.setIfInBounds i true) a2 w) (hi : ops[i]? = some oi := by rfl) (hd : oi.dst = some d := by rfl) (hb : Region.takeB md ops listed i K [] = true := by kernel_rfl) (hQ : ∀ c a w, Q (.panic c) (a.put (some d) v) w → Q (.panic c) a w := by exact fun _ _ _ h => h) (hw : Region.wanted oi (yielded ops a.tmps) = true := by rfl) (ho : oi.op = .pick z x y := by rfl) (hz : a.eval z = .bool t := by (conv => lhs; whnf) <;> rfl) (hx : a.eval x = vx := by (conv => lhs; whnf) <;> rfl) (hy : a.eval y = vy := by (conv => lhs; whnf) <;> rfl) (hv : v = if t = true then vx else vy := by (first | exact (if_pos rfl).symm | exact (if_neg Bool.false_ne_true).symm | (simp only [Value.ite_bool]; rfl) | rfl)) (ha : ({ a with tmps := a.tmps.setIfInBounds d v } : Act) = a2 := by ((try simp only [Za, Zx, Zy]) <;> rfl)) : wpAnyL Tryz.prog md ops Q (fun _ => True) S2 K (fuel + 1) listed a w := t_pure hi hd hb hQ hH hw (h_pick ho hz hx hy hv) (ha ▸ h)
theorem k_ext (i : Nat) {n : Nat} {vs : Array Value} (hH : Held (fun _ => True) S2 K listed w) (h : wpAnyL Tryz.prog md ops Q (fun _ => True) S2 K fuel (listed.setIfInBounds i true) a2 w) (hi : ops[i]? = some oi := by rfl) (hd : oi.dst = some d := by rfl) (hb : Region.takeB md ops listed i K [] = true := by kernel_rfl) (hQ : ∀ c a w, Q (.panic c) (a.put (some d) v) w → Q (.panic c) a w := by exact fun _ _ _ h => h) (hw : Region.wanted oi (yielded ops a.tmps) = true := by rfl) (ho : oi.op = .extract x n := by rfl) (hx : a.eval x = .tuple vs := by (conv => lhs; whnf) <;> rfl) (hv : vs.toList[n]? = some v := by ((conv => lhs; whnf) <;> rfl)) (ha : ({ a with tmps := a.tmps.setIfInBounds d v } : Act) = a2 := by ((try simp only [Za, Zx, Zy]) <;> rfl)) : wpAnyL Tryz.prog md ops Q (fun _ => True) S2 K (fuel + 1) listed a w := t_pure hi hd hb hQ hH hw (h_ext ho hx hv) (ha ▸ h)
theorem k_pv (i : Nat) (hH : Held (fun _ => True) S2 K listed w) (h : wpAnyL Tryz.prog md ops Q (fun _ => True) S2 K fuel (listed.setIfInBounds i true) a2 w) (hi : ops[i]? = some oi := by rfl) (hd : oi.dst = some d := by rfl) (hb : Region.takeB md ops listed i K [] = true := by kernel_rfl) (hQ : ∀ c a w, Q (.panic c) (a.put (some d) v) w → Q (.panic c) a w := by exact fun _ _ _ h => h) (hw : Region.wanted oi (yielded ops a.tmps) = true := by rfl) (hv : ∀ w, (execOp a.eval oi).run Tryz.prog w = .ok (.value v) w := by (intro w9; first | (go_simp; done) | (go_simp; rfl))) (ha : ({ a with tmps := a.tmps.setIfInBounds d v } : Act) = a2 := by ((try simp only [Za, Zx, Zy]) <;> rfl)) : wpAnyL Tryz.prog md ops Q (fun _ => True) S2 K (fuel + 1) listed a w := t_pure hi hd hb hQ hH hw (hv) (ha ▸ h)
theorem k_bld (i : Nat) (hH : Held (fun _ => True) S2 K listed w) (h : wpAnyL Tryz.prog md ops Q (fun _ => True) S2 K fuel (listed.setIfInBounds i true) a2 w) (hi : ops[i]? = some oi := by rfl) (hd : oi.dst = some d := by rfl) (hb : Region.takeB md ops listed i K [] = true := by kernel_rfl) (hQ : ∀ c a w, Q (.panic c) (a.put (some d) v) w → Q (.panic c) a w := by exact fun _ _ _ h => h) (hw : Region.wanted oi (yielded ops a.tmps) = true := by rfl) (hv : ∀ w, (execOp a.eval oi).run Tryz.prog w = .ok (.value v) w := by (first | (refine h_bi (x := ?_) (y := ?_) (s := ?_) (N := ?_) ?_ ?_ ?_; rotate_left 4; (focus rfl); (focus rfl); (focus rfl)) | (refine h_b0 ?_; rfl))) (ha : ({ a with tmps := a.tmps.setIfInBounds d v } : Act) = a2 := by ((try simp only [Za, Zx, Zy]) <;> rfl)) : wpAnyL Tryz.prog md ops Q (fun _ => True) S2 K (fuel + 1) listed a w := t_pure hi hd hb hQ hH hw (hv) (ha ▸ h)
theorem k_ld (i : Nat) (D : List Nat) (hH : Held (fun _ => True) (fun w' => Mem w0 X L w') K listed w) (h : wpAnyL Tryz.prog md ops Q (fun _ => True) (fun w' => Mem w0 X L w') K fuel (listed.setIfInBounds i true) a2 w) (hKD : K.all (D.contains ·) = true := by rfl) (hi : ops[i]? = some oi := by rfl) (hd : oi.dst = some d := by rfl) (hb : Region.takeB md ops listed i K D = true := by kernel_rfl) (hQ : ∀ c a w, Q (.panic c) (a.put (some d) v) w → Q (.panic c) a w := by exact fun _ _ _ h => h) (hw : Region.wanted oi (yielded ops a.tmps) = true := by rfl) (ho : oi.op = .load T x := by rfl) (hx : a.eval x = .pointer (some ⟨b, k, none⟩) := by first | rfl | ((conv => lhs; whnf) <;> rfl)) (hl : ∀ w, Mem w0 X L w → Rbk w b c := by (first | (apply rd_look; ((repeat (first | exact Look.here | apply Look.there)); done)) | (apply rd_ro; apply Hid.out; (focus assumption); (focus simp)) | (apply rd_rro; apply Hid.out; (focus assumption); (focus simp)))) (hv : LA T c k v := by (first | (with_reducible (first | assumption | exact la_z _ | exact la_i _ _ | exact la_mag _ | exact la_arr _ | exact la_fldz _ | exact la_fld _ _ | exact la_negz _ | exact la_neg _ _)) | exact la_z _ | exact la_i _ _ | exact la_mag _ | exact la_arr _ | exact la_fldz _ | exact la_fld _ _ | exact la_negz _ | exact la_neg _ _ | assumption | exact LA.one Zk rfl)) (ha : ({ a with tmps := a.tmps.setIfInBounds d v } : Act) = a2 := by ((try simp only [Za, Zx, Zy]) <;> rfl)) : wpAnyL Tryz.prog md ops Q (fun _ => True) (fun w' => Mem w0 X L w') K (fuel + 1) listed a w := t_ld D hKD hi hd hb hQ hH hw ho hx hl hv (ha ▸ h)
variable {R : Act → World → Prop}
theorem j_st {F : Array Value → List (Nat × Array Value)} (HM : Mem w0 X L w) (h : ∀ w', Mem w0 X (F c') w' → R a w') (hd : oi.dst = none := by rfl) (ho : oi.op = .store T x y := by rfl) (hx : a.eval x = .pointer (some ⟨b, k, none⟩) := by (conv => lhs; whnf) <;> rfl) (hy : a.eval y = v := by (conv => lhs; whnf) <;> rfl) (hat : Atf L b c F := by (repeat (first | exact Atf.here | apply Atf.there))) (hv : SA T c k v c' := by (first | (with_reducible assumption) | ((with_reducible (first | refine sa_z _ ?_ | refine sa_i _ _ ?_ | refine sa_mag _ ?_ | refine sa_arr _ ?_)); (first | exact zA_size _ | exact Bg.intA_size _ _ | exact Bg.row_size _ _)) | (with_reducible exact sa_neg _ _ _) | ((first | refine sa_z _ ?_ | refine sa_i _ _ ?_ | refine sa_mag _ ?_ | refine sa_arr _ ?_); (first | exact zA_size _ | exact Bg.intA_size _ _ | exact Bg.row_size _ _)) | exact sa_neg _ _ _ | assumption)) : Oper.wp Tryz.prog oi a w R Q := o_st HM hd ho hx hy (hat.at_ _) hv h
theorem j_al {a2 : Nat → Act} (HM : Mem w0 X L w) (h : ∀ b w', Mem w0 X ((b, c) :: L) w' → R (a2 b) w') (hd : oi.dst = some d := by rfl) (ho : oi.op = .alloc T := by rfl) (hz : ZA T c := by (first | (with_reducible (first | assumption | exact za_int | exact za_mag | exact za_arr)) | assumption)) (ha : ∀ b, ({ a with tmps := a.tmps.setIfInBounds d (.pointer (some ⟨b, 0, none⟩)) } : Act) = a2 b := by intro b; ((try simp only [Za, Zx, Zy]) <;> rfl)) : Oper.wp Tryz.prog oi a w R Q := o_al HM hd ho hz fun b w9 h9 => (ha b).symm ▸ h b w9 h9
theorem j_ld (HM : Mem w0 X L w) (h : R a2 w) (hd : oi.dst = some d := by rfl) (ho : oi.op = .load T x := by rfl) (hx : a.eval x = .pointer (some ⟨b, k, none⟩) := by first | rfl | ((conv => lhs; whnf) <;> rfl)) (hb : RdB w0 X L b c := by (first | (apply RdB.look; ((repeat (first | exact Look.here | apply Look.there)); done)) | (apply RdB.ro; (focus assumption); (focus simp)) | (apply RdB.rro; (focus assumption); (focus simp)))) (hv : LA T c k v := by (first | (with_reducible (first | assumption | exact la_z _ | exact la_i _ _ | exact la_mag _ | exact la_arr _ | exact la_fldz _ | exact la_fld _ _ | exact la_negz _ | exact la_neg _ _)) | exact la_z _ | exact la_i _ _ | exact la_mag _ | exact la_arr _ | exact la_fldz _ | exact la_fld _ _ | exact la_negz _ | exact la_neg _ _ | assumption | exact LA.one Zk rfl)) (ha : ({ a with tmps := a.tmps.setIfInBounds d v } : Act) = a2 := by ((try simp only [Za, Zx, Zy]) <;> rfl)) : Oper.wp Tryz.prog oi a w R Q := o_ld hd ho hx (hb.at_ HM) hv (ha ▸ h)
theorem j_call0 {f : FuncId} {ts : Array TypeId} (HM : Mem w0 X L w) (hc : Calls Tryz.prog f #[] w fun e w' => e = .returned v ∧ Below w.heap.size w w') (h : ∀ w', Mem w0 X L w' → R a2 w') (hd : oi.dst = some d := by rfl) (ho : oi.op = .call { callee := .value (.func f), args := #[], argTypes := ts } := by rfl) (hf : goF f = true := by kernel_rfl)  (ha : ({ a with tmps := a.tmps.setIfInBounds d v } : Act) = a2 := by ((try simp only [Za, Zx, Zy]) <;> rfl)) : Oper.wp Tryz.prog oi a w R Q := o_call hc HM hd (h_call ho hf Zs) fun w9 h9 => ha ▸ h w9 h9
theorem j_call1 {f : FuncId} {ts : Array TypeId} {x1 : Operand} {v1 : Value} (HM : Mem w0 X L w) (hc : Calls Tryz.prog f #[v1] w fun e w' => e = .returned v ∧ Below w.heap.size w w') (h : ∀ w', Mem w0 X L w' → R a2 w') (hd : oi.dst = some d := by rfl) (ho : oi.op = .call { callee := .value (.func f), args := #[x1], argTypes := ts } := by rfl) (hf : goF f = true := by kernel_rfl) (h1 : a.eval x1 = v1 := by (conv => lhs; whnf) <;> rfl) (ha : ({ a with tmps := a.tmps.setIfInBounds d v } : Act) = a2 := by ((try simp only [Za, Zx, Zy]) <;> rfl)) : Oper.wp Tryz.prog oi a w R Q := o_call hc HM hd (h_call ho hf (by simp [h1])) fun w9 h9 => ha ▸ h w9 h9
theorem j_call2 {f : FuncId} {ts : Array TypeId} {x1 x2 : Operand} {v1 v2 : Value} (HM : Mem w0 X L w) (hc : Calls Tryz.prog f #[v1, v2] w fun e w' => e = .returned v ∧ Below w.heap.size w w') (h : ∀ w', Mem w0 X L w' → R a2 w') (hd : oi.dst = some d := by rfl) (ho : oi.op = .call { callee := .value (.func f), args := #[x1, x2], argTypes := ts } := by rfl) (hf : goF f = true := by kernel_rfl) (h1 : a.eval x1 = v1 := by (conv => lhs; whnf) <;> rfl) (h2 : a.eval x2 = v2 := by (conv => lhs; whnf) <;> rfl) (ha : ({ a with tmps := a.tmps.setIfInBounds d v } : Act) = a2 := by ((try simp only [Za, Zx, Zy]) <;> rfl)) : Oper.wp Tryz.prog oi a w R Q := o_call hc HM hd (h_call ho hf (by simp [h1, h2])) fun w9 h9 => ha ▸ h w9 h9
theorem j_call3 {f : FuncId} {ts : Array TypeId} {x1 x2 x3 : Operand} {v1 v2 v3 : Value} (HM : Mem w0 X L w) (hc : Calls Tryz.prog f #[v1, v2, v3] w fun e w' => e = .returned v ∧ Below w.heap.size w w') (h : ∀ w', Mem w0 X L w' → R a2 w') (hd : oi.dst = some d := by rfl) (ho : oi.op = .call { callee := .value (.func f), args := #[x1, x2, x3], argTypes := ts } := by rfl) (hf : goF f = true := by kernel_rfl) (h1 : a.eval x1 = v1 := by (conv => lhs; whnf) <;> rfl) (h2 : a.eval x2 = v2 := by (conv => lhs; whnf) <;> rfl) (h3 : a.eval x3 = v3 := by (conv => lhs; whnf) <;> rfl) (ha : ({ a with tmps := a.tmps.setIfInBounds d v } : Act) = a2 := by ((try simp only [Za, Zx, Zy]) <;> rfl)) : Oper.wp Tryz.prog oi a w R Q := o_call hc HM hd (h_call ho hf (by simp [h1, h2, h3])) fun w9 h9 => ha ▸ h w9 h9
variable {S1 : World → Prop}
theorem j_one (i : Nat) (h : ∀ K' : Act → World → Prop, (∀ a' w', Held S1 S2 K (listed.setIfInBounds i true) w' → wpAnyL Tryz.prog md ops Q S1 S2 K fuel (listed.setIfInBounds i true) a' w' → K' a' w') → Oper.wp Tryz.prog oi a w K' Q) (hr : (Region.ready md ops listed == [i]) = true := by kernel_rfl) (hi : ops[i]? = some oi := by rfl) (hw : Region.wanted oi (yielded ops a.tmps) = true := by rfl) : wpAnyL Tryz.prog md ops Q S1 S2 K (fuel + 1) listed a w := one_L hr hi hw h
theorem j_two (i j : Nat) {o1 o2 : Oper} (hi : Oper.wp Tryz.prog o1 a w (fun a' w' => Held S1 S2 K (listed.setIfInBounds i true) w' ∧ wpAnyL Tryz.prog md ops Q S1 S2 K fuel (listed.setIfInBounds i true) a' w') Q) (hj : Oper.wp Tryz.prog o2 a w (fun a' w' => Held S1 S2 K (listed.setIfInBounds j true) w' ∧ wpAnyL Tryz.prog md ops Q S1 S2 K fuel (listed.setIfInBounds j true) a' w') Q) (hr : (Region.ready md ops listed == [i, j]) = true := by kernel_rfl) (ai : ops[i]? = some o1 := by rfl) (bi : Region.wanted o1 (yielded ops a.tmps) = true := by rfl) (aj : ops[j]? = some o2 := by rfl) (bj : Region.wanted o2 (yielded ops a.tmps) = true := by rfl) : wpAnyL Tryz.prog md ops Q S1 S2 K (fuel + 1) listed a w := two_L hr (op_L ai bi hi) (op_L aj bj hj)
end
end
section
def rowsOf : List (Array Value) → Array Value
 | [] => #[]
 | c :: l => c ++ rowsOf l
theorem rows_size {n : Nat} : ∀ {l : List (Array Value)}, (∀ c ∈ l, c.size = n) → (rowsOf l).size = n * l.length
 | [], _ => by simp [rowsOf]
 | c :: l, h => by
  rw [rowsOf, Array.size_append, h c List.mem_cons_self, rows_size (fun d hd => h d (List.mem_cons_of_mem _ hd)), List.length_cons, Nat.mul_add, Nat.mul_one, Nat.add_comm]
theorem rows_at {n : Nat} : ∀ {l : List (Array Value)} (_ : ∀ c ∈ l, c.size = n) {k j : Nat} {c : Array Value} (_ : l[k]? = some c) (_ : j < n), (rowsOf l)[n * k + j]? = c[j]?
 | [], _, k, j, c, hk, _ => by simp at hk
 | d :: l, h, k, j, c, hk, hj => by
  have hd := h d List.mem_cons_self
  rw [rowsOf, Array.getElem?_append]
  match k with
  | 0 =>
   obtain rfl : d = c := by simpa using hk
   rw [if_pos Zo]; congr 1; omega
  | k + 1 =>
   have e : n * (k + 1) + j = n + (n * k + j) := by rw [Nat.mul_add]; omega
   rw [if_neg Zo, hd, e, Nat.add_sub_cancel_left]
   exact rows_at (fun d hd => h d (List.mem_cons_of_mem _ hd)) (by simpa using hk) hj
theorem rows_lt {n : Nat} {l : List (Array Value)} (h : ∀ c ∈ l, c.size = n) {k : Nat} {c : Array Value} (hk : l[k]? = some c) : n * k + n ≤ (rowsOf l).size := by
 rw [rows_size h]
 have := (List.getElem?_eq_some_iff.1 hk).1
 have := Nat.mul_le_mul_left n (show k + 1 ≤ l.length by omega)
 rw [Nat.mul_add] at this; omega
theorem rows_mem {l : List (Array Value)} {k : Nat} {c : Array Value} (hk : l[k]? = some c) : c ∈ l := by
 obtain ⟨h1, h2⟩ := List.getElem?_eq_some_iff.1 hk
 rw [← h2]; exact List.getElem_mem h1
theorem rows_extract {n : Nat} {l : List (Array Value)} (h : ∀ c ∈ l, c.size = n) {k : Nat} {c : Array Value} (hk : l[k]? = some c) {a m : Nat} (ha : a + m ≤ n) : (rowsOf l).extract (n * k + a) (n * k + a + m) = c.extract a (a + m) := by
 have hc := h c (rows_mem hk)
 have hl := rows_lt h hk
 apply Array.ext_getElem?
 intro j
 rw [Array.getElem?_extract, Array.getElem?_extract]
 by_cases hj : j < m
 ·rw [if_pos Zo, if_pos Zo, Nat.add_assoc]
  exact rows_at h hk Zo
 ·rw [if_neg Zo, if_neg Zo]
theorem sets_at : ∀ (l : List Value) (k : Nat) (c : Array Value) (j : Nat), (setAll c k l)[j]? = if k ≤ j ∧ j < k + l.length ∧ j < c.size then l[j - k]? else c[j]? := by
 intro l
 induction l with
 | nil => intro k c j; simp [setAll]; omega
 | cons x l ih =>
  intro k c j
  rw [setAll, ih]
  simp only [Array.size_setIfInBounds, Array.getElem?_setIfInBounds, List.length_cons]
  by_cases h1 : j = k
  ·subst h1
   by_cases h2 : j < c.size
   ·rw [if_neg Zo, if_pos rfl, if_pos h2, if_pos Zo, Nat.sub_self]; rfl
   ·rw [if_neg Zo, if_pos rfl, if_neg h2, if_neg Zo, Array.getElem?_eq_none Zo]
  ·by_cases h2 : k + 1 ≤ j ∧ j < k + 1 + l.length ∧ j < c.size
   ·rw [if_pos h2, if_pos Zo]
    obtain ⟨d, rfl⟩ : ∃ d, j = k + 1 + d := ⟨j - (k + 1), by omega⟩
    rw [show k + 1 + d - (k + 1) = d from by omega, show k + 1 + d - k = d + 1 from by omega]
    rfl
   ·rw [if_neg h2, if_neg Zo, if_neg Zo]
theorem rows_set {n : Nat} {l : List (Array Value)} (h : ∀ c ∈ l, c.size = n) {k : Nat} {c d : Array Value} (hk : l[k]? = some c) (hd : d.size = n) : setAll (rowsOf l) (n * k) d.toList = rowsOf (l.set k d) := by
 have hl := rows_lt h hk
 have hkl := (List.getElem?_eq_some_iff.1 hk).1
 have h2 : ∀ x ∈ l.set k d, x.size = n := fun x hx => by
  rcases List.mem_or_eq_of_mem_set hx with hx | rfl
  ·exact h x hx
  ·exact hd
 have hs : (rowsOf (l.set k d)).size = (rowsOf l).size := by rw [rows_size h, rows_size h2, List.length_set]
 apply Array.ext_getElem?
 intro j
 rw [sets_at, Array.length_toList, hd]
 by_cases hn : n = 0
 ·subst hn
  rw [if_neg Zo]
  have e1 := rows_size h
  rw [Array.getElem?_eq_none Zo, Array.getElem?_eq_none Zo]
 by_cases hj : j < (rowsOf l).size
 ·obtain ⟨q, r, rfl, hr⟩ : ∃ q r, j = n * q + r ∧ r < n := ⟨j / n, j % n, (Nat.div_add_mod j n).symm, Nat.mod_lt _ Zo⟩
  have hq : q < l.length := by
   rw [rows_size h] at hj
   exact Nat.lt_of_mul_lt_mul_left (Nat.lt_of_le_of_lt (Nat.le_add_right _ _) hj)
  by_cases e : q = k
  ·subst e
   rw [if_pos ⟨by omega, by omega, hj⟩, Nat.add_sub_cancel_left, Array.getElem?_toList, rows_at h2 (k := q) (c := d) (by simp [hkl]) hr]
  ·have hne : ¬(n * k ≤ n * q + r ∧ n * q + r < n * k + n ∧ n * q + r < (rowsOf l).size) := by
     rintro ⟨a1, a2, -⟩
     rcases Nat.lt_or_gt_of_ne e with e | e
     ·have := Nat.mul_le_mul_left n (show q + 1 ≤ k by omega)
      rw [Nat.mul_add] at this; omega
     ·have := Nat.mul_le_mul_left n (show k + 1 ≤ q by omega)
      rw [Nat.mul_add] at this; omega
   rw [if_neg hne, rows_at h (k := q) (c := l[q]) (by simp [hq]) hr, rows_at h2 (k := q) (c := l[q]) (by rw [List.getElem?_set_ne (Ne.symm e)]; simp [hq]) hr]
 ·rw [if_neg Zo, Array.getElem?_eq_none Zo, Array.getElem?_eq_none Zo]
theorem la_row {T : TypeId} {n : Nat} {l : List (Array Value)} {k : Nat} {c : Array Value} (hT : aggT T = some true) (hs : sizT T = some n) (h : ∀ c ∈ l, c.size = n) (hk : l[k]? = some c) : LA T (rowsOf l) (k * n) (.agg c) := by
 rw [Nat.mul_comm]
 refine LA.mid hT hs (rows_lt h hk) ?_
 have e := rows_extract h hk (a := 0) (m := n) Zo
 rw [Nat.add_zero] at e
 rw [e, Nat.zero_add]
 have := h c (rows_mem hk)
 rw [← this]; simp
theorem la_rowone {T : TypeId} {n a : Nat} {l : List (Array Value)} {k : Nat} {c : Array Value} {v : Value} (hT : aggT T = some false) (h : ∀ c ∈ l, c.size = n) (hk : l[k]? = some c) (ha : a < n) (hc : c[a]? = some v) : LA T (rowsOf l) (k * n + a) v :=
 Nat.mul_comm n k ▸ LA.one hT (by rw [rows_at h hk ha]; exact hc)
theorem sa_row {T : TypeId} {n : Nat} {l : List (Array Value)} {k : Nat} {c d : Array Value} (hs : sizT T = some n) (h : ∀ c ∈ l, c.size = n) (hk : l[k]? = some c) (hd : d.size = n) (h1 : d.all (·.oneCell') = true) : SA T (rowsOf l) (k * n) (.agg d) (rowsOf (l.set k d)) :=
 Nat.mul_comm n k ▸ SA.mid (by rw [hd]; exact hs) h1 (by rw [hd]; exact rows_lt h hk) (rows_set h hk hd)
end
section
inductive Hole : (List (Nat × Array Value) → List (Nat × Array Value)) → List (Nat × Array Value) → Prop
 | id : Hole (fun B => B) []
 | front {R : List (Nat × Array Value)} : Hole (fun B => B ++ R) R
 | cons {p : Nat × Array Value} {F : List (Nat × Array Value) → List (Nat × Array Value)} {K : List (Nat × Array Value)} (h : Hole F K) : Hole (fun B => p :: F B) (p :: K)
 | app {R : List (Nat × Array Value)} {F : List (Nat × Array Value) → List (Nat × Array Value)} {K : List (Nat × Array Value)} (h : Hole F K) : Hole (fun B => R ++ F B) (R ++ K)
theorem Hole.perm {F : List (Nat × Array Value) → List (Nat × Array Value)} {K : List (Nat × Array Value)} (h : Hole F K) (B : List (Nat × Array Value)) : (F B).Perm (B ++ K) := by
 induction h with
 | id => simp
 | front => exact .refl _
 | cons h ih => exact (ih.cons _).trans (List.perm_middle.symm)
 | @app R F K h ih =>
  refine (ih.append_left R).trans ?_
  rw [← List.append_assoc, ← List.append_assoc]
  exact List.perm_append_comm.append_right K
theorem Mem.perm {w0 w : World} {X : List Nat} {L L' : List (Nat × Array Value)} (h : Mem w0 X L w) (hp : L'.Perm L) : Mem w0 X L' w :=
 ⟨h.only, fun q hq => h.blk q (hp.mem_iff.1 hq), fun q hq => h.own q (hp.mem_iff.1 hq), (hp.map _).nodup_iff.2 h.nod⟩
inductive SlAt (n : Nat) : Value → List (Array Value) → List (Nat × Array Value) → Prop
 | nil : SlAt n (.slice none 0 0) [] []
 | row (b : Nat) (l sp : List (Array Value)) (h : ∀ c ∈ l ++ sp, c.size = n) : SlAt n (.slice (some ⟨b, 0, none⟩) l.length (l.length + sp.length)) l [(b, rowsOf (l ++ sp))]
theorem SlAt.val {n : Nat} {s : Value} {l : List (Array Value)} {B : List (Nat × Array Value)} (h : SlAt n s l B) : ∃ A cap, s = .slice A l.length cap ∧ l.length ≤ cap := by
 cases h with
 | nil => exact ⟨none, 0, rfl, Nat.le_refl _⟩
 | row b l sp h => exact ⟨_, _, rfl, Nat.le_add_right _ _⟩
theorem rows_append : ∀ (l m : List (Array Value)), rowsOf (l ++ m) = rowsOf l ++ rowsOf m
 | [], m => by simp [rowsOf]
 | c :: l, m => by rw [List.cons_append, rowsOf, rows_append l m, rowsOf, Array.append_assoc]
theorem rows_cells_one {l : List (Array Value)} (h : ∀ c ∈ l, c.all (·.oneCell') = true) : (rowsOf l).all (·.oneCell') = true := by
 induction l with
 | nil => simp [rowsOf]
 | cons c l ih => rw [rowsOf, Array.all_append, h c List.mem_cons_self, ih (fun d hd => h d (List.mem_cons_of_mem _ hd))]; rfl
theorem zeroCells_rows (z : Array Value) : ∀ n : Nat, Builtin.zeroCells z n = rowsOf (List.replicate n z) := by
 intro n
 have hs : ∀ c ∈ List.replicate n z, c.size = z.size := fun c hc => by rw [List.eq_of_mem_replicate hc]
 apply Array.ext_getElem?
 intro j
 have hsz : (rowsOf (List.replicate n z)).size = n * z.size := by rw [rows_size hs, List.length_replicate, Nat.mul_comm]
 by_cases hj : j < n * z.size
 ·have hz : 0 < z.size := by
    rcases Nat.eq_zero_or_pos z.size with h | h
    ·rw [h] at hj; omega
    ·exact h
  have e := Nat.div_add_mod j z.size
  have hm := Nat.mod_lt j hz
  have hq : j / z.size < n := Nat.div_lt_of_lt_mul (by rw [Nat.mul_comm]; exact hj)
  have := rows_at hs (k := j / z.size) (j := j % z.size) (c := z) (by simp [hq]) hm
  rw [e] at this
  rw [this]
  unfold Builtin.zeroCells
  simp [hj, hm]
 ·rw [Array.getElem?_eq_none (by unfold Builtin.zeroCells; simp; omega), Array.getElem?_eq_none Zo]
theorem run_app {w0 w : World} {X : List Nat} {L B K : List (Nat × Array Value)} {F : List (Nat × Array Value) → List (Nat × Array Value)} {n by_ : Nat} {s x : Value} {l m : List (Array Value)} {t tx ty e : TypeId} {i : TypeInfo} {z : Value}
    (HM : Mem w0 X L w) (HS : SlAt n s l B) (hF : Hole F K) (hp : Pk (F B) L)
    (ht : Tryz.prog.underlying t = some (.slice e)) (hi : Tryz.prog.info? e = some i) (hz : i.zero = some z) (hn : i.size = n) (hby : i.bytes = by_) (hzn : z.cells.size = n) (h0 : 0 < n)
    (hs : Src Tryz.prog n tx x m.length (rowsOf m).toList w) (hm : ∀ c ∈ m, c.size = n) (h1 : (l.length + m.length) * (by_ + 1) ≤ 140737488355328) :
    ∃ s' B' w', (Builtin.append_ #[t, tx] ty #[s, x]).run Tryz.prog w = .ok s' w' ∧ SlAt n s' (l ++ m) B' ∧ Mem w0 X (F B') w' := by
 subst hn
 have hlen : ((rowsOf m).toList).length = m.length * i.size := by rw [Array.length_toList, rows_size hm, Nat.mul_comm]
 have hb1 : l.length + m.length ≤ 140737488355328 := Nat.le_trans (Nat.le_mul_of_pos_right _ Zo) h1
 have hb2 : (l.length + m.length) * i.bytes ≤ 140737488355328 := Nat.le_trans (Nat.mul_le_mul_left _ Zo) h1
 have HF : Mem w0 X (B ++ K) w := (HM.pk hp).perm (hF.perm B).symm
 have grow : ∀ (A : Option Addr) (cap : Nat), (Builtin.firstCells i.size l.length (.slice A l.length cap)).run Tryz.prog w.drew = .ok (rowsOf l).toList.toArray w.drew → cap < l.length + m.length → (∀ c ∈ l, c.size = i.size) →
     ∃ s' B' w', (Builtin.append_ #[t, tx] ty #[.slice A l.length cap, x]).run Tryz.prog w = .ok s' w' ∧ SlAt i.size s' (l ++ m) B' ∧ Mem w0 X (F B') w' := by
  intro A cap hold hg hl
  have hr := run_append_grow_src (P := Tryz.prog) w t tx ty e i z ht hi hz A l.length cap (rowsOf l).toList hold x m.length (rowsOf m).toList hs hg Zo (growslice_fits hg hb2)
  obtain ⟨c, hc⟩ : ∃ c, c = grownCap w (l.length + m.length) cap e := ⟨_, rfl⟩
  have hge := grownCap_ge w (l.length + m.length) cap e
  rw [← hc] at hr hge
  have hcells : ((rowsOf l).toList ++ (rowsOf m).toList).toArray ++ Builtin.zeroCells z.cells (c - (l.length + m.length)) = rowsOf ((l ++ m) ++ List.replicate (c - (l.length + m.length)) z.cells) := by
   rw [zeroCells_rows, rows_append, rows_append]
   apply Array.ext'
   simp [List.append_assoc]
  rw [hcells] at hr
  refine ⟨_, [(w.heap.size, rowsOf ((l ++ m) ++ List.replicate (c - (l.length + m.length)) z.cells))], _, hr, ?_, ?_⟩
  ·have := SlAt.row (n := i.size) w.heap.size (l ++ m) (List.replicate (c - (l.length + m.length)) z.cells) (by
     intro d hd
     rcases List.mem_append.1 hd with h | h
     ·rcases List.mem_append.1 h with h | h
      ·exact hl d h
      ·exact hm d h
     ·rw [List.eq_of_mem_replicate h]; exact hzn)
   rw [List.length_append, List.length_replicate, show l.length + m.length + (c - (l.length + m.length)) = c from by omega] at this
   exact this
  ·have h2 := (HF.drew).new (rowsOf ((l ++ m) ++ List.replicate (c - (l.length + m.length)) z.cells)) e
   have h3 : Mem w0 X ((w.heap.size, rowsOf ((l ++ m) ++ List.replicate (c - (l.length + m.length)) z.cells)) :: K) (w.drew.alloc (.cells (rowsOf ((l ++ m) ++ List.replicate (c - (l.length + m.length)) z.cells)) e)) := by
    have hsub : List.Sublist ((w.heap.size, rowsOf ((l ++ m) ++ List.replicate (c - (l.length + m.length)) z.cells)) :: K) ((w.drew.heap.size, rowsOf ((l ++ m) ++ List.replicate (c - (l.length + m.length)) z.cells)) :: (B ++ K)) := List.Sublist.cons_cons _ (List.sublist_append_right _ _)
    exact ⟨h2.only, fun p hp => h2.blk p (hsub.mem hp), fun p hp => h2.own p (hsub.mem hp), (hsub.map _).nodup h2.nod⟩
   exact h3.perm (hF.perm _)
 cases HS with
 | nil =>
  by_cases hm0 : m.length = 0
  ·obtain rfl : m = [] := List.eq_nil_of_length_eq_zero hm0
   refine ⟨.slice none 0 0, [], w, ?_, .nil, HF.perm (hF.perm [])⟩
   have hcells : (Builtin.firstCells i.size 0 x).run Tryz.prog w = .ok #[] w := by simpa [rowsOf] using hs.cells
   rcases hs.kind with ⟨e', hk⟩ | hk <;> simp [Builtin.append_, run_underlying ht, run_underlying hk, sizeOf, typeInfo, hi, hs.len, hcells]
  ·exact grow none 0 (by rw [run_firstCells_none]; simp [rowsOf]) (by simpa using Nat.pos_of_ne_zero hm0) Zs
 | row b l sp h =>
  have hl : ∀ c ∈ l, c.size = i.size := fun c hc => h c (List.mem_append_left _ hc)
  have hblk : Blk w b (rowsOf (l ++ sp)) := HF.blk (b, rowsOf (l ++ sp)) Zs
  have hrl : (rowsOf l).size = i.size * l.length := rows_size hl
  have hrs : (rowsOf (l ++ sp)).size = i.size * (l ++ sp).length := rows_size h
  by_cases hroom : l.length + m.length ≤ l.length + sp.length
  ·have hroom' : m.length ≤ sp.length := by omega
   have hj : ∀ j, j < ((rowsOf m).toList).length → 0 + l.length * i.size + j < (rowsOf (l ++ sp)).size := by
    intro j hj
    rw [hlen] at hj
    rw [hrs, List.length_append, Nat.mul_add, Nat.mul_comm i.size l.length]
    have := Nat.mul_le_mul_right i.size hroom'
    rw [Nat.mul_comm i.size sp.length]; omega
   have hr := run_append_room_src (P := Tryz.prog) w t tx ty e i ht hi b 0 l.length (l.length + sp.length) x m.length (rowsOf m).toList hs hroom (fun j hj' => by rw [hblk.cell, Array.getElem?_eq_getElem (hj j hj')]; rfl) (fun j hj' => hblk.free _)
   have hset : setAll (rowsOf (l ++ sp)) (0 + l.length * i.size) (rowsOf m).toList = rowsOf ((l ++ m) ++ sp.drop m.length) := by
    apply Array.ext_getElem?
    intro j
    have e1 : rowsOf ((l ++ m) ++ sp.drop m.length) = rowsOf l ++ (rowsOf m ++ rowsOf (sp.drop m.length)) := by rw [rows_append, rows_append, Array.append_assoc]
    have e2 : rowsOf (l ++ sp) = rowsOf l ++ (rowsOf (sp.take m.length) ++ rowsOf (sp.drop m.length)) := by rw [← rows_append, List.take_append_drop, rows_append]
    have s1 : (rowsOf m).size = m.length * i.size := by rw [rows_size hm, Nat.mul_comm]
    have s2 : (rowsOf (sp.take m.length)).size = m.length * i.size := by
     rw [rows_size (fun c hc => h c (List.mem_append_right _ (List.mem_of_mem_take hc))), List.length_take, Nat.min_eq_left hroom', Nat.mul_comm]
    have s4 : (rowsOf l).size = l.length * i.size := by rw [hrl, Nat.mul_comm]
    rw [sets_at, hlen, e1, Nat.zero_add]
    have hle : l.length * i.size + m.length * i.size ≤ (rowsOf (l ++ sp)).size := by
     rw [hrs, List.length_append, Nat.mul_add, Nat.mul_comm i.size l.length, Nat.mul_comm i.size sp.length]
     exact Nat.add_le_add_left (Nat.mul_le_mul_right _ hroom') _
    by_cases c1 : j < l.length * i.size
    ·rw [if_neg Zo, e2, Array.getElem?_append, if_pos Zo, Array.getElem?_append, if_pos Zo]
    ·by_cases c2 : j < l.length * i.size + m.length * i.size
     ·rw [if_pos ⟨by omega, c2, by omega⟩, Array.getElem?_append, if_neg Zo, Array.getElem?_append, if_pos Zo, s4, Array.getElem?_toList]
     ·rw [if_neg Zo, e2, Array.getElem?_append, if_neg Zo, Array.getElem?_append, if_neg Zo, Array.getElem?_append, if_neg Zo, Array.getElem?_append, if_neg Zo, s1, s2]
   refine ⟨_, [(b, rowsOf ((l ++ m) ++ sp.drop m.length))], _, hr, ?_, ?_⟩
   ·have := SlAt.row (n := i.size) b (l ++ m) (sp.drop m.length) (by
      intro d hd
      rcases List.mem_append.1 hd with h' | h'
      ·rcases List.mem_append.1 h' with h' | h'
       ·exact hl d h'
       ·exact hm d h'
      ·exact h d (List.mem_append_right _ (List.mem_of_mem_drop h')))
    rw [List.length_append, List.length_drop, show l.length + m.length + (sp.length - m.length) = l.length + sp.length from by omega] at this
    exact this
   ·have hput := HF.put (L' := (b, rowsOf ((l ++ m) ++ sp.drop m.length)) :: K) (b := b) (c := rowsOf (l ++ sp)) (c' := rowsOf ((l ++ m) ++ sp.drop m.length)) .here (hset ▸ blk_setCells (rowsOf m).toList (0 + l.length * i.size) _ w hblk) (only_setCells _ _ _ w hblk)
    exact hput.perm (hF.perm _)
  ·exact grow (some ⟨b, 0, none⟩) (l.length + sp.length) (by
     refine run_firstCells_some w.drew i.size l.length ⟨b, 0, none⟩ l.length _ (rowsOf l).toList (by rw [Array.length_toList, hrl, Nat.mul_comm]) (fun j v hv => ?_)
     have hc := hblk.cell (0 + j)
     rw [Addr.add_lit]
     show w.cell? _ = _
     rw [hc, Nat.zero_add, rows_append, Array.getElem?_append, if_pos (by
      have := (List.getElem?_eq_some_iff.1 hv).1
      simpa using this), ← Array.getElem?_toList]
     exact hv) Zo hl
end
section
noncomputable def elemB (t e : TypeId) (n by_ : Nat) : Bool := match Tryz.prog.underlying t, Tryz.prog.info? e with
 | some (.slice e'), some i => (match i.zero with
  | some z => e' == e && i.size == n && z.cells.size == n && i.bytes == by_ && decide (0 < n)
  | none => false)
 | _, _ => false
structure ElemT (t e : TypeId) (n by_ : Nat) (i : TypeInfo) (z : Value) : Prop where
 ht : Tryz.prog.underlying t = some (.slice e)
 hi : Tryz.prog.info? e = some i
 hz : i.zero = some z
 hn : i.size = n
 hb : i.bytes = by_
 hzn : z.cells.size = n
 pos : 0 < n
theorem elemT {t e : TypeId} {n by_ : Nat} (h : elemB t e n by_ = true) : ∃ i z, ElemT t e n by_ i z := by
 unfold elemB at h
 cases hu : Tryz.prog.underlying t with
 | none => rw [hu] at h; simp at h
 | some d =>
  cases hi : Tryz.prog.info? e with
  | none => rw [hu, hi] at h; cases d <;> simp at h
  | some i =>
   rw [hu, hi] at h
   cases d <;> simp only [Bool.false_eq_true] at h
   case slice e' =>
    cases hz : i.zero with
    | none => rw [hz] at h; simp at h
    | some z =>
     rw [hz] at h
     simp only [Bool.and_eq_true, beq_iff_eq, decide_eq_true_eq] at h
     obtain ⟨⟨⟨⟨rfl, h2⟩, h3⟩, h4⟩, h5⟩ := h
     exact ⟨i, z, hu, hi, hz, h2, h4, h3, h5⟩
theorem fold_setAll : ∀ (l : List Value) (k o : Nat) (c : Array Value), (l.zipIdx k).foldl (fun cs (p : Value × Nat) => cs.setIfInBounds (o + p.2) p.1) c = setAll c (o + k) l := by
 intro l
 induction l with
 | nil => intro k o c; rfl
 | cons x l ih =>
  intro k o c
  rw [List.zipIdx_cons, List.foldl_cons, ih, setAll, Nat.add_assoc]
theorem fold_setAll' (v : Array Value) (o : Nat) (c : Array Value) : v.zipIdx.foldl (fun cs (p : Value × Nat) => cs.setIfInBounds (o + p.2) p.1) c = setAll c o v.toList := by
 have h := fold_setAll v.toList 0 o c
 rw [Nat.add_zero] at h
 rw [← h, ← Array.foldl_toList, Array.toList_zipIdx]
theorem fill_rows {n : Nat} {z : Array Value} (hz : z.size = n) : ∀ (vs : List Value) (k : Nat) (done : List (Array Value)), done.length = k → (∀ c ∈ done, c.size = n) → (∀ v ∈ vs, v.cells.size = n) →
    Instr.fill (fun i => some (i * n, n)) (rowsOf (done ++ List.replicate vs.length z)) ((vs.zipIdx k).map fun p => (p.2, p.1)) = some (rowsOf (done ++ vs.map Value.cells)) := by
 intro vs
 induction vs with
 | nil => intro k done _ _ _; simp [Instr.fill]
 | cons v vs ih =>
  intro k done hk hd hv
  have hvs := hv v List.mem_cons_self
  have hall : ∀ c ∈ done ++ List.replicate (v :: vs).length z, c.size = n := by
   intro c hc
   rcases List.mem_append.1 hc with h | h
   ·exact hd c h
   ·rw [List.eq_of_mem_replicate h]; exact hz
  have hat : (done ++ List.replicate (v :: vs).length z)[k]? = some z := by
   rw [List.getElem?_append_right Zo, hk, Nat.sub_self, List.length_cons, List.replicate_succ]; rfl
  have hlt := rows_lt hall hat
  rw [List.zipIdx_cons, List.map_cons, Instr.fill]
  simp only [hvs, ne_eq, not_true_eq_false, Bool.or_eq_true, decide_eq_true_eq, false_or]
  rw [if_neg (by simp; rw [Nat.mul_comm k n]; omega), fold_setAll', Nat.mul_comm k n, rows_set hall hat hvs]
  have e : (done ++ List.replicate (v :: vs).length z).set k v.cells = (done ++ [v.cells]) ++ List.replicate vs.length z := by
   rw [List.set_append_right _ _ Zo, hk, Nat.sub_self, List.length_cons, List.replicate_succ]; simp
  rw [e, ih (k + 1) (done ++ [v.cells]) (by simp [hk]) (by
   intro c hc
   rcases List.mem_append.1 hc with h | h
   ·exact hd c h
   ·rw [List.mem_singleton.1 h]; exact hvs) (fun u hu => hv u (List.mem_cons_of_mem _ hu))]
  simp
theorem run_bs {t e : TypeId} {n by_ : Nat} {i : TypeInfo} {z : Value} (hT : ElemT t e n by_ i z) (vs : List Value) (hv : ∀ v ∈ vs, v.cells.size = n) (hs : vs.length * n ≤ 16777216) {parts : Array (Nat × Value)} (hp : parts.toList = vs.zipIdx.map fun p => (p.2, p.1)) (w : World) :
    (Instr.buildSlice t vs.length parts).run Tryz.prog w = .ok (.slice (some ⟨w.heap.size, 0, none⟩) vs.length vs.length) (w.alloc (.cells (rowsOf (vs.map Value.cells)) e)) := by
 have hpos := hT.pos
 have hsz : sizeOf e = sizeOf e := rfl
 have hh : ¬ (2 ^ 24 < vs.length * n) := by omega
 by_cases h0 : vs = []
 ·subst h0
  have hp' : parts.toList = [] := by rw [hp]; rfl
  simp [Instr.buildSlice, run_underlying hT.ht, sizeOf, typeInfo, hT.hi, hp', Instr.fill, newRow, rowsOf]
  congr 2
  exact Array.eq_empty_of_size_eq_zero Zs
 ·have hl : vs.length ≠ 0 := fun h => h0 (List.eq_nil_of_length_eq_zero h)
  have hm : ¬ (vs.length * n = 0) := Nat.mul_ne_zero hl Zo
  have hzc : (Array.range (vs.length * n)).map (fun j => z.cells[j % z.cells.size]!) = rowsOf (List.replicate vs.length z.cells) := by
   rw [← zeroCells_rows]; unfold Builtin.zeroCells; rw [hT.hzn]
  have hf := fill_rows hT.hzn vs 0 [] rfl Zs hv
  rw [List.nil_append, List.nil_append] at hf
  simp [Instr.buildSlice, run_underlying hT.ht, sizeOf, typeInfo, hT.hi, hT.hn, hh, hm, zeroValue, hT.hz, hzc, hp, hf, newRow]
def RdS (n : Nat) (w : World) (sv : Value) (m : List (Array Value)) : Prop :=
 (∀ c ∈ m, c.size = n) ∧ ∃ A cap, sv = .slice A m.length cap ∧ m.length ≤ cap ∧ (m = [] ∨ ∃ b off cs, A = some ⟨b, off, none⟩ ∧ Rbk w b cs ∧ ∀ j, j < m.length * n → cs[off + j]? = (rowsOf m)[j]?)
theorem SlAt.rd {n : Nat} {s : Value} {l : List (Array Value)} {B L : List (Nat × Array Value)} {w0 w : World} {X : List Nat} (h : SlAt n s l B) (HM : Mem w0 X L w) (hp : ∀ p ∈ B, p ∈ L) : RdS n w s l := by
 cases h with
 | nil => exact ⟨by simp, none, 0, rfl, Nat.le_refl _, .inl rfl⟩
 | row b l sp h =>
  refine ⟨fun c hc => h c (List.mem_append_left _ hc), _, _, rfl, Nat.le_add_right _ _, .inr ⟨b, 0, _, rfl, (HM.blk (b, rowsOf (l ++ sp)) (hp _ Zs)).rbk, fun j hj => ?_⟩⟩
  rw [Nat.zero_add, rows_append, Array.getElem?_append, if_pos]
  rw [rows_size (fun c hc => h c (List.mem_append_left _ hc)), Nat.mul_comm]; exact hj
theorem RdS.kept {n : Nat} {w w' : World} {sv : Value} {m : List (Array Value)} (h : RdS n w sv m) (hk : ∀ b c, Rbk w b c → Rbk w' b c) : RdS n w' sv m := by
 obtain ⟨h1, A, cap, h2, h3, h4⟩ := h
 refine ⟨h1, A, cap, h2, h3, h4.imp id ?_⟩
 rintro ⟨b, off, cs, e, hb, hc⟩
 exact ⟨b, off, cs, e, hk _ _ hb, hc⟩
theorem RdS.below {n : Nat} {w w' : World} {sv : Value} {m : List (Array Value)} (h : RdS n w sv m) (hb : Below w.heap.size w w') : RdS n w' sv m := h.kept fun _ _ h => h.below hb h.lt
theorem RdS.src {n : Nat} {w : World} {sv : Value} {m : List (Array Value)} (h : RdS n w sv m) {tx e' : TypeId} (hk : Tryz.prog.underlying tx = some (.slice e')) (h1 : ∀ c ∈ m, c.all (·.oneCell') = true) : Src Tryz.prog n tx sv m.length (rowsOf m).toList w := by
 obtain ⟨hs, A, cap, rfl, hc, h4⟩ := h
 have hl : (rowsOf m).toList.length = m.length * n := by rw [Array.length_toList, rows_size hs, Nat.mul_comm]
 have ho : ∀ u ∈ (rowsOf m).toList, u.oneCell' = true := by
  have := rows_cells_one h1
  rw [← Array.all_toList] at this
  exact List.all_eq_true.1 this
 have hcell : ∀ (w' : World), (∀ b c, Rbk w b c → Rbk w' b c) → (Builtin.firstCells n m.length (.slice A m.length cap)).run Tryz.prog w' = .ok (rowsOf m).toList.toArray w' := by
  intro w' hk
  cases A with
  | none =>
   have h0 : m = [] := by
    rcases h4 with h | ⟨_, _, _, e, _⟩
    ·exact h
    ·cases e
   subst h0
   rw [run_firstCells_none]; simp [rowsOf]
  | some a =>
   refine run_firstCells_some w' n m.length a m.length cap _ hl (fun j v hv => ?_)
   have hj := (List.getElem?_eq_some_iff.1 hv).1
   rcases h4 with h | ⟨b, off, cs, e, hb, hc⟩
   ·subst h; simp [rowsOf] at hj
   ·cases e
    rw [Addr.add_lit, (hk _ _ hb).cell, hc j Zo, ← Array.getElem?_toList]
    exact hv
 exact ⟨.inl ⟨e', hk⟩, fun _ => rfl, hcell w fun _ _ h => h, hcell w.drew fun _ _ h => h, hl, ho⟩
theorem RdS.get {n : Nat} {w : World} {sv : Value} {m : List (Array Value)} (h : RdS n w sv m) {k : Nat} {c : Array Value} (hk : m[k]? = some c) : ∃ b off cs cap, sv = .slice (some ⟨b, off, none⟩) m.length cap ∧ Rbk w b cs ∧ ∀ j, j < n → cs[off + k * n + j]? = c[j]? := by
 obtain ⟨hs, A, cap, rfl, hc, h4⟩ := h
 have hkl := (List.getElem?_eq_some_iff.1 hk).1
 rcases h4 with h | ⟨b, off, cs, rfl, hb, hc⟩
 ·subst h; simp at hk
 ·refine ⟨b, off, cs, cap, rfl, hb, fun j hj => ?_⟩
  have h1 := Nat.mul_le_mul_right n (show k + 1 ≤ m.length by omega)
  rw [Nat.add_mul] at h1
  rw [Nat.add_assoc, hc _ Zo, Nat.mul_comm k n]
  exact rows_at hs hk hj
theorem la_in {T : TypeId} {n p : Nat} {cs c : Array Value} (hT : aggT T = some true) (hs : sizT T = some n) (hc : c.size = n) (h : ∀ j, j < n → cs[p + j]? = c[j]?) (h0 : 0 < n) : LA T cs p (.agg c) := by
 have hl : p + n ≤ cs.size := by
  have h1 := h (n - 1) Zo
  rw [Array.getElem?_eq_getElem (show n - 1 < c.size by omega)] at h1
  have := (Array.getElem?_eq_some_iff.1 h1).1
  omega
 refine LA.mid hT hs hl ?_
 apply Array.ext_getElem?
 intro j
 rw [Array.getElem?_extract]
 by_cases hj : j < n
 ·rw [if_pos Zo]; exact h j hj
 ·rw [if_neg Zo, Array.getElem?_eq_none Zo]
section
variable {ops : Array Oper} {rest : List Oper} {a : Act} {w w0 : World} {X : List Nat} {L : List (Nat × Array Value)} {Q : Exit → Act → World → Prop} {d : Option Tmp} {ty t tx e : TypeId} {n by_ : Nat} {ps : String} {af : Array Edge} {g : Option (Nat × Bool)} {x y : Operand}
theorem g_app (h : OpG ops Q rest a w { dst := d, op := .call { callee := .builtin .append, args := #[x, y], argTypes := #[t, tx] }, type := ty, pos := ps, after := af, guard := g }) : wpList Tryz.prog ops Q ({ dst := d, op := .call { callee := .builtin .append, args := #[x, y], argTypes := #[t, tx] }, type := ty, pos := ps, after := af, guard := g } :: rest) a w := h
theorem a_app {a2 : Value → Act} {F : List (Nat × Array Value) → List (Nat × Array Value)} {K B : List (Nat × Array Value)} {s sv : Value} {l m : List (Array Value)} (HM : Mem w0 X L w) (HS : SlAt n s l B) (hR : RdS n w sv m) (h : ∀ s' B' w', SlAt n s' (l ++ m) B' → Mem w0 X (F B') w' → wpList Tryz.prog ops Q rest (a2 s') w') (h1 : ∀ c ∈ m, c.all (·.oneCell') = true) (hT : elemB t e n by_ = true := by with_reducible assumption) (hTx : elemB tx e n by_ = true := by with_reducible assumption) (hw : WantT ops { dst := d, op := .call { callee := .builtin .append, args := #[x, y], argTypes := #[t, tx] }, type := ty, pos := ps, after := af, guard := g } a := by first | exact Or.inl rfl | exact Or.inr ⟨_, _, _, rfl, rfl, rfl⟩) (hx : a.eval x = s := by (conv => lhs; whnf) <;> rfl) (hy : a.eval y = sv := by (conv => lhs; whnf) <;> rfl) (hF : Hole F K := by repeat (first | exact Hole.id | exact Hole.front | apply Hole.cons | apply Hole.app)) (hp : Pk (F B) L := by (repeat (first | exact Pk.nil | exact Pk.refl _ | exact Pk.pre _ _ | exact Pk.post _ _ | (apply Pk.cons; focus (repeat (first | exact Rm.here | apply Rm.there))) | apply Pk.skip))) (ha : ∀ s', a.put d s' = a2 s' := by intro s'; ((try simp only [Act.put, Za, Zx, Zy]) <;> rfl)) (hlen : (l.length + m.length) * (by_ + 1) ≤ 140737488355328 := by (try simp only [List.length_cons, List.length_nil, List.length_append, List.length_map]); omega) : OpG ops Q rest a w { dst := d, op := .call { callee := .builtin .append, args := #[x, y], argTypes := #[t, tx] }, type := ty, pos := ps, after := af, guard := g } := by
 obtain ⟨i, z, hE⟩ := elemT hT
 obtain ⟨i', z', hE'⟩ := elemT hTx
 refine wpList_step fun K9 hK => ?_
 rw [if_pos hw.wanted]
 obtain ⟨s', B', w', hr, hS', hM'⟩ := run_app (ty := ty) HM HS hF hp hE.ht hE.hi hE.hz hE.hn hE.hb hE.hzn hE.pos (hR.src hE'.ht h1) hR.1 hlen
 unfold Oper.wp
 simp [execOp, resolve, invoke, builtin, hx, hy, hr, Result.andThen]
 exact hK _ _ (ha s' ▸ h s' B' w' hS' hM')
theorem g_bs0 (h : OpG ops Q rest a w { dst := d, op := .buildSlice t 0 #[], type := ty, pos := ps, after := af, guard := g }) : wpList Tryz.prog ops Q ({ dst := d, op := .buildSlice t 0 #[], type := ty, pos := ps, after := af, guard := g } :: rest) a w := h
theorem a_bs0 {a2 : Nat → Act} (HM : Mem w0 X L w) (h : ∀ b w', Mem w0 X ((b, rowsOf []) :: L) w' → wpList Tryz.prog ops Q rest (a2 b) w') (hT : elemB t e n by_ = true := by with_reducible assumption) (hw : WantT ops { dst := d, op := .buildSlice t 0 #[], type := ty, pos := ps, after := af, guard := g } a := by first | exact Or.inl rfl | exact Or.inr ⟨_, _, _, rfl, rfl, rfl⟩)  (hn : 0 * n ≤ 16777216 := by decide) (ha : ∀ b, a.put d (.slice (some ⟨b, 0, none⟩) 0 0) = a2 b := by intro b; ((try simp only [Act.put, Za, Zx, Zy]) <;> rfl)) : OpG ops Q rest a w { dst := d, op := .buildSlice t 0 #[], type := ty, pos := ps, after := af, guard := g } := by
 obtain ⟨i, z, hE⟩ := elemT hT
 refine wpList_step fun K9 hK => ?_
 rw [if_pos hw.wanted]
 have hr := run_bs hE [] Zs hn (parts := #[]) rfl w
 unfold Oper.wp
 simp [execOp, List.map_nil] at hr ⊢
 exact z9_14
theorem g_bs1 {x0 : Operand} (h : OpG ops Q rest a w { dst := d, op := .buildSlice t 1 #[(0, x0)], type := ty, pos := ps, after := af, guard := g }) : wpList Tryz.prog ops Q ({ dst := d, op := .buildSlice t 1 #[(0, x0)], type := ty, pos := ps, after := af, guard := g } :: rest) a w := h
theorem a_bs1 {x0 : Operand} {v0 : Value} {c0 : Array Value} {a2 : Nat → Act} (HM : Mem w0 X L w) (h : ∀ b w', Mem w0 X ((b, rowsOf [c0]) :: L) w' → wpList Tryz.prog ops Q rest (a2 b) w') (hT : elemB t e n by_ = true := by with_reducible assumption) (hw : WantT ops { dst := d, op := .buildSlice t 1 #[(0, x0)], type := ty, pos := ps, after := af, guard := g } a := by first | exact Or.inl rfl | exact Or.inr ⟨_, _, _, rfl, rfl, rfl⟩) (h0 : a.eval x0 = v0 := by (conv => lhs; whnf) <;> rfl) (k0 : v0.cells = c0 := by (conv => lhs; whnf) <;> rfl) (z0 : c0.size = n := by (first | exact qA_size _ | exact rZ_size _ _ | exact ratA_size _ _ _ _ | exact zA_size _ | exact Bg.intA_size _ _ | assumption | rfl)) (hn : 1 * n ≤ 16777216 := by decide) (ha : ∀ b, a.put d (.slice (some ⟨b, 0, none⟩) 1 1) = a2 b := by intro b; ((try simp only [Act.put, Za, Zx, Zy]) <;> rfl)) : OpG ops Q rest a w { dst := d, op := .buildSlice t 1 #[(0, x0)], type := ty, pos := ps, after := af, guard := g } := by
 obtain ⟨i, z, hE⟩ := elemT hT
 refine wpList_step fun K9 hK => ?_
 rw [if_pos hw.wanted]
 have hr := run_bs hE [v0] (by simp [k0, z0]) hn (parts := #[(0, v0)]) rfl w
 unfold Oper.wp
 simp [execOp, List.map_cons, List.map_nil, h0, k0] at hr ⊢
 exact z9_14
theorem g_bs2 {x0 x1 : Operand} (h : OpG ops Q rest a w { dst := d, op := .buildSlice t 2 #[(0, x0), (1, x1)], type := ty, pos := ps, after := af, guard := g }) : wpList Tryz.prog ops Q ({ dst := d, op := .buildSlice t 2 #[(0, x0), (1, x1)], type := ty, pos := ps, after := af, guard := g } :: rest) a w := h
theorem a_bs2 {x0 x1 : Operand} {v0 v1 : Value} {c0 c1 : Array Value} {a2 : Nat → Act} (HM : Mem w0 X L w) (h : ∀ b w', Mem w0 X ((b, rowsOf [c0, c1]) :: L) w' → wpList Tryz.prog ops Q rest (a2 b) w') (hT : elemB t e n by_ = true := by with_reducible assumption) (hw : WantT ops { dst := d, op := .buildSlice t 2 #[(0, x0), (1, x1)], type := ty, pos := ps, after := af, guard := g } a := by first | exact Or.inl rfl | exact Or.inr ⟨_, _, _, rfl, rfl, rfl⟩) (h0 : a.eval x0 = v0 := by (conv => lhs; whnf) <;> rfl) (k0 : v0.cells = c0 := by (conv => lhs; whnf) <;> rfl) (z0 : c0.size = n := by (first | exact qA_size _ | exact rZ_size _ _ | exact ratA_size _ _ _ _ | exact zA_size _ | exact Bg.intA_size _ _ | assumption | rfl)) (h1 : a.eval x1 = v1 := by (conv => lhs; whnf) <;> rfl) (k1 : v1.cells = c1 := by (conv => lhs; whnf) <;> rfl) (z1 : c1.size = n := by (first | exact qA_size _ | exact rZ_size _ _ | exact ratA_size _ _ _ _ | exact zA_size _ | exact Bg.intA_size _ _ | assumption | rfl)) (hn : 2 * n ≤ 16777216 := by decide) (ha : ∀ b, a.put d (.slice (some ⟨b, 0, none⟩) 2 2) = a2 b := by intro b; ((try simp only [Act.put, Za, Zx, Zy]) <;> rfl)) : OpG ops Q rest a w { dst := d, op := .buildSlice t 2 #[(0, x0), (1, x1)], type := ty, pos := ps, after := af, guard := g } := by
 obtain ⟨i, z, hE⟩ := elemT hT
 refine wpList_step fun K9 hK => ?_
 rw [if_pos hw.wanted]
 have hr := run_bs hE [v0, v1] (by simp [k0, z0, k1, z1]) hn (parts := #[(0, v0), (1, v1)]) rfl w
 unfold Oper.wp
 simp [execOp, List.map_cons, List.map_nil, h0, h1, k0, k1] at hr ⊢
 exact z9_14
theorem g_bs3 {x0 x1 x2 : Operand} (h : OpG ops Q rest a w { dst := d, op := .buildSlice t 3 #[(0, x0), (1, x1), (2, x2)], type := ty, pos := ps, after := af, guard := g }) : wpList Tryz.prog ops Q ({ dst := d, op := .buildSlice t 3 #[(0, x0), (1, x1), (2, x2)], type := ty, pos := ps, after := af, guard := g } :: rest) a w := h
theorem a_bs3 {x0 x1 x2 : Operand} {v0 v1 v2 : Value} {c0 c1 c2 : Array Value} {a2 : Nat → Act} (HM : Mem w0 X L w) (h : ∀ b w', Mem w0 X ((b, rowsOf [c0, c1, c2]) :: L) w' → wpList Tryz.prog ops Q rest (a2 b) w') (hT : elemB t e n by_ = true := by with_reducible assumption) (hw : WantT ops { dst := d, op := .buildSlice t 3 #[(0, x0), (1, x1), (2, x2)], type := ty, pos := ps, after := af, guard := g } a := by first | exact Or.inl rfl | exact Or.inr ⟨_, _, _, rfl, rfl, rfl⟩) (h0 : a.eval x0 = v0 := by (conv => lhs; whnf) <;> rfl) (k0 : v0.cells = c0 := by (conv => lhs; whnf) <;> rfl) (z0 : c0.size = n := by (first | exact qA_size _ | exact rZ_size _ _ | exact ratA_size _ _ _ _ | exact zA_size _ | exact Bg.intA_size _ _ | assumption | rfl)) (h1 : a.eval x1 = v1 := by (conv => lhs; whnf) <;> rfl) (k1 : v1.cells = c1 := by (conv => lhs; whnf) <;> rfl) (z1 : c1.size = n := by (first | exact qA_size _ | exact rZ_size _ _ | exact ratA_size _ _ _ _ | exact zA_size _ | exact Bg.intA_size _ _ | assumption | rfl)) (h2 : a.eval x2 = v2 := by (conv => lhs; whnf) <;> rfl) (k2 : v2.cells = c2 := by (conv => lhs; whnf) <;> rfl) (z2 : c2.size = n := by (first | exact qA_size _ | exact rZ_size _ _ | exact ratA_size _ _ _ _ | exact zA_size _ | exact Bg.intA_size _ _ | assumption | rfl)) (hn : 3 * n ≤ 16777216 := by decide) (ha : ∀ b, a.put d (.slice (some ⟨b, 0, none⟩) 3 3) = a2 b := by intro b; ((try simp only [Act.put, Za, Zx, Zy]) <;> rfl)) : OpG ops Q rest a w { dst := d, op := .buildSlice t 3 #[(0, x0), (1, x1), (2, x2)], type := ty, pos := ps, after := af, guard := g } := by
 obtain ⟨i, z, hE⟩ := elemT hT
 refine wpList_step fun K9 hK => ?_
 rw [if_pos hw.wanted]
 have hr := run_bs hE [v0, v1, v2] (by simp [k0, z0, k1, z1, k2, z2]) hn (parts := #[(0, v0), (1, v1), (2, v2)]) rfl w
 unfold Oper.wp
 simp [execOp, List.map_cons, List.map_nil, h0, h1, h2, k0, k1, k2] at hr ⊢
 exact z9_14
end
end
section
theorem Addr.add_lit' (b o n : Nat) : Addr.add ⟨b, o, none⟩ n = ⟨b, o + n, none⟩ := Addr.add_lit b o n
theorem RdS.part {n : Nat} {w : World} {A : Option Addr} {len cap : Nat} {m : List (Array Value)} (h : RdS n w (.slice A len cap) m) {lo hi : Nat} (h1 : lo ≤ hi) (h2 : hi ≤ m.length) : RdS n w (.slice (if cap = lo then A else A.map (·.add (lo * n))) (hi - lo) (cap - lo)) ((m.take hi).drop lo) := by
 obtain ⟨hs, A', cap', e, hc, h4⟩ := h
 injection e with e1 e2 e3
 subst e1 e3
 have hl : ((m.take hi).drop lo).length = hi - lo := by rw [List.length_drop, List.length_take, Nat.min_eq_left h2]
 refine ⟨fun c hc => hs c (List.mem_of_mem_take (List.mem_of_mem_drop hc)), (if cap = lo then A else A.map (·.add (lo * n))), cap - lo, by rw [hl], by rw [hl]; omega, ?_⟩
 by_cases he : hi = lo
 ·exact .inl (List.eq_nil_of_length_eq_zero (by rw [hl]; omega))
 ·rcases h4 with h | ⟨b, off, cs, rfl, hb, hcell⟩
  ·subst h; simp at h2; omega
  ·refine .inr ⟨b, off + lo * n, cs, by rw [if_neg Zo]; simp [Addr.add_lit'], hb, fun j hj => ?_⟩
   rw [hl, Nat.sub_mul] at hj
   have h5 := Nat.mul_le_mul_right n h2
   rw [Nat.add_assoc, hcell _ Zo]
   have e1 : m = (m.take hi).take lo ++ ((m.take hi).drop lo ++ m.drop hi) := by rw [← List.append_assoc, List.take_append_drop, List.take_append_drop]
   have z1 : (rowsOf ((m.take hi).take lo)).size = lo * n := by
    rw [rows_size (fun c hc => hs c (List.mem_of_mem_take (List.mem_of_mem_take hc))), List.length_take, List.length_take, Nat.min_eq_left h2, Nat.min_eq_left h1, Nat.mul_comm]
   have z2 : (rowsOf ((m.take hi).drop lo)).size = hi * n - lo * n := by
    rw [rows_size (fun c hc => hs c (List.mem_of_mem_take (List.mem_of_mem_drop hc))), hl, Nat.mul_comm, Nat.sub_mul]
   conv => lhs; rw [e1, rows_append, rows_append]
   rw [Array.getElem?_append, if_neg Zo, z1, Array.getElem?_append, if_pos Zo, Nat.add_sub_cancel_left]
theorem run_take {n by_ : Nat} {t e : TypeId} {w : World} {sv : Value} {m : List (Array Value)} (h : RdS n w sv m) (hT : elemB t e n by_ = true) {k : Nat} (hk : k ≤ m.length) : ∃ sv', (∀ w', (Instr.sliceAt t sv none (some (.int .i64 (k : Nat))) none).run Tryz.prog w' = .ok sv' w') ∧ ∀ w', RdS n w' sv m → RdS n w' sv' (m.take k) := by
 obtain ⟨i, z, hE⟩ := elemT hT
 obtain ⟨hs, A, cap, rfl, hc, _⟩ := h
 refine ⟨.slice (if cap = 0 then A else A.map (·.add (0 * n))) (k - 0) (cap - 0), fun w' => ?_, fun w' h' => ?_⟩
 ·have hb := run_sliceBound (P := Tryz.prog) w' IntKind.i64 (k : Int) cap .sliceAcap Zo Zo
  simp [Instr.sliceAt, Instr.slice, run_underlying hE.ht, Instr.sliceBounds, sizeOf, typeInfo, hE.hi, hb]
 ·have := h'.part (Nat.zero_le k) hk
  rwa [List.drop_zero] at this
theorem run_drop {n by_ : Nat} {t e : TypeId} {w : World} {sv : Value} {m : List (Array Value)} (h : RdS n w sv m) (hT : elemB t e n by_ = true) {k : Nat} (hk : k ≤ m.length) : ∃ sv', (∀ w', (Instr.sliceAt t sv (some (.int .i64 (k : Nat))) none none).run Tryz.prog w' = .ok sv' w') ∧ ∀ w', RdS n w' sv m → RdS n w' sv' (m.drop k) := by
 obtain ⟨i, z, hE⟩ := elemT hT
 obtain ⟨hs, A, cap, rfl, hc, _⟩ := h
 refine ⟨.slice (if cap = k then A else A.map (·.add (k * n))) (m.length - k) (cap - k), fun w' => ?_, fun w' h' => ?_⟩
 ·have hb := run_sliceBound (P := Tryz.prog) w' IntKind.i64 (k : Int) m.length .sliceB Zo Zo
  simp [Instr.sliceAt, Instr.slice, run_underlying hE.ht, Instr.sliceBounds, sizeOf, typeInfo, hE.hi, hE.hn, hb]
 ·have := h'.part hk (Nat.le_refl _)
  rwa [List.take_length] at this
section
variable {ops : Array Oper} {rest : List Oper} {a a2 : Act} {w w0 : World} {X : List Nat} {L : List (Nat × Array Value)} {Q : Exit → Act → World → Prop} {d : Option Tmp} {ty t tx e : TypeId} {n by_ : Nat} {ps : String} {af : Array Edge} {g : Option (Nat × Bool)} {x : Operand} {lo hi mx : Option Operand} {v sv : Value}
theorem h_sl {o : Oper} (ho : o.op = .slice t x lo hi mx) (h : ∀ w, (Instr.sliceAt t (a.eval x) (lo.map a.eval) (hi.map a.eval) (mx.map a.eval)).run Tryz.prog w = .ok v w) : ∀ w, (execOp a.eval o).run Tryz.prog w = .ok (.value v) w := fun w => by
 unfold execOp
 simp only [ho, Sem.run_bind, h w, Result.andThen_ok, Sem.run_pure]
theorem g_sl (h : OpG ops Q rest a w { dst := d, op := .slice t x lo hi mx, type := ty, pos := ps, after := af, guard := g }) : wpList Tryz.prog ops Q ({ dst := d, op := .slice t x lo hi mx, type := ty, pos := ps, after := af, guard := g } :: rest) a w := h
theorem a_sl (h : wpList Tryz.prog ops Q rest a2 w) (hv : ∀ w, (Instr.sliceAt t (a.eval x) (lo.map a.eval) (hi.map a.eval) (mx.map a.eval)).run Tryz.prog w = .ok v w) (hw : WantT ops { dst := d, op := .slice t x lo hi mx, type := ty, pos := ps, after := af, guard := g } a := by first | exact Or.inl rfl | exact Or.inr ⟨_, _, _, rfl, rfl, rfl⟩) (ha : a.put d v = a2 := by ((try simp only [Act.put, Za, Zx, Zy]) <;> rfl)) : OpG ops Q rest a w { dst := d, op := .slice t x lo hi mx, type := ty, pos := ps, after := af, guard := g } := by
 refine wpList_step fun K hK => ?_
 rw [if_pos hw.wanted]
 unfold Oper.wp
 rw [h_sl rfl hv]
 exact hK _ _ (ha ▸ h)
end
section
variable {ops : Array Oper} {oi : Oper} {a : Act} {w w0 : World} {X : List Nat} {L : List (Nat × Array Value)} {Q : Exit → Act → World → Prop} {R : Act → World → Prop} {d : Tmp} {t tx e : TypeId} {n by_ : Nat} {x y : Operand}
theorem j_app {a2 : Value → Act} {F : List (Nat × Array Value) → List (Nat × Array Value)} {K B : List (Nat × Array Value)} {s sv : Value} {l m : List (Array Value)} (HM : Mem w0 X L w) (HS : SlAt n s l B) (hR : RdS n w sv m) (h : ∀ s' B' w', SlAt n s' (l ++ m) B' → Mem w0 X (F B') w' → R (a2 s') w') (h1 : ∀ c ∈ m, c.all (·.oneCell') = true) (hT : elemB t e n by_ = true := by with_reducible assumption) (hTx : elemB tx e n by_ = true := by with_reducible assumption) (hd : oi.dst = some d := by rfl) (ho : oi.op = .call { callee := .builtin .append, args := #[x, y], argTypes := #[t, tx] } := by rfl) (hx : a.eval x = s := by (conv => lhs; whnf) <;> rfl) (hy : a.eval y = sv := by (conv => lhs; whnf) <;> rfl) (hF : Hole F K := by repeat (first | exact Hole.id | exact Hole.front | apply Hole.cons | apply Hole.app)) (hp : Pk (F B) L := by (repeat (first | exact Pk.nil | exact Pk.refl _ | exact Pk.pre _ _ | exact Pk.post _ _ | (apply Pk.cons; focus (repeat (first | exact Rm.here | apply Rm.there))) | apply Pk.skip))) (ha : ∀ s', ({ a with tmps := a.tmps.setIfInBounds d s' } : Act) = a2 s' := by intro s'; ((try simp only [Za, Zx, Zy]) <;> rfl)) (hlen : (l.length + m.length) * (by_ + 1) ≤ 140737488355328 := by (try simp only [List.length_cons, List.length_nil, List.length_append, List.length_map]); omega) : Oper.wp Tryz.prog oi a w R Q := by
 obtain ⟨i, z, hE⟩ := elemT hT
 obtain ⟨i', z', hE'⟩ := elemT hTx
 obtain ⟨s', B', w', hr, hS', hM'⟩ := run_app (ty := oi.type) HM HS hF hp hE.ht hE.hi hE.hz hE.hn hE.hb hE.hzn hE.pos (hR.src hE'.ht h1) hR.1 hlen
 unfold Oper.wp execOp
 simp [ho, resolve, invoke, builtin, hx, hy, hr, Result.andThen]
 rw [Oper.upon_value, hd]
 have h9 := h s' B' w' hS' hM'
 rw [← ha s'] at h9
 exact h9
theorem j_bs1 {x0 : Operand} {v0 : Value} {c0 : Array Value} {a2 : Nat → Act} (HM : Mem w0 X L w) (h : ∀ b w', Mem w0 X ((b, rowsOf [c0]) :: L) w' → R (a2 b) w') (hT : elemB t e n by_ = true := by with_reducible assumption) (hd : oi.dst = some d := by rfl) (ho : oi.op = .buildSlice t 1 #[(0, x0)] := by rfl) (h0 : a.eval x0 = v0 := by (conv => lhs; whnf) <;> rfl) (k0 : v0.cells = c0 := by (conv => lhs; whnf) <;> rfl) (z0 : c0.size = n := by (first | exact qA_size _ | exact rZ_size _ _ | exact ratA_size _ _ _ _ | exact zA_size _ | exact Bg.intA_size _ _ | assumption | rfl)) (hn : 1 * n ≤ 16777216 := by decide) (ha : ∀ b, ({ a with tmps := a.tmps.setIfInBounds d (.slice (some ⟨b, 0, none⟩) 1 1) } : Act) = a2 b := by intro b; ((try simp only [Za, Zx, Zy]) <;> rfl)) : Oper.wp Tryz.prog oi a w R Q := by
 obtain ⟨i, z, hE⟩ := elemT hT
 have hr := run_bs hE [v0] (by simp [k0, z0]) hn (parts := #[(0, v0)]) rfl w
 unfold Oper.wp execOp
 simp [ho, List.map_cons, List.map_nil, h0, k0] at hr ⊢
 simp [hr, Result.andThen]
 rw [Oper.upon_value, hd]
 have h9 := h _ _ (HM.new _ e)
 rw [← ha] at h9
 exact h9
end
theorem SlAt.made {n : Nat} (b : Nat) (l : List (Array Value)) (h : ∀ c ∈ l, c.size = n) : SlAt n (.slice (some ⟨b, 0, none⟩) l.length l.length) l [(b, rowsOf l)] := by
 have := SlAt.row (n := n) b l [] (by simpa using h)
 simpa using this
theorem SlAt.made0 {n : Nat} (b : Nat) : SlAt n (.slice (some ⟨b, 0, none⟩) 0 0) [] [(b, rowsOf [])] := SlAt.made b [] Zs
theorem SlAt.made1 {n : Nat} (b : Nat) {c : Array Value} (h : c.size = n) : SlAt n (.slice (some ⟨b, 0, none⟩) 1 1) [c] [(b, rowsOf [c])] := SlAt.made b [c] (by simpa using h)
theorem Zc {P : Program} {f : FuncId} {ar : Array Value} {w0 w : World} {X : List Nat} {L : List (Nat × Array Value)} {v : Ending} {Q : Ending → World → Prop} (HM : Mem w0 X L w) (hc : Calls P f ar w fun e w' => e = v ∧ Below w.heap.size w w') (h : ∀ w2, Mem w0 X L w2 → Q v w2) : Calls P f ar w Q := hc.mono (by rintro e w2 ⟨rfl, hL⟩; exact h w2 (HM.call hL))
end
end Go.Proofs.YtiekmabiecalbaaGreatDoor
