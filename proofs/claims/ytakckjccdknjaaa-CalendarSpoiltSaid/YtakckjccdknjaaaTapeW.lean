/- The tape in memory. -/
import Derived.Test.YtakckjccdknjaaaCalW
import Derived.Laws.OwnMore
namespace Go.Proofs.Ytakckjccdknjaaa
open Go.RowKit
/-- A pointer to block tb is a tape: it has read at most m numbers; what it reads lies in the memory of the world W in which the law began, of which nothing has turned. -/
def Tape (W : World) (tb m : Nat) (w : World) : Prop :=
  ∃ (L : Option Addr) (xs : List Int) (c : Nat) (at_ : Int), Below W.heap.size W w ∧ W.heap.size ≤ tb ∧ w.heap[tb]? = some (.cells #[.slice L xs.length c, .int .i64 at_] 36 (0, 0)) ∧
    0 ≤ at_ ∧ at_ ≤ m ∧ IntsAt W L xs ∧ xs.length ≤ 9223372036854775807
theorem Tape.below {W w : World} {tb m : Nat} (h : Tape W tb m w) : Below W.heap.size W w := by obtain ⟨_, _, _, _, h, _⟩ := h; exact h
theorem Tape.le {W w : World} {tb m : Nat} (h : Tape W tb m w) : W.heap.size ≤ tb := by obtain ⟨_, _, _, _, _, h, _⟩ := h; exact h
theorem Tape.lt {W w : World} {tb m : Nat} (h : Tape W tb m w) : tb < w.heap.size := by
  obtain ⟨_, _, _, _, _, _, h, _⟩ := h
  exact (Array.getElem?_eq_some_iff.1 h).1
theorem Tape.mono {W w : World} {tb m m' : Nat} (h : Tape W tb m w) (hm : m ≤ m') : Tape W tb m' w := by
  obtain ⟨L, xs, c, a, h1, h2, h3, h4, h5, h6⟩ := h
  exact ⟨L, xs, c, a, h1, h2, h3, h4, by omega, h6⟩
/-- What leaves the tape's block and the old memory alone leaves the tape. -/
theorem Tape.kept {W w w' : World} {tb m : Nat} (h : Tape W tb m w) (hb : Below W.heap.size w w') (ht : w'.heap[tb]? = w.heap[tb]?) : Tape W tb m w' := by
  obtain ⟨L, xs, c, a, h1, h2, h3, h4⟩ := h
  exact ⟨L, xs, c, a, h1.trans hb, h2, ht.trans h3, h4⟩
theorem Tape.after {W w w' : World} {tb m : Nat} (h : Tape W tb m w) (hb : Below w.heap.size w w') : Tape W tb m w' :=
  h.kept (hb.mono h.below.size) (hb.block tb h.lt)
theorem Tape.alloc {W w : World} {tb m : Nat} (h : Tape W tb m w) (o : Obj) : Tape W tb m (w.alloc o) := h.after (below_new _ _)
theorem Tape.drewN {W w : World} {tb m : Nat} (h : Tape W tb m w) (n : Nat) : Tape W tb m (w.drewN n) := h.after (below_drewN (Below.refl _ _) n)
theorem Tape.set {W w : World} {tb m : Nat} (h : Tape W tb m w) {p : Addr} (hp : p.block ≠ tb) (hw : W.heap.size ≤ p.block) (u : Value) : Tape W tb m (w.setCell p u) :=
  h.kept ((Below.refl _ _).setCell hw u) (Below.heap_setCell w p u tb (Ne.symm hp))
/-- Only the tape's block, and what is new, has turned. -/
theorem turn_refl (w : World) (tb : Nat) : w.grownBy w (some tb) := World.grownBy.refl w _
theorem turn_trans {a b c : World} {tb : Nat} (h : a.grownBy b (some tb)) (k : b.grownBy c (some tb)) : a.grownBy c (some tb) :=
  ⟨k.os.trans h.os, k.tape.trans h.tape, k.output.trans h.output, Nat.le_trans h.size k.size, fun i hi hne => (k.block i (Nat.lt_of_lt_of_le hi h.size) hne).trans (h.block i hi hne)⟩
theorem turn_below {a b : World} {tb : Nat} (h : Below a.heap.size a b) : a.grownBy b (some tb) := ⟨h.os, h.tape, h.output, h.size, fun i hi _ => h.block i hi⟩
theorem turn_alloc {a b : World} {tb : Nat} (h : a.grownBy b (some tb)) (o : Obj) : a.grownBy (b.alloc o) (some tb) := turn_trans h (turn_below (below_new _ _))
theorem turn_drewN {a b : World} {tb : Nat} (h : a.grownBy b (some tb)) (n : Nat) : a.grownBy (b.drewN n) (some tb) := ⟨h.os, h.tape, h.output, h.size, h.block⟩
theorem turn_set {a b : World} {tb : Nat} (h : a.grownBy b (some tb)) {p : Addr} (hp : p.block = tb ∨ a.heap.size ≤ p.block) (u : Value) : a.grownBy (b.setCell p u) (some tb) :=
  ⟨h.os, h.tape, h.output, by simpa [World.setCell] using h.size, fun i hi hne => (Below.heap_setCell b p u i (by
    rintro rfl
    rcases hp with hp | hp
    · exact hne (by rw [hp])
    · omega)).trans (h.block i hi hne)⟩
theorem turn_cell {a b : World} {tb : Nat} (h : a.grownBy b (some tb)) : (∀ q o, q < a.heap.size → q ≠ tb → b.cell? ⟨q, o, none⟩ = a.cell? ⟨q, o, none⟩) ∧ (∀ q o, q < a.heap.size → q ≠ tb → b.frozen? ⟨q, o, none⟩ = a.frozen? ⟨q, o, none⟩) :=
  ⟨fun q o hq hne => World.cell?_of_block (h.block q hq (by simpa using hne)), fun q o hq hne => World.frozen?_of_block (h.block q hq (by simpa using hne))⟩
/-- Ints that lie elsewhere than in the tape's block are kept. -/
theorem IntsAt.turn {w w' : World} {tb : Nat} {A : Option Addr} {hs : List Int} (h : IntsAt w A hs) (hg : w.grownBy w' (some tb)) (hne : ∀ b o, A = some ⟨b, o, none⟩ → b ≠ tb) : IntsAt w' A hs := by
  rcases h with h | ⟨b, off, hA, hlt, hc⟩
  · exact .inl h
  · exact .inr ⟨b, off, hA, Nat.lt_of_lt_of_le hlt hg.size, fun j hj => ((turn_cell hg).1 b (off + j) hlt (hne b off hA)).trans (hc j hj)⟩
theorem below_turn {B : Nat} {a b : World} {tb : Nat} (hg : a.grownBy b (some tb)) (hB : B ≤ a.heap.size) (ht : B ≤ tb) : Below B a b :=
  ⟨hg.os, hg.tape, hg.output, hg.size, fun i hi => hg.block i (by omega) (by simp; omega)⟩
end Go.Proofs.Ytakckjccdknjaaa
