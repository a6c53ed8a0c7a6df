/- Words for memory: a slice that reads as a list of ints. -/
import Derived.Test.YtbkbfgedlfbbiaaBase
namespace Go.Proofs.Ytbkbfgedlfbbiaa
open Go.RowKit
def IntsAt (w : World) (A : Option Addr) (hs : List Int) : Prop := hs = [] ∨ ∃ b off, A = some ⟨b, off, none⟩ ∧ b < w.heap.size ∧ ∀ j, j < hs.length → w.cell? ⟨b, off + j, none⟩ = some (.int .i64 (hs.getD j 0))
theorem IntsAt.below {w w' : World} {A : Option Addr} {hs : List Int} (h : IntsAt w A hs) (hb : Below w.heap.size w w') : IntsAt w' A hs := by
  rcases h with h | ⟨b, off, hA, hlt, hc⟩
  · exact .inl h
  · exact .inr ⟨b, off, hA, Nat.lt_of_lt_of_le hlt hb.size, fun j hj => (hb.cell (p := ⟨b, off + j, none⟩) hlt).trans (hc j hj)⟩
theorem IntsAt.alloc {w : World} {A : Option Addr} {hs : List Int} (h : IntsAt w A hs) (o : Obj) : IntsAt (w.alloc o) A hs := h.below ((Below.refl _ _).alloc (Nat.le_refl _) _)
theorem IntsAt.at_ {w : World} {A : Option Addr} {hs : List Int} (h : IntsAt w A hs) {j : Nat} (hj : j < hs.length) : ∃ b off, A = some ⟨b, off, none⟩ ∧ b < w.heap.size ∧ ∀ j, j < hs.length → w.cell? ⟨b, off + j, none⟩ = some (.int .i64 (hs.getD j 0)) := by
  rcases h with h | h
  · subst h; simp at hj
  · exact h
theorem IntsAt.nil (w : World) (A : Option Addr) : IntsAt w A [] := .inl rfl
theorem bup {B B' : Nat} {a b c : World} (h : Below B a b) (k : Below B' b c) (hB : B ≤ B') : Below B a c := h.trans (k.mono hB)
theorem bcell {W w1 : World} (hb : Below W.heap.size W w1) : (∀ b o, b < W.heap.size → w1.cell? ⟨b, o, none⟩ = W.cell? ⟨b, o, none⟩) ∧ (∀ b o, b < W.heap.size → w1.frozen? ⟨b, o, none⟩ = W.frozen? ⟨b, o, none⟩) :=
  ⟨fun b o h => hb.cell (p := ⟨b, o, none⟩) h, fun b o h => hb.frozen (p := ⟨b, o, none⟩) h⟩
theorem bcellB {B : Nat} {W w1 : World} (hb : Below B W w1) : (∀ b o, b < B → w1.cell? ⟨b, o, none⟩ = W.cell? ⟨b, o, none⟩) ∧ (∀ b o, b < B → w1.frozen? ⟨b, o, none⟩ = W.frozen? ⟨b, o, none⟩) :=
  ⟨fun b o h => hb.cell (p := ⟨b, o, none⟩) h, fun b o h => hb.frozen (p := ⟨b, o, none⟩) h⟩
/-- Only draws and new blocks: what the call itself leaves of the world when it makes one block. -/
theorem below_new (w : World) (o : Obj) : Below w.heap.size w (w.alloc o) := (Below.refl _ _).alloc (Nat.le_refl _) _
/-- For regions that draw their order and hold calls: what is kept of one block and of all below it. -/
theorem sw_mk {W0 y : World} {b : Nat} (hb : b < W0.heap.size) (g : Below W0.heap.size W0 y) : (∀ o, y.cell? ⟨b, o, none⟩ = W0.cell? ⟨b, o, none⟩) ∧ Below W0.heap.size W0 y :=
  ⟨fun o => g.cell (p := ⟨b, o, none⟩) hb, g⟩
theorem sw_keep {W0 x y : World} {b : Nat} (hb : b < W0.heap.size) (g : Below x.heap.size x y) (h : Below W0.heap.size W0 x) : (∀ o, y.cell? ⟨b, o, none⟩ = W0.cell? ⟨b, o, none⟩) ∧ Below W0.heap.size W0 y :=
  sw_mk hb (h.trans (g.mono h.size))
end Go.Proofs.Ytbkbfgedlfbbiaa
