/- Walks, and plain facts for them. -/
import Derived.Laws.MakeOwn
import Derived.Test.YtckhdiljihhdmaaGreatPb05
namespace Go.Proofs.YtckhdiljihhdmaaGreat
set_option maxRecDepth 8000
open Go.RowKit
theorem madeCells_rows (z : Array Value) (n : Nat) : madeCells z (n * z.size) = rowsOf (List.replicate n z) := by
 rw [← zeroCells_rows]; unfold Builtin.zeroCells madeCells; rfl
theorem run_mks {t e : TypeId} {n by_ : Nat} {c : Array Value} (hT : elemB t e n by_ = true) (hZ : ZA e c) (k : Nat) (hn : k ≤ 1000000) (hb : by_ ≤ 100000) (w : World) :
    (Instr.makeSlice t (.int .i64 (k : Nat)) (.int .i64 (k : Nat))).run Tryz.prog w = .ok (.slice (some ⟨w.heap.size, 0, none⟩) k k) (w.alloc (.cells (rowsOf (List.replicate k c)) e)) := by
 obtain ⟨i, z, hE⟩ := elemT hT
 obtain ⟨z', hc, hz'⟩ := hZ
 have hzz : z' = z := by
  have h1 := hz' w
  simp [zeroValue, typeInfo, hE.hi, hE.hz] at h1
  exact h1.symm
 subst hzz
 have hb2 : i.bytes * k ≤ 100000 * 1000000 := Nat.mul_le_mul (by rw [hE.hb]; exact hb) hn
 have h := run_make w t e i z' hE.ht hE.hi hE.hz .i64 .i64 (k : Nat) (k : Nat) (by omega) (by omega) (by omega) (by omega)
 rw [h]
 simp only [Int.toNat_natCast]
 rw [hE.hn, ← hE.hzn, madeCells_rows, hc]
section
variable {ops : Array Oper} {rest : List Oper} {a : Act} {w w0 : World} {X : List Nat} {L : List (Nat × Array Value)} {Q : Exit → Act → World → Prop} {d : Option Tmp} {ty t e : TypeId} {n by_ : Nat} {ps : String} {af : Array Edge} {g : Option (Nat × Bool)} {x y : Operand}
theorem g_mks (h : OpG ops Q rest a w { dst := d, op := .makeSlice t x y, type := ty, pos := ps, after := af, guard := g }) : wpList Tryz.prog ops Q ({ dst := d, op := .makeSlice t x y, type := ty, pos := ps, after := af, guard := g } :: rest) a w := h
theorem a_mks {a2 : Nat → Act} {c : Array Value} (k : Nat) (HM : Mem w0 X L w) (h : ∀ b w', Mem w0 X ((b, rowsOf (List.replicate k c)) :: L) w' → wpList Tryz.prog ops Q rest (a2 b) w') (hk : k ≤ 1000000) (hT : elemB t e n by_ = true := by with_reducible assumption) (hZ : ZA e c := by with_reducible assumption) (hw : WantT ops { dst := d, op := .makeSlice t x y, type := ty, pos := ps, after := af, guard := g } a := by first | exact Or.inl rfl | exact Or.inr ⟨_, _, _, rfl, rfl, rfl⟩) (hx : a.eval x = .int .i64 (k : Nat) := by (conv => lhs; whnf) <;> rfl) (hy : a.eval y = .int .i64 (k : Nat) := by (conv => lhs; whnf) <;> rfl) (hb : by_ ≤ 100000 := by decide) (ha : ∀ b, a.put d (.slice (some ⟨b, 0, none⟩) k k) = a2 b := by intro b; ((try simp only [Act.put, List.setIfInBounds_toArray, List.set_cons_succ, List.set_cons_zero]) <;> rfl)) : OpG ops Q rest a w { dst := d, op := .makeSlice t x y, type := ty, pos := ps, after := af, guard := g } := by
 refine wpList_step fun K9 hK => ?_
 rw [if_pos hw.wanted]
 have hr := run_mks hT hZ k hk hb w
 unfold Oper.wp
 simp [execOp, hx, hy, hr, Result.andThen]
 refine hK _ _ (ha _ ▸ h _ _ ?_)
 exact HM.new _ e
end
end Go.Proofs.YtckhdiljihhdmaaGreat
