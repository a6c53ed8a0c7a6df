/- Walks, and plain facts for them. -/
import Derived.Test.YtmbjaaaeekacfaaGreatDoorPb31
namespace Go.Proofs.YtmbjaaaeekacfaaGreatDoor
set_option maxRecDepth 8000
open Go.RowKit
section
variable {Q : Exit → Act → World → Prop} {w w0 : World} {X : List Nat} {L : List (Nat × Array Value)} {oi : Oper} {d : Tmp} {a : Act} {R : Act → World → Prop}
theorem acj_bs4 {t e : TypeId} {by_ : Nat} {x0 x1 x2 x3 : Operand} {v0 v1 v2 v3 : Int} {a2 : Nat → Act} (HM : Mem w0 X L w) (h : ∀ b w', Mem w0 X ((b, rowsOf ([v0, v1, v2, v3].map acic)) :: L) w' → R (a2 b) w') (hd : oi.dst = some d := by rfl) (ho : oi.op = .buildSlice t 4 #[(0, x0), (1, x1), (2, x2), (3, x3)] := by rfl) (hT : elemB t e 1 by_ = true := by with_reducible assumption) (h0 : a.eval x0 = .int .i64 v0 := by (conv => lhs; whnf) <;> rfl) (h1 : a.eval x1 = .int .i64 v1 := by (conv => lhs; whnf) <;> rfl) (h2 : a.eval x2 = .int .i64 v2 := by (conv => lhs; whnf) <;> rfl) (h3 : a.eval x3 = .int .i64 v3 := by (conv => lhs; whnf) <;> rfl) (ha : ∀ b, ({ a with tmps := a.tmps.setIfInBounds d (.slice (some ⟨b, 0, none⟩) 4 4) } : Act) = a2 b := by intro b; ((try simp only [List.setIfInBounds_toArray, List.set_cons_succ, List.set_cons_zero]) <;> rfl)) : Oper.wp Tryz.prog oi a w R Q := by
 obtain ⟨i, z, hE⟩ := elemT hT
 have hr := run_bs hE [.int .i64 v0, .int .i64 v1, .int .i64 v2, .int .i64 v3] (by simp [Value.cells]) (by simp) (parts := #[(0, .int .i64 v0), (1, .int .i64 v1), (2, .int .i64 v2), (3, .int .i64 v3)]) rfl w
 unfold Oper.wp execOp
 simp [ho, h0, h1, h2, h3] at hr ⊢
 simp only [hr, Result.andThen]
 rw [Oper.upon_value, hd]
 have h9 := h _ _ (HM.new (rowsOf ([v0, v1, v2, v3].map acic)) e)
 rw [← ha] at h9
 exact h9
end
end Go.Proofs.YtmbjaaaeekacfaaGreatDoor
