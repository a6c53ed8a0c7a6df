/- Walks. -/
import Derived.Test.YtkiempioeffhbaaGreatDoorPt09
import Derived.Test.YtkiempioeffhbaaGreatDoorPt13
namespace Go.Proofs.YtkiempioeffhbaaGreatDoor
set_option maxHeartbeats 16000000
open Go.RowKit
set_option maxRecDepth 8000
section
theorem h_bg1 {o : Oper} {a : Act} {T : TypeId} {r : Array Value} {i0 : Nat} {x0 : Operand} {v0 : Value} (ho : o.op = .build T #[(i0, x0)]) (h0 : a.eval x0 = v0) (hb : ∀ w, (Instr.build T #[(i0, v0)]).run Tryz.prog w = .ok (.agg r) w) : ∀ w, (execOp a.eval o).run Tryz.prog w = .ok (.value (.agg r)) w := fun w => by
 have hb := hb w
 unfold execOp
 simp [ho, h0, hb, Result.andThen]
theorem h_bg2 {o : Oper} {a : Act} {T : TypeId} {r : Array Value} {i0 i1 : Nat} {x0 x1 : Operand} {v0 v1 : Value} (ho : o.op = .build T #[(i0, x0), (i1, x1)]) (h0 : a.eval x0 = v0) (h1 : a.eval x1 = v1) (hb : ∀ w, (Instr.build T #[(i0, v0), (i1, v1)]).run Tryz.prog w = .ok (.agg r) w) : ∀ w, (execOp a.eval o).run Tryz.prog w = .ok (.value (.agg r)) w := fun w => by
 have hb := hb w
 unfold execOp
 simp [ho, h0, h1, hb, Result.andThen]
theorem h_bg3 {o : Oper} {a : Act} {T : TypeId} {r : Array Value} {i0 i1 i2 : Nat} {x0 x1 x2 : Operand} {v0 v1 v2 : Value} (ho : o.op = .build T #[(i0, x0), (i1, x1), (i2, x2)]) (h0 : a.eval x0 = v0) (h1 : a.eval x1 = v1) (h2 : a.eval x2 = v2) (hb : ∀ w, (Instr.build T #[(i0, v0), (i1, v1), (i2, v2)]).run Tryz.prog w = .ok (.agg r) w) : ∀ w, (execOp a.eval o).run Tryz.prog w = .ok (.value (.agg r)) w := fun w => by
 have hb := hb w
 unfold execOp
 simp [ho, h0, h1, h2, hb, Result.andThen]
theorem h_bg4 {o : Oper} {a : Act} {T : TypeId} {r : Array Value} {i0 i1 i2 i3 : Nat} {x0 x1 x2 x3 : Operand} {v0 v1 v2 v3 : Value} (ho : o.op = .build T #[(i0, x0), (i1, x1), (i2, x2), (i3, x3)]) (h0 : a.eval x0 = v0) (h1 : a.eval x1 = v1) (h2 : a.eval x2 = v2) (h3 : a.eval x3 = v3) (hb : ∀ w, (Instr.build T #[(i0, v0), (i1, v1), (i2, v2), (i3, v3)]).run Tryz.prog w = .ok (.agg r) w) : ∀ w, (execOp a.eval o).run Tryz.prog w = .ok (.value (.agg r)) w := fun w => by
 have hb := hb w
 unfold execOp
 simp [ho, h0, h1, h2, h3, hb, Result.andThen]
theorem h_bg5 {o : Oper} {a : Act} {T : TypeId} {r : Array Value} {i0 i1 i2 i3 i4 : Nat} {x0 x1 x2 x3 x4 : Operand} {v0 v1 v2 v3 v4 : Value} (ho : o.op = .build T #[(i0, x0), (i1, x1), (i2, x2), (i3, x3), (i4, x4)]) (h0 : a.eval x0 = v0) (h1 : a.eval x1 = v1) (h2 : a.eval x2 = v2) (h3 : a.eval x3 = v3) (h4 : a.eval x4 = v4) (hb : ∀ w, (Instr.build T #[(i0, v0), (i1, v1), (i2, v2), (i3, v3), (i4, v4)]).run Tryz.prog w = .ok (.agg r) w) : ∀ w, (execOp a.eval o).run Tryz.prog w = .ok (.value (.agg r)) w := fun w => by
 have hb := hb w
 unfold execOp
 simp [ho, h0, h1, h2, h3, h4, hb, Result.andThen]
section
variable {ops : Array Oper} {rest : List Oper} {a a2 : Act} {w : World} {Q : Exit → Act → World → Prop} {d : Option Tmp} {ty t T : TypeId} {ps : String} {af : Array Edge} {g : Option (Nat × Bool)} {x y : Operand}
theorem a_seqb {xs ys : Array Value} {b : Bool} (hE : EqT 10000 T (.agg xs) (.agg ys) b) (hm : Tryz.prog.eqGuardType Tryz.prog.depth T = false) (h : wpList Tryz.prog ops Q rest a2 w)
    (hw : WantT ops { dst := d, op := .binOp .eql T x y t, type := ty, pos := ps, after := af, guard := g } a := by first | exact Or.inl rfl | exact Or.inr ⟨_, _, _, rfl, rfl, rfl⟩) (hx : a.eval x = .agg xs := by (conv => lhs; whnf) <;> rfl) (hy : a.eval y = .agg ys := by (conv => lhs; whnf) <;> rfl) (ha : a.put d (.bool b) = a2 := by ((try simp only [Act.put, Za, Zx, Zy]) <;> rfl)) : OpG ops Q rest a w { dst := d, op := .binOp .eql T x y t, type := ty, pos := ps, after := af, guard := g } :=
 a_cmps .eql b (.inl rfl) hE rfl hm h hw hx hy ha
inductive OffV : Value → Bool → Prop
 | t : OffV (.bool true) false
 | f : OffV (.bool false) true
 | u (w : Bool) : OffV undef w
@[irreducible] def OffG (ops : Array Oper) (Q : Exit → Act → World → Prop) (rest : List Oper) (a : Act) (w : World) (o : Oper) : Prop := OpG ops Q rest a w o
theorem g_offw {op : Op} {j : Nat} {want : Bool} (h : OffG ops Q rest a w { dst := d, op := op, type := ty, pos := ps, after := af, guard := some (j, want) }) : wpList Tryz.prog ops Q ({ dst := d, op := op, type := ty, pos := ps, after := af, guard := some (j, want) } :: rest) a w := by
 unfold OffG at h; exact h
theorem a_offw {op : Op} {j : Nat} {d2 : Tmp} {want : Bool} {v : Value} (h : wpList Tryz.prog ops Q rest a2 w) (hj : (ops[j]?).bind (·.dst) = some d2 := by rfl) (hv : a.tmps[d2]? = some v := by rfl) (hn : OffV v want := by first | exact OffV.t | exact OffV.f | exact OffV.u _) (ha : a.put d undef = a2 := by ((try simp only [Act.put, Za, Zx, Zy]) <;> rfl)) : OffG ops Q rest a w { dst := d, op := op, type := ty, pos := ps, after := af, guard := some (j, want) } := by
 unfold OffG
 refine wpList_step fun K hK => ?_
 have hn : Region.wanted { dst := d, op := op, type := ty, pos := ps, after := af, guard := some (j, want) } (yielded ops a.tmps) = false := by
  cases hn <;> simp [Region.wanted, yielded, hj, hv, undef]
 rw [hn]
 simp only [Bool.false_eq_true, if_false]
 exact hK _ _ (ha ▸ h)
end
end
end Go.Proofs.YtkiempioeffhbaaGreatDoor
