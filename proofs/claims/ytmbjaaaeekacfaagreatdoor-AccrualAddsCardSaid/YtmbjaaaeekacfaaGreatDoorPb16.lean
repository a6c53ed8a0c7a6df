/- Walks, and plain facts for them. -/
import Derived.Test.YtmbjaaaeekacfaaGreatDoorPb14
import Derived.Test.YtmbjaaaeekacfaaGreatDoorPb15
namespace Go.Proofs.YtmbjaaaeekacfaaGreatDoor
set_option maxRecDepth 8000
open Go.RowKit
@[irreducible] def Ex.nA (c : Array Value) (e : Int) : Array Value := rowsOf [c, #[.int .i64 e]]
section
variable {o : Oper} {a : Act} {T : TypeId} {r : Array Value}
theorem h_fld {i : Nat} {x : Operand} {c : Array Value} {v : Value} {t : TypeId} {k : Nat} (ho : o.op = .field T x i) (hx : a.eval x = .agg c) (hu : Tryz.prog.underlying T = some (.struct (Tryz.prog.fieldsOf T))) (hf : ((Tryz.prog.fieldsOf T)[i]?).map (fun f => (f.type, f.offset)) = some (t, k)) (hv : FA t c k v) : ∀ w, (execOp a.eval o).run Tryz.prog w = .ok (.value v) w := fun w => by
 cases hg : (Tryz.prog.fieldsOf T)[i]? with
 | none => rw [hg] at hf; cases hf
 | some f =>
  rw [hg] at hf
  have h1 : f.type = t ∧ f.offset = k := by simpa using hf
  have h2 := hv.pt w
  rw [← h1.1, ← h1.2] at h2
  unfold execOp
  simp [ho, hx, Instr.field, run_underlying hu, hg, asAgg, h2]
end
inductive Ex
 | ok (x : Rat)
 | er (e : Int)
def Ex.cv : Ex → Array Value
 | .ok x => Rt.qA x
 | .er _ => Bg.rZ 0 0
def Ex.ce : Ex → Int
 | .ok _ => 0
 | .er e => e
abbrev Ex.A (n : Ex) : Array Value := Ex.nA n.cv n.ce
def Ex.Fit : Ex → Prop
 | .ok x => Rt.Fit x
 | .er e => e ≠ 0
noncomputable def Ex.mk (z : Rat) : Ex := open Classical in if Rt.Fit z then .ok z else .er 10
def Ex.op (f : Rat → Rat → Ex) : Ex → Ex → Ex
 | .er e, _ => .er e
 | .ok _, .er e => .er e
 | .ok x, .ok y => f x y
noncomputable def Ex.add : Ex → Ex → Ex := Ex.op fun x y => Ex.mk (x + y)
noncomputable def Ex.sub : Ex → Ex → Ex := Ex.op fun x y => Ex.mk (x - y)
noncomputable def Ex.mul : Ex → Ex → Ex := Ex.op fun x y => Ex.mk (x * y)
theorem sa_r66 {c d : Array Value} (h : d.size = 66) (h1 : d.all (·.oneCell') = true) (hc : c.size = 66) : SA 27 c 0 (.agg d) d := SA.whole (by rw [h]; exact sT_rat) h1 (by rw [h, hc])
theorem rof_q (n d : Int) (x : Rat) (hn1 : -9223372036854775808 ≤ n) (hn2 : n < 9223372036854775808) (hd1 : -9223372036854775808 ≤ d) (hd2 : d < 9223372036854775808) (h0 : d ≠ 0) (hx : Hid (x = Rat.divInt n d)) (w : World) :
    Calls Tryz.prog 57 #[.int .i64 n, .int .i64 d] w fun r w' => r = .returned (.tuple #[.agg (Rt.qA x), .int .i64 0]) ∧ Below w.heap.size w w' := by
 rw [qA_rZ]
 exact rof_n n d x.num x.den 0 hn1 hn2 hd1 hd2 (Rt.mk_q h0 (small_480 (z := n) (by omega)) (small_480 (z := d) (by omega)) hx.out) w
end Go.Proofs.YtmbjaaaeekacfaaGreatDoor
