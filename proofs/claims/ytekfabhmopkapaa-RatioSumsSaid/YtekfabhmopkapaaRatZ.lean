/- The functions of one ratio, and comparing ratios, in rational numbers. -/
import Derived.Test.YtekfabhmopkapaaRatY
import Derived.Test.YtekfabhmopkapaaRatF
namespace Go.Proofs.Ytekfabhmopkapaa
set_option maxRecDepth 8000
open Go.RowKit
theorem floor_q (x : Rat) (n : Int) (hx : Rt.Fit x) (hn : Hid (n = x.floor)) (w : World) :
    Calls Try.prog 39 #[.agg (Rt.qA x)] w fun r w' => r = .returned (.tuple #[.agg (Bg.zA n), .int .i64 0]) ∧ Below w.heap.size w w' := by
  rw [qA_rZ, rZ_ratA]
  exact Floor_g _ _ _ _ n 0 (Lib.hid (by rw [Bg.toZ_iv, Bg.toZ_iv, show Rt.ok _ _ _ _ = true from hx.okz, hn.out, Rat.floor_def]; rfl)) hx.ln hx.ld w
theorem rfloor_q (x : Rat) (n : Int) (hx : Rt.Fit x) (hn : Hid (n = x.floor)) (w : World) :
    Calls Try.prog 47 #[.agg (Rt.qA x)] w fun r w' => r = .returned (.tuple #[.agg (Bg.zA n), .int .i64 0]) ∧ Below w.heap.size w w' := by
  rw [qA_rZ, rZ_ratA]
  exact rFloor_g _ _ _ _ n 0 (Lib.hid (by rw [Bg.toZ_iv, Bg.toZ_iv, show Rt.ok _ _ _ _ = true from hx.okz, hn.out, Rat.floor_def]; rfl)) hx.ln hx.ld w
theorem sign_q (x : Rat) (n : Int) (hx : Rt.Fit x) (hn : Hid (n = x.num.sign)) (w : World) :
    Calls Try.prog 45 #[.agg (Rt.qA x)] w fun r w' => r = .returned (.tuple #[.int .i64 n, .int .i64 0]) ∧ Below w.heap.size w w' := by
  rw [qA_rZ, rZ_ratA]
  exact Sign_g _ _ _ _ n 0 (Lib.hid (by rw [Bg.toZ_iv, show Rt.ok _ _ _ _ = true from hx.okz, hn.out]; rfl)) hx.ln hx.ld w
theorem rsign_q (x : Rat) (n : Int) (hx : Rt.Fit x) (hn : Hid (n = x.num.sign)) (w : World) :
    Calls Try.prog 46 #[.agg (Rt.qA x)] w fun r w' => r = .returned (.tuple #[.int .i64 n, .int .i64 0]) ∧ Below w.heap.size w w' := by
  rw [qA_rZ, rZ_ratA]
  exact rSign_g _ _ _ _ n 0 (Lib.hid (by rw [Bg.toZ_iv, show Rt.ok _ _ _ _ = true from hx.okz, hn.out]; rfl)) hx.ln hx.ld w
theorem neg_q (x y : Rat) (hx : Rt.Fit x) (hy : Hid (y = -x)) (w : World) :
    Calls Try.prog 41 #[.agg (Rt.qA x)] w fun r w' => r = .returned (.tuple #[.agg (Rt.qA y), .int .i64 0]) ∧ Below w.heap.size w w' := by
  rw [qA_rZ, rZ_ratA, qA_rZ, hy.out, Rat.neg_num, Rat.neg_den]
  exact Neg_g _ _ _ _ _ _ 0 (Lib.hid (by rw [Bg.toZ_iv, Bg.toZ_iv, show Rt.ok _ _ _ _ = true from hx.okz]; rfl)) hx.ln hx.ld w
theorem rneg_q (x y : Rat) (hx : Rt.Fit x) (hy : Hid (y = -x)) (w : World) :
    Calls Try.prog 42 #[.agg (Rt.qA x)] w fun r w' => r = .returned (.tuple #[.agg (Rt.qA y), .int .i64 0]) ∧ Below w.heap.size w w' := by
  rw [qA_rZ, rZ_ratA, qA_rZ, hy.out, Rat.neg_num, Rat.neg_den]
  exact rNeg_g _ _ _ _ _ _ 0 (Lib.hid (by rw [Bg.toZ_iv, Bg.toZ_iv, show Rt.ok _ _ _ _ = true from hx.okz]; rfl)) hx.ln hx.ld w
/-- The magnitude of a rational number. -/
def Rt.abs (x : Rat) : Rat := ⟨x.num.natAbs, x.den, x.den_nz, by simpa using x.reduced⟩
theorem Rt.Fit.abs {x : Rat} (h : Rt.Fit x) : Rt.Fit (Rt.abs x) := ⟨by simpa [Rt.abs] using h.1, h.2⟩
theorem Rt.Fit.neg {x : Rat} (h : Rt.Fit x) : Rt.Fit (-x) := ⟨by rw [Rat.neg_num, Int.natAbs_neg]; exact h.1, h.2⟩
theorem abs_q (x y : Rat) (hx : Rt.Fit x) (hy : Hid (y = Rt.abs x)) (w : World) :
    Calls Try.prog 43 #[.agg (Rt.qA x)] w fun r w' => r = .returned (.tuple #[.agg (Rt.qA y), .int .i64 0]) ∧ Below w.heap.size w w' := by
  rw [qA_rZ, rZ_ratA, qA_rZ, hy.out]
  exact Abs_g _ _ _ _ _ _ 0 (Lib.hid (by rw [Bg.toZ_iv, show Rt.ok _ _ _ _ = true from hx.okz]; rfl)) hx.ln hx.ld w
theorem rabs_q (x y : Rat) (hx : Rt.Fit x) (hy : Hid (y = Rt.abs x)) (w : World) :
    Calls Try.prog 44 #[.agg (Rt.qA x)] w fun r w' => r = .returned (.tuple #[.agg (Rt.qA y), .int .i64 0]) ∧ Below w.heap.size w w' := by
  rw [qA_rZ, rZ_ratA, qA_rZ, hy.out]
  exact rAbs_g _ _ _ _ _ _ 0 (Lib.hid (by rw [Bg.toZ_iv, show Rt.ok _ _ _ _ = true from hx.okz]; rfl)) hx.ln hx.ld w
theorem valid_q (x : Rat) (hx : Rt.Fit x) (w : World) :
    Calls Try.prog 15 #[.agg (Rt.qA x)] w fun r w' => r = .returned (.bool true) ∧ Below w.heap.size w w' := by
  rw [qA_rZ]; exact valid_z _ _ true hx.ln hx.ld (Lib.hid hx.okz.symm) w
theorem rvalid_q (x : Rat) (hx : Rt.Fit x) (w : World) :
    Calls Try.prog 38 #[.agg (Rt.qA x)] w fun r w' => r = .returned (.bool true) ∧ Below w.heap.size w w' := by
  rw [qA_rZ]; exact rvalid_z _ _ true hx.ln hx.ld (Lib.hid hx.okz.symm) w
theorem make_q (p q : Int) (x : Rat) (h0 : q ≠ 0) (hp : p.natAbs < Bg.p2 480) (hq : q.natAbs < Bg.p2 480) (hx : Hid (x = Rat.divInt p q)) (w : World) :
    Calls Try.prog 11 #[.agg (Bg.zA p), .agg (Bg.zA q)] w fun r w' => r = .returned (.tuple #[.agg (Rt.qA x), .int .i64 0]) ∧ Below w.heap.size w w' := by
  rw [qA_rZ]
  exact make_z p q _ _ 0 (lt480_lim hp) (lt480_lim hq) (Rt.mk_q h0 hp hq hx.out) w
theorem Rt.int_divInt (n : Int) : (n : Rat) = Rat.divInt n 1 := by
  apply Rat.ext
  · rw [Rat.num_intCast, Rat.num_divInt]; simp
  · rw [Rat.den_intCast, Rat.den_divInt]; simp
theorem whole_q (n : Int) (x : Rat) (hn1 : -9223372036854775808 ≤ n) (hn2 : n < 9223372036854775808) (hx : Hid (x = (n : Rat))) (w : World) :
    Calls Try.prog 17 #[.int .i64 n] w fun r w' => r = .returned (.agg (Rt.qA x)) ∧ Below w.heap.size w w' := by
  rw [hx.out, qA_rZ, Rat.num_intCast, Rat.den_intCast]
  exact whole_w n hn1 hn2 w
theorem rwhole_q (n : Int) (x : Rat) (hn1 : -9223372036854775808 ≤ n) (hn2 : n < 9223372036854775808) (hx : Hid (x = (n : Rat))) (w : World) :
    Calls Try.prog 18 #[.int .i64 n] w fun r w' => r = .returned (.agg (Rt.qA x)) ∧ Below w.heap.size w w' := by
  rw [hx.out, qA_rZ, Rat.num_intCast, Rat.den_intCast]
  exact rwhole_w n hn1 hn2 w
section
variable {ops : Array Oper} {rest : List Oper} {a a2 : Act} {w : World} {Q : Exit → Act → World → Prop} {d : Option Tmp} {ty T t : TypeId} {ps : String} {af : Array Edge} {g : Option (Nat × Bool)} {x y : Operand} {v : Value} {xs : Array (Nat × Operand)} {bop : BinOp}
theorem Rt.dec_eq (x y : Rat) : decide (x.num = y.num ∧ (x.den : Int) = y.den) = decide (x = y) := decide_eq_decide.2 Rt.qA_eq
theorem a_cmpq (op : BinOp) (x1 y1 : Rat) (v : Bool) (he : op = .eql ∨ op = .neq) (hv : v = if op = .eql then decide (x1 = y1) else !decide (x1 = y1)) (h1 : Rt.Fit x1) (h2 : Rt.Fit y1) (h : wpList Try.prog ops Q rest a2 w) (hw : WantT ops { dst := d, op := .binOp op 27 x y t, type := ty, pos := ps, after := af, guard := g } a := by first | exact Or.inl rfl | exact Or.inr ⟨_, _, _, rfl, rfl, rfl⟩) (hx : a.eval x = .agg (Rt.qA x1) := by (conv => lhs; whnf) <;> rfl) (hy : a.eval y = .agg (Rt.qA y1) := by (conv => lhs; whnf) <;> rfl) (ha : a.put d (.bool v) = a2 := by ((try simp only [Act.put, List.setIfInBounds_toArray, List.set_cons_succ, List.set_cons_zero]) <;> rfl)) : OpG ops Q rest a w { dst := d, op := .binOp op 27 x y t, type := ty, pos := ps, after := af, guard := g } := by
  rw [qA_rZ] at hx hy
  exact m_cmpr op _ _ _ _ v he (by rw [hv, Rt.dec_eq]) h1.ln h1.ld h2.ln h2.ld hw hx hy (ha ▸ h)
theorem y_cmpq (op : BinOp) (x1 y1 : Rat) (v : Bool) (he : op = .eql ∨ op = .neq) (hv : v = if op = .eql then decide (x1 = y1) else !decide (x1 = y1)) (h1 : Rt.Fit x1) (h2 : Rt.Fit y1) {S : World → Prop} {o : Oper} (hw : Region.wanted o (yielded ops a.tmps) = true := by rfl) (ho : o.op = .binOp op 27 x y t := by rfl) (hx : a.eval x = .agg (Rt.qA x1) := by (conv => lhs; whnf) <;> rfl) (hy : a.eval y = .agg (Rt.qA y1) := by (conv => lhs; whnf) <;> rfl) :
    YieldsIf Try.prog ops S o (.bool v) a := by
  rw [qA_rZ] at hx hy
  exact y_cmpr op _ _ _ _ v he (by rw [hv, Rt.dec_eq]) h1.ln h1.ld h2.ln h2.ld hw ho hx hy
end
end Go.Proofs.Ytekfabhmopkapaa
