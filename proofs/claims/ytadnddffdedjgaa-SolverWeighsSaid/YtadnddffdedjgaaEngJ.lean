/- The engine, part J: RatX, RatY, RatZ, RatB. -/
import Derived.Test.YtadnddffdedjgaaEngI
namespace Go.Proofs.Ytadnddffdedjgaa
set_option maxRecDepth 8000
open Go.RowKit
/-- The parts are short enough. -/
def Rt.Fit (x : Rat) : Prop := x.num.natAbs < Bg.p2 480 ∧ x.den < Bg.p2 480
/-- The cells of a rational number. -/
@[irreducible] def Rt.qA (x : Rat) : Array Value := Bg.rZ x.num x.den
theorem qA_rZ (x : Rat) : Rt.qA x = Bg.rZ x.num x.den := by unfold Rt.qA; rfl
theorem qA_size (x : Rat) : (Rt.qA x).size = 66 := by rw [qA_rZ]; exact rZ_size _ _
theorem la_q (x : Rat) : LA 42 (Rt.qA x) 0 (.agg (Rt.qA x)) := by rw [qA_rZ]; exact la_rz _ _
theorem sa_q (x : Rat) {c : Array Value} (h : c.size = 66) : SA 42 c 0 (.agg (Rt.qA x)) (Rt.qA x) := by rw [qA_rZ]; exact sa_rz _ _ h
theorem lt480_lim {n : Nat} (h : n < Bg.p2 480) : n < Bg.lim := Nat.lt_of_lt_of_le h (by have := Bg.p2_mono (show 480 ≤ 1024 by decide); rwa [Bg.p2_lim] at this)
theorem Rt.Fit.ln {x : Rat} (h : Rt.Fit x) : x.num.natAbs < Bg.lim := lt480_lim h.1
theorem Rt.Fit.ld {x : Rat} (h : Rt.Fit x) : ((x.den : Nat) : Int).natAbs < Bg.lim := by rw [Int.natAbs_natCast]; exact lt480_lim h.2
theorem Rt.short_iff {M N : Nat} (hM : M < Bg.lim) (hN : N < Bg.lim) : Rt.short M N = true ↔ M < Bg.p2 480 ∧ N < Bg.p2 480 := by
  unfold Rt.short
  rw [Bool.and_eq_true, decide_eq_true_iff, decide_eq_true_iff]
  exact ⟨fun h => ⟨p2_480 hM h.1, p2_480 hN h.2⟩, fun h => ⟨Bg.bl_le (by omega) h.1, Bg.bl_le (by omega) h.2⟩⟩
theorem Rt.Fit.okz {x : Rat} (h : Rt.Fit x) : Rt.okz x.num x.den = true :=
  Rt.okz_of (by rw [Int.natAbs_natCast]; exact (Rt.short_iff h.ln (lt480_lim h.2)).2 h) (by have := x.den_pos; omega) (by rw [Int.natAbs_natCast]; exact x.reduced)
theorem Rt.sg_parts {p q : Int} (h0 : q ≠ 0) : p / Rt.sg p q = (Rat.divInt p q).num ∧ q / Rt.sg p q = (Rat.divInt p q).den := by
  rw [Rat.num_divInt, Rat.den_divInt, if_neg h0]
  have hg : (q.gcd p : Int) = (Nat.gcd p.natAbs q.natAbs : Nat) := by rw [Int.gcd, Nat.gcd_comm]
  have hg' : q.gcd p = Nat.gcd p.natAbs q.natAbs := by rw [Int.gcd, Nat.gcd_comm]
  have d1 : ((Nat.gcd p.natAbs q.natAbs : Nat) : Int) ∣ p := Int.ofNat_dvd_left.2 (Nat.gcd_dvd_left _ _)
  have d2 : ((Nat.gcd p.natAbs q.natAbs : Nat) : Int) ∣ q := Int.ofNat_dvd_left.2 (Nat.gcd_dvd_right _ _)
  rw [hg, hg']
  unfold Rt.sg
  rcases Int.lt_or_gt_of_ne h0 with hq | hq
  · rw [if_pos hq, Int.sign_eq_neg_one_of_neg hq, Int.ediv_neg, Int.ediv_neg]
    constructor
    · rw [← Int.neg_ediv_of_dvd d1]; congr 1; omega
    · rw [← Int.neg_ediv_of_dvd d2, Int.natCast_ediv]; congr 1; omega
  · rw [if_neg (by omega), Int.sign_eq_one_of_pos hq]
    constructor
    · congr 1; omega
    · rw [Int.natCast_ediv]; congr 1; omega
theorem Rt.divInt_le {p q : Int} (h0 : q ≠ 0) : (Rat.divInt p q).num.natAbs ≤ p.natAbs ∧ (Rat.divInt p q).den ≤ q.natAbs := by
  obtain ⟨h1, h2⟩ := Rt.sg_parts (p := p) h0
  constructor
  · rw [← h1]; exact Int.natAbs_ediv_le_natAbs _ _
  · have := Int.natAbs_ediv_le_natAbs q (Rt.sg p q)
    rw [h2] at this
    simpa using this
/-- What an operation returns for a rational number: the number and OK, or the error. -/
noncomputable def Rt.res (z : Rat) : Array Value × Int := open Classical in if Rt.Fit z then (Rt.qA z, 0) else (Bg.rZ 0 0, 10)
theorem Rt.res_fit {z : Rat} (h : Rt.Fit z) : (Rt.qA z, (0 : Int)) = Rt.res z := by unfold Rt.res; rw [if_pos h]
theorem Rt.mk_fit {p q n d e : Int} (h0 : q ≠ 0) {z : Rat} (hz : z = Rat.divInt p q) (hf : Rt.Fit z) (h : (n, d, e) = Rt.mk p q) : n = z.num ∧ d = z.den ∧ e = 0 := by
  obtain ⟨h1, h2⟩ := Rt.sg_parts (p := p) h0
  unfold Rt.mk at h
  rw [if_neg h0, h1, h2, ← hz, if_pos (by rw [Int.natAbs_natCast]; exact (Rt.short_iff hf.ln (lt480_lim hf.2)).2 hf)] at h
  simpa using h
theorem Rt.mk_res {p q n d e : Int} (hp : p.natAbs < Bg.lim) (hq : q.natAbs < Bg.lim) (h0 : q ≠ 0) (h : (n, d, e) = Rt.mk p q) : (Bg.rZ n d, e) = Rt.res (Rat.divInt p q) := by
  by_cases hf : Rt.Fit (Rat.divInt p q)
  · obtain ⟨rfl, rfl, rfl⟩ := Rt.mk_fit h0 rfl hf h
    rw [← Rt.res_fit hf, qA_rZ]
  · obtain ⟨h1, h2⟩ := Rt.sg_parts (p := p) h0
    obtain ⟨l1, l2⟩ := Rt.divInt_le (p := p) h0
    unfold Rt.mk at h
    rw [if_neg h0, h1, h2, if_neg (by rw [Int.natAbs_natCast, Rt.short_iff (by omega) (by omega)]; exact hf)] at h
    obtain ⟨rfl, rfl, rfl⟩ : n = 0 ∧ d = 0 ∧ e = 10 := by simpa using h
    unfold Rt.res
    rw [if_neg hf]
theorem Rt.add_div (x y : Rat) : x + y = Rat.divInt (Rt.num false x.num x.den y.num y.den) (x.den * y.den) := by
  have h1 : (x.den : Int) ≠ 0 := by have := x.den_pos; omega
  have h2 : (y.den : Int) ≠ 0 := by have := y.den_pos; omega
  conv => lhs; rw [← Rat.num_divInt_den x, ← Rat.num_divInt_den y]
  rw [Rat.divInt_add_divInt _ _ h1 h2]
  rfl
theorem Rt.sub_div (x y : Rat) : x - y = Rat.divInt (Rt.num true x.num x.den y.num y.den) (x.den * y.den) := by
  have h1 : (x.den : Int) ≠ 0 := by have := x.den_pos; omega
  have h2 : (y.den : Int) ≠ 0 := by have := y.den_pos; omega
  conv => lhs; rw [← Rat.num_divInt_den x, ← Rat.num_divInt_den y]
  rw [Rat.divInt_sub_divInt _ _ h1 h2]
  rfl
theorem Rt.mul_div (x y : Rat) : x * y = Rat.divInt (x.num * y.num) (x.den * y.den) := by
  conv => lhs; rw [← Rat.num_divInt_den x, ← Rat.num_divInt_den y]
  rw [Rat.divInt_mul_divInt]
theorem Rt.den_ne (x : Rat) : (x.den : Int) ≠ 0 := by have := x.den_pos; omega
theorem Rt.den2_ne (x y : Rat) : (x.den * y.den : Int) ≠ 0 := Int.mul_ne_zero (Rt.den_ne x) (Rt.den_ne y)
theorem Rt.Fit.b480 {x : Rat} (h : Rt.Fit x) : ((x.den : Nat) : Int).natAbs < Bg.p2 480 := by rw [Int.natAbs_natCast]; exact h.2
theorem Rt.fit_zero : Rt.Fit 0 := ⟨by simp [Bg.p2_pos], by have := Bg.p2_mono (show 1 ≤ 480 by decide); have h : Bg.p2 1 = 2 := (by unfold Bg.p2; rfl); show 1 < _; omega⟩
/-- The comparison of two rational numbers: -1, 0 or 1. -/
def Rt.cmp (x y : Rat) : Int := (x.num * y.den - y.num * x.den).sign
theorem Rt.cmp_lt {x y : Rat} : Rt.cmp x y = -1 ↔ x < y := by
  unfold Rt.cmp; rw [Int.sign_eq_neg_one_iff_neg, Rat.lt_iff]; omega
theorem Rt.cmp_gt {x y : Rat} : Rt.cmp x y = 1 ↔ y < x := by
  unfold Rt.cmp; rw [Int.sign_eq_one_iff_pos, Rat.lt_iff]; omega
theorem Rt.cmp_eq {x y : Rat} : Rt.cmp x y = 0 ↔ x = y := by
  unfold Rt.cmp
  rw [Int.sign_eq_zero_iff_zero]
  constructor
  · intro h
    have h1 : x.num * y.den = y.num * x.den := by omega
    conv => lhs; rw [← Rat.num_divInt_den x]
    conv => rhs; rw [← Rat.num_divInt_den y]
    rwa [Rat.divInt_eq_divInt_iff (Rt.den_ne x) (Rt.den_ne y)]
  · rintro rfl; omega
theorem Rt.qA_eq {x y : Rat} : (x.num = y.num ∧ (x.den : Int) = y.den) ↔ x = y := by
  constructor
  · rintro ⟨h1, h2⟩; exact Rat.ext h1 (by omega)
  · rintro rfl; exact ⟨rfl, rfl⟩
theorem radd_r (x y : Rat) (c : Array Value) (e : Int) (hx : Rt.Fit x) (hy : Rt.Fit y) (hr : Hid ((c, e) = Rt.res (x + y))) (w : World) :
    Calls Try.prog 41 #[.agg (Rt.qA x), .agg (Rt.qA y)] w fun r w' => r = .returned (.tuple #[.agg c, .int .i64 e]) ∧ Below w.heap.size w w' := by
  obtain ⟨n, d, e2, hm⟩ : ∃ n d e2 : Int, Hid ((n, d, e2) = Rt.mk (Rt.num false x.num x.den y.num y.den) ((x.den * y.den : Int))) := ⟨_, _, _, rfl⟩
  have hq := hr.out
  rw [Rt.add_div x y, ← Rt.mk_res (p := Rt.num false x.num x.den y.num y.den) (lim_961 (mul_480 hx.1 hy.b480) (mul_480 hy.1 hx.b480)) (lim_960 (mul_480 hx.b480 hy.b480)) (Rt.den2_ne x y) hm.out] at hq
  obtain ⟨rfl, rfl⟩ : c = Bg.rZ n d ∧ e = e2 := by simpa using hq
  rw [qA_rZ, qA_rZ, rZ_ratA x.num, rZ_ratA y.num]
  exact rAdd_g _ _ _ _ _ _ _ _ n d e hx.ln hx.ld hy.ln hy.ld (Lib.hid (by rw [Bg.toZ_iv, Bg.toZ_iv, Bg.toZ_iv, Bg.toZ_iv, show Rt.ok _ _ _ _ = true from hx.okz, show Rt.ok _ _ _ _ = true from hy.okz]; exact hm.out)) w
theorem sub_r (x y : Rat) (c : Array Value) (e : Int) (hx : Rt.Fit x) (hy : Rt.Fit y) (hr : Hid ((c, e) = Rt.res (x - y))) (w : World) :
    Calls Try.prog 50 #[.agg (Rt.qA x), .agg (Rt.qA y)] w fun r w' => r = .returned (.tuple #[.agg c, .int .i64 e]) ∧ Below w.heap.size w w' := by
  obtain ⟨n, d, e2, hm⟩ : ∃ n d e2 : Int, Hid ((n, d, e2) = Rt.mk (Rt.num true x.num x.den y.num y.den) ((x.den * y.den : Int))) := ⟨_, _, _, rfl⟩
  have hq := hr.out
  rw [Rt.sub_div x y, ← Rt.mk_res (p := Rt.num true x.num x.den y.num y.den) (lim_961 (mul_480 hx.1 hy.b480) (show (-(y.num * (x.den : Int))).natAbs < Bg.p2 960 by rw [Int.natAbs_neg]; exact mul_480 hy.1 hx.b480)) (lim_960 (mul_480 hx.b480 hy.b480)) (Rt.den2_ne x y) hm.out] at hq
  obtain ⟨rfl, rfl⟩ : c = Bg.rZ n d ∧ e = e2 := by simpa using hq
  rw [qA_rZ, qA_rZ, rZ_ratA x.num, rZ_ratA y.num]
  exact sub_g _ _ _ _ _ _ _ _ n d e hx.ln hx.ld hy.ln hy.ld (Lib.hid (by rw [Bg.toZ_iv, Bg.toZ_iv, Bg.toZ_iv, Bg.toZ_iv, show Rt.ok _ _ _ _ = true from hx.okz, show Rt.ok _ _ _ _ = true from hy.okz]; exact hm.out)) w
theorem sub_q (x y z : Rat) (hx : Rt.Fit x) (hy : Rt.Fit y) (hz : Hid (z = x - y)) (hf : Rt.Fit z) (w : World) :
    Calls Try.prog 50 #[.agg (Rt.qA x), .agg (Rt.qA y)] w fun r w' => r = .returned (.tuple #[.agg (Rt.qA z), .int .i64 0]) ∧ Below w.heap.size w w' :=
  sub_r x y _ _ hx hy (Lib.hid (hz.out ▸ Rt.res_fit hf)) w
theorem mul_r (x y : Rat) (c : Array Value) (e : Int) (hx : Rt.Fit x) (hy : Rt.Fit y) (hr : Hid ((c, e) = Rt.res (x * y))) (w : World) :
    Calls Try.prog 48 #[.agg (Rt.qA x), .agg (Rt.qA y)] w fun r w' => r = .returned (.tuple #[.agg c, .int .i64 e]) ∧ Below w.heap.size w w' := by
  obtain ⟨n, d, e2, hm⟩ : ∃ n d e2 : Int, Hid ((n, d, e2) = Rt.mk (x.num * y.num) ((x.den * y.den : Int))) := ⟨_, _, _, rfl⟩
  have hq := hr.out
  rw [Rt.mul_div x y, ← Rt.mk_res (lim_960 (mul_480 hx.1 hy.1)) (lim_960 (mul_480 hx.b480 hy.b480)) (Rt.den2_ne x y) hm.out] at hq
  obtain ⟨rfl, rfl⟩ : c = Bg.rZ n d ∧ e = e2 := by simpa using hq
  rw [qA_rZ, qA_rZ, rZ_ratA x.num, rZ_ratA y.num]
  exact mul_g _ _ _ _ _ _ _ _ n d e hx.ln hx.ld hy.ln hy.ld (Lib.hid (by rw [Bg.toZ_iv, Bg.toZ_iv, Bg.toZ_iv, Bg.toZ_iv, show Rt.ok _ _ _ _ = true from hx.okz, show Rt.ok _ _ _ _ = true from hy.okz]; exact hm.out)) w
theorem mul_q (x y z : Rat) (hx : Rt.Fit x) (hy : Rt.Fit y) (hz : Hid (z = x * y)) (hf : Rt.Fit z) (w : World) :
    Calls Try.prog 48 #[.agg (Rt.qA x), .agg (Rt.qA y)] w fun r w' => r = .returned (.tuple #[.agg (Rt.qA z), .int .i64 0]) ∧ Below w.heap.size w w' :=
  mul_r x y _ _ hx hy (Lib.hid (hz.out ▸ Rt.res_fit hf)) w
theorem rmul_r (x y : Rat) (c : Array Value) (e : Int) (hx : Rt.Fit x) (hy : Rt.Fit y) (hr : Hid ((c, e) = Rt.res (x * y))) (w : World) :
    Calls Try.prog 42 #[.agg (Rt.qA x), .agg (Rt.qA y)] w fun r w' => r = .returned (.tuple #[.agg c, .int .i64 e]) ∧ Below w.heap.size w w' := by
  obtain ⟨n, d, e2, hm⟩ : ∃ n d e2 : Int, Hid ((n, d, e2) = Rt.mk (x.num * y.num) ((x.den * y.den : Int))) := ⟨_, _, _, rfl⟩
  have hq := hr.out
  rw [Rt.mul_div x y, ← Rt.mk_res (lim_960 (mul_480 hx.1 hy.1)) (lim_960 (mul_480 hx.b480 hy.b480)) (Rt.den2_ne x y) hm.out] at hq
  obtain ⟨rfl, rfl⟩ : c = Bg.rZ n d ∧ e = e2 := by simpa using hq
  rw [qA_rZ, qA_rZ, rZ_ratA x.num, rZ_ratA y.num]
  exact rMul_g _ _ _ _ _ _ _ _ n d e hx.ln hx.ld hy.ln hy.ld (Lib.hid (by rw [Bg.toZ_iv, Bg.toZ_iv, Bg.toZ_iv, Bg.toZ_iv, show Rt.ok _ _ _ _ = true from hx.okz, show Rt.ok _ _ _ _ = true from hy.okz]; exact hm.out)) w
end Go.Proofs.Ytadnddffdedjgaa

namespace Go.Proofs.Ytadnddffdedjgaa
set_option maxRecDepth 8000
open Go.RowKit
theorem Rt.fit_le {x : Rat} {p q : Int} (h0 : q ≠ 0) (hp : p.natAbs < Bg.p2 480) (hq : q.natAbs < Bg.p2 480) (hx : x = Rat.divInt p q) : Rt.Fit x := by
  obtain ⟨l1, l2⟩ := Rt.divInt_le (p := p) h0
  rw [hx]
  exact ⟨by omega, by omega⟩
theorem Rt.mk_q {x : Rat} {p q : Int} (h0 : q ≠ 0) (hp : p.natAbs < Bg.p2 480) (hq : q.natAbs < Bg.p2 480) (hx : x = Rat.divInt p q) : Hid ((x.num, (x.den : Int), (0 : Int)) = Rt.mk p q) := by
  obtain ⟨n, d, e, h⟩ : ∃ n d e, (n, d, e) = Rt.mk p q := ⟨_, _, _, rfl⟩
  obtain ⟨rfl, rfl, rfl⟩ := Rt.mk_fit h0 hx (Rt.fit_le h0 hp hq hx) h
  exact Lib.hid h
end Go.Proofs.Ytadnddffdedjgaa

namespace Go.Proofs.Ytadnddffdedjgaa
set_option maxRecDepth 8000
open Go.RowKit
theorem rsign_q (x : Rat) (n : Int) (hx : Rt.Fit x) (hn : Hid (n = x.num.sign)) (w : World) :
    Calls Try.prog 39 #[.agg (Rt.qA x)] w fun r w' => r = .returned (.tuple #[.int .i64 n, .int .i64 0]) ∧ Below w.heap.size w w' := by
  rw [qA_rZ, rZ_ratA]
  exact rSign_g _ _ _ _ n 0 (Lib.hid (by rw [Bg.toZ_iv, show Rt.ok _ _ _ _ = true from hx.okz, hn.out]; rfl)) hx.ln hx.ld w
theorem Rt.Fit.neg {x : Rat} (h : Rt.Fit x) : Rt.Fit (-x) := ⟨by rw [Rat.neg_num, Int.natAbs_neg]; exact h.1, h.2⟩
theorem valid_q (x : Rat) (hx : Rt.Fit x) (w : World) :
    Calls Try.prog 47 #[.agg (Rt.qA x)] w fun r w' => r = .returned (.bool true) ∧ Below w.heap.size w w' := by
  rw [qA_rZ]; exact valid_z _ _ true hx.ln hx.ld (Lib.hid hx.okz.symm) w
theorem make_q (p q : Int) (x : Rat) (h0 : q ≠ 0) (hp : p.natAbs < Bg.p2 480) (hq : q.natAbs < Bg.p2 480) (hx : Hid (x = Rat.divInt p q)) (w : World) :
    Calls Try.prog 78 #[.agg (Bg.zA p), .agg (Bg.zA q)] w fun r w' => r = .returned (.tuple #[.agg (Rt.qA x), .int .i64 0]) ∧ Below w.heap.size w w' := by
  rw [qA_rZ]
  exact make_z p q _ _ 0 (lt480_lim hp) (lt480_lim hq) (Rt.mk_q h0 hp hq hx.out) w
theorem Rt.int_divInt (n : Int) : (n : Rat) = Rat.divInt n 1 := by
  apply Rat.ext
  · rw [Rat.num_intCast, Rat.num_divInt]; simp
  · rw [Rat.den_intCast, Rat.den_divInt]; simp
theorem whole_q (n : Int) (x : Rat) (hn1 : -9223372036854775808 ≤ n) (hn2 : n < 9223372036854775808) (hx : Hid (x = (n : Rat))) (w : World) :
    Calls Try.prog 49 #[.int .i64 n] w fun r w' => r = .returned (.agg (Rt.qA x)) ∧ Below w.heap.size w w' := by
  rw [hx.out, qA_rZ, Rat.num_intCast, Rat.den_intCast]
  exact whole_w n hn1 hn2 w
theorem rwhole_q (n : Int) (x : Rat) (hn1 : -9223372036854775808 ≤ n) (hn2 : n < 9223372036854775808) (hx : Hid (x = (n : Rat))) (w : World) :
    Calls Try.prog 38 #[.int .i64 n] w fun r w' => r = .returned (.agg (Rt.qA x)) ∧ Below w.heap.size w w' := by
  rw [hx.out, qA_rZ, Rat.num_intCast, Rat.den_intCast]
  exact rwhole_w n hn1 hn2 w
section
variable {ops : Array Oper} {rest : List Oper} {a a2 : Act} {w : World} {Q : Exit → Act → World → Prop} {d : Option Tmp} {ty T t : TypeId} {ps : String} {af : Array Edge} {g : Option (Nat × Bool)} {x y : Operand} {v : Value} {xs : Array (Nat × Operand)} {bop : BinOp}
theorem Rt.dec_eq (x y : Rat) : decide (x.num = y.num ∧ (x.den : Int) = y.den) = decide (x = y) := decide_eq_decide.2 Rt.qA_eq
theorem y_cmpq (op : BinOp) (x1 y1 : Rat) (v : Bool) (he : op = .eql ∨ op = .neq) (hv : v = if op = .eql then decide (x1 = y1) else !decide (x1 = y1)) (h1 : Rt.Fit x1) (h2 : Rt.Fit y1) {S : World → Prop} {o : Oper} (hw : Region.wanted o (yielded ops a.tmps) = true := by rfl) (ho : o.op = .binOp op 42 x y t := by rfl) (hx : a.eval x = .agg (Rt.qA x1) := by (conv => lhs; whnf) <;> rfl) (hy : a.eval y = .agg (Rt.qA y1) := by (conv => lhs; whnf) <;> rfl) :
    YieldsIf Try.prog ops S o (.bool v) a := by
  rw [qA_rZ] at hx hy
  exact y_cmpr op _ _ _ _ v he (by rw [hv, Rt.dec_eq]) h1.ln h1.ld h2.ln h2.ld hw ho hx hy
end
end Go.Proofs.Ytadnddffdedjgaa

namespace Go.Proofs.Ytadnddffdedjgaa
set_option maxRecDepth 8000
open Go.RowKit
/-- Numerator of at most i bits, denominator of at most j. -/
structure Rt.Bd (x : Rat) (i j : Nat) : Prop where
  n : x.num.natAbs < Bg.p2 i
  d : x.den < Bg.p2 j
theorem Rt.Bd.fit {x : Rat} {i j : Nat} (h : Rt.Bd x i j) (hi : i ≤ 480 := by decide) (hj : j ≤ 480 := by decide) : Rt.Fit x :=
  ⟨Nat.lt_of_lt_of_le h.n (Bg.p2_mono hi), Nat.lt_of_lt_of_le h.d (Bg.p2_mono hj)⟩
theorem Rt.Bd.up {x : Rat} {i j i' j' : Nat} (h : Rt.Bd x i j) (hi : i ≤ i' := by decide) (hj : j ≤ j' := by decide) : Rt.Bd x i' j' :=
  ⟨Nat.lt_of_lt_of_le h.n (Bg.p2_mono hi), Nat.lt_of_lt_of_le h.d (Bg.p2_mono hj)⟩
theorem Rt.mul_p2 {p d : Int} {i j : Nat} (hp : p.natAbs < Bg.p2 i) (hd : d.natAbs < Bg.p2 j) : (p * d).natAbs < Bg.p2 (i + j) := by
  rw [Int.natAbs_mul, Bg.p2_add]; exact Nat.mul_lt_mul'' hp hd
theorem Rt.Bd.dn {x : Rat} {i j : Nat} (h : Rt.Bd x i j) : ((x.den : Nat) : Int).natAbs < Bg.p2 j := by rw [Int.natAbs_natCast]; exact h.d
theorem Rt.Bd.divInt {p q : Int} {i j : Nat} (h0 : q ≠ 0) (hp : p.natAbs < Bg.p2 i) (hq : q.natAbs < Bg.p2 j) : Rt.Bd (Rat.divInt p q) i j := by
  obtain ⟨l1, l2⟩ := Rt.divInt_le (p := p) h0
  exact ⟨by omega, by omega⟩
theorem Rt.Bd.add {x y : Rat} {i j i2 j2 : Nat} (hx : Rt.Bd x i j) (hy : Rt.Bd y i2 j2) : Rt.Bd (x + y) (max (i + j2) (i2 + j) + 1) (j + j2) := by
  rw [Rt.add_div]
  refine .divInt (Rt.den2_ne x y) ?_ (Rt.mul_p2 hx.dn hy.dn)
  have h1 := Nat.lt_of_lt_of_le (Rt.mul_p2 hx.n hy.dn) (Bg.p2_mono (Nat.le_max_left (i + j2) (i2 + j)))
  have h2 := Nat.lt_of_lt_of_le (Rt.mul_p2 hy.n hx.dn) (Bg.p2_mono (Nat.le_max_right (i + j2) (i2 + j)))
  rw [Bg.p2_succ]
  show (x.num * y.den + y.num * x.den).natAbs < _
  omega
theorem Rt.Bd.sub {x y : Rat} {i j i2 j2 : Nat} (hx : Rt.Bd x i j) (hy : Rt.Bd y i2 j2) : Rt.Bd (x - y) (max (i + j2) (i2 + j) + 1) (j + j2) := by
  rw [Rt.sub_div]
  refine .divInt (Rt.den2_ne x y) ?_ (Rt.mul_p2 hx.dn hy.dn)
  have h1 := Nat.lt_of_lt_of_le (Rt.mul_p2 hx.n hy.dn) (Bg.p2_mono (Nat.le_max_left (i + j2) (i2 + j)))
  have h2 := Nat.lt_of_lt_of_le (Rt.mul_p2 hy.n hx.dn) (Bg.p2_mono (Nat.le_max_right (i + j2) (i2 + j)))
  rw [Bg.p2_succ]
  show (x.num * y.den + -(y.num * x.den)).natAbs < _
  omega
theorem Rt.Bd.mul {x y : Rat} {i j i2 j2 : Nat} (hx : Rt.Bd x i j) (hy : Rt.Bd y i2 j2) : Rt.Bd (x * y) (i + i2) (j + j2) := by
  rw [Rt.mul_div]
  exact .divInt (Rt.den2_ne x y) (Rt.mul_p2 hx.n hy.n) (Rt.mul_p2 hx.dn hy.dn)
theorem Bg.p2_small {n : Nat} (k v : Nat) (hv : Bg.p2 k = v) (h : n < v) : n < Bg.p2 k := hv ▸ h
end Go.Proofs.Ytadnddffdedjgaa
