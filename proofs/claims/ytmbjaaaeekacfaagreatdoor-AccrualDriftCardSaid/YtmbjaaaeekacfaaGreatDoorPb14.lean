/- Walks, and plain facts for them. -/
import Derived.Test.YtmbjaaaeekacfaaGreatDoorPb13
import Derived.Test.YtmbjaaaeekacfaaGreatDoorPb04
namespace Go.Proofs.YtmbjaaaeekacfaaGreatDoor
set_option maxRecDepth 8000
open Go.RowKit
def Rt.Fit (x : Rat) : Prop := x.num.natAbs < Bg.p2 480 ∧ x.den < Bg.p2 480
@[irreducible] def Rt.qA (x : Rat) : Array Value := Bg.rZ x.num x.den
theorem qA_rZ (x : Rat) : Rt.qA x = Bg.rZ x.num x.den := by unfold Rt.qA; rfl
theorem qA_size (x : Rat) : (Rt.qA x).size = 66 := by rw [qA_rZ]; exact rZ_size _ _
theorem la_q (x : Rat) : LA 27 (Rt.qA x) 0 (.agg (Rt.qA x)) := by rw [qA_rZ]; exact la_rz _ _
theorem sa_q (x : Rat) {c : Array Value} (h : c.size = 66) : SA 27 c 0 (.agg (Rt.qA x)) (Rt.qA x) := by rw [qA_rZ]; exact sa_rz _ _ h
theorem la_qnum (x : Rat) : LA 25 (Rt.qA x) 0 (.agg (Bg.zA x.num)) := by rw [qA_rZ]; exact la_rznum _ _
theorem la_qden (x : Rat) : LA 25 (Rt.qA x) 33 (.agg (Bg.zA x.den)) := by rw [qA_rZ]; exact la_rzden _ _
theorem lt480_lim {n : Nat} (h : n < Bg.p2 480) : n < Bg.lim := Nat.lt_of_lt_of_le h (by have := Bg.p2_mono (show 480 ≤ 1024 by decide); rwa [Bg.p2_lim] at this)
theorem Rt.Fit.ln {x : Rat} (h : Rt.Fit x) : x.num.natAbs < Bg.lim := lt480_lim h.1
theorem Rt.Fit.ld {x : Rat} (h : Rt.Fit x) : ((x.den : Nat) : Int).natAbs < Bg.lim := by rw [Int.natAbs_natCast]; exact lt480_lim h.2
theorem Rt.short_iff {M N : Nat} (hM : M < Bg.lim) (hN : N < Bg.lim) : Rt.short M N = true ↔ M < Bg.p2 480 ∧ N < Bg.p2 480 := by
 unfold Rt.short
 rw [Bool.and_eq_true, decide_eq_true_iff, decide_eq_true_iff]
 exact ⟨fun h => ⟨p2_480 hM h.1, p2_480 hN h.2⟩, fun h => ⟨Bg.bl_le (by omega) h.1, Bg.bl_le (by omega) h.2⟩⟩
theorem Rt.Fit.okz {x : Rat} (h : Rt.Fit x) : Rt.okz x.num x.den = true :=
 Rt.okz_of (by rw [Int.natAbs_natCast]; exact (Rt.short_iff h.ln (lt480_lim h.2)).2 h) (by have := x.den_pos; omega) (by rw [Int.natAbs_natCast]; exact x.reduced)
theorem Rt.okz_rat {p q : Int} (hp : p.natAbs < Bg.lim) (hq : q.natAbs < Bg.lim) (h : Rt.okz p q = true) : ∃ x : Rat, Rt.Fit x ∧ p = x.num ∧ q = x.den := by
 have g := Rt.good hp hq h
 have h1 := g.pos
 refine ⟨⟨p, q.natAbs, by omega, g.one⟩, ⟨g.bp, g.bq⟩, rfl, ?_⟩
 show q = ((q.natAbs : Nat) : Int)
 omega
theorem Rt.ok_rat {s t : Bool} {M N : Nat} (hM : M < Bg.lim) (hN : N < Bg.lim) (h : Rt.ok s M t N = true) : ∃ x : Rat, Rt.Fit x ∧ Bg.ratA s M t N = Rt.qA x ∧ Bg.toZ s M = x.num ∧ Bg.toZ t N = x.den := by
 obtain ⟨e1, e2⟩ := Rt.ok_z h
 obtain ⟨x, h1, h2, h3⟩ := Rt.okz_rat (by rw [Bg.toZ_abs]; exact hM) (by rw [Bg.toZ_abs]; exact hN) e2
 exact ⟨x, h1, by rw [e1, h2, h3, qA_rZ], h2, h3⟩
theorem Rt.sg_parts {p q : Int} (h0 : q ≠ 0) : p / Rt.sg p q = (Rat.divInt p q).num ∧ q / Rt.sg p q = (Rat.divInt p q).den := by
 rw [Rat.num_divInt, Rat.den_divInt, if_neg h0]
 have hg : (q.gcd p : Int) = (Nat.gcd p.natAbs q.natAbs : Nat) := by rw [Int.gcd, Nat.gcd_comm]
 have hg' : q.gcd p = Nat.gcd p.natAbs q.natAbs := by rw [Int.gcd, Nat.gcd_comm]
 have d1 : ((Nat.gcd p.natAbs q.natAbs : Nat) : Int) ∣ p := Int.ofNat_dvd_left.2 (Nat.gcd_dvd_left _ _)
 have d2 : ((Nat.gcd p.natAbs q.natAbs : Nat) : Int) ∣ q := Int.ofNat_dvd_left.2 (Nat.gcd_dvd_right _ _)
 rw [hg, hg']
 unfold Rt.sg
 rcases Int.lt_or_gt_of_ne h0 with hq | hq
 ·rw [if_pos hq, Int.sign_eq_neg_one_of_neg hq, Int.ediv_neg, Int.ediv_neg]
  constructor
  ·rw [← Int.neg_ediv_of_dvd d1]; congr 1; omega
  ·rw [← Int.neg_ediv_of_dvd d2, Int.natCast_ediv]; congr 1; omega
 ·rw [if_neg (by omega), Int.sign_eq_one_of_pos hq]
  constructor
  ·congr 1; omega
  ·rw [Int.natCast_ediv]; congr 1; omega
theorem Rt.divInt_le {p q : Int} (h0 : q ≠ 0) : (Rat.divInt p q).num.natAbs ≤ p.natAbs ∧ (Rat.divInt p q).den ≤ q.natAbs := by
 obtain ⟨h1, h2⟩ := Rt.sg_parts (p := p) h0
 constructor
 ·rw [← h1]; exact Int.natAbs_ediv_le_natAbs _ _
 ·have := Int.natAbs_ediv_le_natAbs q (Rt.sg p q)
  rw [h2] at this
  simpa using this
noncomputable def Rt.res (z : Rat) : Array Value × Int := open Classical in if Rt.Fit z then (Rt.qA z, 0) else (Bg.rZ 0 0, 10)
theorem Rt.res_fit {z : Rat} (h : Rt.Fit z) : (Rt.qA z, (0 : Int)) = Rt.res z := by unfold Rt.res; rw [if_pos h]
theorem Rt.mk_fit {p q n d e : Int} (h0 : q ≠ 0) {z : Rat} (hz : z = Rat.divInt p q) (hf : Rt.Fit z) (h : (n, d, e) = Rt.mk p q) : n = z.num ∧ d = z.den ∧ e = 0 := by
 obtain ⟨h1, h2⟩ := Rt.sg_parts (p := p) h0
 unfold Rt.mk at h
 rw [if_neg h0, h1, h2, ← hz, if_pos (by rw [Int.natAbs_natCast]; exact (Rt.short_iff hf.ln (lt480_lim hf.2)).2 hf)] at h
 simpa using h
theorem Rt.mk_res {p q n d e : Int} (hp : p.natAbs < Bg.lim) (hq : q.natAbs < Bg.lim) (h0 : q ≠ 0) (h : (n, d, e) = Rt.mk p q) : (Bg.rZ n d, e) = Rt.res (Rat.divInt p q) := by
 by_cases hf : Rt.Fit (Rat.divInt p q)
 ·obtain ⟨rfl, rfl, rfl⟩ := Rt.mk_fit h0 rfl hf h
  rw [← Rt.res_fit hf, qA_rZ]
 ·obtain ⟨h1, h2⟩ := Rt.sg_parts (p := p) h0
  obtain ⟨l1, l2⟩ := Rt.divInt_le (p := p) h0
  unfold Rt.mk at h
  rw [if_neg h0, h1, h2, if_neg (by rw [Int.natAbs_natCast, Rt.short_iff (by omega) (by omega)]; exact hf)] at h
  obtain ⟨rfl, rfl, rfl⟩ : n = 0 ∧ d = 0 ∧ e = 10 := by simpa using h
  unfold Rt.res
  rw [if_neg hf]
theorem Rt.add_div (x y : Rat) : x + y = Rat.divInt (Rt.num false x.num x.den y.num y.den) (x.den * y.den) := by
 have h1 : (x.den : Int) ≠ 0 := by have := x.den_pos; omega
 have h2 : (y.den : Int) ≠ 0 := by have := y.den_pos; omega
 conv => lhs; rw [← Rat.num_divInt_den x, ← Rat.num_divInt_den y]
 rw [Rat.divInt_add_divInt _ _ h1 h2]
 rfl
theorem Rt.mul_div (x y : Rat) : x * y = Rat.divInt (x.num * y.num) (x.den * y.den) := by
 conv => lhs; rw [← Rat.num_divInt_den x, ← Rat.num_divInt_den y]
 rw [Rat.divInt_mul_divInt]
theorem Rt.den_ne (x : Rat) : (x.den : Int) ≠ 0 := by have := x.den_pos; omega
theorem Rt.den2_ne (x y : Rat) : (x.den * y.den : Int) ≠ 0 := Int.mul_ne_zero (Rt.den_ne x) (Rt.den_ne y)
theorem Rt.Fit.b480 {x : Rat} (h : Rt.Fit x) : ((x.den : Nat) : Int).natAbs < Bg.p2 480 := by rw [Int.natAbs_natCast]; exact h.2
theorem Rt.fit_zero : Rt.Fit 0 := ⟨by simp [Bg.p2_pos], by have := Bg.p2_mono (show 1 ≤ 480 by decide); have h : Bg.p2 1 = 2 := (by unfold Bg.p2; rfl); show 1 < _; omega⟩
def Rt.cmp (x y : Rat) : Int := (x.num * y.den - y.num * x.den).sign
theorem Rt.cmp_lt {x y : Rat} : Rt.cmp x y = -1 ↔ x < y := by
 unfold Rt.cmp; rw [Int.sign_eq_neg_one_iff_neg, Rat.lt_iff]; omega
theorem Rt.cmp_gt {x y : Rat} : Rt.cmp x y = 1 ↔ y < x := by
 unfold Rt.cmp; rw [Int.sign_eq_one_iff_pos, Rat.lt_iff]; omega
theorem Rt.cmp_eq {x y : Rat} : Rt.cmp x y = 0 ↔ x = y := by
 unfold Rt.cmp
 rw [Int.sign_eq_zero_iff_zero]
 constructor
 ·intro h
  have h1 : x.num * y.den = y.num * x.den := by omega
  conv => lhs; rw [← Rat.num_divInt_den x]
  conv => rhs; rw [← Rat.num_divInt_den y]
  rwa [Rat.divInt_eq_divInt_iff (Rt.den_ne x) (Rt.den_ne y)]
 ·rintro rfl; omega
theorem Rt.cmp_cases (x y : Rat) : (Rt.cmp x y = -1 ∧ x < y) ∨ (Rt.cmp x y = 0 ∧ x = y) ∨ (Rt.cmp x y = 1 ∧ y < x) := by
 rcases sign_v (x.num * y.den - y.num * x.den) with h | h | h
 ·exact .inl ⟨h, Rt.cmp_lt.1 h⟩
 ·exact .inr (.inl ⟨h, Rt.cmp_eq.1 h⟩)
 ·exact .inr (.inr ⟨h, Rt.cmp_gt.1 h⟩)
theorem Rt.qA_eq {x y : Rat} : (x.num = y.num ∧ (x.den : Int) = y.den) ↔ x = y := by
 constructor
 ·rintro ⟨h1, h2⟩; exact Rat.ext h1 (by omega)
 ·rintro rfl; exact ⟨rfl, rfl⟩
theorem add_r (x y : Rat) (c : Array Value) (e : Int) (hx : Rt.Fit x) (hy : Rt.Fit y) (hr : Hid ((c, e) = Rt.res (x + y))) (w : World) :
    Calls Tryz.prog 48 #[.agg (Rt.qA x), .agg (Rt.qA y)] w fun r w' => r = .returned (.tuple #[.agg c, .int .i64 e]) ∧ Below w.heap.size w w' := by
 obtain ⟨n, d, e2, hm⟩ : ∃ n d e2 : Int, Hid ((n, d, e2) = Rt.mk (Rt.num false x.num x.den y.num y.den) ((x.den * y.den : Int))) := ⟨_, _, _, rfl⟩
 have hq := hr.out
 rw [Rt.add_div x y, ← Rt.mk_res (p := Rt.num false x.num x.den y.num y.den) (lim_961 (mul_480 hx.1 hy.b480) (mul_480 hy.1 hx.b480)) (lim_960 (mul_480 hx.b480 hy.b480)) (Rt.den2_ne x y) hm.out] at hq
 obtain ⟨rfl, rfl⟩ : c = Bg.rZ n d ∧ e = e2 := by simpa using hq
 rw [qA_rZ, qA_rZ, rZ_ratA x.num, rZ_ratA y.num]
 exact add_g _ _ _ _ _ _ _ _ n d e hx.ln hx.ld hy.ln hy.ld (Lib.hid (by rw [Bg.toZ_iv, Bg.toZ_iv, Bg.toZ_iv, Bg.toZ_iv, show Rt.ok _ _ _ _ = true from hx.okz, show Rt.ok _ _ _ _ = true from hy.okz]; exact hm.out)) w
theorem add_q (x y z : Rat) (hx : Rt.Fit x) (hy : Rt.Fit y) (hz : Hid (z = x + y)) (hf : Rt.Fit z) (w : World) :
    Calls Tryz.prog 48 #[.agg (Rt.qA x), .agg (Rt.qA y)] w fun r w' => r = .returned (.tuple #[.agg (Rt.qA z), .int .i64 0]) ∧ Below w.heap.size w w' :=
 add_r x y _ _ hx hy (Lib.hid (hz.out ▸ Rt.res_fit hf)) w
theorem radd_r (x y : Rat) (c : Array Value) (e : Int) (hx : Rt.Fit x) (hy : Rt.Fit y) (hr : Hid ((c, e) = Rt.res (x + y))) (w : World) :
    Calls Tryz.prog 34 #[.agg (Rt.qA x), .agg (Rt.qA y)] w fun r w' => r = .returned (.tuple #[.agg c, .int .i64 e]) ∧ Below w.heap.size w w' := by
 obtain ⟨n, d, e2, hm⟩ : ∃ n d e2 : Int, Hid ((n, d, e2) = Rt.mk (Rt.num false x.num x.den y.num y.den) ((x.den * y.den : Int))) := ⟨_, _, _, rfl⟩
 have hq := hr.out
 rw [Rt.add_div x y, ← Rt.mk_res (p := Rt.num false x.num x.den y.num y.den) (lim_961 (mul_480 hx.1 hy.b480) (mul_480 hy.1 hx.b480)) (lim_960 (mul_480 hx.b480 hy.b480)) (Rt.den2_ne x y) hm.out] at hq
 obtain ⟨rfl, rfl⟩ : c = Bg.rZ n d ∧ e = e2 := by simpa using hq
 rw [qA_rZ, qA_rZ, rZ_ratA x.num, rZ_ratA y.num]
 exact rAdd_g _ _ _ _ _ _ _ _ n d e hx.ln hx.ld hy.ln hy.ld (Lib.hid (by rw [Bg.toZ_iv, Bg.toZ_iv, Bg.toZ_iv, Bg.toZ_iv, show Rt.ok _ _ _ _ = true from hx.okz, show Rt.ok _ _ _ _ = true from hy.okz]; exact hm.out)) w
theorem radd_q (x y z : Rat) (hx : Rt.Fit x) (hy : Rt.Fit y) (hz : Hid (z = x + y)) (hf : Rt.Fit z) (w : World) :
    Calls Tryz.prog 34 #[.agg (Rt.qA x), .agg (Rt.qA y)] w fun r w' => r = .returned (.tuple #[.agg (Rt.qA z), .int .i64 0]) ∧ Below w.heap.size w w' :=
 radd_r x y _ _ hx hy (Lib.hid (hz.out ▸ Rt.res_fit hf)) w
theorem mul_r (x y : Rat) (c : Array Value) (e : Int) (hx : Rt.Fit x) (hy : Rt.Fit y) (hr : Hid ((c, e) = Rt.res (x * y))) (w : World) :
    Calls Tryz.prog 74 #[.agg (Rt.qA x), .agg (Rt.qA y)] w fun r w' => r = .returned (.tuple #[.agg c, .int .i64 e]) ∧ Below w.heap.size w w' := by
 obtain ⟨n, d, e2, hm⟩ : ∃ n d e2 : Int, Hid ((n, d, e2) = Rt.mk (x.num * y.num) ((x.den * y.den : Int))) := ⟨_, _, _, rfl⟩
 have hq := hr.out
 rw [Rt.mul_div x y, ← Rt.mk_res (lim_960 (mul_480 hx.1 hy.1)) (lim_960 (mul_480 hx.b480 hy.b480)) (Rt.den2_ne x y) hm.out] at hq
 obtain ⟨rfl, rfl⟩ : c = Bg.rZ n d ∧ e = e2 := by simpa using hq
 rw [qA_rZ, qA_rZ, rZ_ratA x.num, rZ_ratA y.num]
 exact mul_g _ _ _ _ _ _ _ _ n d e hx.ln hx.ld hy.ln hy.ld (Lib.hid (by rw [Bg.toZ_iv, Bg.toZ_iv, Bg.toZ_iv, Bg.toZ_iv, show Rt.ok _ _ _ _ = true from hx.okz, show Rt.ok _ _ _ _ = true from hy.okz]; exact hm.out)) w
theorem rmul_r (x y : Rat) (c : Array Value) (e : Int) (hx : Rt.Fit x) (hy : Rt.Fit y) (hr : Hid ((c, e) = Rt.res (x * y))) (w : World) :
    Calls Tryz.prog 32 #[.agg (Rt.qA x), .agg (Rt.qA y)] w fun r w' => r = .returned (.tuple #[.agg c, .int .i64 e]) ∧ Below w.heap.size w w' := by
 obtain ⟨n, d, e2, hm⟩ : ∃ n d e2 : Int, Hid ((n, d, e2) = Rt.mk (x.num * y.num) ((x.den * y.den : Int))) := ⟨_, _, _, rfl⟩
 have hq := hr.out
 rw [Rt.mul_div x y, ← Rt.mk_res (lim_960 (mul_480 hx.1 hy.1)) (lim_960 (mul_480 hx.b480 hy.b480)) (Rt.den2_ne x y) hm.out] at hq
 obtain ⟨rfl, rfl⟩ : c = Bg.rZ n d ∧ e = e2 := by simpa using hq
 rw [qA_rZ, qA_rZ, rZ_ratA x.num, rZ_ratA y.num]
 exact rMul_g _ _ _ _ _ _ _ _ n d e hx.ln hx.ld hy.ln hy.ld (Lib.hid (by rw [Bg.toZ_iv, Bg.toZ_iv, Bg.toZ_iv, Bg.toZ_iv, show Rt.ok _ _ _ _ = true from hx.okz, show Rt.ok _ _ _ _ = true from hy.okz]; exact hm.out)) w
theorem rmul_q (x y z : Rat) (hx : Rt.Fit x) (hy : Rt.Fit y) (hz : Hid (z = x * y)) (hf : Rt.Fit z) (w : World) :
    Calls Tryz.prog 32 #[.agg (Rt.qA x), .agg (Rt.qA y)] w fun r w' => r = .returned (.tuple #[.agg (Rt.qA z), .int .i64 0]) ∧ Below w.heap.size w w' :=
 rmul_r x y _ _ hx hy (Lib.hid (hz.out ▸ Rt.res_fit hf)) w
theorem cmp_q (x y : Rat) (g : Int) (hx : Rt.Fit x) (hy : Rt.Fit y) (hg : Hid (g = Rt.cmp x y)) (w : World) :
    Calls Tryz.prog 78 #[.agg (Rt.qA x), .agg (Rt.qA y)] w fun r w' => r = .returned (.tuple #[.int .i64 g, .int .i64 0]) ∧ Below w.heap.size w w' := by
 rw [qA_rZ, qA_rZ, rZ_ratA x.num, rZ_ratA y.num]
 exact Cmp_g _ _ _ _ _ _ _ _ g 0 (Lib.hid (by rw [Bg.toZ_iv, Bg.toZ_iv, Bg.toZ_iv, Bg.toZ_iv, show Rt.ok _ _ _ _ = true from hx.okz, show Rt.ok _ _ _ _ = true from hy.okz, hg.out]; rfl)) hx.ln hx.ld hy.ln hy.ld w
end Go.Proofs.YtmbjaaaeekacfaaGreatDoor
namespace Go.Proofs.YtmbjaaaeekacfaaGreatDoor
set_option maxRecDepth 8000
open Go.RowKit
theorem Rt.fit_le {x : Rat} {p q : Int} (h0 : q ≠ 0) (hp : p.natAbs < Bg.p2 480) (hq : q.natAbs < Bg.p2 480) (hx : x = Rat.divInt p q) : Rt.Fit x := by
 obtain ⟨l1, l2⟩ := Rt.divInt_le (p := p) h0
 rw [hx]
 exact ⟨by omega, by omega⟩
theorem Rt.mk_q {x : Rat} {p q : Int} (h0 : q ≠ 0) (hp : p.natAbs < Bg.p2 480) (hq : q.natAbs < Bg.p2 480) (hx : x = Rat.divInt p q) : Hid ((x.num, (x.den : Int), (0 : Int)) = Rt.mk p q) := by
 obtain ⟨n, d, e, h⟩ : ∃ n d e, (n, d, e) = Rt.mk p q := ⟨_, _, _, rfl⟩
 obtain ⟨rfl, rfl, rfl⟩ := Rt.mk_fit h0 hx (Rt.fit_le h0 hp hq hx) h
 exact Lib.hid h
theorem mkof_q (n d : Int) (x : Rat) (hn1 : -9223372036854775808 ≤ n) (hn2 : n < 9223372036854775808) (hd1 : -9223372036854775808 ≤ d) (hd2 : d < 9223372036854775808) (h0 : d ≠ 0) (hx : Hid (x = Rat.divInt n d)) (w : World) :
    Calls Tryz.prog 27 #[.int .i64 n, .int .i64 d] w fun r w' => r = .returned (.agg (Rt.qA x)) ∧ Below w.heap.size w w' := by
 have HM := Mem.start w
 have hz0 := za_rat
 have hm := Rt.mk_q h0 (small_480 (z := n) (by omega)) (small_480 (z := d) (by omega)) hx.out
 have hs := sa_rz x.num x.den (rZ_size 0 0)
 have hl := la_rz x.num x.den
 rw [qA_rZ]
 generalize x.num = X at *
 generalize (x.den : Int) = Y at *
 go_enter Tryz.func27, Tryz.ntmps27
 go_wp2_with (first | (go_at_call 57; ((with_reducible refine (rof_n n d X Y 0 hn1 hn2 hd1 hd2 hm _).mono ?_); rintro e9 w2 ⟨rfl, hL⟩; replace HM := HM.call hL; clear hL)) | (first | ((with_reducible refine g_ld ?_); refine a_ld HM ?_) | ((with_reducible refine g_st ?_); refine a_st HM ?_; clear HM; intro w1 HM) | ((with_reducible refine g_al ?_); refine a_al HM ?_; clear HM; intro bk w1 HM)))
 refine bodyPost_ret (r_c rfl rfl (HM.get (by ((repeat (first | exact Look.here | refine Look.there ?_)); done))) (la_rz _ _)) rfl ⟨rfl, HM.low⟩
theorem p64_200 : 18446744073709551616 ≤ Bg.p2 200 := by have := Bg.p2_mono (show 64 ≤ 200 by decide); have h : Bg.p2 64 = 18446744073709551616 := (by unfold Bg.p2; rfl); omega
def RatPost (W : World) (tb m k : Nat) (w : World) (e : Ending) (w' : World) : Prop :=
 ∃ x : Rat, e = .returned (.agg (Rt.qA x)) ∧ x.num.natAbs < Bg.p2 k ∧ x.den < Bg.p2 k ∧ Tp W tb (m + 1000) w' ∧ w.grownBy w' (some tb)
set_option maxRecDepth 20000 in
set_option maxHeartbeats 2000000 in
theorem ratio_any (W : World) (tb m : Nat) (w : World) (hT : Tp W tb m w) (hm : m ≤ 900000000) :
    Calls Tryz.prog 62 #[.pointer (some ⟨tb, 0, none⟩)] w (RatPost W tb m 200 w) := by
 obtain ⟨cs, hb, hc, h0, hle0⟩ := hT
 have HM := Mem.start1 w hb
 have HC := Lib.hid hc
 have H0 := Lib.hid h0
 have hz0 := za_rat
 have hle : ∀ b ∈ [tb], W.heap.size ≤ b := by simpa using hle0
 clear hb hc h0
 have p200 : Bg.p2 200 ≤ Bg.p2 480 := Bg.p2_mono (by decide)
 have p64 := p64_200
 have l200 : Bg.p2 200 ≤ Bg.lim := by have := Bg.p2_mono (show 200 ≤ 1024 by decide); rwa [Bg.p2_lim] at this
 go_enter Tryz.func62, Tryz.ntmps62
 go_wp2_with (first | ((with_reducible refine g_ld ?_); refine a_ld HM ?_) | ((with_reducible refine g_st ?_); refine a_st HM ?_; clear HM; intro w1 HM) | ((with_reducible refine g_al ?_); refine a_al HM ?_; clear HM; intro bk w1 HM))
 (refine (chance_any W tb _ 1 6 _ (HM.tp (by ((repeat (first | exact Look.here | refine Look.there ?_)); done)) HC.out H0.out hle) (by omega) (by omega) (by omega)).mono ?_; rintro e9 w2 ⟨ch, rfl, ⟨c1, hb1, hc1, -, -⟩, hg⟩; replace HM := HM.put (c' := c1) (by (repeat (first | exact At.here | apply At.there))) hb1 (Only.of_grown hg); clear hg hb1; replace HC := Lib.hid hc1; clear hc1)
 cases ch with
 | true =>
  go_wp2_with (first | ((with_reducible refine g_ld ?_); refine a_ld HM ?_) | ((with_reducible refine g_st ?_); refine a_st HM ?_; clear HM; intro w1 HM) | ((with_reducible refine g_al ?_); refine a_al HM ?_; clear HM; intro bk w1 HM))
  (refine (int_any W tb _ 200 _ (HM.tp (by ((repeat (first | exact Look.here | refine Look.there ?_)); done)) HC.out H0.out hle) (by omega) (by omega) (by omega)).mono ?_; rintro e9 w2 ⟨z, rfl, hz, ⟨c1, hb1, hc1, -, -⟩, hg9⟩; replace HM := HM.put (c' := c1) (by (repeat (first | exact At.here | apply At.there))) hb1 (Only.of_grown hg9); clear hg9 hb1; replace HC := Lib.hid hc1; clear hc1)
  have lz : z.natAbs < Bg.lim := by omega
  obtain ⟨y, hy⟩ : ∃ y : Int, Hid (y = (z.natAbs : Int)) := ⟨_, rfl⟩
  have ly : y.natAbs < Bg.lim := by have := hy.out; omega
  have ly2 : y.natAbs < Bg.p2 200 := by have := hy.out; omega
  obtain ⟨g, hg⟩ : ∃ g : Int, Hid (g = y.sign) := ⟨_, rfl⟩
  by_cases h0 : y = 0
  ·subst h0
   have hg0 : g = 0 := by rw [hg.out]; rfl
   subst hg0
   go_upto_region 5 with (first | (go_at_call 58; ((with_reducible refine (rabs_z z 0 lz hy _).mono ?_); rintro e9 w2 ⟨rfl, hL⟩; replace HM := HM.call hL; clear hL)) | (go_at_call 60; ((with_reducible refine (rsign_z 0 0 ly hg _).mono ?_); rintro e9 w2 ⟨rfl, hL⟩; replace HM := HM.call hL; clear hL)) | (go_at_call 67; ((with_reducible refine (rfromInt_z 1 (by omega) (by omega) _).mono ?_); rintro e9 w2 ⟨rfl, hL⟩; replace HM := HM.call hL; clear hL)) | (first | ((with_reducible refine g_ld ?_); refine a_ld HM ?_) | ((with_reducible refine g_st ?_); refine a_st HM ?_; clear HM; intro w1 HM) | ((with_reducible refine g_al ?_); refine a_al HM ?_; clear HM; intro bk w1 HM)))
   have ld : (1 : Int).natAbs < Bg.lim := by omega
   refine start_M2 [8] HM ((Sub.keep (Sub.keep Sub.nil))) (by kernel_rfl) (fun w0x H9 => ?_)
   replace HM := H9; clear H9
   refine k_mv 0 (heldE HM) ?_
   refine k_ld 2 [3, 4, 5, 6, 8, 9] (heldE HM) ?_
   refine j_two 1 7 ?_ ?_
   ·refine o_callg (int_any W tb _ 200 _ (HM.tp (by ((repeat (first | exact Look.here | refine Look.there ?_)); done)) HC.out H0.out hle) (by omega) (by omega) (by omega)) rfl ?_ ?_; (focus (refine h_call2 (ts := ?_) (x1 := ?_) (x2 := ?_) ?_ (by kernel_rfl) ?_ ?_; rotate_left 3; (focus rfl); (focus rfl); rfl)); rintro e9 w1 ⟨z2, rfl, hz2, ⟨c1, hb1, hc1, -, -⟩, hg9⟩; replace HM := HM.put (c' := c1) (by (repeat (first | exact At.here | apply At.there))) hb1 (Only.of_grown hg9); clear hg9 hb1; replace HC := Lib.hid hc1; clear hc1; obtain ⟨x, hx⟩ : ∃ x : Rat, Hid (x = Rat.divInt z2 (1)) := ⟨_, rfl⟩; have HR := rmake_z z2 (1) x.num x.den 0 (by omega) ld (Rt.mk_q (by omega) (by omega) (by omega) hx.out); have hs := sa_rz x.num x.den (rZ_size 0 0); have hl := la_rz x.num x.den; refine ⟨_, rfl, ?_⟩
    refine ⟨(heldE HM), ?_⟩; ((try simp only [List.setIfInBounds_toArray]); (try simp only [List.set_cons_succ]); (try simp only [List.set_cons_zero]))
    refine j_two 3 7 ?_ ?_
    ·refine j_call2 (v := ?_) HM ?_ ?_; rotate_left 1; (focus (with_reducible (exact (HR _)))); clear HM; intro w1 HM
     refine ⟨(heldE HM), ?_⟩
     refine k_mv 4 (heldE HM) ?_
     refine k_ext 5 (heldE HM) ?_
     refine k_ext 6 (heldE HM) ?_
     refine j_one 7 fun K9 hK9 => ?_
     refine j_al HM ?_; clear HM; intro bk w1 HM
     refine hK9 _ _ (heldE HM) ?_; clear hK9 K9
     refine j_one 8 fun K9 hK9 => ?_
     refine j_st HM ?_; clear HM; intro w1 HM
     refine hK9 _ _ heldN ?_; clear hK9 K9
     refine k_mv 9 heldN ?_
     refine wpAnyL_done (by kernel_rfl) ?_ _
     (go_wp2_with (first | ((with_reducible refine g_ld ?_); refine a_ld HM ?_) | ((with_reducible refine g_st ?_); refine a_st HM ?_; clear HM; intro w1 HM) | ((with_reducible refine g_al ?_); refine a_al HM ?_; clear HM; intro bk w1 HM)); have hle2 := Rt.divInt_le (p := z2) (q := 1) (by omega); rw [← hx.out] at hle2; obtain ⟨hT, hg⟩ := HM.done (by ((repeat (first | exact Look.here | refine Look.there ?_)); done)) HC.out H0.out hle0; refine bodyPost_ret (r_c rfl rfl (HM.get (by ((repeat (first | exact Look.here | refine Look.there ?_)); done))) (la_rz _ _)) rfl ⟨x, by rw [qA_rZ], by omega, by omega, hT.mono (by omega), hg⟩)
    ·refine j_al HM ?_; clear HM; intro bk w1 HM
     refine ⟨(heldE HM), ?_⟩
     refine j_one 3 fun K9 hK9 => ?_
     refine j_call2 (v := ?_) HM ?_ ?_; rotate_left 1; (focus (with_reducible (exact (HR _)))); clear HM; intro w1 HM
     refine hK9 _ _ (heldE HM) ?_; clear hK9 K9
     refine k_mv 4 (heldE HM) ?_
     refine k_ext 5 (heldE HM) ?_
     refine k_ext 6 (heldE HM) ?_
     refine j_one 8 fun K9 hK9 => ?_
     refine j_st HM ?_; clear HM; intro w1 HM
     refine hK9 _ _ heldN ?_; clear hK9 K9
     refine k_mv 9 heldN ?_
     refine wpAnyL_done (by kernel_rfl) ?_ _
     (go_wp2_with (first | ((with_reducible refine g_ld ?_); refine a_ld HM ?_) | ((with_reducible refine g_st ?_); refine a_st HM ?_; clear HM; intro w1 HM) | ((with_reducible refine g_al ?_); refine a_al HM ?_; clear HM; intro bk w1 HM)); have hle2 := Rt.divInt_le (p := z2) (q := 1) (by omega); rw [← hx.out] at hle2; obtain ⟨hT, hg⟩ := HM.done (by ((repeat (first | exact Look.here | refine Look.there ?_)); done)) HC.out H0.out hle0; refine bodyPost_ret (r_c rfl rfl (HM.get (by ((repeat (first | exact Look.here | refine Look.there ?_)); done))) (la_rz _ _)) rfl ⟨x, by rw [qA_rZ], by omega, by omega, hT.mono (by omega), hg⟩)
   ·refine j_al HM ?_; clear HM; intro bk w1 HM
    refine ⟨(heldE HM), ?_⟩
    refine j_one 1 fun K9 hK9 => ?_
    refine o_callg (int_any W tb _ 200 _ (HM.tp (by ((repeat (first | exact Look.here | refine Look.there ?_)); done)) HC.out H0.out hle) (by omega) (by omega) (by omega)) rfl ?_ ?_; (focus (refine h_call2 (ts := ?_) (x1 := ?_) (x2 := ?_) ?_ (by kernel_rfl) ?_ ?_; rotate_left 3; (focus rfl); (focus rfl); rfl)); rintro e9 w1 ⟨z2, rfl, hz2, ⟨c1, hb1, hc1, -, -⟩, hg9⟩; replace HM := HM.put (c' := c1) (by (repeat (first | exact At.here | apply At.there))) hb1 (Only.of_grown hg9); clear hg9 hb1; replace HC := Lib.hid hc1; clear hc1; obtain ⟨x, hx⟩ : ∃ x : Rat, Hid (x = Rat.divInt z2 (1)) := ⟨_, rfl⟩; have HR := rmake_z z2 (1) x.num x.den 0 (by omega) ld (Rt.mk_q (by omega) (by omega) (by omega) hx.out); have hs := sa_rz x.num x.den (rZ_size 0 0); have hl := la_rz x.num x.den; refine ⟨_, rfl, ?_⟩
    refine hK9 _ _ (heldE HM) ?_; clear hK9 K9; ((try simp only [List.setIfInBounds_toArray]); (try simp only [List.set_cons_succ]); (try simp only [List.set_cons_zero]))
    refine j_one 3 fun K9 hK9 => ?_
    refine j_call2 (v := ?_) HM ?_ ?_; rotate_left 1; (focus (with_reducible (exact (HR _)))); clear HM; intro w1 HM
    refine hK9 _ _ (heldE HM) ?_; clear hK9 K9
    refine k_mv 4 (heldE HM) ?_
    refine k_ext 5 (heldE HM) ?_
    refine k_ext 6 (heldE HM) ?_
    refine j_one 8 fun K9 hK9 => ?_
    refine j_st HM ?_; clear HM; intro w1 HM
    refine hK9 _ _ heldN ?_; clear hK9 K9
    refine k_mv 9 heldN ?_
    refine wpAnyL_done (by kernel_rfl) ?_ _
    (go_wp2_with (first | ((with_reducible refine g_ld ?_); refine a_ld HM ?_) | ((with_reducible refine g_st ?_); refine a_st HM ?_; clear HM; intro w1 HM) | ((with_reducible refine g_al ?_); refine a_al HM ?_; clear HM; intro bk w1 HM)); have hle2 := Rt.divInt_le (p := z2) (q := 1) (by omega); rw [← hx.out] at hle2; obtain ⟨hT, hg⟩ := HM.done (by ((repeat (first | exact Look.here | refine Look.there ?_)); done)) HC.out H0.out hle0; refine bodyPost_ret (r_c rfl rfl (HM.get (by ((repeat (first | exact Look.here | refine Look.there ?_)); done))) (la_rz _ _)) rfl ⟨x, by rw [qA_rZ], by omega, by omega, hT.mono (by omega), hg⟩)
  ·have hgn : ((g : Int) == 0) = false := by rw [hg.out]; simpa using h0
   go_upto_region 5 with (first | (go_at_call 58; ((with_reducible refine (rabs_z z y lz hy _).mono ?_); rintro e9 w2 ⟨rfl, hL⟩; replace HM := HM.call hL; clear hL)) | (go_at_call 60; ((with_reducible refine (rsign_z y g ly hg _).mono ?_); rintro e9 w2 ⟨rfl, hL⟩; replace HM := HM.call hL; clear hL)) | (first | ((with_reducible refine g_ld ?_); refine a_ld HM ?_) | ((with_reducible refine g_st ?_); refine a_st HM ?_; clear HM; intro w1 HM) | ((with_reducible refine g_al ?_); refine a_al HM ?_; clear HM; intro bk w1 HM)))
   have ld : (y : Int).natAbs < Bg.lim := by omega
   refine start_M2 [8] HM ((Sub.keep (Sub.keep Sub.nil))) (by kernel_rfl) (fun w0x H9 => ?_)
   replace HM := H9; clear H9
   refine k_mv 0 (heldE HM) ?_
   refine k_ld 2 [3, 4, 5, 6, 8, 9] (heldE HM) ?_
   refine j_two 1 7 ?_ ?_
   ·refine o_callg (int_any W tb _ 200 _ (HM.tp (by ((repeat (first | exact Look.here | refine Look.there ?_)); done)) HC.out H0.out hle) (by omega) (by omega) (by omega)) rfl ?_ ?_; (focus (refine h_call2 (ts := ?_) (x1 := ?_) (x2 := ?_) ?_ (by kernel_rfl) ?_ ?_; rotate_left 3; (focus rfl); (focus rfl); rfl)); rintro e9 w1 ⟨z2, rfl, hz2, ⟨c1, hb1, hc1, -, -⟩, hg9⟩; replace HM := HM.put (c' := c1) (by (repeat (first | exact At.here | apply At.there))) hb1 (Only.of_grown hg9); clear hg9 hb1; replace HC := Lib.hid hc1; clear hc1; obtain ⟨x, hx⟩ : ∃ x : Rat, Hid (x = Rat.divInt z2 (y)) := ⟨_, rfl⟩; have HR := rmake_z z2 (y) x.num x.den 0 (by omega) ld (Rt.mk_q (by omega) (by omega) (by omega) hx.out); have hs := sa_rz x.num x.den (rZ_size 0 0); have hl := la_rz x.num x.den; refine ⟨_, rfl, ?_⟩
    refine ⟨(heldE HM), ?_⟩; ((try simp only [List.setIfInBounds_toArray]); (try simp only [List.set_cons_succ]); (try simp only [List.set_cons_zero]))
    refine j_two 3 7 ?_ ?_
    ·refine j_call2 (v := ?_) HM ?_ ?_; rotate_left 1; (focus (with_reducible (exact (HR _)))); clear HM; intro w1 HM
     refine ⟨(heldE HM), ?_⟩
     refine k_mv 4 (heldE HM) ?_
     refine k_ext 5 (heldE HM) ?_
     refine k_ext 6 (heldE HM) ?_
     refine j_one 7 fun K9 hK9 => ?_
     refine j_al HM ?_; clear HM; intro bk w1 HM
     refine hK9 _ _ (heldE HM) ?_; clear hK9 K9
     refine j_one 8 fun K9 hK9 => ?_
     refine j_st HM ?_; clear HM; intro w1 HM
     refine hK9 _ _ heldN ?_; clear hK9 K9
     refine k_mv 9 heldN ?_
     refine wpAnyL_done (by kernel_rfl) ?_ _
     (go_wp2_with (first | ((with_reducible refine g_ld ?_); refine a_ld HM ?_) | ((with_reducible refine g_st ?_); refine a_st HM ?_; clear HM; intro w1 HM) | ((with_reducible refine g_al ?_); refine a_al HM ?_; clear HM; intro bk w1 HM)); have hle2 := Rt.divInt_le (p := z2) (q := y) (by omega); rw [← hx.out] at hle2; obtain ⟨hT, hg⟩ := HM.done (by ((repeat (first | exact Look.here | refine Look.there ?_)); done)) HC.out H0.out hle0; refine bodyPost_ret (r_c rfl rfl (HM.get (by ((repeat (first | exact Look.here | refine Look.there ?_)); done))) (la_rz _ _)) rfl ⟨x, by rw [qA_rZ], by omega, by omega, hT.mono (by omega), hg⟩)
    ·refine j_al HM ?_; clear HM; intro bk w1 HM
     refine ⟨(heldE HM), ?_⟩
     refine j_one 3 fun K9 hK9 => ?_
     refine j_call2 (v := ?_) HM ?_ ?_; rotate_left 1; (focus (with_reducible (exact (HR _)))); clear HM; intro w1 HM
     refine hK9 _ _ (heldE HM) ?_; clear hK9 K9
     refine k_mv 4 (heldE HM) ?_
     refine k_ext 5 (heldE HM) ?_
     refine k_ext 6 (heldE HM) ?_
     refine j_one 8 fun K9 hK9 => ?_
     refine j_st HM ?_; clear HM; intro w1 HM
     refine hK9 _ _ heldN ?_; clear hK9 K9
     refine k_mv 9 heldN ?_
     refine wpAnyL_done (by kernel_rfl) ?_ _
     (go_wp2_with (first | ((with_reducible refine g_ld ?_); refine a_ld HM ?_) | ((with_reducible refine g_st ?_); refine a_st HM ?_; clear HM; intro w1 HM) | ((with_reducible refine g_al ?_); refine a_al HM ?_; clear HM; intro bk w1 HM)); have hle2 := Rt.divInt_le (p := z2) (q := y) (by omega); rw [← hx.out] at hle2; obtain ⟨hT, hg⟩ := HM.done (by ((repeat (first | exact Look.here | refine Look.there ?_)); done)) HC.out H0.out hle0; refine bodyPost_ret (r_c rfl rfl (HM.get (by ((repeat (first | exact Look.here | refine Look.there ?_)); done))) (la_rz _ _)) rfl ⟨x, by rw [qA_rZ], by omega, by omega, hT.mono (by omega), hg⟩)
   ·refine j_al HM ?_; clear HM; intro bk w1 HM
    refine ⟨(heldE HM), ?_⟩
    refine j_one 1 fun K9 hK9 => ?_
    refine o_callg (int_any W tb _ 200 _ (HM.tp (by ((repeat (first | exact Look.here | refine Look.there ?_)); done)) HC.out H0.out hle) (by omega) (by omega) (by omega)) rfl ?_ ?_; (focus (refine h_call2 (ts := ?_) (x1 := ?_) (x2 := ?_) ?_ (by kernel_rfl) ?_ ?_; rotate_left 3; (focus rfl); (focus rfl); rfl)); rintro e9 w1 ⟨z2, rfl, hz2, ⟨c1, hb1, hc1, -, -⟩, hg9⟩; replace HM := HM.put (c' := c1) (by (repeat (first | exact At.here | apply At.there))) hb1 (Only.of_grown hg9); clear hg9 hb1; replace HC := Lib.hid hc1; clear hc1; obtain ⟨x, hx⟩ : ∃ x : Rat, Hid (x = Rat.divInt z2 (y)) := ⟨_, rfl⟩; have HR := rmake_z z2 (y) x.num x.den 0 (by omega) ld (Rt.mk_q (by omega) (by omega) (by omega) hx.out); have hs := sa_rz x.num x.den (rZ_size 0 0); have hl := la_rz x.num x.den; refine ⟨_, rfl, ?_⟩
    refine hK9 _ _ (heldE HM) ?_; clear hK9 K9; ((try simp only [List.setIfInBounds_toArray]); (try simp only [List.set_cons_succ]); (try simp only [List.set_cons_zero]))
    refine j_one 3 fun K9 hK9 => ?_
    refine j_call2 (v := ?_) HM ?_ ?_; rotate_left 1; (focus (with_reducible (exact (HR _)))); clear HM; intro w1 HM
    refine hK9 _ _ (heldE HM) ?_; clear hK9 K9
    refine k_mv 4 (heldE HM) ?_
    refine k_ext 5 (heldE HM) ?_
    refine k_ext 6 (heldE HM) ?_
    refine j_one 8 fun K9 hK9 => ?_
    refine j_st HM ?_; clear HM; intro w1 HM
    refine hK9 _ _ heldN ?_; clear hK9 K9
    refine k_mv 9 heldN ?_
    refine wpAnyL_done (by kernel_rfl) ?_ _
    (go_wp2_with (first | ((with_reducible refine g_ld ?_); refine a_ld HM ?_) | ((with_reducible refine g_st ?_); refine a_st HM ?_; clear HM; intro w1 HM) | ((with_reducible refine g_al ?_); refine a_al HM ?_; clear HM; intro bk w1 HM)); have hle2 := Rt.divInt_le (p := z2) (q := y) (by omega); rw [← hx.out] at hle2; obtain ⟨hT, hg⟩ := HM.done (by ((repeat (first | exact Look.here | refine Look.there ?_)); done)) HC.out H0.out hle0; refine bodyPost_ret (r_c rfl rfl (HM.get (by ((repeat (first | exact Look.here | refine Look.there ?_)); done))) (la_rz _ _)) rfl ⟨x, by rw [qA_rZ], by omega, by omega, hT.mono (by omega), hg⟩)
 | false =>
  go_wp2_with (first | ((with_reducible refine g_ld ?_); refine a_ld HM ?_) | ((with_reducible refine g_st ?_); refine a_st HM ?_; clear HM; intro w1 HM) | ((with_reducible refine g_al ?_); refine a_al HM ?_; clear HM; intro bk w1 HM))
  (refine (range_any W tb _ (-200) (400) _ (HM.tp (by ((repeat (first | exact Look.here | refine Look.there ?_)); done)) HC.out H0.out hle) (by omega) (by omega) (by omega) (by omega)).mono ?_; rintro e9 w2 ⟨v, rfl, hv0, hv1, ⟨c1, hb1, hc1, -, -⟩, hg⟩; replace HM := HM.put (c' := c1) (by (repeat (first | exact At.here | apply At.there))) hb1 (Only.of_grown hg); clear hg hb1; replace HC := Lib.hid hc1; clear hc1)
  go_wp2_with fail
  (refine (pick_new (tb := tb) (W := W) HM (by ((repeat (first | exact Look.here | refine Look.there ?_)); done)) HC.out H0.out (by first | exact hle | simpa using hle) [1, 1, 1, 1000, 1000003] _ (by omega) (by simp) (by simp)).mono ?_; rintro e9 w2 ⟨v1, c1, rfl, hv, hc1, hb1, hg⟩; replace HM := HM.put (c' := c1) (by (repeat (first | exact At.here | apply At.there))) hb1 hg; clear hg hb1; replace HC := Lib.hid hc1; clear hc1)
  obtain ⟨u, hu⟩ : ∃ u, v * v1 = u := ⟨_, rfl⟩
  have hub : -200000600 ≤ u ∧ u ≤ 400001200 := by
   simp only [List.mem_cons, List.not_mem_nil, or_false] at hv
   rcases hv with rfl | rfl | rfl | rfl | rfl <;> omega
  obtain ⟨hu1, hu2⟩ := hub
  have hw : IntKind.i64.wrap (v * v1) = u := by rw [hu]; exact IntWalk.i64_in _ (by omega)
  clear hv
  go_wp2_with fail
  (refine (pick_new (tb := tb) (W := W) HM (by ((repeat (first | exact Look.here | refine Look.there ?_)); done)) HC.out H0.out (by first | exact hle | simpa using hle) [1, 1, 2, 3, 4, 7, 10, 12, 100, 365, 366, 1000, 1000000] _ (by omega) (by simp) (by simp)).mono ?_; rintro e9 w2 ⟨v1, c1, rfl, hv, hc1, hb1, hg⟩; replace HM := HM.put (c' := c1) (by (repeat (first | exact At.here | apply At.there))) hb1 hg; clear hg hb1; replace HC := Lib.hid hc1; clear hc1)
  have hdb : 1 ≤ v1 ∧ v1 ≤ 1000000 := by
   simp only [List.mem_cons, List.not_mem_nil, or_false] at hv
   omega
  obtain ⟨hd1, hd2⟩ := hdb
  clear hv
  obtain ⟨x, hx⟩ : ∃ x : Rat, Hid (x = Rat.divInt u v1) := ⟨_, rfl⟩
  have hs := sa_q x (rZ_size 0 0)
  have hl := la_q x
  have hle2 := Rt.divInt_le (p := u) (q := v1) (by omega)
  rw [← hx.out] at hle2
  go_wp2_with (first | (go_at_call 27; ((with_reducible refine (mkof_q u v1 x (by omega) (by omega) (by omega) (by omega) (by omega) hx _).mono ?_); rintro e9 w2 ⟨rfl, hL⟩; replace HM := HM.call hL; clear hL)) | (first | ((with_reducible refine g_ld ?_); refine a_ld HM ?_) | ((with_reducible refine g_st ?_); refine a_st HM ?_; clear HM; intro w1 HM) | ((with_reducible refine g_al ?_); refine a_al HM ?_; clear HM; intro bk w1 HM)))
  obtain ⟨hT, hg⟩ := HM.done (by ((repeat (first | exact Look.here | refine Look.there ?_)); done)) HC.out H0.out hle0
  refine bodyPost_ret (r_c rfl rfl (HM.get (by ((repeat (first | exact Look.here | refine Look.there ?_)); done))) (la_q _)) rfl ⟨x, rfl, by omega, by omega, hT.mono (by omega), hg⟩
set_option maxRecDepth 20000 in
set_option maxHeartbeats 2000000 in
theorem long_any (W : World) (tb m : Nat) (w : World) (hT : Tp W tb m w) (hm : m ≤ 800000000) :
    Calls Tryz.prog 28 #[.pointer (some ⟨tb, 0, none⟩)] w (RatPost W tb (m + 1000) 480 w) := by
 obtain ⟨cs, hb, hc, h0, hle0⟩ := hT
 have HM := Mem.start1 w hb
 have HC := Lib.hid hc
 have H0 := Lib.hid h0
 have hz0 := za_rat
 have hle : ∀ b ∈ [tb], W.heap.size ≤ b := by simpa using hle0
 clear hb hc h0
 have p480 : 1 ≤ Bg.p2 480 := Bg.p2_pos _
 have p200 : Bg.p2 200 ≤ Bg.p2 480 := Bg.p2_mono (by decide)
 have l480 : Bg.p2 480 ≤ Bg.lim := by have := Bg.p2_mono (show 480 ≤ 1024 by decide); rwa [Bg.p2_lim] at this
 go_enter Tryz.func28, Tryz.ntmps28
 go_wp2_with (first | ((with_reducible refine g_ld ?_); refine a_ld HM ?_) | ((with_reducible refine g_st ?_); refine a_st HM ?_; clear HM; intro w1 HM) | ((with_reducible refine g_al ?_); refine a_al HM ?_; clear HM; intro bk w1 HM))
 obtain ⟨b2, rfl⟩ := HM.nm0
 go_loopw [3] (fun i wr => ∃ (j q : Nat) (c : Array Value), i = .int .i64 (j : Nat) ∧ j ≤ 4 ∧ q ≤ m + 100 * j ∧ Hid (TapeC W q c) ∧ Mem w [tb] [(b2, Bg.rZ 0 0), (tb, c)] wr) (fun i _ => 4 - (intOf i).toNat)
 case atStart => exact ⟨0, m, _, rfl, by omega, by omega, HC, HM⟩
 case round =>
  obtain ⟨j, q, c, rfl, hj, hq, HC, HM⟩ := hrel
  by_cases hlt : j < 4
  ·go_wp2_with (first | ((with_reducible refine g_ld ?_); refine a_ld HM ?_) | ((with_reducible refine g_st ?_); refine a_st HM ?_; clear HM; intro w1 HM) | ((with_reducible refine g_al ?_); refine a_al HM ?_; clear HM; intro bk w1 HM))
   (refine (int_any W tb _ 480 _ (HM.tp (by ((repeat (first | exact Look.here | refine Look.there ?_)); done)) HC.out H0.out hle) (by omega) (by omega) (by omega)).mono ?_; rintro e9 w2 ⟨z, rfl, hz, ⟨c1, hb1, hc1, -, -⟩, hg9⟩; replace HM := HM.put (c' := c1) (by (repeat (first | exact At.here | apply At.there))) hb1 (Only.of_grown hg9); clear hg9 hb1; replace HC := Lib.hid hc1; clear hc1)
   have lz : z.natAbs < Bg.lim := by omega
   obtain ⟨y, hy⟩ : ∃ y : Int, Hid (y = (z.natAbs : Int)) := ⟨_, rfl⟩
   have ly : y.natAbs < Bg.lim := by have := hy.out; omega
   have ly2 : y.natAbs < Bg.p2 480 := by have := hy.out; omega
   obtain ⟨g, hg⟩ : ∃ g : Int, Hid (g = y.sign) := ⟨_, rfl⟩
   by_cases h0 : y = 0
   ·subst h0
    have hg0 : g = 0 := by rw [hg.out]; rfl
    subst hg0
    go_wp2_with (first | (go_at_call 58; ((with_reducible refine (rabs_z z 0 lz hy _).mono ?_); rintro e9 w2 ⟨rfl, hL⟩; replace HM := HM.call hL; clear hL)) | (go_at_call 60; ((with_reducible refine (rsign_z 0 0 ly hg _).mono ?_); rintro e9 w2 ⟨rfl, hL⟩; replace HM := HM.call hL; clear hL)) | (first | ((with_reducible refine g_ld ?_); refine a_ld HM ?_) | ((with_reducible refine g_st ?_); refine a_st HM ?_; clear HM; intro w1 HM) | ((with_reducible refine g_al ?_); refine a_al HM ?_; clear HM; intro bk w1 HM)))
    go_roundw
    case rel => exact ⟨j + 1, _, _, by go_num, by omega, by omega, HC, HM.less (by (repeat (first | exact Sub.nil | refine Sub.keep ?_ | refine Sub.skip ?_)))⟩
    case measure => simp [intOf]; omega
   ·have hgn : ((g : Int) == 0) = false := by rw [hg.out]; simpa using h0
    have hgn2 : ((g : Int) != 0) = true := by simp [bne, hgn]
    go_upto_region 6 with (first | (go_at_call 58; ((with_reducible refine (rabs_z z y lz hy _).mono ?_); rintro e9 w2 ⟨rfl, hL⟩; replace HM := HM.call hL; clear hL)) | (go_at_call 60; ((with_reducible refine (rsign_z y g ly hg _).mono ?_); rintro e9 w2 ⟨rfl, hL⟩; replace HM := HM.call hL; clear hL)) | (first | ((with_reducible refine g_ld ?_); refine a_ld HM ?_) | ((with_reducible refine g_st ?_); refine a_st HM ?_; clear HM; intro w1 HM) | ((with_reducible refine g_al ?_); refine a_al HM ?_; clear HM; intro bk w1 HM)))
    have ld : (y : Int).natAbs < Bg.lim := by omega
    refine start_M2 [8] HM ((Sub.keep (Sub.keep Sub.nil))) (by kernel_rfl) (fun w0x H9 => ?_)
    replace HM := H9; clear H9
    refine k_mv 0 (heldE HM) ?_
    refine k_ld 2 [3, 4, 5, 6, 8, 9] (heldE HM) ?_
    refine j_two 1 7 ?_ ?_
    ·refine o_callg (int_any W tb _ 480 _ (HM.tp (by ((repeat (first | exact Look.here | refine Look.there ?_)); done)) HC.out H0.out hle) (by omega) (by omega) (by omega)) rfl ?_ ?_; (focus (refine h_call2 (ts := ?_) (x1 := ?_) (x2 := ?_) ?_ (by kernel_rfl) ?_ ?_; rotate_left 3; (focus rfl); (focus rfl); rfl)); rintro e9 w1 ⟨z2, rfl, hz2, ⟨c1, hb1, hc1, -, -⟩, hg9⟩; replace HM := HM.put (c' := c1) (by (repeat (first | exact At.here | apply At.there))) hb1 (Only.of_grown hg9); clear hg9 hb1; replace HC := Lib.hid hc1; clear hc1; obtain ⟨x, hx⟩ : ∃ x : Rat, Hid (x = Rat.divInt z2 (y)) := ⟨_, rfl⟩; have HR := rmake_z z2 (y) x.num x.den 0 (by omega) ld (Rt.mk_q (by omega) (by omega) (by omega) hx.out); have hs := sa_rz x.num x.den (rZ_size 0 0); have hl := la_rz x.num x.den; refine ⟨_, rfl, ?_⟩
     refine ⟨(heldE HM), ?_⟩; ((try simp only [List.setIfInBounds_toArray]); (try simp only [List.set_cons_succ]); (try simp only [List.set_cons_zero]))
     refine j_two 3 7 ?_ ?_
     ·refine j_call2 (v := ?_) HM ?_ ?_; rotate_left 1; (focus (with_reducible (exact (HR _)))); clear HM; intro w1 HM
      refine ⟨(heldE HM), ?_⟩
      refine k_mv 4 (heldE HM) ?_
      refine k_ext 5 (heldE HM) ?_
      refine k_ext 6 (heldE HM) ?_
      refine j_one 7 fun K9 hK9 => ?_
      refine j_al HM ?_; clear HM; intro bk w1 HM
      refine hK9 _ _ (heldE HM) ?_; clear hK9 K9
      refine j_one 8 fun K9 hK9 => ?_
      refine j_st HM ?_; clear HM; intro w1 HM
      refine hK9 _ _ heldN ?_; clear hK9 K9
      refine k_mv 9 heldN ?_
      refine wpAnyL_done (by kernel_rfl) ?_ _
      (go_wp2_with (first | ((with_reducible refine g_ld ?_); refine a_ld HM ?_) | ((with_reducible refine g_st ?_); refine a_st HM ?_; clear HM; intro w1 HM) | ((with_reducible refine g_al ?_); refine a_al HM ?_; clear HM; intro bk w1 HM)); have hle2 := Rt.divInt_le (p := z2) (q := y) (by omega); rw [← hx.out] at hle2; obtain ⟨hT, hg⟩ := HM.done (by ((repeat (first | exact Look.here | refine Look.there ?_)); done)) HC.out H0.out hle0; refine bodyPost_ret (r_c rfl rfl (HM.get (by ((repeat (first | exact Look.here | refine Look.there ?_)); done))) (la_rz _ _)) rfl ⟨x, by rw [qA_rZ], by omega, by omega, hT.mono (by omega), hg⟩)
     ·refine j_al HM ?_; clear HM; intro bk w1 HM
      refine ⟨(heldE HM), ?_⟩
      refine j_one 3 fun K9 hK9 => ?_
      refine j_call2 (v := ?_) HM ?_ ?_; rotate_left 1; (focus (with_reducible (exact (HR _)))); clear HM; intro w1 HM
      refine hK9 _ _ (heldE HM) ?_; clear hK9 K9
      refine k_mv 4 (heldE HM) ?_
      refine k_ext 5 (heldE HM) ?_
      refine k_ext 6 (heldE HM) ?_
      refine j_one 8 fun K9 hK9 => ?_
      refine j_st HM ?_; clear HM; intro w1 HM
      refine hK9 _ _ heldN ?_; clear hK9 K9
      refine k_mv 9 heldN ?_
      refine wpAnyL_done (by kernel_rfl) ?_ _
      (go_wp2_with (first | ((with_reducible refine g_ld ?_); refine a_ld HM ?_) | ((with_reducible refine g_st ?_); refine a_st HM ?_; clear HM; intro w1 HM) | ((with_reducible refine g_al ?_); refine a_al HM ?_; clear HM; intro bk w1 HM)); have hle2 := Rt.divInt_le (p := z2) (q := y) (by omega); rw [← hx.out] at hle2; obtain ⟨hT, hg⟩ := HM.done (by ((repeat (first | exact Look.here | refine Look.there ?_)); done)) HC.out H0.out hle0; refine bodyPost_ret (r_c rfl rfl (HM.get (by ((repeat (first | exact Look.here | refine Look.there ?_)); done))) (la_rz _ _)) rfl ⟨x, by rw [qA_rZ], by omega, by omega, hT.mono (by omega), hg⟩)
    ·refine j_al HM ?_; clear HM; intro bk w1 HM
     refine ⟨(heldE HM), ?_⟩
     refine j_one 1 fun K9 hK9 => ?_
     refine o_callg (int_any W tb _ 480 _ (HM.tp (by ((repeat (first | exact Look.here | refine Look.there ?_)); done)) HC.out H0.out hle) (by omega) (by omega) (by omega)) rfl ?_ ?_; (focus (refine h_call2 (ts := ?_) (x1 := ?_) (x2 := ?_) ?_ (by kernel_rfl) ?_ ?_; rotate_left 3; (focus rfl); (focus rfl); rfl)); rintro e9 w1 ⟨z2, rfl, hz2, ⟨c1, hb1, hc1, -, -⟩, hg9⟩; replace HM := HM.put (c' := c1) (by (repeat (first | exact At.here | apply At.there))) hb1 (Only.of_grown hg9); clear hg9 hb1; replace HC := Lib.hid hc1; clear hc1; obtain ⟨x, hx⟩ : ∃ x : Rat, Hid (x = Rat.divInt z2 (y)) := ⟨_, rfl⟩; have HR := rmake_z z2 (y) x.num x.den 0 (by omega) ld (Rt.mk_q (by omega) (by omega) (by omega) hx.out); have hs := sa_rz x.num x.den (rZ_size 0 0); have hl := la_rz x.num x.den; refine ⟨_, rfl, ?_⟩
     refine hK9 _ _ (heldE HM) ?_; clear hK9 K9; ((try simp only [List.setIfInBounds_toArray]); (try simp only [List.set_cons_succ]); (try simp only [List.set_cons_zero]))
     refine j_one 3 fun K9 hK9 => ?_
     refine j_call2 (v := ?_) HM ?_ ?_; rotate_left 1; (focus (with_reducible (exact (HR _)))); clear HM; intro w1 HM
     refine hK9 _ _ (heldE HM) ?_; clear hK9 K9
     refine k_mv 4 (heldE HM) ?_
     refine k_ext 5 (heldE HM) ?_
     refine k_ext 6 (heldE HM) ?_
     refine j_one 8 fun K9 hK9 => ?_
     refine j_st HM ?_; clear HM; intro w1 HM
     refine hK9 _ _ heldN ?_; clear hK9 K9
     refine k_mv 9 heldN ?_
     refine wpAnyL_done (by kernel_rfl) ?_ _
     (go_wp2_with (first | ((with_reducible refine g_ld ?_); refine a_ld HM ?_) | ((with_reducible refine g_st ?_); refine a_st HM ?_; clear HM; intro w1 HM) | ((with_reducible refine g_al ?_); refine a_al HM ?_; clear HM; intro bk w1 HM)); have hle2 := Rt.divInt_le (p := z2) (q := y) (by omega); rw [← hx.out] at hle2; obtain ⟨hT, hg⟩ := HM.done (by ((repeat (first | exact Look.here | refine Look.there ?_)); done)) HC.out H0.out hle0; refine bodyPost_ret (r_c rfl rfl (HM.get (by ((repeat (first | exact Look.here | refine Look.there ?_)); done))) (la_rz _ _)) rfl ⟨x, by rw [qA_rZ], by omega, by omega, hT.mono (by omega), hg⟩)
  ·obtain rfl : j = 4 := by omega
   go_wp2_with (first | ((with_reducible refine g_ld ?_); refine a_ld HM ?_) | ((with_reducible refine g_st ?_); refine a_st HM ?_; clear HM; intro w1 HM) | ((with_reducible refine g_al ?_); refine a_al HM ?_; clear HM; intro bk w1 HM))
   refine (ratio_any W tb q _ (HM.tp (by ((repeat (first | exact Look.here | refine Look.there ?_)); done)) HC.out H0.out hle) (by omega)).mono ?_
   rintro e9 w2 ⟨x, rfl, hx1, hx2, ⟨c1, hb1, hc1, -, -⟩, hg⟩
   replace HM := HM.put (c' := c1) (by (repeat (first | exact At.here | apply At.there))) hb1 (Only.of_grown hg)
   clear hg hb1
   replace HC := Lib.hid hc1
   clear hc1
   have hs := sa_q x (rZ_size 0 0)
   go_wp2_with (first | ((with_reducible refine g_ld ?_); refine a_ld HM ?_) | ((with_reducible refine g_st ?_); refine a_st HM ?_; clear HM; intro w1 HM) | ((with_reducible refine g_al ?_); refine a_al HM ?_; clear HM; intro bk w1 HM))
   obtain ⟨hT, hg⟩ := HM.done (by ((repeat (first | exact Look.here | refine Look.there ?_)); done)) HC.out H0.out hle0
   refine bodyPost_ret (r_c rfl rfl (HM.get (by ((repeat (first | exact Look.here | refine Look.there ?_)); done))) (la_q _)) rfl ⟨x, rfl, by omega, by omega, hT.mono (by omega), hg⟩
end Go.Proofs.YtmbjaaaeekacfaaGreatDoor
namespace Go.Proofs.YtmbjaaaeekacfaaGreatDoor
set_option maxRecDepth 8000
open Go.RowKit
theorem rfloor_q (x : Rat) (n : Int) (hx : Rt.Fit x) (hn : Hid (n = x.floor)) (w : World) :
    Calls Tryz.prog 95 #[.agg (Rt.qA x)] w fun r w' => r = .returned (.tuple #[.agg (Bg.zA n), .int .i64 0]) ∧ Below w.heap.size w w' := by
 rw [qA_rZ, rZ_ratA]
 exact rFloor_g _ _ _ _ n 0 (Lib.hid (by rw [Bg.toZ_iv, Bg.toZ_iv, show Rt.ok _ _ _ _ = true from hx.okz, hn.out, Rat.floor_def]; rfl)) hx.ln hx.ld w
theorem sign_q (x : Rat) (n : Int) (hx : Rt.Fit x) (hn : Hid (n = x.num.sign)) (w : World) :
    Calls Tryz.prog 77 #[.agg (Rt.qA x)] w fun r w' => r = .returned (.tuple #[.int .i64 n, .int .i64 0]) ∧ Below w.heap.size w w' := by
 rw [qA_rZ, rZ_ratA]
 exact Sign_g _ _ _ _ n 0 (Lib.hid (by rw [Bg.toZ_iv, show Rt.ok _ _ _ _ = true from hx.okz, hn.out]; rfl)) hx.ln hx.ld w
def Rt.abs (x : Rat) : Rat := ⟨x.num.natAbs, x.den, x.den_nz, by simpa using x.reduced⟩
theorem valid_q (x : Rat) (hx : Rt.Fit x) (w : World) :
    Calls Tryz.prog 73 #[.agg (Rt.qA x)] w fun r w' => r = .returned (.bool true) ∧ Below w.heap.size w w' := by
 rw [qA_rZ]; exact valid_z _ _ true hx.ln hx.ld (Lib.hid hx.okz.symm) w
theorem rvalid_q (x : Rat) (hx : Rt.Fit x) (w : World) :
    Calls Tryz.prog 65 #[.agg (Rt.qA x)] w fun r w' => r = .returned (.bool true) ∧ Below w.heap.size w w' := by
 rw [qA_rZ]; exact rvalid_z _ _ true hx.ln hx.ld (Lib.hid hx.okz.symm) w
theorem make_q (p q : Int) (x : Rat) (h0 : q ≠ 0) (hp : p.natAbs < Bg.p2 480) (hq : q.natAbs < Bg.p2 480) (hx : Hid (x = Rat.divInt p q)) (w : World) :
    Calls Tryz.prog 45 #[.agg (Bg.zA p), .agg (Bg.zA q)] w fun r w' => r = .returned (.tuple #[.agg (Rt.qA x), .int .i64 0]) ∧ Below w.heap.size w w' := by
 rw [qA_rZ]
 exact make_z p q _ _ 0 (lt480_lim hp) (lt480_lim hq) (Rt.mk_q h0 hp hq hx.out) w
theorem Rt.int_divInt (n : Int) : (n : Rat) = Rat.divInt n 1 := by
 apply Rat.ext
 ·rw [Rat.num_intCast, Rat.num_divInt]; simp
 ·rw [Rat.den_intCast, Rat.den_divInt]; simp
theorem whole_q (n : Int) (x : Rat) (hn1 : -9223372036854775808 ≤ n) (hn2 : n < 9223372036854775808) (hx : Hid (x = (n : Rat))) (w : World) :
    Calls Tryz.prog 41 #[.int .i64 n] w fun r w' => r = .returned (.agg (Rt.qA x)) ∧ Below w.heap.size w w' := by
 rw [hx.out, qA_rZ, Rat.num_intCast, Rat.den_intCast]
 exact whole_w n hn1 hn2 w
theorem rwhole_q (n : Int) (x : Rat) (hn1 : -9223372036854775808 ≤ n) (hn2 : n < 9223372036854775808) (hx : Hid (x = (n : Rat))) (w : World) :
    Calls Tryz.prog 33 #[.int .i64 n] w fun r w' => r = .returned (.agg (Rt.qA x)) ∧ Below w.heap.size w w' := by
 rw [hx.out, qA_rZ, Rat.num_intCast, Rat.den_intCast]
 exact rwhole_w n hn1 hn2 w
section
variable {ops : Array Oper} {rest : List Oper} {a a2 : Act} {w : World} {Q : Exit → Act → World → Prop} {d : Option Tmp} {ty T t : TypeId} {ps : String} {af : Array Edge} {g : Option (Nat × Bool)} {x y : Operand} {v : Value} {xs : Array (Nat × Operand)} {bop : BinOp}
theorem Rt.dec_eq (x y : Rat) : decide (x.num = y.num ∧ (x.den : Int) = y.den) = decide (x = y) := decide_eq_decide.2 Rt.qA_eq
theorem a_cmpq (op : BinOp) (x1 y1 : Rat) (v : Bool) (he : op = .eql ∨ op = .neq) (hv : v = if op = .eql then decide (x1 = y1) else !decide (x1 = y1)) (h1 : Rt.Fit x1) (h2 : Rt.Fit y1) (h : wpList Tryz.prog ops Q rest a2 w) (hw : WantT ops { dst := d, op := .binOp op 27 x y t, type := ty, pos := ps, after := af, guard := g } a := by first | exact Or.inl rfl | exact Or.inr ⟨_, _, _, rfl, rfl, rfl⟩) (hx : a.eval x = .agg (Rt.qA x1) := by (conv => lhs; whnf) <;> rfl) (hy : a.eval y = .agg (Rt.qA y1) := by (conv => lhs; whnf) <;> rfl) (ha : a.put d (.bool v) = a2 := by ((try simp only [Act.put, List.setIfInBounds_toArray, List.set_cons_succ, List.set_cons_zero]) <;> rfl)) : OpG ops Q rest a w { dst := d, op := .binOp op 27 x y t, type := ty, pos := ps, after := af, guard := g } := by
 rw [qA_rZ] at hx hy
 exact m_cmpr op _ _ _ _ v he (by rw [hv, Rt.dec_eq]) h1.ln h1.ld h2.ln h2.ld hw hx hy (ha ▸ h)
theorem y_cmpq (op : BinOp) (x1 y1 : Rat) (v : Bool) (he : op = .eql ∨ op = .neq) (hv : v = if op = .eql then decide (x1 = y1) else !decide (x1 = y1)) (h1 : Rt.Fit x1) (h2 : Rt.Fit y1) {S : World → Prop} {o : Oper} (hw : Region.wanted o (yielded ops a.tmps) = true := by rfl) (ho : o.op = .binOp op 27 x y t := by rfl) (hx : a.eval x = .agg (Rt.qA x1) := by (conv => lhs; whnf) <;> rfl) (hy : a.eval y = .agg (Rt.qA y1) := by (conv => lhs; whnf) <;> rfl) :
    YieldsIf Tryz.prog ops S o (.bool v) a := by
 rw [qA_rZ] at hx hy
 exact y_cmpr op _ _ _ _ v he (by rw [hv, Rt.dec_eq]) h1.ln h1.ld h2.ln h2.ld hw ho hx hy
end
end Go.Proofs.YtmbjaaaeekacfaaGreatDoor
namespace Go.Proofs.YtmbjaaaeekacfaaGreatDoor
set_option maxRecDepth 8000
open Go.RowKit
structure Rt.Bd (x : Rat) (i j : Nat) : Prop where
 n : x.num.natAbs < Bg.p2 i
 d : x.den < Bg.p2 j
theorem Rt.Bd.fit {x : Rat} {i j : Nat} (h : Rt.Bd x i j) (hi : i ≤ 480 := by decide) (hj : j ≤ 480 := by decide) : Rt.Fit x :=
 ⟨Nat.lt_of_lt_of_le h.n (Bg.p2_mono hi), Nat.lt_of_lt_of_le h.d (Bg.p2_mono hj)⟩
theorem Rt.Bd.up {x : Rat} {i j i' j' : Nat} (h : Rt.Bd x i j) (hi : i ≤ i' := by decide) (hj : j ≤ j' := by decide) : Rt.Bd x i' j' :=
 ⟨Nat.lt_of_lt_of_le h.n (Bg.p2_mono hi), Nat.lt_of_lt_of_le h.d (Bg.p2_mono hj)⟩
theorem Rt.mul_p2 {p d : Int} {i j : Nat} (hp : p.natAbs < Bg.p2 i) (hd : d.natAbs < Bg.p2 j) : (p * d).natAbs < Bg.p2 (i + j) := by
 rw [Int.natAbs_mul, Bg.p2_add]; exact Nat.mul_lt_mul'' hp hd
theorem Rt.Bd.dn {x : Rat} {i j : Nat} (h : Rt.Bd x i j) : ((x.den : Nat) : Int).natAbs < Bg.p2 j := by rw [Int.natAbs_natCast]; exact h.d
theorem Rt.Bd.divInt {p q : Int} {i j : Nat} (h0 : q ≠ 0) (hp : p.natAbs < Bg.p2 i) (hq : q.natAbs < Bg.p2 j) : Rt.Bd (Rat.divInt p q) i j := by
 obtain ⟨l1, l2⟩ := Rt.divInt_le (p := p) h0
 exact ⟨by omega, by omega⟩
theorem Rt.Bd.add {x y : Rat} {i j i2 j2 : Nat} (hx : Rt.Bd x i j) (hy : Rt.Bd y i2 j2) : Rt.Bd (x + y) (max (i + j2) (i2 + j) + 1) (j + j2) := by
 rw [Rt.add_div]
 refine .divInt (Rt.den2_ne x y) ?_ (Rt.mul_p2 hx.dn hy.dn)
 have h1 := Nat.lt_of_lt_of_le (Rt.mul_p2 hx.n hy.dn) (Bg.p2_mono (Nat.le_max_left (i + j2) (i2 + j)))
 have h2 := Nat.lt_of_lt_of_le (Rt.mul_p2 hy.n hx.dn) (Bg.p2_mono (Nat.le_max_right (i + j2) (i2 + j)))
 rw [Bg.p2_succ]
 show (x.num * y.den + y.num * x.den).natAbs < _
 omega
theorem Rt.Bd.mul {x y : Rat} {i j i2 j2 : Nat} (hx : Rt.Bd x i j) (hy : Rt.Bd y i2 j2) : Rt.Bd (x * y) (i + i2) (j + j2) := by
 rw [Rt.mul_div]
 exact .divInt (Rt.den2_ne x y) (Rt.mul_p2 hx.n hy.n) (Rt.mul_p2 hx.dn hy.dn)
theorem Bg.p2_small {n : Nat} (k v : Nat) (hv : Bg.p2 k = v) (h : n < v) : n < Bg.p2 k := hv ▸ h
end Go.Proofs.YtmbjaaaeekacfaaGreatDoor
namespace Go.Proofs.YtmbjaaaeekacfaaGreatDoor
set_option maxRecDepth 8000
namespace Ac
def fl (x : Rat) : Int := x.num / x.den
def rm (x : Rat) : Int := x.num % x.den
def rhe (x : Rat) : Int := if 2 * rm x < x.den then fl x else if (x.den : Int) < 2 * rm x then fl x + 1 else if fl x % 2 = 1 then fl x + 1 else fl x
theorem den_pos (x : Rat) : (0 : Int) < x.den := by have := x.den_pos; omega
theorem rm_in (x : Rat) : 0 ≤ rm x ∧ rm x < x.den := ⟨Int.emod_nonneg _ (Int.ne_of_gt (den_pos x)), Int.emod_lt_of_pos _ (den_pos x)⟩
theorem num_eq (x : Rat) : x.num = x.den * fl x + rm x := (Int.mul_ediv_add_emod _ _).symm
theorem den_pos' (x : Rat) : (0 : Rat) < (x.den : Rat) := by
 have h := den_pos x
 have e : ((x.den : Nat) : Rat) = (((x.den : Nat) : Int) : Rat) := rfl
 rw [e]
 exact_mod_cast Rat.intCast_lt_intCast.2 h
theorem val_eq (x : Rat) : x * (x.den : Rat) = (x.den : Rat) * (fl x : Rat) + (rm x : Rat) := by
 have h1 : x * (x.den : Rat) = (x.num : Rat) := by
  have h2 : x = (x.num : Rat) / (((x.den : Nat) : Int) : Rat) := by
   rw [← Rat.divInt_eq_div, Rat.num_divInt_den]
  have h3 : (((x.den : Nat) : Int) : Rat) ≠ 0 := Rat.ne_of_gt (den_pos' x)
  have h4 : ((x.den : Nat) : Rat) = (((x.den : Nat) : Int) : Rat) := rfl
  rw [h4]
  conv => lhs; lhs; rw [h2]
  exact Rat.div_mul_cancel h3
 rw [h1, num_eq x, Rat.intCast_add, Rat.intCast_mul]
 rfl
theorem fl_le (x : Rat) : (fl x : Rat) ≤ x := by
 have h1 := val_eq x
 have h2 := den_pos' x
 have h3 : (0 : Rat) ≤ (rm x : Rat) := by
  have := (rm_in x).1
  exact_mod_cast Rat.intCast_le_intCast.2 this
 have h4 : (x.den : Rat) * (fl x : Rat) ≤ (x.den : Rat) * x := by grind
 exact Rat.le_of_mul_le_mul_left h4 h2
theorem lt_fl (x : Rat) : x < (fl x : Rat) + 1 := by
 have h1 := val_eq x
 have h2 := den_pos' x
 have h3 : (rm x : Rat) < (x.den : Rat) := by
  have := (rm_in x).2
  exact_mod_cast Rat.intCast_lt_intCast.2 this
 have h4 : (x.den : Rat) * x < (x.den : Rat) * ((fl x : Rat) + 1) := by grind
 exact Rat.lt_of_mul_lt_mul_left h4 (Rat.le_of_lt h2)
theorem low_iff (x : Rat) : 2 * rm x < x.den ↔ 2 * x < 2 * (fl x : Rat) + 1 := by
 have h1 := val_eq x
 have h2 := den_pos' x
 have e : (2 * rm x < x.den) ↔ (2 : Rat) * (rm x : Rat) < (x.den : Rat) := by
  have : ((2 * rm x : Int) : Rat) = (2 : Rat) * (rm x : Rat) := by rw [Rat.intCast_mul]; rfl
  rw [← this]
  exact Rat.intCast_lt_intCast.symm
 rw [e]
 constructor
 ·intro h
  have h4 : (x.den : Rat) * (2 * x) < (x.den : Rat) * (2 * (fl x : Rat) + 1) := by grind
  exact Rat.lt_of_mul_lt_mul_left h4 (Rat.le_of_lt h2)
 ·intro h
  have h4 := Rat.mul_lt_mul_of_pos_left h h2
  grind
theorem high_iff (x : Rat) : (x.den : Int) < 2 * rm x ↔ 2 * (fl x : Rat) + 1 < 2 * x := by
 have h1 := val_eq x
 have h2 := den_pos' x
 have e : ((x.den : Int) < 2 * rm x) ↔ (x.den : Rat) < (2 : Rat) * (rm x : Rat) := by
  have : ((2 * rm x : Int) : Rat) = (2 : Rat) * (rm x : Rat) := by rw [Rat.intCast_mul]; rfl
  rw [← this]
  exact Rat.intCast_lt_intCast.symm
 rw [e]
 constructor
 ·intro h
  have h4 : (x.den : Rat) * (2 * (fl x : Rat) + 1) < (x.den : Rat) * (2 * x) := by grind
  exact Rat.lt_of_mul_lt_mul_left h4 (Rat.le_of_lt h2)
 ·intro h
  have h4 := Rat.mul_lt_mul_of_pos_left h h2
  grind
theorem int_lt_of {a b : Int} (h : (a : Rat) < (b : Rat) + 1) : a ≤ b := by
 have e : ((b + 1 : Int) : Rat) = (b : Rat) + 1 := by rw [Rat.intCast_add]; rfl
 rw [← e] at h
 have := Rat.intCast_lt_intCast.1 h
 omega
theorem fl_mono {x y : Rat} (h : x ≤ y) : fl x ≤ fl y := int_lt_of (by
 have h1 := fl_le x
 have h2 := lt_fl y
 grind)
theorem rhe_ge (x : Rat) : fl x ≤ rhe x ∧ rhe x ≤ fl x + 1 := by
 unfold rhe
 split
 ·omega
 ·split
  ·omega
  ·split <;> omega
theorem rhe_mono {x y : Rat} (h : x ≤ y) : rhe x ≤ rhe y := by
 have h1 := fl_mono h
 have h2 := rhe_ge x
 have h3 := rhe_ge y
 by_cases e : fl x = fl y
 ·by_cases hx : 2 * rm x < x.den
  ·have : rhe x = fl x := if_pos hx
   omega
  ·by_cases hy : (y.den : Int) < 2 * rm y
   ·have hy2 : ¬ 2 * rm y < y.den := by omega
    have : rhe y = fl y + 1 := by unfold rhe; rw [if_neg hy2, if_pos hy]
    omega
   ·have k1 : ¬ (2 * x < 2 * (fl x : Rat) + 1) := fun k => hx ((low_iff x).2 k)
    have k2 : ¬ (2 * (fl y : Rat) + 1 < 2 * y) := fun k => hy ((high_iff y).2 k)
    rw [← e] at k2
    have k3 : ¬ (2 * (fl x : Rat) + 1 < 2 * x) := by grind
    have k4 : ¬ (2 * y < 2 * (fl y : Rat) + 1) := by rw [← e]; grind
    have hx2 : ¬ (x.den : Int) < 2 * rm x := fun k => k3 ((high_iff x).1 k)
    have hy2 : ¬ 2 * rm y < y.den := fun k => k4 ((low_iff y).1 k)
    unfold rhe
    rw [if_neg hx, if_neg hx2, if_neg hy2, if_neg hy, e]
    exact Int.le_refl _
 ·omega
theorem rhe_nonneg {x : Rat} (h : 0 ≤ x) : 0 ≤ rhe x := by
 have h1 : 0 ≤ fl x := by
  have h2 : (0 : Int) ≤ x.num := Rat.num_nonneg.2 h
  exact Int.ediv_nonneg h2 (Int.le_of_lt (den_pos x))
 have := rhe_ge x
 omega
theorem fl_int (n : Int) : fl (n : Rat) = n := by
 unfold fl
 rw [Rat.num_intCast, Rat.den_intCast]
 simp
theorem rhe_le {x : Rat} {n : Int} (h : x ≤ (n : Rat)) : rhe x ≤ n := by
 have h1 := rhe_mono h
 have h2 : rhe (n : Rat) = n := by
  have h3 : 2 * rm (n : Rat) < ((n : Rat).den : Int) := by
   unfold rm
   rw [Rat.num_intCast, Rat.den_intCast]
   simp
  unfold rhe
  rw [if_pos h3, fl_int]
 omega
end Ac
end Go.Proofs.YtmbjaaaeekacfaaGreatDoor
namespace Go.Proofs.YtmbjaaaeekacfaaGreatDoor
set_option maxRecDepth 8000
open Go.RowKit
theorem qA_one (x : Rat) : (Rt.qA x).all (·.oneCell') = true := by rw [qA_rZ, rZ_ratA]; exact ratA_one _ _ _ _
def FieldC (j : Nat) (cs : Array Value) : Prop := ∃ l : List Rat, l.length = j ∧ (∀ x ∈ l, Rt.Bd x 30 20) ∧ cs = rowsOf (l.map Rt.qA ++ List.replicate (3 - j) (Bg.rZ 0 0))
theorem rZ_one (n d : Int) : (Bg.rZ n d).all (·.oneCell') = true := by rw [rZ_ratA]; exact ratA_one _ _ _ _
end Go.Proofs.YtmbjaaaeekacfaaGreatDoor
namespace Go.Proofs.YtmbjaaaeekacfaaGreatDoor
set_option maxRecDepth 8000
open Go.RowKit
def Rt.Vc : Option Rat → Array Value → Prop
 | some x, c => Rt.Fit x ∧ c = Rt.qA x
 | none, c => ∃ s M t N, M < Bg.lim ∧ N < Bg.lim ∧ Rt.ok s M t N = false ∧ c = Bg.ratA s M t N
theorem Rt.Vc.size {o : Option Rat} {c : Array Value} (h : Rt.Vc o c) : c.size = 66 := by
 cases o with
 | some x => obtain ⟨_, rfl⟩ := h; exact qA_size x
 | none => obtain ⟨s, M, t, N, _, _, _, rfl⟩ := h; exact ratA_size _ _ _ _
theorem Rt.Vc.one {o : Option Rat} {c : Array Value} (h : Rt.Vc o c) : c.all (·.oneCell') = true := by
 cases o with
 | some x => obtain ⟨_, rfl⟩ := h; exact qA_one x
 | none => obtain ⟨s, M, t, N, _, _, _, rfl⟩ := h; exact ratA_one _ _ _ _
theorem la_c {c : Array Value} (h : c.size = 66) : LA 27 c 0 (.agg c) := LA.whole (by kernel_rfl) (by rw [h]; exact sT_rat)
theorem sa_c {c d : Array Value} (h : d.size = 66) (h1 : d.all (·.oneCell') = true) (hc : c.size = 66) : SA 27 c 0 (.agg d) d := SA.whole (by rw [h]; exact sT_rat) h1 (by rw [h, hc])
theorem Rt.vc_any {s t : Bool} {M N : Nat} (hM : M < Bg.lim) (hN : N < Bg.lim) : ∃ o, Rt.Vc o (Bg.ratA s M t N) := by
 cases h : Rt.ok s M t N with
 | true =>
  obtain ⟨x, hx, e, _⟩ := Rt.ok_rat hM hN h
  exact ⟨some x, hx, e⟩
 | false => exact ⟨none, s, M, t, N, hM, hN, h, rfl⟩
noncomputable def Rt.addV (acc : Rat) : Option Rat → Array Value × Int
 | some x => Rt.res (acc + x)
 | none => (Bg.rZ 0 0, 20)
noncomputable def Rt.sumV (acc : Rat) : List (Option Rat) → Option Rat × Int
 | [] => (some acc, 0)
 | none :: _ => (none, 20)
 | some x :: l => open Classical in if Rt.Fit (acc + x) then Rt.sumV (acc + x) l else (none, 10)
def Rt.outV : Option Rat → Array Value
 | some x => Rt.qA x
 | none => Bg.rZ 0 0
inductive Rt.Vcs : List (Option Rat) → List (Array Value) → Prop
 | nil : Rt.Vcs [] []
 | cons {o : Option Rat} {c : Array Value} {os : List (Option Rat)} {cs : List (Array Value)} (h : Rt.Vc o c) (t : Rt.Vcs os cs) : Rt.Vcs (o :: os) (c :: cs)
end Go.Proofs.YtmbjaaaeekacfaaGreatDoor
