/- Walks. -/
import Derived.Test.YtiekmabiecalbaaGreatDoorPa13
namespace Go.Proofs.YtiekmabiecalbaaGreatDoor
set_option maxHeartbeats 16000000
open Go.RowKit
set_option maxRecDepth 8000
section
def Rt.Fit (x : Rat) : Prop := x.num.natAbs < Bg.p2 480 ∧ x.den < Bg.p2 480
@[irreducible] def Rt.qA (x : Rat) : Array Value := Bg.rZ x.num x.den
theorem qA_rZ (x : Rat) : Rt.qA x = Bg.rZ x.num x.den := by unfold Rt.qA; rfl
theorem qA_size (x : Rat) : (Rt.qA x).size = 66 := by rw [qA_rZ]; exact rZ_size _ _
theorem la_q (x : Rat) : LA 35 (Rt.qA x) 0 (.agg (Rt.qA x)) := by rw [qA_rZ]; exact la_rz _ _
theorem sa_q (x : Rat) {c : Array Value} (h : c.size = 66) : SA 35 c 0 (.agg (Rt.qA x)) (Rt.qA x) := by rw [qA_rZ]; exact sa_rz _ _ h
theorem la_qnum (x : Rat) : LA 33 (Rt.qA x) 0 (.agg (Bg.zA x.num)) := by rw [qA_rZ]; exact la_rznum _ _
theorem la_qden (x : Rat) : LA 33 (Rt.qA x) 33 (.agg (Bg.zA x.den)) := by rw [qA_rZ]; exact la_rzden _ _
theorem lt480_lim {n : Nat} (h : n < Bg.p2 480) : n < Bg.lim := Nat.lt_of_lt_of_le h (by have := Bg.p2_mono (show 480 ≤ 1024 by decide); rwa [Bg.p2_lim] at this)
theorem Rt.Fit.ln {x : Rat} (h : Rt.Fit x) : x.num.natAbs < Bg.lim := lt480_lim h.1
theorem Rt.Fit.ld {x : Rat} (h : Rt.Fit x) : ((x.den : Nat) : Int).natAbs < Bg.lim := by rw [Int.natAbs_natCast]; exact lt480_lim h.2
theorem Rt.short_iff {M N : Nat} (hM : M < Bg.lim) (hN : N < Bg.lim) : Rt.short M N = true ↔ M < Bg.p2 480 ∧ N < Bg.p2 480 := by
 unfold Rt.short
 rw [Bool.and_eq_true, decide_eq_true_iff, decide_eq_true_iff]
 exact ⟨fun h => ⟨p2_480 hM h.1, p2_480 hN h.2⟩, fun h => ⟨Bg.bl_le Zo h.1, Bg.bl_le Zo h.2⟩⟩
theorem Rt.Fit.okz {x : Rat} (h : Rt.Fit x) : Rt.okz x.num x.den = true :=
 Rt.okz_of (by rw [Int.natAbs_natCast]; exact (Rt.short_iff h.ln (lt480_lim h.2)).2 h) (by have := x.den_pos; omega) (by rw [Int.natAbs_natCast]; exact x.reduced)
theorem Rt.okz_rat {p q : Int} (hp : p.natAbs < Bg.lim) (hq : q.natAbs < Bg.lim) (h : Rt.okz p q = true) : ∃ x : Rat, Rt.Fit x ∧ p = x.num ∧ q = x.den := by
 have g := Rt.good hp hq h
 have h1 := g.pos
 refine ⟨⟨p, q.natAbs, by omega, g.one⟩, ⟨g.bp, g.bq⟩, rfl, ?_⟩
 show q = ((q.natAbs : Nat) : Int)
 omega
theorem Rt.ok_rat {s t : Bool} {M N : Nat} (hM : M < Bg.lim) (hN : N < Bg.lim) (h : Rt.ok s M t N = true) : ∃ x : Rat, Rt.Fit x ∧ Bg.ratA s M t N = Rt.qA x ∧ Bg.toZ s M = x.num ∧ Bg.toZ t N = x.den := by
 obtain ⟨e1, e2⟩ := Rt.ok_z h
 obtain ⟨x, h1, h2, h3⟩ := Rt.okz_rat (by rw [Bg.toZ_abs]; exact hM) (by rw [Bg.toZ_abs]; exact hN) e2
 exact ⟨x, h1, by rw [e1, h2, h3, qA_rZ], h2, h3⟩
theorem Rt.sg_parts {p q : Int} (h0 : q ≠ 0) : p / Rt.sg p q = (Rat.divInt p q).num ∧ q / Rt.sg p q = (Rat.divInt p q).den := by
 rw [Rat.num_divInt, Rat.den_divInt, if_neg h0]
 have hg : (q.gcd p : Int) = (Nat.gcd p.natAbs q.natAbs : Nat) := by rw [Int.gcd, Nat.gcd_comm]
 have hg' : q.gcd p = Nat.gcd p.natAbs q.natAbs := by rw [Int.gcd, Nat.gcd_comm]
 have d1 : ((Nat.gcd p.natAbs q.natAbs : Nat) : Int) ∣ p := Int.ofNat_dvd_left.2 (Nat.gcd_dvd_left _ _)
 have d2 : ((Nat.gcd p.natAbs q.natAbs : Nat) : Int) ∣ q := Int.ofNat_dvd_left.2 (Nat.gcd_dvd_right _ _)
 rw [hg, hg']
 unfold Rt.sg
 rcases Int.lt_or_gt_of_ne h0 with hq | hq
 ·rw [if_pos hq, Int.sign_eq_neg_one_of_neg hq, Int.ediv_neg, Int.ediv_neg]
  constructor
  ·rw [← Int.neg_ediv_of_dvd d1]; congr 1; omega
  ·rw [← Int.neg_ediv_of_dvd d2, Int.natCast_ediv]; congr 1; omega
 ·rw [if_neg Zo, Int.sign_eq_one_of_pos hq]
  constructor
  ·congr 1; omega
  ·rw [Int.natCast_ediv]; congr 1; omega
theorem Rt.divInt_le {p q : Int} (h0 : q ≠ 0) : (Rat.divInt p q).num.natAbs ≤ p.natAbs ∧ (Rat.divInt p q).den ≤ q.natAbs := by
 obtain ⟨h1, h2⟩ := Rt.sg_parts (p := p) h0
 constructor
 ·rw [← h1]; exact Int.natAbs_ediv_le_natAbs _ _
 ·have := Int.natAbs_ediv_le_natAbs q (Rt.sg p q)
  rw [h2] at this
  simpa using this
noncomputable def Rt.res (z : Rat) : Array Value × Int := open Classical in if Rt.Fit z then (Rt.qA z, 0) else (Bg.rZ 0 0, 10)
theorem Rt.res_fit {z : Rat} (h : Rt.Fit z) : (Rt.qA z, (0 : Int)) = Rt.res z := by unfold Rt.res; rw [if_pos h]
theorem Rt.mk_fit {p q n d e : Int} (h0 : q ≠ 0) {z : Rat} (hz : z = Rat.divInt p q) (hf : Rt.Fit z) (h : (n, d, e) = Rt.mk p q) : n = z.num ∧ d = z.den ∧ e = 0 := by
 obtain ⟨h1, h2⟩ := Rt.sg_parts (p := p) h0
 unfold Rt.mk at h
 rw [if_neg h0, h1, h2, ← hz, if_pos (by rw [Int.natAbs_natCast]; exact (Rt.short_iff hf.ln (lt480_lim hf.2)).2 hf)] at h
 simpa using h
theorem Rt.mk_res {p q n d e : Int} (hp : p.natAbs < Bg.lim) (hq : q.natAbs < Bg.lim) (h0 : q ≠ 0) (h : (n, d, e) = Rt.mk p q) : (Bg.rZ n d, e) = Rt.res (Rat.divInt p q) := by
 by_cases hf : Rt.Fit (Rat.divInt p q)
 ·obtain ⟨rfl, rfl, rfl⟩ := Rt.mk_fit h0 rfl hf h
  rw [← Rt.res_fit hf, qA_rZ]
 ·obtain ⟨h1, h2⟩ := Rt.sg_parts (p := p) h0
  obtain ⟨l1, l2⟩ := Rt.divInt_le (p := p) h0
  unfold Rt.mk at h
  rw [if_neg h0, h1, h2, if_neg (by rw [Int.natAbs_natCast, Rt.short_iff Zo Zo]; exact hf)] at h
  obtain ⟨rfl, rfl, rfl⟩ : n = 0 ∧ d = 0 ∧ e = 10 := by simpa using h
  unfold Rt.res
  rw [if_neg hf]
theorem Rt.add_div (x y : Rat) : x + y = Rat.divInt (Rt.num false x.num x.den y.num y.den) (x.den * y.den) := by
 have h1 : (x.den : Int) ≠ 0 := by have := x.den_pos; omega
 have h2 : (y.den : Int) ≠ 0 := by have := y.den_pos; omega
 conv => lhs; rw [← Rat.num_divInt_den x, ← Rat.num_divInt_den y]
 rw [Rat.divInt_add_divInt _ _ h1 h2]
 rfl
theorem Rt.sub_div (x y : Rat) : x - y = Rat.divInt (Rt.num true x.num x.den y.num y.den) (x.den * y.den) := by
 have h1 : (x.den : Int) ≠ 0 := by have := x.den_pos; omega
 have h2 : (y.den : Int) ≠ 0 := by have := y.den_pos; omega
 conv => lhs; rw [← Rat.num_divInt_den x, ← Rat.num_divInt_den y]
 rw [Rat.divInt_sub_divInt _ _ h1 h2]
 rfl
theorem Rt.mul_div (x y : Rat) : x * y = Rat.divInt (x.num * y.num) (x.den * y.den) := by
 conv => lhs; rw [← Rat.num_divInt_den x, ← Rat.num_divInt_den y]
 rw [Rat.divInt_mul_divInt]
theorem Rt.quo_div (x y : Rat) : x / y = Rat.divInt (x.num * y.den) (x.den * y.num) := by
 conv => lhs; rw [← Rat.num_divInt_den x, ← Rat.num_divInt_den y]
 rw [Rat.div_def, Rat.inv_divInt, Rat.divInt_mul_divInt]
theorem Rt.den_ne (x : Rat) : (x.den : Int) ≠ 0 := by have := x.den_pos; omega
theorem Rt.den2_ne (x y : Rat) : (x.den * y.den : Int) ≠ 0 := Int.mul_ne_zero (Rt.den_ne x) (Rt.den_ne y)
theorem Rt.Fit.b480 {x : Rat} (h : Rt.Fit x) : ((x.den : Nat) : Int).natAbs < Bg.p2 480 := by rw [Int.natAbs_natCast]; exact h.2
theorem Rt.fit_zero : Rt.Fit 0 := ⟨by simp [Bg.p2_pos], by have := Bg.p2_mono (show 1 ≤ 480 by decide); have h : Bg.p2 1 = 2 := (by unfold Bg.p2; rfl); show 1 < _; omega⟩
def Rt.cmp (x y : Rat) : Int := (x.num * y.den - y.num * x.den).sign
theorem Rt.cmp_lt {x y : Rat} : Rt.cmp x y = -1 ↔ x < y := by
 unfold Rt.cmp; rw [Int.sign_eq_neg_one_iff_neg, Rat.lt_iff]; omega
theorem Rt.cmp_gt {x y : Rat} : Rt.cmp x y = 1 ↔ y < x := by
 unfold Rt.cmp; rw [Int.sign_eq_one_iff_pos, Rat.lt_iff]; omega
theorem Rt.cmp_eq {x y : Rat} : Rt.cmp x y = 0 ↔ x = y := by
 unfold Rt.cmp
 rw [Int.sign_eq_zero_iff_zero]
 constructor
 ·intro h
  have h1 : x.num * y.den = y.num * x.den := by omega
  conv => lhs; rw [← Rat.num_divInt_den x]
  conv => rhs; rw [← Rat.num_divInt_den y]
  rwa [Rat.divInt_eq_divInt_iff (Rt.den_ne x) (Rt.den_ne y)]
 ·rintro rfl; omega
theorem Rt.cmp_cases (x y : Rat) : (Rt.cmp x y = -1 ∧ x < y) ∨ (Rt.cmp x y = 0 ∧ x = y) ∨ (Rt.cmp x y = 1 ∧ y < x) := by
 rcases sign_v (x.num * y.den - y.num * x.den) with h | h | h
 ·exact .inl ⟨h, Rt.cmp_lt.1 h⟩
 ·exact .inr (.inl ⟨h, Rt.cmp_eq.1 h⟩)
 ·exact .inr (.inr ⟨h, Rt.cmp_gt.1 h⟩)
theorem Rt.qA_eq {x y : Rat} : (x.num = y.num ∧ (x.den : Int) = y.den) ↔ x = y := by
 constructor
 ·rintro ⟨h1, h2⟩; exact Rat.ext h1 Zo
 ·rintro rfl; exact ⟨rfl, rfl⟩
theorem add_r (x y : Rat) (c : Array Value) (e : Int) (hx : Rt.Fit x) (hy : Rt.Fit y) (hr : Hid ((c, e) = Rt.res (x + y))) (w : World) :
    Calls Tryz.prog 62 #[.agg (Rt.qA x), .agg (Rt.qA y)] w fun r w' => r = .returned (.tuple #[.agg c, .int .i64 e]) ∧ Below w.heap.size w w' := by
 obtain ⟨n, d, e2, hm⟩ : ∃ n d e2 : Int, Hid ((n, d, e2) = Rt.mk (Rt.num false x.num x.den y.num y.den) ((x.den * y.den : Int))) := ⟨_, _, _, rfl⟩
 have hq := hr.out
 rw [Rt.add_div x y, ← Rt.mk_res (p := Rt.num false x.num x.den y.num y.den) (lim_961 (mul_480 hx.1 hy.b480) (mul_480 hy.1 hx.b480)) (lim_960 (mul_480 hx.b480 hy.b480)) (Rt.den2_ne x y) hm.out] at hq
 obtain ⟨rfl, rfl⟩ : c = Bg.rZ n d ∧ e = e2 := by simpa using hq
 rw [qA_rZ, qA_rZ, rZ_ratA x.num, rZ_ratA y.num]
 exact add_g _ _ _ _ _ _ _ _ n d e hx.ln hx.ld hy.ln hy.ld (Zi (by rw [Bg.toZ_iv, Bg.toZ_iv, Bg.toZ_iv, Bg.toZ_iv, show Rt.ok _ _ _ _ = true from hx.okz, show Rt.ok _ _ _ _ = true from hy.okz]; exact hm.out)) w
theorem add_q (x y z : Rat) (hx : Rt.Fit x) (hy : Rt.Fit y) (hz : Hid (z = x + y)) (hf : Rt.Fit z) (w : World) :
    Calls Tryz.prog 62 #[.agg (Rt.qA x), .agg (Rt.qA y)] w fun r w' => r = .returned (.tuple #[.agg (Rt.qA z), .int .i64 0]) ∧ Below w.heap.size w w' :=
 add_r x y _ _ hx hy (Zi (hz.out ▸ Rt.res_fit hf)) w
theorem sub_r (x y : Rat) (c : Array Value) (e : Int) (hx : Rt.Fit x) (hy : Rt.Fit y) (hr : Hid ((c, e) = Rt.res (x - y))) (w : World) :
    Calls Tryz.prog 72 #[.agg (Rt.qA x), .agg (Rt.qA y)] w fun r w' => r = .returned (.tuple #[.agg c, .int .i64 e]) ∧ Below w.heap.size w w' := by
 obtain ⟨n, d, e2, hm⟩ : ∃ n d e2 : Int, Hid ((n, d, e2) = Rt.mk (Rt.num true x.num x.den y.num y.den) ((x.den * y.den : Int))) := ⟨_, _, _, rfl⟩
 have hq := hr.out
 rw [Rt.sub_div x y, ← Rt.mk_res (p := Rt.num true x.num x.den y.num y.den) (lim_961 (mul_480 hx.1 hy.b480) (show (-(y.num * (x.den : Int))).natAbs < Bg.p2 960 by rw [Int.natAbs_neg]; exact mul_480 hy.1 hx.b480)) (lim_960 (mul_480 hx.b480 hy.b480)) (Rt.den2_ne x y) hm.out] at hq
 obtain ⟨rfl, rfl⟩ : c = Bg.rZ n d ∧ e = e2 := by simpa using hq
 rw [qA_rZ, qA_rZ, rZ_ratA x.num, rZ_ratA y.num]
 exact sub_g _ _ _ _ _ _ _ _ n d e hx.ln hx.ld hy.ln hy.ld (Zi (by rw [Bg.toZ_iv, Bg.toZ_iv, Bg.toZ_iv, Bg.toZ_iv, show Rt.ok _ _ _ _ = true from hx.okz, show Rt.ok _ _ _ _ = true from hy.okz]; exact hm.out)) w
theorem sub_q (x y z : Rat) (hx : Rt.Fit x) (hy : Rt.Fit y) (hz : Hid (z = x - y)) (hf : Rt.Fit z) (w : World) :
    Calls Tryz.prog 72 #[.agg (Rt.qA x), .agg (Rt.qA y)] w fun r w' => r = .returned (.tuple #[.agg (Rt.qA z), .int .i64 0]) ∧ Below w.heap.size w w' :=
 sub_r x y _ _ hx hy (Zi (hz.out ▸ Rt.res_fit hf)) w
theorem mul_r (x y : Rat) (c : Array Value) (e : Int) (hx : Rt.Fit x) (hy : Rt.Fit y) (hr : Hid ((c, e) = Rt.res (x * y))) (w : World) :
    Calls Tryz.prog 74 #[.agg (Rt.qA x), .agg (Rt.qA y)] w fun r w' => r = .returned (.tuple #[.agg c, .int .i64 e]) ∧ Below w.heap.size w w' := by
 obtain ⟨n, d, e2, hm⟩ : ∃ n d e2 : Int, Hid ((n, d, e2) = Rt.mk (x.num * y.num) ((x.den * y.den : Int))) := ⟨_, _, _, rfl⟩
 have hq := hr.out
 rw [Rt.mul_div x y, ← Rt.mk_res (lim_960 (mul_480 hx.1 hy.1)) (lim_960 (mul_480 hx.b480 hy.b480)) (Rt.den2_ne x y) hm.out] at hq
 obtain ⟨rfl, rfl⟩ : c = Bg.rZ n d ∧ e = e2 := by simpa using hq
 rw [qA_rZ, qA_rZ, rZ_ratA x.num, rZ_ratA y.num]
 exact mul_g _ _ _ _ _ _ _ _ n d e hx.ln hx.ld hy.ln hy.ld (Zi (by rw [Bg.toZ_iv, Bg.toZ_iv, Bg.toZ_iv, Bg.toZ_iv, show Rt.ok _ _ _ _ = true from hx.okz, show Rt.ok _ _ _ _ = true from hy.okz]; exact hm.out)) w
theorem mul_q (x y z : Rat) (hx : Rt.Fit x) (hy : Rt.Fit y) (hz : Hid (z = x * y)) (hf : Rt.Fit z) (w : World) :
    Calls Tryz.prog 74 #[.agg (Rt.qA x), .agg (Rt.qA y)] w fun r w' => r = .returned (.tuple #[.agg (Rt.qA z), .int .i64 0]) ∧ Below w.heap.size w w' :=
 mul_r x y _ _ hx hy (Zi (hz.out ▸ Rt.res_fit hf)) w
theorem quo_r (x y : Rat) (c : Array Value) (e : Int) (hx : Rt.Fit x) (hy : Rt.Fit y) (h0 : y ≠ 0) (hr : Hid ((c, e) = Rt.res (x / y))) (w : World) :
    Calls Tryz.prog 138 #[.agg (Rt.qA x), .agg (Rt.qA y)] w fun r w' => r = .returned (.tuple #[.agg c, .int .i64 e]) ∧ Below w.heap.size w w' := by
 obtain ⟨n, d, e2, hm⟩ : ∃ n d e2 : Int, Hid ((n, d, e2) = Rt.mk (x.num * y.den) (x.den * y.num)) := ⟨_, _, _, rfl⟩
 have hq := hr.out
 rw [Rt.quo_div x y, ← Rt.mk_res (lim_960 (mul_480 hx.1 hy.b480)) (lim_960 (mul_480 hx.b480 hy.1)) (Int.mul_ne_zero (Rt.den_ne x) (fun h => h0 (Rat.num_eq_zero.1 h))) hm.out] at hq
 obtain ⟨rfl, rfl⟩ : c = Bg.rZ n d ∧ e = e2 := by simpa using hq
 rw [qA_rZ, qA_rZ, rZ_ratA x.num, rZ_ratA y.num]
 exact quo_g _ _ _ _ _ _ _ _ n d e hx.ln hx.ld hy.ln hy.ld (Zi (by rw [Bg.toZ_iv, Bg.toZ_iv, Bg.toZ_iv, Bg.toZ_iv, show Rt.ok _ _ _ _ = true from hx.okz, show Rt.ok _ _ _ _ = true from hy.okz]; exact hm.out)) w
theorem quo_q (x y z : Rat) (hx : Rt.Fit x) (hy : Rt.Fit y) (h0 : y ≠ 0) (hz : Hid (z = x / y)) (hf : Rt.Fit z) (w : World) :
    Calls Tryz.prog 138 #[.agg (Rt.qA x), .agg (Rt.qA y)] w fun r w' => r = .returned (.tuple #[.agg (Rt.qA z), .int .i64 0]) ∧ Below w.heap.size w w' :=
 quo_r x y _ _ hx hy h0 (Zi (hz.out ▸ Rt.res_fit hf)) w
theorem cmp_q (x y : Rat) (g : Int) (hx : Rt.Fit x) (hy : Rt.Fit y) (hg : Hid (g = Rt.cmp x y)) (w : World) :
    Calls Tryz.prog 71 #[.agg (Rt.qA x), .agg (Rt.qA y)] w fun r w' => r = .returned (.tuple #[.int .i64 g, .int .i64 0]) ∧ Below w.heap.size w w' := by
 rw [qA_rZ, qA_rZ, rZ_ratA x.num, rZ_ratA y.num]
 exact Cmp_g _ _ _ _ _ _ _ _ g 0 (Zi (by rw [Bg.toZ_iv, Bg.toZ_iv, Bg.toZ_iv, Bg.toZ_iv, show Rt.ok _ _ _ _ = true from hx.okz, show Rt.ok _ _ _ _ = true from hy.okz, hg.out]; rfl)) hx.ln hx.ld hy.ln hy.ld w
end
section
theorem Rt.fit_le {x : Rat} {p q : Int} (h0 : q ≠ 0) (hp : p.natAbs < Bg.p2 480) (hq : q.natAbs < Bg.p2 480) (hx : x = Rat.divInt p q) : Rt.Fit x := by
 obtain ⟨l1, l2⟩ := Rt.divInt_le (p := p) h0
 rw [hx]
 exact ⟨by omega, by omega⟩
theorem Rt.mk_q {x : Rat} {p q : Int} (h0 : q ≠ 0) (hp : p.natAbs < Bg.p2 480) (hq : q.natAbs < Bg.p2 480) (hx : x = Rat.divInt p q) : Hid ((x.num, (x.den : Int), (0 : Int)) = Rt.mk p q) := by
 obtain ⟨n, d, e, h⟩ : ∃ n d e, (n, d, e) = Rt.mk p q := ⟨_, _, _, rfl⟩
 obtain ⟨rfl, rfl, rfl⟩ := Rt.mk_fit h0 hx (Rt.fit_le h0 hp hq hx) h
 exact Zi h
theorem mkof_q (n d : Int) (x : Rat) (hn1 : -9223372036854775808 ≤ n) (hn2 : n < 9223372036854775808) (hd1 : -9223372036854775808 ≤ d) (hd2 : d < 9223372036854775808) (h0 : d ≠ 0) (hx : Hid (x = Rat.divInt n d)) (w : World) :
    Calls Tryz.prog 19 #[.int .i64 n, .int .i64 d] w fun r w' => r = .returned (.agg (Rt.qA x)) ∧ Below w.heap.size w w' := by
 have HM := Mem.start w
 have hz0 := za_rat
 have hm := Rt.mk_q h0 (small_480 (z := n) Zo) (small_480 (z := d) Zo) hx.out
 have hs := sa_rz x.num x.den (rZ_size 0 0)
 have hl := la_rz x.num x.den
 rw [qA_rZ]
 generalize x.num = X at *
 generalize (x.den : Int) = Y at *
 go_enter Tryz.func19, Tryz.ntmps19
 go_wp2_with (first | (go_at_call 44; (with_reducible refine Zc HM (rof_n n d X Y 0 hn1 hn2 hd1 hd2 hm _) ?_; clear HM; intro w2 HM)) | (first | ((with_reducible refine g_ld ?_); refine a_ld HM ?_) | ((with_reducible refine g_st ?_); refine a_st HM ?_; clear HM; intro w1 HM) | ((with_reducible refine g_al ?_); refine a_al HM ?_; clear HM; intro bk w1 HM)))
 exact z9_54
def RatPost (W : World) (tb m k : Nat) (w : World) (e : Ending) (w' : World) : Prop :=
 ∃ x : Rat, e = .returned (.agg (Rt.qA x)) ∧ x.num.natAbs < Bg.p2 k ∧ x.den < Bg.p2 k ∧ Tp W tb (m + 1000) w' ∧ w.grownBy w' (some tb)
end
section
theorem sign_q (x : Rat) (n : Int) (hx : Rt.Fit x) (hn : Hid (n = x.num.sign)) (w : World) :
    Calls Tryz.prog 110 #[.agg (Rt.qA x)] w fun r w' => r = .returned (.tuple #[.int .i64 n, .int .i64 0]) ∧ Below w.heap.size w w' := by
 rw [qA_rZ, rZ_ratA]
 exact Sign_g _ _ _ _ n 0 (Zi (by rw [Bg.toZ_iv, show Rt.ok _ _ _ _ = true from hx.okz, hn.out]; rfl)) hx.ln hx.ld w
def Rt.abs (x : Rat) : Rat := ⟨x.num.natAbs, x.den, x.den_nz, by simpa using x.reduced⟩
theorem abs_q (x y : Rat) (hx : Rt.Fit x) (hy : Hid (y = Rt.abs x)) (w : World) :
    Calls Tryz.prog 73 #[.agg (Rt.qA x)] w fun r w' => r = .returned (.tuple #[.agg (Rt.qA y), .int .i64 0]) ∧ Below w.heap.size w w' := by
 rw [qA_rZ, rZ_ratA, qA_rZ, hy.out]
 exact Abs_g _ _ _ _ _ _ 0 (Zi (by rw [Bg.toZ_iv, show Rt.ok _ _ _ _ = true from hx.okz]; rfl)) hx.ln hx.ld w
theorem valid_q (x : Rat) (hx : Rt.Fit x) (w : World) :
    Calls Tryz.prog 106 #[.agg (Rt.qA x)] w fun r w' => r = .returned (.bool true) ∧ Below w.heap.size w w' := by
 rw [qA_rZ]; exact valid_z _ _ true hx.ln hx.ld (Zi hx.okz.symm) w
theorem Rt.int_divInt (n : Int) : (n : Rat) = Rat.divInt n 1 := by
 apply Rat.ext
 ·rw [Rat.num_intCast, Rat.num_divInt]; simp
 ·rw [Rat.den_intCast, Rat.den_divInt]; simp
theorem whole_q (n : Int) (x : Rat) (hn1 : -9223372036854775808 ≤ n) (hn2 : n < 9223372036854775808) (hx : Hid (x = (n : Rat))) (w : World) :
    Calls Tryz.prog 50 #[.int .i64 n] w fun r w' => r = .returned (.agg (Rt.qA x)) ∧ Below w.heap.size w w' := by
 rw [hx.out, qA_rZ, Rat.num_intCast, Rat.den_intCast]
 exact whole_w n hn1 hn2 w
section
variable {ops : Array Oper} {rest : List Oper} {a a2 : Act} {w : World} {Q : Exit → Act → World → Prop} {d : Option Tmp} {ty T t : TypeId} {ps : String} {af : Array Edge} {g : Option (Nat × Bool)} {x y : Operand} {v : Value} {xs : Array (Nat × Operand)} {bop : BinOp}
theorem Rt.dec_eq (x y : Rat) : decide (x.num = y.num ∧ (x.den : Int) = y.den) = decide (x = y) := decide_eq_decide.2 Rt.qA_eq
theorem y_cmpq (op : BinOp) (x1 y1 : Rat) (v : Bool) (he : op = .eql ∨ op = .neq) (hv : v = if op = .eql then decide (x1 = y1) else !decide (x1 = y1)) (h1 : Rt.Fit x1) (h2 : Rt.Fit y1) {S : World → Prop} {o : Oper} (hw : Region.wanted o (yielded ops a.tmps) = true := by rfl) (ho : o.op = .binOp op 35 x y t := by rfl) (hx : a.eval x = .agg (Rt.qA x1) := by (conv => lhs; whnf) <;> rfl) (hy : a.eval y = .agg (Rt.qA y1) := by (conv => lhs; whnf) <;> rfl) :
    YieldsIf Tryz.prog ops S o (.bool v) a := by
 rw [qA_rZ] at hx hy
 exact y_cmpr op _ _ _ _ v he (by rw [hv, Rt.dec_eq]) h1.ln h1.ld h2.ln h2.ld hw ho hx hy
end
end
section
structure Rt.Bd (x : Rat) (i j : Nat) : Prop where
 n : x.num.natAbs < Bg.p2 i
 d : x.den < Bg.p2 j
theorem Rt.Bd.fit {x : Rat} {i j : Nat} (h : Rt.Bd x i j) (hi : i ≤ 480 := by decide) (hj : j ≤ 480 := by decide) : Rt.Fit x :=
 ⟨Nat.lt_of_lt_of_le h.n (Bg.p2_mono hi), Nat.lt_of_lt_of_le h.d (Bg.p2_mono hj)⟩
theorem Rt.Bd.up {x : Rat} {i j i' j' : Nat} (h : Rt.Bd x i j) (hi : i ≤ i' := by decide) (hj : j ≤ j' := by decide) : Rt.Bd x i' j' :=
 ⟨Nat.lt_of_lt_of_le h.n (Bg.p2_mono hi), Nat.lt_of_lt_of_le h.d (Bg.p2_mono hj)⟩
theorem Rt.mul_p2 {p d : Int} {i j : Nat} (hp : p.natAbs < Bg.p2 i) (hd : d.natAbs < Bg.p2 j) : (p * d).natAbs < Bg.p2 (i + j) := by
 rw [Int.natAbs_mul, Bg.p2_add]; exact Nat.mul_lt_mul'' hp hd
theorem Rt.Bd.dn {x : Rat} {i j : Nat} (h : Rt.Bd x i j) : ((x.den : Nat) : Int).natAbs < Bg.p2 j := by rw [Int.natAbs_natCast]; exact h.d
theorem Rt.Bd.divInt {p q : Int} {i j : Nat} (h0 : q ≠ 0) (hp : p.natAbs < Bg.p2 i) (hq : q.natAbs < Bg.p2 j) : Rt.Bd (Rat.divInt p q) i j := by
 obtain ⟨l1, l2⟩ := Rt.divInt_le (p := p) h0
 exact ⟨by omega, by omega⟩
theorem Rt.Bd.sub {x y : Rat} {i j i2 j2 : Nat} (hx : Rt.Bd x i j) (hy : Rt.Bd y i2 j2) : Rt.Bd (x - y) (max (i + j2) (i2 + j) + 1) (j + j2) := by
 rw [Rt.sub_div]
 refine .divInt (Rt.den2_ne x y) ?_ (Rt.mul_p2 hx.dn hy.dn)
 have h1 := Nat.lt_of_lt_of_le (Rt.mul_p2 hx.n hy.dn) (Bg.p2_mono (Nat.le_max_left (i + j2) (i2 + j)))
 have h2 := Nat.lt_of_lt_of_le (Rt.mul_p2 hy.n hx.dn) (Bg.p2_mono (Nat.le_max_right (i + j2) (i2 + j)))
 rw [Bg.p2_succ]
 show (x.num * y.den + -(y.num * x.den)).natAbs < _
 omega
theorem Rt.Bd.mul {x y : Rat} {i j i2 j2 : Nat} (hx : Rt.Bd x i j) (hy : Rt.Bd y i2 j2) : Rt.Bd (x * y) (i + i2) (j + j2) := by
 rw [Rt.mul_div]
 exact .divInt (Rt.den2_ne x y) (Rt.mul_p2 hx.n hy.n) (Rt.mul_p2 hx.dn hy.dn)
theorem Rt.Bd.quo {x y : Rat} {i j i2 j2 : Nat} (hx : Rt.Bd x i j) (hy : Rt.Bd y i2 j2) (h0 : y ≠ 0) : Rt.Bd (x / y) (i + j2) (j + i2) := by
 rw [Rt.quo_div]
 exact .divInt (Int.mul_ne_zero (Rt.den_ne x) (fun h => h0 (Rat.num_eq_zero.1 h))) (Rt.mul_p2 hx.n hy.dn) (Rt.mul_p2 hx.dn hy.n)
theorem Bg.p2_small {n : Nat} (k v : Nat) (hv : Bg.p2 k = v) (h : n < v) : n < Bg.p2 k := hv ▸ h
end
section
namespace Ac
def fl (x : Rat) : Int := x.num / x.den
def rm (x : Rat) : Int := x.num % x.den
def rhe (x : Rat) : Int := if 2 * rm x < x.den then fl x else if (x.den : Int) < 2 * rm x then fl x + 1 else if fl x % 2 = 1 then fl x + 1 else fl x
theorem den_pos (x : Rat) : (0 : Int) < x.den := by have := x.den_pos; omega
end Ac
end
section
theorem qA_one (x : Rat) : (Rt.qA x).all (·.oneCell') = true := by rw [qA_rZ, rZ_ratA]; exact ratA_one _ _ _ _
def FieldC (j : Nat) (cs : Array Value) : Prop := ∃ l : List Rat, l.length = j ∧ (∀ x ∈ l, Rt.Bd x 30 20) ∧ cs = rowsOf (l.map Rt.qA ++ List.replicate (3 - j) (Bg.rZ 0 0))
theorem rZ_one (n d : Int) : (Bg.rZ n d).all (·.oneCell') = true := by rw [rZ_ratA]; exact ratA_one _ _ _ _
end
section
def Rt.Vc : Option Rat → Array Value → Prop
 | some x, c => Rt.Fit x ∧ c = Rt.qA x
 | none, c => ∃ s M t N, M < Bg.lim ∧ N < Bg.lim ∧ Rt.ok s M t N = false ∧ c = Bg.ratA s M t N
theorem la_c {c : Array Value} (h : c.size = 66) : LA 35 c 0 (.agg c) := LA.whole Zk (by rw [h]; exact sT_rat)
theorem sa_c {c d : Array Value} (h : d.size = 66) (h1 : d.all (·.oneCell') = true) (hc : c.size = 66) : SA 35 c 0 (.agg d) d := SA.whole (by rw [h]; exact sT_rat) h1 (by rw [h, hc])
theorem Rt.vc_any {s t : Bool} {M N : Nat} (hM : M < Bg.lim) (hN : N < Bg.lim) : ∃ o, Rt.Vc o (Bg.ratA s M t N) := by
 cases h : Rt.ok s M t N with
 | true =>
  obtain ⟨x, hx, e, _⟩ := Rt.ok_rat hM hN h
  exact ⟨some x, hx, e⟩
 | false => exact ⟨none, s, M, t, N, hM, hN, h, rfl⟩
noncomputable def Rt.addV (acc : Rat) : Option Rat → Array Value × Int
 | some x => Rt.res (acc + x)
 | none => (Bg.rZ 0 0, 20)
noncomputable def Rt.sumV (acc : Rat) : List (Option Rat) → Option Rat × Int
 | [] => (some acc, 0)
 | none :: _ => (none, 20)
 | some x :: l => open Classical in if Rt.Fit (acc + x) then Rt.sumV (acc + x) l else (none, 10)
def Rt.outV : Option Rat → Array Value
 | some x => Rt.qA x
 | none => Bg.rZ 0 0
inductive Rt.Vcs : List (Option Rat) → List (Array Value) → Prop
 | nil : Rt.Vcs [] []
 | cons {o : Option Rat} {c : Array Value} {os : List (Option Rat)} {cs : List (Array Value)} (h : Rt.Vc o c) (t : Rt.Vcs os cs) : Rt.Vcs (o :: os) (c :: cs)
end
end Go.Proofs.YtiekmabiecalbaaGreatDoor
