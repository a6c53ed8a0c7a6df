/- Walks. -/
import Derived.Test.YtiekmabiecalbaaGreatDoorPr11
namespace Go.Proofs.YtiekmabiecalbaaGreatDoor
set_option maxHeartbeats 16000000
open Go.RowKit
set_option maxRecDepth 8000
set_option linter.unusedSimpArgs false
section
def Rt.Fit (x : Rat) : Prop := x.num.natAbs < Bg.p2 480 ∧ x.den < Bg.p2 480
@[irreducible] def Rt.qA (x : Rat) : Array Value := Bg.rZ x.num x.den
theorem qA_rZ (x : Rat) : Rt.qA x = Bg.rZ x.num x.den := by unfold Rt.qA; rfl
theorem qA_size (x : Rat) : (Rt.qA x).size = 66 := by rw [qA_rZ]; exact rZ_size _ _
theorem la_q (x : Rat) : LA 35 (Rt.qA x) 0 (.agg (Rt.qA x)) := by rw [qA_rZ]; exact la_rz _ _
theorem sa_q (x : Rat) {c : Array Value} (h : c.size = 66) : SA 35 c 0 (.agg (Rt.qA x)) (Rt.qA x) := by rw [qA_rZ]; exact sa_rz _ _ h
theorem la_qnum (x : Rat) : LA 33 (Rt.qA x) 0 (.agg (Bg.zA x.num)) := by rw [qA_rZ]; exact la_rznum _ _
theorem la_qden (x : Rat) : LA 33 (Rt.qA x) 33 (.agg (Bg.zA x.den)) := by rw [qA_rZ]; exact la_rzden _ _
theorem lt480_lim {n : Nat} (h : n < Bg.p2 480) : n < Bg.lim := Nat.lt_of_lt_of_le h (by have := Bg.p2_mono (show 480 ≤ 1024 by decide); rwa [Bg.p2_lim] at this)
theorem Rt.Fit.ln {x : Rat} (h : Rt.Fit x) : x.num.natAbs < Bg.lim := lt480_lim h.1
theorem Rt.Fit.ld {x : Rat} (h : Rt.Fit x) : ((x.den : Nat) : Int).natAbs < Bg.lim := by rw [Int.natAbs_natCast]; exact lt480_lim h.2
theorem Rt.short_iff {M N : Nat} (hM : M < Bg.lim) (hN : N < Bg.lim) : Rt.short M N = true ↔ M < Bg.p2 480 ∧ N < Bg.p2 480 := by
 unfold Rt.short
 rw [Bool.and_eq_true, decide_eq_true_iff, decide_eq_true_iff]
 exact ⟨fun h => ⟨p2_480 hM h.1, p2_480 hN h.2⟩, fun h => ⟨Bg.bl_le Zo h.1, Bg.bl_le Zo h.2⟩⟩
theorem Rt.Fit.okz {x : Rat} (h : Rt.Fit x) : Rt.okz x.num x.den = true :=
 Rt.okz_of (by rw [Int.natAbs_natCast]; exact (Rt.short_iff h.ln (lt480_lim h.2)).2 h) (by have := x.den_pos; omega) (by rw [Int.natAbs_natCast]; exact x.reduced)
theorem Rt.okz_rat {p q : Int} (hp : p.natAbs < Bg.lim) (hq : q.natAbs < Bg.lim) (h : Rt.okz p q = true) : ∃ x : Rat, Rt.Fit x ∧ p = x.num ∧ q = x.den := by
 have g := Rt.good hp hq h
 have h1 := g.pos
 refine ⟨⟨p, q.natAbs, by omega, g.one⟩, ⟨g.bp, g.bq⟩, rfl, ?_⟩
 show q = ((q.natAbs : Nat) : Int)
 omega
theorem Rt.ok_rat {s t : Bool} {M N : Nat} (hM : M < Bg.lim) (hN : N < Bg.lim) (h : Rt.ok s M t N = true) : ∃ x : Rat, Rt.Fit x ∧ Bg.ratA s M t N = Rt.qA x ∧ Bg.toZ s M = x.num ∧ Bg.toZ t N = x.den := by
 obtain ⟨e1, e2⟩ := Rt.ok_z h
 obtain ⟨x, h1, h2, h3⟩ := Rt.okz_rat (by rw [Bg.toZ_abs]; exact hM) (by rw [Bg.toZ_abs]; exact hN) e2
 exact ⟨x, h1, by rw [e1, h2, h3, qA_rZ], h2, h3⟩
theorem Rt.sg_parts {p q : Int} (h0 : q ≠ 0) : p / Rt.sg p q = (Rat.divInt p q).num ∧ q / Rt.sg p q = (Rat.divInt p q).den := by
 rw [Rat.num_divInt, Rat.den_divInt, if_neg h0]
 have hg : (q.gcd p : Int) = (Nat.gcd p.natAbs q.natAbs : Nat) := by rw [Int.gcd, Nat.gcd_comm]
 have hg' : q.gcd p = Nat.gcd p.natAbs q.natAbs := by rw [Int.gcd, Nat.gcd_comm]
 have d1 : ((Nat.gcd p.natAbs q.natAbs : Nat) : Int) ∣ p := Int.ofNat_dvd_left.2 (Nat.gcd_dvd_left _ _)
 have d2 : ((Nat.gcd p.natAbs q.natAbs : Nat) : Int) ∣ q := Int.ofNat_dvd_left.2 (Nat.gcd_dvd_right _ _)
 rw [hg, hg']
 unfold Rt.sg
 rcases Int.lt_or_gt_of_ne h0 with hq | hq
 ·rw [if_pos hq, Int.sign_eq_neg_one_of_neg hq, Int.ediv_neg, Int.ediv_neg]
  constructor
  ·rw [← Int.neg_ediv_of_dvd d1]; congr 1; omega
  ·rw [← Int.neg_ediv_of_dvd d2, Int.natCast_ediv]; congr 1; omega
 ·rw [if_neg Zo, Int.sign_eq_one_of_pos hq]
  constructor
  ·congr 1; omega
  ·rw [Int.natCast_ediv]; congr 1; omega
theorem Rt.divInt_le {p q : Int} (h0 : q ≠ 0) : (Rat.divInt p q).num.natAbs ≤ p.natAbs ∧ (Rat.divInt p q).den ≤ q.natAbs := by
 obtain ⟨h1, h2⟩ := Rt.sg_parts (p := p) h0
 constructor
 ·rw [← h1]; exact Int.natAbs_ediv_le_natAbs _ _
 ·have := Int.natAbs_ediv_le_natAbs q (Rt.sg p q)
  rw [h2] at this
  simpa using this
noncomputable def Rt.res (z : Rat) : Array Value × Int := open Classical in if Rt.Fit z then (Rt.qA z, 0) else (Bg.rZ 0 0, 10)
theorem Rt.res_fit {z : Rat} (h : Rt.Fit z) : (Rt.qA z, (0 : Int)) = Rt.res z := by unfold Rt.res; rw [if_pos h]
theorem Rt.mk_fit {p q n d e : Int} (h0 : q ≠ 0) {z : Rat} (hz : z = Rat.divInt p q) (hf : Rt.Fit z) (h : (n, d, e) = Rt.mk p q) : n = z.num ∧ d = z.den ∧ e = 0 := by
 obtain ⟨h1, h2⟩ := Rt.sg_parts (p := p) h0
 unfold Rt.mk at h
 rw [if_neg h0, h1, h2, ← hz, if_pos (by rw [Int.natAbs_natCast]; exact (Rt.short_iff hf.ln (lt480_lim hf.2)).2 hf)] at h
 simpa using h
theorem Rt.mk_res {p q n d e : Int} (hp : p.natAbs < Bg.lim) (hq : q.natAbs < Bg.lim) (h0 : q ≠ 0) (h : (n, d, e) = Rt.mk p q) : (Bg.rZ n d, e) = Rt.res (Rat.divInt p q) := by
 by_cases hf : Rt.Fit (Rat.divInt p q)
 ·obtain ⟨rfl, rfl, rfl⟩ := Rt.mk_fit h0 rfl hf h
  rw [← Rt.res_fit hf, qA_rZ]
 ·obtain ⟨h1, h2⟩ := Rt.sg_parts (p := p) h0
  obtain ⟨l1, l2⟩ := Rt.divInt_le (p := p) h0
  unfold Rt.mk at h
  rw [if_neg h0, h1, h2, if_neg (by rw [Int.natAbs_natCast, Rt.short_iff Zo Zo]; exact hf)] at h
  obtain ⟨rfl, rfl, rfl⟩ : n = 0 ∧ d = 0 ∧ e = 10 := by simpa using h
  unfold Rt.res
  rw [if_neg hf]
theorem Rt.add_div (x y : Rat) : x + y = Rat.divInt (Rt.num false x.num x.den y.num y.den) (x.den * y.den) := by
 have h1 : (x.den : Int) ≠ 0 := by have := x.den_pos; omega
 have h2 : (y.den : Int) ≠ 0 := by have := y.den_pos; omega
 conv => lhs; rw [← Rat.num_divInt_den x, ← Rat.num_divInt_den y]
 rw [Rat.divInt_add_divInt _ _ h1 h2]
 rfl
theorem Rt.sub_div (x y : Rat) : x - y = Rat.divInt (Rt.num true x.num x.den y.num y.den) (x.den * y.den) := by
 have h1 : (x.den : Int) ≠ 0 := by have := x.den_pos; omega
 have h2 : (y.den : Int) ≠ 0 := by have := y.den_pos; omega
 conv => lhs; rw [← Rat.num_divInt_den x, ← Rat.num_divInt_den y]
 rw [Rat.divInt_sub_divInt _ _ h1 h2]
 rfl
theorem Rt.mul_div (x y : Rat) : x * y = Rat.divInt (x.num * y.num) (x.den * y.den) := by
 conv => lhs; rw [← Rat.num_divInt_den x, ← Rat.num_divInt_den y]
 rw [Rat.divInt_mul_divInt]
theorem Rt.quo_div (x y : Rat) : x / y = Rat.divInt (x.num * y.den) (x.den * y.num) := by
 conv => lhs; rw [← Rat.num_divInt_den x, ← Rat.num_divInt_den y]
 rw [Rat.div_def, Rat.inv_divInt, Rat.divInt_mul_divInt]
theorem Rt.den_ne (x : Rat) : (x.den : Int) ≠ 0 := by have := x.den_pos; omega
theorem Rt.den2_ne (x y : Rat) : (x.den * y.den : Int) ≠ 0 := Int.mul_ne_zero (Rt.den_ne x) (Rt.den_ne y)
theorem Rt.Fit.b480 {x : Rat} (h : Rt.Fit x) : ((x.den : Nat) : Int).natAbs < Bg.p2 480 := by rw [Int.natAbs_natCast]; exact h.2
theorem Rt.fit_zero : Rt.Fit 0 := ⟨by simp [Bg.p2_pos], by have := Bg.p2_mono (show 1 ≤ 480 by decide); have h : Bg.p2 1 = 2 := (by unfold Bg.p2; rfl); show 1 < _; omega⟩
def Rt.cmp (x y : Rat) : Int := (x.num * y.den - y.num * x.den).sign
theorem Rt.cmp_lt {x y : Rat} : Rt.cmp x y = -1 ↔ x < y := by
 unfold Rt.cmp; rw [Int.sign_eq_neg_one_iff_neg, Rat.lt_iff]; omega
theorem Rt.cmp_gt {x y : Rat} : Rt.cmp x y = 1 ↔ y < x := by
 unfold Rt.cmp; rw [Int.sign_eq_one_iff_pos, Rat.lt_iff]; omega
theorem Rt.cmp_eq {x y : Rat} : Rt.cmp x y = 0 ↔ x = y := by
 unfold Rt.cmp
 rw [Int.sign_eq_zero_iff_zero]
 constructor
 ·intro h
  have h1 : x.num * y.den = y.num * x.den := by omega
  conv => lhs; rw [← Rat.num_divInt_den x]
  conv => rhs; rw [← Rat.num_divInt_den y]
  rwa [Rat.divInt_eq_divInt_iff (Rt.den_ne x) (Rt.den_ne y)]
 ·rintro rfl; omega
theorem Rt.cmp_cases (x y : Rat) : (Rt.cmp x y = -1 ∧ x < y) ∨ (Rt.cmp x y = 0 ∧ x = y) ∨ (Rt.cmp x y = 1 ∧ y < x) := by
 rcases sign_v (x.num * y.den - y.num * x.den) with h | h | h
 ·exact .inl ⟨h, Rt.cmp_lt.1 h⟩
 ·exact .inr (.inl ⟨h, Rt.cmp_eq.1 h⟩)
 ·exact .inr (.inr ⟨h, Rt.cmp_gt.1 h⟩)
theorem Rt.qA_eq {x y : Rat} : (x.num = y.num ∧ (x.den : Int) = y.den) ↔ x = y := by
 constructor
 ·rintro ⟨h1, h2⟩; exact Rat.ext h1 Zo
 ·rintro rfl; exact ⟨rfl, rfl⟩
theorem sub_r (x y : Rat) (c : Array Value) (e : Int) (hx : Rt.Fit x) (hy : Rt.Fit y) (hr : Hid ((c, e) = Rt.res (x - y))) (w : World) :
    Calls Tryz.prog 72 #[.agg (Rt.qA x), .agg (Rt.qA y)] w fun r w' => r = .returned (.tuple #[.agg c, .int .i64 e]) ∧ Below w.heap.size w w' := by
 obtain ⟨n, d, e2, hm⟩ : ∃ n d e2 : Int, Hid ((n, d, e2) = Rt.mk (Rt.num true x.num x.den y.num y.den) ((x.den * y.den : Int))) := ⟨_, _, _, rfl⟩
 have hq := hr.out
 rw [Rt.sub_div x y, ← Rt.mk_res (p := Rt.num true x.num x.den y.num y.den) (lim_961 (mul_480 hx.1 hy.b480) (show (-(y.num * (x.den : Int))).natAbs < Bg.p2 960 by rw [Int.natAbs_neg]; exact mul_480 hy.1 hx.b480)) (lim_960 (mul_480 hx.b480 hy.b480)) (Rt.den2_ne x y) hm.out] at hq
 obtain ⟨rfl, rfl⟩ : c = Bg.rZ n d ∧ e = e2 := by simpa using hq
 rw [qA_rZ, qA_rZ, rZ_ratA x.num, rZ_ratA y.num]
 exact sub_g _ _ _ _ _ _ _ _ n d e hx.ln hx.ld hy.ln hy.ld (Zi (by rw [Bg.toZ_iv, Bg.toZ_iv, Bg.toZ_iv, Bg.toZ_iv, show Rt.ok _ _ _ _ = true from hx.okz, show Rt.ok _ _ _ _ = true from hy.okz]; exact hm.out)) w
theorem sub_q (x y z : Rat) (hx : Rt.Fit x) (hy : Rt.Fit y) (hz : Hid (z = x - y)) (hf : Rt.Fit z) (w : World) :
    Calls Tryz.prog 72 #[.agg (Rt.qA x), .agg (Rt.qA y)] w fun r w' => r = .returned (.tuple #[.agg (Rt.qA z), .int .i64 0]) ∧ Below w.heap.size w w' :=
 sub_r x y _ _ hx hy (Zi (hz.out ▸ Rt.res_fit hf)) w
theorem mul_r (x y : Rat) (c : Array Value) (e : Int) (hx : Rt.Fit x) (hy : Rt.Fit y) (hr : Hid ((c, e) = Rt.res (x * y))) (w : World) :
    Calls Tryz.prog 74 #[.agg (Rt.qA x), .agg (Rt.qA y)] w fun r w' => r = .returned (.tuple #[.agg c, .int .i64 e]) ∧ Below w.heap.size w w' := by
 obtain ⟨n, d, e2, hm⟩ : ∃ n d e2 : Int, Hid ((n, d, e2) = Rt.mk (x.num * y.num) ((x.den * y.den : Int))) := ⟨_, _, _, rfl⟩
 have hq := hr.out
 rw [Rt.mul_div x y, ← Rt.mk_res (lim_960 (mul_480 hx.1 hy.1)) (lim_960 (mul_480 hx.b480 hy.b480)) (Rt.den2_ne x y) hm.out] at hq
 obtain ⟨rfl, rfl⟩ : c = Bg.rZ n d ∧ e = e2 := by simpa using hq
 rw [qA_rZ, qA_rZ, rZ_ratA x.num, rZ_ratA y.num]
 exact mul_g _ _ _ _ _ _ _ _ n d e hx.ln hx.ld hy.ln hy.ld (Zi (by rw [Bg.toZ_iv, Bg.toZ_iv, Bg.toZ_iv, Bg.toZ_iv, show Rt.ok _ _ _ _ = true from hx.okz, show Rt.ok _ _ _ _ = true from hy.okz]; exact hm.out)) w
theorem mul_q (x y z : Rat) (hx : Rt.Fit x) (hy : Rt.Fit y) (hz : Hid (z = x * y)) (hf : Rt.Fit z) (w : World) :
    Calls Tryz.prog 74 #[.agg (Rt.qA x), .agg (Rt.qA y)] w fun r w' => r = .returned (.tuple #[.agg (Rt.qA z), .int .i64 0]) ∧ Below w.heap.size w w' :=
 mul_r x y _ _ hx hy (Zi (hz.out ▸ Rt.res_fit hf)) w
theorem quo_r (x y : Rat) (c : Array Value) (e : Int) (hx : Rt.Fit x) (hy : Rt.Fit y) (h0 : y ≠ 0) (hr : Hid ((c, e) = Rt.res (x / y))) (w : World) :
    Calls Tryz.prog 138 #[.agg (Rt.qA x), .agg (Rt.qA y)] w fun r w' => r = .returned (.tuple #[.agg c, .int .i64 e]) ∧ Below w.heap.size w w' := by
 obtain ⟨n, d, e2, hm⟩ : ∃ n d e2 : Int, Hid ((n, d, e2) = Rt.mk (x.num * y.den) (x.den * y.num)) := ⟨_, _, _, rfl⟩
 have hq := hr.out
 rw [Rt.quo_div x y, ← Rt.mk_res (lim_960 (mul_480 hx.1 hy.b480)) (lim_960 (mul_480 hx.b480 hy.1)) (Int.mul_ne_zero (Rt.den_ne x) (fun h => h0 (Rat.num_eq_zero.1 h))) hm.out] at hq
 obtain ⟨rfl, rfl⟩ : c = Bg.rZ n d ∧ e = e2 := by simpa using hq
 rw [qA_rZ, qA_rZ, rZ_ratA x.num, rZ_ratA y.num]
 exact quo_g _ _ _ _ _ _ _ _ n d e hx.ln hx.ld hy.ln hy.ld (Zi (by rw [Bg.toZ_iv, Bg.toZ_iv, Bg.toZ_iv, Bg.toZ_iv, show Rt.ok _ _ _ _ = true from hx.okz, show Rt.ok _ _ _ _ = true from hy.okz]; exact hm.out)) w
theorem quo_q (x y z : Rat) (hx : Rt.Fit x) (hy : Rt.Fit y) (h0 : y ≠ 0) (hz : Hid (z = x / y)) (hf : Rt.Fit z) (w : World) :
    Calls Tryz.prog 138 #[.agg (Rt.qA x), .agg (Rt.qA y)] w fun r w' => r = .returned (.tuple #[.agg (Rt.qA z), .int .i64 0]) ∧ Below w.heap.size w w' :=
 quo_r x y _ _ hx hy h0 (Zi (hz.out ▸ Rt.res_fit hf)) w
theorem cmp_q (x y : Rat) (g : Int) (hx : Rt.Fit x) (hy : Rt.Fit y) (hg : Hid (g = Rt.cmp x y)) (w : World) :
    Calls Tryz.prog 71 #[.agg (Rt.qA x), .agg (Rt.qA y)] w fun r w' => r = .returned (.tuple #[.int .i64 g, .int .i64 0]) ∧ Below w.heap.size w w' := by
 rw [qA_rZ, qA_rZ, rZ_ratA x.num, rZ_ratA y.num]
 exact Cmp_g _ _ _ _ _ _ _ _ g 0 (Zi (by rw [Bg.toZ_iv, Bg.toZ_iv, Bg.toZ_iv, Bg.toZ_iv, show Rt.ok _ _ _ _ = true from hx.okz, show Rt.ok _ _ _ _ = true from hy.okz, hg.out]; rfl)) hx.ln hx.ld hy.ln hy.ld w
end
section
theorem Rt.fit_le {x : Rat} {p q : Int} (h0 : q ≠ 0) (hp : p.natAbs < Bg.p2 480) (hq : q.natAbs < Bg.p2 480) (hx : x = Rat.divInt p q) : Rt.Fit x := by
 obtain ⟨l1, l2⟩ := Rt.divInt_le (p := p) h0
 rw [hx]
 exact ⟨by omega, by omega⟩
theorem Rt.mk_q {x : Rat} {p q : Int} (h0 : q ≠ 0) (hp : p.natAbs < Bg.p2 480) (hq : q.natAbs < Bg.p2 480) (hx : x = Rat.divInt p q) : Hid ((x.num, (x.den : Int), (0 : Int)) = Rt.mk p q) := by
 obtain ⟨n, d, e, h⟩ : ∃ n d e, (n, d, e) = Rt.mk p q := ⟨_, _, _, rfl⟩
 obtain ⟨rfl, rfl, rfl⟩ := Rt.mk_fit h0 hx (Rt.fit_le h0 hp hq hx) h
 exact Zi h
theorem mkof_q (n d : Int) (x : Rat) (hn1 : -9223372036854775808 ≤ n) (hn2 : n < 9223372036854775808) (hd1 : -9223372036854775808 ≤ d) (hd2 : d < 9223372036854775808) (h0 : d ≠ 0) (hx : Hid (x = Rat.divInt n d)) (w : World) :
    Calls Tryz.prog 19 #[.int .i64 n, .int .i64 d] w fun r w' => r = .returned (.agg (Rt.qA x)) ∧ Below w.heap.size w w' := by
 have HM := Mem.start w
 have hz0 := za_rat
 have hm := Rt.mk_q h0 (small_480 (z := n) Zo) (small_480 (z := d) Zo) hx.out
 have hs := sa_rz x.num x.den (rZ_size 0 0)
 have hl := la_rz x.num x.den
 rw [qA_rZ]
 generalize x.num = X at *
 generalize (x.den : Int) = Y at *
 go_enter Tryz.func19, Tryz.ntmps19
 go_wp2_with (first | (go_at_call 44; (with_reducible refine Zc HM (rof_n n d X Y 0 hn1 hn2 hd1 hd2 hm _) ?_; clear HM; intro w2 HM)) | (first | ((with_reducible refine g_ld ?_); refine a_ld HM ?_) | ((with_reducible refine g_st ?_); refine a_st HM ?_; clear HM; intro w1 HM) | ((with_reducible refine g_al ?_); refine a_al HM ?_; clear HM; intro bk w1 HM)))
 exact z9_56
def RatPost (W : World) (tb m k : Nat) (w : World) (e : Ending) (w' : World) : Prop :=
 ∃ x : Rat, e = .returned (.agg (Rt.qA x)) ∧ x.num.natAbs < Bg.p2 k ∧ x.den < Bg.p2 k ∧ Tp W tb (m + 1000) w' ∧ w.grownBy w' (some tb)
end
section
theorem sign_q (x : Rat) (n : Int) (hx : Rt.Fit x) (hn : Hid (n = x.num.sign)) (w : World) :
    Calls Tryz.prog 110 #[.agg (Rt.qA x)] w fun r w' => r = .returned (.tuple #[.int .i64 n, .int .i64 0]) ∧ Below w.heap.size w w' := by
 rw [qA_rZ, rZ_ratA]
 exact Sign_g _ _ _ _ n 0 (Zi (by rw [Bg.toZ_iv, show Rt.ok _ _ _ _ = true from hx.okz, hn.out]; rfl)) hx.ln hx.ld w
def Rt.abs (x : Rat) : Rat := ⟨x.num.natAbs, x.den, x.den_nz, by simpa using x.reduced⟩
theorem abs_q (x y : Rat) (hx : Rt.Fit x) (hy : Hid (y = Rt.abs x)) (w : World) :
    Calls Tryz.prog 73 #[.agg (Rt.qA x)] w fun r w' => r = .returned (.tuple #[.agg (Rt.qA y), .int .i64 0]) ∧ Below w.heap.size w w' := by
 rw [qA_rZ, rZ_ratA, qA_rZ, hy.out]
 exact Abs_g _ _ _ _ _ _ 0 (Zi (by rw [Bg.toZ_iv, show Rt.ok _ _ _ _ = true from hx.okz]; rfl)) hx.ln hx.ld w
theorem valid_q (x : Rat) (hx : Rt.Fit x) (w : World) :
    Calls Tryz.prog 106 #[.agg (Rt.qA x)] w fun r w' => r = .returned (.bool true) ∧ Below w.heap.size w w' := by
 rw [qA_rZ]; exact valid_z _ _ true hx.ln hx.ld (Zi hx.okz.symm) w
theorem Rt.int_divInt (n : Int) : (n : Rat) = Rat.divInt n 1 := by
 apply Rat.ext
 ·rw [Rat.num_intCast, Rat.num_divInt]; simp
 ·rw [Rat.den_intCast, Rat.den_divInt]; simp
theorem whole_q (n : Int) (x : Rat) (hn1 : -9223372036854775808 ≤ n) (hn2 : n < 9223372036854775808) (hx : Hid (x = (n : Rat))) (w : World) :
    Calls Tryz.prog 50 #[.int .i64 n] w fun r w' => r = .returned (.agg (Rt.qA x)) ∧ Below w.heap.size w w' := by
 rw [hx.out, qA_rZ, Rat.num_intCast, Rat.den_intCast]
 exact whole_w n hn1 hn2 w
section
variable {ops : Array Oper} {rest : List Oper} {a a2 : Act} {w : World} {Q : Exit → Act → World → Prop} {d : Option Tmp} {ty T t : TypeId} {ps : String} {af : Array Edge} {g : Option (Nat × Bool)} {x y : Operand} {v : Value} {xs : Array (Nat × Operand)} {bop : BinOp}
theorem Rt.dec_eq (x y : Rat) : decide (x.num = y.num ∧ (x.den : Int) = y.den) = decide (x = y) := decide_eq_decide.2 Rt.qA_eq
theorem y_cmpq (op : BinOp) (x1 y1 : Rat) (v : Bool) (he : op = .eql ∨ op = .neq) (hv : v = if op = .eql then decide (x1 = y1) else !decide (x1 = y1)) (h1 : Rt.Fit x1) (h2 : Rt.Fit y1) {S : World → Prop} {o : Oper} (hw : Region.wanted o (yielded ops a.tmps) = true := by rfl) (ho : o.op = .binOp op 35 x y t := by rfl) (hx : a.eval x = .agg (Rt.qA x1) := by (conv => lhs; whnf) <;> rfl) (hy : a.eval y = .agg (Rt.qA y1) := by (conv => lhs; whnf) <;> rfl) :
    YieldsIf Tryz.prog ops S o (.bool v) a := by
 rw [qA_rZ] at hx hy
 exact y_cmpr op _ _ _ _ v he (by rw [hv, Rt.dec_eq]) h1.ln h1.ld h2.ln h2.ld hw ho hx hy
end
end
section
structure Rt.Bd (x : Rat) (i j : Nat) : Prop where
 n : x.num.natAbs < Bg.p2 i
 d : x.den < Bg.p2 j
theorem Rt.Bd.fit {x : Rat} {i j : Nat} (h : Rt.Bd x i j) (hi : i ≤ 480 := by decide) (hj : j ≤ 480 := by decide) : Rt.Fit x :=
 ⟨Nat.lt_of_lt_of_le h.n (Bg.p2_mono hi), Nat.lt_of_lt_of_le h.d (Bg.p2_mono hj)⟩
theorem Rt.Bd.up {x : Rat} {i j i' j' : Nat} (h : Rt.Bd x i j) (hi : i ≤ i' := by decide) (hj : j ≤ j' := by decide) : Rt.Bd x i' j' :=
 ⟨Nat.lt_of_lt_of_le h.n (Bg.p2_mono hi), Nat.lt_of_lt_of_le h.d (Bg.p2_mono hj)⟩
theorem Rt.mul_p2 {p d : Int} {i j : Nat} (hp : p.natAbs < Bg.p2 i) (hd : d.natAbs < Bg.p2 j) : (p * d).natAbs < Bg.p2 (i + j) := by
 rw [Int.natAbs_mul, Bg.p2_add]; exact Nat.mul_lt_mul'' hp hd
theorem Rt.Bd.dn {x : Rat} {i j : Nat} (h : Rt.Bd x i j) : ((x.den : Nat) : Int).natAbs < Bg.p2 j := by rw [Int.natAbs_natCast]; exact h.d
theorem Rt.Bd.divInt {p q : Int} {i j : Nat} (h0 : q ≠ 0) (hp : p.natAbs < Bg.p2 i) (hq : q.natAbs < Bg.p2 j) : Rt.Bd (Rat.divInt p q) i j := by
 obtain ⟨l1, l2⟩ := Rt.divInt_le (p := p) h0
 exact ⟨by omega, by omega⟩
theorem Rt.Bd.sub {x y : Rat} {i j i2 j2 : Nat} (hx : Rt.Bd x i j) (hy : Rt.Bd y i2 j2) : Rt.Bd (x - y) (max (i + j2) (i2 + j) + 1) (j + j2) := by
 rw [Rt.sub_div]
 refine .divInt (Rt.den2_ne x y) ?_ (Rt.mul_p2 hx.dn hy.dn)
 have h1 := Nat.lt_of_lt_of_le (Rt.mul_p2 hx.n hy.dn) (Bg.p2_mono (Nat.le_max_left (i + j2) (i2 + j)))
 have h2 := Nat.lt_of_lt_of_le (Rt.mul_p2 hy.n hx.dn) (Bg.p2_mono (Nat.le_max_right (i + j2) (i2 + j)))
 rw [Bg.p2_succ]
 show (x.num * y.den + -(y.num * x.den)).natAbs < _
 omega
theorem Rt.Bd.mul {x y : Rat} {i j i2 j2 : Nat} (hx : Rt.Bd x i j) (hy : Rt.Bd y i2 j2) : Rt.Bd (x * y) (i + i2) (j + j2) := by
 rw [Rt.mul_div]
 exact .divInt (Rt.den2_ne x y) (Rt.mul_p2 hx.n hy.n) (Rt.mul_p2 hx.dn hy.dn)
theorem Rt.Bd.quo {x y : Rat} {i j i2 j2 : Nat} (hx : Rt.Bd x i j) (hy : Rt.Bd y i2 j2) (h0 : y ≠ 0) : Rt.Bd (x / y) (i + j2) (j + i2) := by
 rw [Rt.quo_div]
 exact .divInt (Int.mul_ne_zero (Rt.den_ne x) (fun h => h0 (Rat.num_eq_zero.1 h))) (Rt.mul_p2 hx.n hy.dn) (Rt.mul_p2 hx.dn hy.n)
theorem Bg.p2_small {n : Nat} (k v : Nat) (hv : Bg.p2 k = v) (h : n < v) : n < Bg.p2 k := hv ▸ h
end
section
theorem qA_one (x : Rat) : (Rt.qA x).all (·.oneCell') = true := by rw [qA_rZ, rZ_ratA]; exact ratA_one _ _ _ _
def FieldC (j : Nat) (cs : Array Value) : Prop := ∃ l : List Rat, l.length = j ∧ (∀ x ∈ l, Rt.Bd x 30 20) ∧ cs = rowsOf (l.map Rt.qA ++ List.replicate (3 - j) (Bg.rZ 0 0))
theorem rZ_one (n d : Int) : (Bg.rZ n d).all (·.oneCell') = true := by rw [rZ_ratA]; exact ratA_one _ _ _ _
end
section
def Rt.Vc : Option Rat → Array Value → Prop
 | some x, c => Rt.Fit x ∧ c = Rt.qA x
 | none, c => ∃ s M t N, M < Bg.lim ∧ N < Bg.lim ∧ Rt.ok s M t N = false ∧ c = Bg.ratA s M t N
theorem la_c {c : Array Value} (h : c.size = 66) : LA 35 c 0 (.agg c) := LA.whole Zk (by rw [h]; exact sT_rat)
theorem sa_c {c d : Array Value} (h : d.size = 66) (h1 : d.all (·.oneCell') = true) (hc : c.size = 66) : SA 35 c 0 (.agg d) d := SA.whole (by rw [h]; exact sT_rat) h1 (by rw [h, hc])
theorem Rt.vc_any {s t : Bool} {M N : Nat} (hM : M < Bg.lim) (hN : N < Bg.lim) : ∃ o, Rt.Vc o (Bg.ratA s M t N) := by
 cases h : Rt.ok s M t N with
 | true =>
  obtain ⟨x, hx, e, _⟩ := Rt.ok_rat hM hN h
  exact ⟨some x, hx, e⟩
 | false => exact ⟨none, s, M, t, N, hM, hN, h, rfl⟩
noncomputable def Rt.addV (acc : Rat) : Option Rat → Array Value × Int
 | some x => Rt.res (acc + x)
 | none => (Bg.rZ 0 0, 20)
noncomputable def Rt.sumV (acc : Rat) : List (Option Rat) → Option Rat × Int
 | [] => (some acc, 0)
 | none :: _ => (none, 20)
 | some x :: l => open Classical in if Rt.Fit (acc + x) then Rt.sumV (acc + x) l else (none, 10)
def Rt.outV : Option Rat → Array Value
 | some x => Rt.qA x
 | none => Bg.rZ 0 0
inductive Rt.Vcs : List (Option Rat) → List (Array Value) → Prop
 | nil : Rt.Vcs [] []
 | cons {o : Option Rat} {c : Array Value} {os : List (Option Rat)} {cs : List (Array Value)} (h : Rt.Vc o c) (t : Rt.Vcs os cs) : Rt.Vcs (o :: os) (c :: cs)
end
section
theorem z9_58 {P : Prop} (h : P := by
 simp [shapeOf, offs, Rr.size, List.range, List.range.loop]) : P := h
end
section
theorem jb_str (a b : ByteArray) : (a == b) = true ↔ a = b := by
 rw [show (a == b) = (a.data == b.data) from rfl, beq_iff_eq]
 exact ⟨fun h => by cases a; cases b; simp_all, fun h => by rw [h]⟩
structure Rr where
 s : Bool
 M : Nat
 t : Bool
 N : Nat
 hM : M < Bg.lim
 hN : N < Bg.lim
@[irreducible] def Rr.c (x : Rr) : Array Value := Bg.ratA x.s x.M x.t x.N
theorem Rr.c_eq (x : Rr) : x.c = Bg.ratA x.s x.M x.t x.N := by unfold Rr.c; rfl
theorem Rr.size (x : Rr) : x.c.size = 66 := by rw [Rr.c_eq]; exact ratA_size _ _ _ _
theorem Rr.one (x : Rr) : x.c.all (·.oneCell') = true := by rw [Rr.c_eq]; exact ratA_one _ _ _ _
theorem Rr.la (x : Rr) : LA 35 x.c 0 (.agg x.c) := la_c x.size
theorem Rr.sa (x : Rr) {z : Array Value} (h : z.size = 66) : SA 35 z 0 (.agg x.c) x.c := sa_c x.size x.one h
theorem Rr.vc (x : Rr) : ∃ o, Rt.Vc o x.c := by rw [Rr.c_eq]; exact Rt.vc_any x.hM x.hN
def Rr.b (x y : Rr) : Bool := ((x.s == y.s) && (decide (x.M = y.M) && true)) && (((x.t == y.t) && (decide (x.N = y.N) && true)) && true)
theorem Rr.b_iff {x y : Rr} : Rr.b x y = true ↔ x = y := by
 unfold Rr.b
 simp only [Bool.and_eq_true, Bool.and_true, beq_iff_eq, decide_eq_true_eq]
 constructor
 ·rintro ⟨⟨h1, h2⟩, h3, h4⟩
  cases x; cases y; simp_all
 ·rintro rfl; exact ⟨⟨rfl, rfl⟩, rfl, rfl⟩
def Rr.zero : Rr := ⟨false, 0, false, 0, Bg.ppos 32, Bg.ppos 32⟩
theorem Rr.zero_c : Rr.zero.c = Bg.ratA false 0 false 0 := Rr.c_eq _
theorem jr_eq_int (d : Nat) (s s' : Bool) (N N' : Nat) (hN : N < Bg.lim) (hN' : N' < Bg.lim) : EqT (d + 3) 33 (.agg (Bg.intA s N)) (.agg (Bg.intA s' N')) ((s == s') && (decide (N = N') && true)) := by
 have h1 : ∀ s N, FA 4 (Bg.intA s N) 0 (.bool s) := fun s N => .inl ⟨by kernel_rfl, Bg.intA_neg s N⟩
 have h2 : ∀ s N, FA 31 (Bg.intA s N) 1 (.agg (Bg.row 32 N)) := fun s N => .inr ⟨by kernel_rfl, Bg.row 32 N, by rw [Bg.row_size]; kernel_rfl, by rw [Bg.intA_size, Bg.row_size]; omega, by rw [Bg.row_size]; exact intA_mag s N, rfl⟩
 have e1 : EqT (d + 2) 4 (.bool s) (.bool s') (s == s') := eq_t_bool (d := d + 1) Tryz.underlying4 s s'
 have e2 : EqT (d + 2) 31 (.agg (Bg.row 32 N)) (.agg (Bg.row 32 N')) (decide (N = N')) := fun w => eq_arr N N' hN hN' d w
 exact eq_agg (S := [(4, 0), (31, 1)]) Zk Zk Zk (EqF.cons (h1 s N) (h1 s' N') e1 (EqF.cons (h2 s N) (h2 s' N') e2 .nil))
theorem Rr.eqT (d : Nat) (x y : Rr) : EqT (d + 4) 35 (.agg x.c) (.agg y.c) (Rr.b x y) := by
 rw [Rr.c_eq, Rr.c_eq]
 have h1 : ∀ s M t N, FA 33 (Bg.ratA s M t N) 0 (.agg (Bg.intA s M)) := fun s M t N => .inr ⟨by kernel_rfl, Bg.intA s M, by rw [Bg.intA_size]; exact sT_int, by rw [Bg.intA_size, ratA_size]; omega, by rw [Bg.intA_size]; exact ratA_num s M t N, rfl⟩
 have h2 : ∀ s M t N, FA 33 (Bg.ratA s M t N) 33 (.agg (Bg.intA t N)) := fun s M t N => .inr ⟨by kernel_rfl, Bg.intA t N, by rw [Bg.intA_size]; exact sT_int, by rw [Bg.intA_size, ratA_size]; omega, by rw [Bg.intA_size]; exact ratA_den s M t N, rfl⟩
 exact eq_agg (S := [(33, 0), (33, 33)]) Zk Zk Zk (EqF.cons (h1 _ _ _ _) (h1 _ _ _ _) (jr_eq_int d _ _ _ _ x.hM y.hM) (EqF.cons (h2 _ _ _ _) (h2 _ _ _ _) (jr_eq_int d _ _ _ _ x.hN y.hN) .nil))
structure JK where
 nom : ByteArray
 hol : ByteArray
@[irreducible] def JK.c (x : JK) : Array Value := rowsOf [#[.string x.nom], #[.string x.hol]]
def JK.zero : JK := ⟨{ data := #[] }, { data := #[] }⟩
def JK.b (x y : JK) : Bool := ((x.nom == y.nom) && ((x.hol == y.hol) && true))
def JK.wf (x : JK) : Prop := x.nom.size ≤ 9223372036854775807 ∧ x.hol.size ≤ 9223372036854775807
structure JQ where
 src : ByteArray
 ins : ByteArray
 cur : ByteArray
 day : Int
 prc : Rr
 kn : Int
 vd : Bool
@[irreducible] def JQ.c (x : JQ) : Array Value := rowsOf [#[.string x.src], #[.string x.ins], #[.string x.cur], #[.int .i64 x.day], x.prc.c, #[.int .i64 x.kn], #[.bool x.vd]]
theorem JQ.rows (x : JQ) : x.c = rowsOf [#[.string x.src], #[.string x.ins], #[.string x.cur], #[.int .i64 x.day], x.prc.c, #[.int .i64 x.kn], #[.bool x.vd]] := by unfold JQ.c; rfl
theorem JQ.size (x : JQ) : x.c.size = 72 := by rw [JQ.rows]; simp [rowsOf, Rr.size]
theorem JQ.one (x : JQ) : x.c.all (·.oneCell') = true := by
 rw [JQ.rows]
 exact rows_cells_one (by
  intro e he
  simp only [List.mem_cons, List.not_mem_nil, or_false] at he
  rcases he with rfl | rfl | rfl | rfl | rfl | rfl | rfl
  ·simp [Value.oneCell']
  ·simp [Value.oneCell']
  ·simp [Value.oneCell']
  ·simp [Value.oneCell']
  ·exact Rr.one _
  ·simp [Value.oneCell']
  ·simp [Value.oneCell'])
theorem JQ.sT : sizT 40 = some 72 := by kernel_rfl
theorem JQ.la (x : JQ) : LA 40 x.c 0 (.agg x.c) := LA.whole Zk (by rw [JQ.size]; exact JQ.sT)
theorem JQ.sa (x : JQ) {z : Array Value} (h : z.size = 72) : SA 40 z 0 (.agg x.c) x.c := SA.whole (by rw [JQ.size]; exact JQ.sT) x.one (by rw [JQ.size, h])
theorem JQ.f_src (x : JQ) : FA 9 x.c 0 (.string x.src) := by rw [JQ.rows]; exact fa_one 0 Zk rfl (by simp [offs, Rr.size])
theorem JQ.f_ins (x : JQ) : FA 9 x.c 1 (.string x.ins) := by rw [JQ.rows]; exact fa_one 1 Zk rfl (by simp [offs, Rr.size])
theorem JQ.f_cur (x : JQ) : FA 9 x.c 2 (.string x.cur) := by rw [JQ.rows]; exact fa_one 2 Zk rfl (by simp [offs, Rr.size])
theorem JQ.s_cur (x : JQ) (v : ByteArray) : SA 9 x.c 2 (.string v) { x with cur := v }.c := by rw [JQ.rows, JQ.rows]; exact sa_fld_one 2 Zk rfl rfl rfl (by simp [offs, Rr.size])
theorem JQ.f_day (x : JQ) : FA 3 x.c 3 (.int .i64 x.day) := by rw [JQ.rows]; exact fa_one 3 Zk rfl (by simp [offs, Rr.size])
theorem JQ.f_prc (x : JQ) : FA 35 x.c 4 (.agg x.prc.c) := by rw [JQ.rows]; exact fa_agg 4 Zk (by rw [Rr.size]; kernel_rfl) rfl (by simp [offs, Rr.size])
theorem JQ.s_prc (x : JQ) (v : Rr) : SA 35 x.c 4 (.agg v.c) { x with prc := v }.c := by rw [JQ.rows, JQ.rows]; exact sa_fld_agg 4 (by rw [Rr.size]; kernel_rfl) v.one rfl (by rw [Rr.size, Rr.size]) (by simp [offs, Rr.size])
theorem JQ.f_kn (x : JQ) : FA 3 x.c 70 (.int .i64 x.kn) := by rw [JQ.rows]; exact fa_one 5 Zk rfl (by simp [offs, Rr.size])
theorem JQ.s_kn (x : JQ) (v : Int) : SA 3 x.c 70 (.int .i64 v) { x with kn := v }.c := by rw [JQ.rows, JQ.rows]; exact sa_fld_one 5 Zk rfl rfl rfl (by simp [offs, Rr.size])
theorem JQ.f_vd (x : JQ) : FA 4 x.c 71 (.bool x.vd) := by rw [JQ.rows]; exact fa_one 6 Zk rfl (by simp [offs, Rr.size])
theorem JQ.s_vd (x : JQ) (v : Bool) : SA 4 x.c 71 (.bool v) { x with vd := v }.c := by rw [JQ.rows, JQ.rows]; exact sa_fld_one 6 Zk rfl rfl rfl (by simp [offs, Rr.size])
def JQ.zero : JQ := ⟨{ data := #[] }, { data := #[] }, { data := #[] }, 0, Rr.zero, 0, false⟩
theorem JQ.zeroC : JQ.zero.c = #[Value.string { data := #[] }, .string { data := #[] }, .string { data := #[] }, .int .i64 0] ++ Bg.ratA false 0 false 0 ++ #[.int .i64 0, .bool false] := by
 rw [JQ.rows]
 apply Array.toList_inj.1
 simp [rowsOf, JQ.zero, Rr.zero_c]
theorem JQ.zeroF : (zeroValue 40).run Tryz.prog = fun w => .ok (.agg JQ.zero.c) w := by
 rw [JQ.zeroC]; unfold Bg.ratA; rw [← Bg.zeroInt]; kernel_rfl
theorem JQ.za : ZA 40 JQ.zero.c := ⟨_, rfl, fun w => by rw [JQ.zeroF]⟩
theorem JQ.und : Tryz.prog.underlying 40 = some (.struct (Tryz.prog.fieldsOf 40)) := by kernel_rfl
theorem JQ.shape : shapeOf [#[.string JQ.zero.src], #[.string JQ.zero.ins], #[.string JQ.zero.cur], #[.int .i64 JQ.zero.day], JQ.zero.prc.c, #[.int .i64 JQ.zero.kn], #[.bool JQ.zero.vd]] = [(0, 1), (1, 1), (2, 1), (3, 1), (4, 66), (70, 1), (71, 1)] := by
 exact z9_58
theorem JQ.places (w : World) : ((Tryz.prog.fieldsOf 40).mapM (fun f => do pure (f.offset, ← sizeOf f.type)) : Sem (Array (Nat × Nat))).run Tryz.prog w = .ok [(0, 1), (1, 1), (2, 1), (3, 1), (4, 66), (70, 1), (71, 1)].toArray w := by kernel_rfl
theorem JQ.bld {parts : Array (Nat × Value)} {r : JQ} (h : ∀ p ∈ parts.toList, ∃ n, ([(0, 1), (1, 1), (2, 1), (3, 1), (4, 66), (70, 1), (71, 1)] : List (Nat × Nat))[p.1]?.map Prod.snd = some n ∧ p.2.cells.size = n) (hr : rowsOf (setsL [#[.string JQ.zero.src], #[.string JQ.zero.ins], #[.string JQ.zero.cur], #[.int .i64 JQ.zero.day], JQ.zero.prc.c, #[.int .i64 JQ.zero.kn], #[.bool JQ.zero.vd]] parts.toList) = r.c) (w : World) : (Instr.build 40 parts).run Tryz.prog w = .ok (.agg r.c) w :=
 run_build_flds JQ.und (fun w => by rw [JQ.zeroF, JQ.rows]) JQ.places JQ.shape h hr w
def JQ.b (x y : JQ) : Bool := ((x.src == y.src) && ((x.ins == y.ins) && ((x.cur == y.cur) && ((x.day == y.day) && (Rr.b x.prc y.prc && ((x.kn == y.kn) && ((x.vd == y.vd) && true)))))))
def JQ.wf (x : JQ) : Prop := x.src.size ≤ 9223372036854775807 ∧ x.ins.size ≤ 9223372036854775807 ∧ x.cur.size ≤ 9223372036854775807
structure JA where
 kd : Int
 key : ByteArray
 ins : ByteArray
 into : ByteArray
 day : Int
 nm : Int
 dn : Int
 csh : Rr
 cur : ByteArray
 kn : Int
 vd : Bool
@[irreducible] def JA.c (x : JA) : Array Value := rowsOf [#[.int .i64 x.kd], #[.string x.key], #[.string x.ins], #[.string x.into], #[.int .i64 x.day], #[.int .i64 x.nm], #[.int .i64 x.dn], x.csh.c, #[.string x.cur], #[.int .i64 x.kn], #[.bool x.vd]]
def JA.zero : JA := ⟨0, { data := #[] }, { data := #[] }, { data := #[] }, 0, 0, 0, Rr.zero, { data := #[] }, 0, false⟩
def JA.b (x y : JA) : Bool := ((x.kd == y.kd) && ((x.key == y.key) && ((x.ins == y.ins) && ((x.into == y.into) && ((x.day == y.day) && ((x.nm == y.nm) && ((x.dn == y.dn) && (Rr.b x.csh y.csh && ((x.cur == y.cur) && ((x.kn == y.kn) && ((x.vd == y.vd) && true)))))))))))
def JA.wf (x : JA) : Prop := x.key.size ≤ 9223372036854775807 ∧ x.ins.size ≤ 9223372036854775807 ∧ x.into.size ≤ 9223372036854775807 ∧ x.cur.size ≤ 9223372036854775807
structure JE where
 kd : Int
 key : ByteArray
 day : Int
 stl : Int
 ins : ByteArray
 qty : Int
 amt : Int
 cur : ByteArray
 kn : Int
 vd : Bool
@[irreducible] def JE.c (x : JE) : Array Value := rowsOf [#[.int .i64 x.kd], #[.string x.key], #[.int .i64 x.day], #[.int .i64 x.stl], #[.string x.ins], #[.int .i64 x.qty], #[.int .i64 x.amt], #[.string x.cur], #[.int .i64 x.kn], #[.bool x.vd]]
def JE.zero : JE := ⟨0, { data := #[] }, 0, 0, { data := #[] }, 0, 0, { data := #[] }, 0, false⟩
def JE.b (x y : JE) : Bool := ((x.kd == y.kd) && ((x.key == y.key) && ((x.day == y.day) && ((x.stl == y.stl) && ((x.ins == y.ins) && ((x.qty == y.qty) && ((x.amt == y.amt) && ((x.cur == y.cur) && ((x.kn == y.kn) && ((x.vd == y.vd) && true))))))))))
def JE.wf (x : JE) : Prop := x.key.size ≤ 9223372036854775807 ∧ x.ins.size ≤ 9223372036854775807 ∧ x.cur.size ≤ 9223372036854775807
structure JO where
 key : ByteArray
 acc : JK
 fnd : ByteArray
 cls : ByteArray
 kd : Int
 amt : Int
 un : Int
 at_ : Int
 kn : Int
 vd : Bool
@[irreducible] def JO.c (x : JO) : Array Value := rowsOf [#[.string x.key], x.acc.c, #[.string x.fnd], #[.string x.cls], #[.int .i64 x.kd], #[.int .i64 x.amt], #[.int .i64 x.un], #[.int .i64 x.at_], #[.int .i64 x.kn], #[.bool x.vd]]
def JO.zero : JO := ⟨{ data := #[] }, JK.zero, { data := #[] }, { data := #[] }, 0, 0, 0, 0, 0, false⟩
def JO.b (x y : JO) : Bool := ((x.key == y.key) && (JK.b x.acc y.acc && ((x.fnd == y.fnd) && ((x.cls == y.cls) && ((x.kd == y.kd) && ((x.amt == y.amt) && ((x.un == y.un) && ((x.at_ == y.at_) && ((x.kn == y.kn) && ((x.vd == y.vd) && true))))))))))
def JO.wf (x : JO) : Prop := x.key.size ≤ 9223372036854775807 ∧ x.acc.wf ∧ x.fnd.size ≤ 9223372036854775807 ∧ x.cls.size ≤ 9223372036854775807
structure JT where
 key : ByteArray
 fnd : ByteArray
 cls : ByteArray
 fr : JK
 tw : JK
 un : Int
 day : Int
 kn : Int
 vd : Bool
@[irreducible] def JT.c (x : JT) : Array Value := rowsOf [#[.string x.key], #[.string x.fnd], #[.string x.cls], x.fr.c, x.tw.c, #[.int .i64 x.un], #[.int .i64 x.day], #[.int .i64 x.kn], #[.bool x.vd]]
def JT.zero : JT := ⟨{ data := #[] }, { data := #[] }, { data := #[] }, JK.zero, JK.zero, 0, 0, 0, false⟩
def JT.b (x y : JT) : Bool := ((x.key == y.key) && ((x.fnd == y.fnd) && ((x.cls == y.cls) && (JK.b x.fr y.fr && (JK.b x.tw y.tw && ((x.un == y.un) && ((x.day == y.day) && ((x.kn == y.kn) && ((x.vd == y.vd) && true)))))))))
def JT.wf (x : JT) : Prop := x.key.size ≤ 9223372036854775807 ∧ x.fnd.size ≤ 9223372036854775807 ∧ x.cls.size ≤ 9223372036854775807 ∧ x.fr.wf ∧ x.tw.wf
structure JS where
 key : ByteArray
 fnd : ByteArray
 fr : Int
 tl : Int
 kn : Int
 vd : Bool
@[irreducible] def JS.c (x : JS) : Array Value := rowsOf [#[.string x.key], #[.string x.fnd], #[.int .i64 x.fr], #[.int .i64 x.tl], #[.int .i64 x.kn], #[.bool x.vd]]
def JS.zero : JS := ⟨{ data := #[] }, { data := #[] }, 0, 0, 0, false⟩
def JS.b (x y : JS) : Bool := ((x.key == y.key) && ((x.fnd == y.fnd) && ((x.fr == y.fr) && ((x.tl == y.tl) && ((x.kn == y.kn) && ((x.vd == y.vd) && true))))))
def JS.wf (x : JS) : Prop := x.key.size ≤ 9223372036854775807 ∧ x.fnd.size ≤ 9223372036854775807
structure JC where
 day : Int
 kn : Int
 as_ : Int
@[irreducible] def JC.c (x : JC) : Array Value := rowsOf [#[.int .i64 x.day], #[.int .i64 x.kn], #[.int .i64 x.as_]]
def JC.zero : JC := ⟨0, 0, 0⟩
def JC.b (x y : JC) : Bool := ((x.day == y.day) && ((x.kn == y.kn) && ((x.as_ == y.as_) && true)))
def JC.wf (_ : JC) : Prop := True
structure JR where
 kd : Int
 fnd : ByteArray
 day : Int
 q : JQ
 a : JA
 e : JE
 o : JO
 t : JT
 s : JS
@[irreducible] def JR.c (x : JR) : Array Value := rowsOf [#[.int .i64 x.kd], #[.string x.fnd], #[.int .i64 x.day], x.q.c, x.a.c, x.e.c, x.o.c, x.t.c, x.s.c]
def JR.zero : JR := ⟨0, { data := #[] }, 0, JQ.zero, JA.zero, JE.zero, JO.zero, JT.zero, JS.zero⟩
def JR.b (x y : JR) : Bool := ((x.kd == y.kd) && ((x.fnd == y.fnd) && ((x.day == y.day) && (JQ.b x.q y.q && (JA.b x.a y.a && (JE.b x.e y.e && (JO.b x.o y.o && (JT.b x.t y.t && (JS.b x.s y.s && true)))))))))
def JR.wf (x : JR) : Prop := x.fnd.size ≤ 9223372036854775807 ∧ x.q.wf ∧ x.a.wf ∧ x.e.wf ∧ x.o.wf ∧ x.t.wf ∧ x.s.wf
end
section
namespace Ac
def fl (x : Rat) : Int := x.num / x.den
def rm (x : Rat) : Int := x.num % x.den
def rhe (x : Rat) : Int := if 2 * rm x < x.den then fl x else if (x.den : Int) < 2 * rm x then fl x + 1 else if fl x % 2 = 1 then fl x + 1 else fl x
theorem den_pos (x : Rat) : (0 : Int) < x.den := by have := x.den_pos; omega
end Ac
end
section
@[irreducible] def Ex.nA (c : Array Value) (e : Int) : Array Value := rowsOf [c, #[.int .i64 e]]
section
variable {o : Oper} {a : Act} {T : TypeId} {r : Array Value}
theorem h_fld {i : Nat} {x : Operand} {c : Array Value} {v : Value} {t : TypeId} {k : Nat} (ho : o.op = .field T x i) (hx : a.eval x = .agg c) (hu : Tryz.prog.underlying T = some (.struct (Tryz.prog.fieldsOf T))) (hf : ((Tryz.prog.fieldsOf T)[i]?).map (fun f => (f.type, f.offset)) = some (t, k)) (hv : FA t c k v) : ∀ w, (execOp a.eval o).run Tryz.prog w = .ok (.value v) w := fun w => by
 cases hg : (Tryz.prog.fieldsOf T)[i]? with
 | none => rw [hg] at hf; cases hf
 | some f =>
  rw [hg] at hf
  have h1 : f.type = t ∧ f.offset = k := by simpa using hf
  have h2 := hv.pt w
  rw [← h1.1, ← h1.2] at h2
  unfold execOp
  simp [ho, hx, Instr.field, run_underlying hu, hg, asAgg, h2]
end
section
variable {ops : Array Oper} {rest : List Oper} {a a2 : Act} {w : World} {Q : Exit → Act → World → Prop} {d : Option Tmp} {ty T t : TypeId} {ps : String} {af : Array Edge} {g : Option (Nat × Bool)} {x y : Operand} {v : Value} {i : Nat}
theorem g_fld (h : OpG ops Q rest a w { dst := d, op := .field T x i, type := ty, pos := ps, after := af, guard := g }) : wpList Tryz.prog ops Q ({ dst := d, op := .field T x i, type := ty, pos := ps, after := af, guard := g } :: rest) a w := h
theorem a_fld {c : Array Value} {k : Nat} (h : wpList Tryz.prog ops Q rest a2 w) (hv : FA t c k v) (hw : WantT ops { dst := d, op := .field T x i, type := ty, pos := ps, after := af, guard := g } a := by first | exact Or.inl rfl | exact Or.inr ⟨_, _, _, rfl, rfl, rfl⟩) (hx : a.eval x = .agg c := by (conv => lhs; whnf) <;> rfl) (hu : Tryz.prog.underlying T = some (.struct (Tryz.prog.fieldsOf T)) := by kernel_rfl) (hf : ((Tryz.prog.fieldsOf T)[i]?).map (fun f => (f.type, f.offset)) = some (t, k) := by kernel_rfl) (ha : a.put d v = a2 := by ((try simp only [Act.put, Za, Zx, Zy]) <;> rfl)) : OpG ops Q rest a w { dst := d, op := .field T x i, type := ty, pos := ps, after := af, guard := g } := by
 refine wpList_step fun K hK => ?_
 rw [if_pos hw.wanted]
 unfold Oper.wp
 rw [h_fld rfl hx hu hf hv]
 exact hK _ _ (ha ▸ h)
end
inductive Ex
 | ok (x : Rat)
 | er (e : Int)
def Ex.cv : Ex → Array Value
 | .ok x => Rt.qA x
 | .er _ => Bg.rZ 0 0
def Ex.ce : Ex → Int
 | .ok _ => 0
 | .er e => e
abbrev Ex.A (n : Ex) : Array Value := Ex.nA n.cv n.ce
def Ex.Fit : Ex → Prop
 | .ok x => Rt.Fit x
 | .er e => e ≠ 0
noncomputable def Ex.mk (z : Rat) : Ex := open Classical in if Rt.Fit z then .ok z else .er 10
def Ex.op (f : Rat → Rat → Ex) : Ex → Ex → Ex
 | .er e, _ => .er e
 | .ok _, .er e => .er e
 | .ok x, .ok y => f x y
noncomputable def Ex.add : Ex → Ex → Ex := Ex.op fun x y => Ex.mk (x + y)
noncomputable def Ex.sub : Ex → Ex → Ex := Ex.op fun x y => Ex.mk (x - y)
noncomputable def Ex.mul : Ex → Ex → Ex := Ex.op fun x y => Ex.mk (x * y)
noncomputable def Ex.quo : Ex → Ex → Ex := Ex.op fun x y => if y = 0 then .er 11 else Ex.mk (x / y)
theorem sa_r66 {c d : Array Value} (h : d.size = 66) (h1 : d.all (·.oneCell') = true) (hc : c.size = 66) : SA 35 c 0 (.agg d) d := SA.whole (by rw [h]; exact sT_rat) h1 (by rw [h, hc])
end
section
structure Sl where
 A : Option Addr
 n : Nat
 c : Nat
def Sl.v (x : Sl) : Value := .slice x.A x.n x.c
def rr (x : Rat) : Rr := if h : x.num.natAbs < Bg.lim ∧ x.den < Bg.lim then ⟨decide (x.num < 0), x.num.natAbs, false, x.den, h.1, h.2⟩ else Rr.zero
theorem rr_c {x : Rat} (h : Rt.Fit x) : (rr x).c = Rt.qA x := by
 unfold rr
 rw [dif_pos ⟨lt480_lim h.1, lt480_lim h.2⟩, Rr.c_eq, qA_rZ, rZ_ratA]
 congr 1
structure WP where
 src : Sl
 tol : Rr
 stale : Int
@[irreducible] def WP.c (x : WP) : Array Value := rowsOf [#[Sl.v x.src], x.tol.c, #[.int .i64 x.stale]]
theorem WP.rows (x : WP) : x.c = rowsOf [#[Sl.v x.src], x.tol.c, #[.int .i64 x.stale]] := by unfold WP.c; rfl
theorem WP.size (x : WP) : x.c.size = 68 := by rw [WP.rows]; simp [rowsOf, Rr.size]
theorem WP.one (x : WP) : x.c.all (·.oneCell') = true := by
 rw [WP.rows]
 exact rows_cells_one (by
  intro e he
  simp only [List.mem_cons, List.not_mem_nil, or_false] at he
  rcases he with rfl | rfl | rfl
  ·simp [Value.oneCell', Sl.v]
  ·exact Rr.one _
  ·simp [Value.oneCell', Sl.v])
theorem WP.sT : sizT 37 = some 68 := by kernel_rfl
theorem WP.la (x : WP) : LA 37 x.c 0 (.agg x.c) := LA.whole Zk (by rw [WP.size]; exact WP.sT)
theorem WP.sa (x : WP) {z : Array Value} (h : z.size = 68) : SA 37 z 0 (.agg x.c) x.c := SA.whole (by rw [WP.size]; exact WP.sT) x.one (by rw [WP.size, h])
theorem WP.f_src (x : WP) : FA 29 x.c 0 (Sl.v x.src) := by rw [WP.rows]; exact fa_one 0 Zk rfl (by simp [offs, Rr.size])
theorem WP.s_src (x : WP) (v : Sl) : SA 29 x.c 0 (Sl.v v) { x with src := v }.c := by rw [WP.rows, WP.rows]; exact sa_fld_one 0 Zk rfl rfl rfl (by simp [offs, Rr.size])
theorem WP.f_tol (x : WP) : FA 35 x.c 1 (.agg x.tol.c) := by rw [WP.rows]; exact fa_agg 1 Zk (by rw [Rr.size]; kernel_rfl) rfl (by simp [offs, Rr.size])
theorem WP.f_stale (x : WP) : FA 3 x.c 67 (.int .i64 x.stale) := by rw [WP.rows]; exact fa_one 2 Zk rfl (by simp [offs, Rr.size])
def WP.zero : WP := ⟨⟨none, 0, 0⟩, Rr.zero, 0⟩
theorem WP.zeroC : WP.zero.c = #[Value.slice none 0 0] ++ Bg.ratA false 0 false 0 ++ #[.int .i64 0] := by
 rw [WP.rows]
 apply Array.toList_inj.1
 simp [rowsOf, WP.zero, Sl.v, Rr.zero_c]
theorem WP.zeroF : (zeroValue 37).run Tryz.prog = fun w => .ok (.agg WP.zero.c) w := by
 rw [WP.zeroC]; unfold Bg.ratA; rw [← Bg.zeroInt]; kernel_rfl
theorem WP.za : ZA 37 WP.zero.c := ⟨_, rfl, fun w => by rw [WP.zeroF]⟩
theorem WP.und : Tryz.prog.underlying 37 = some (.struct (Tryz.prog.fieldsOf 37)) := by kernel_rfl
theorem WP.shape : shapeOf [#[Sl.v WP.zero.src], WP.zero.tol.c, #[.int .i64 WP.zero.stale]] = [(0, 1), (1, 66), (67, 1)] := by
 exact z9_58
theorem WP.places (w : World) : ((Tryz.prog.fieldsOf 37).mapM (fun f => do pure (f.offset, ← sizeOf f.type)) : Sem (Array (Nat × Nat))).run Tryz.prog w = .ok [(0, 1), (1, 66), (67, 1)].toArray w := by kernel_rfl
theorem WP.bld {parts : Array (Nat × Value)} {r : WP} (h : ∀ p ∈ parts.toList, ∃ n, ([(0, 1), (1, 66), (67, 1)] : List (Nat × Nat))[p.1]?.map Prod.snd = some n ∧ p.2.cells.size = n) (hr : rowsOf (setsL [#[Sl.v WP.zero.src], WP.zero.tol.c, #[.int .i64 WP.zero.stale]] parts.toList) = r.c) (w : World) : (Instr.build 37 parts).run Tryz.prog w = .ok (.agg r.c) w :=
 run_build_flds WP.und (fun w => by rw [WP.zeroF, WP.rows]) WP.places WP.shape h hr w
structure CH where
 src : ByteArray
 cur : ByteArray
 day : Int
 prc : Rr
 chl : Sl
@[irreducible] def CH.c (x : CH) : Array Value := rowsOf [#[.string x.src], #[.string x.cur], #[.int .i64 x.day], x.prc.c, #[Sl.v x.chl]]
theorem CH.rows (x : CH) : x.c = rowsOf [#[.string x.src], #[.string x.cur], #[.int .i64 x.day], x.prc.c, #[Sl.v x.chl]] := by unfold CH.c; rfl
theorem CH.size (x : CH) : x.c.size = 70 := by rw [CH.rows]; simp [rowsOf, Rr.size]
theorem CH.one (x : CH) : x.c.all (·.oneCell') = true := by
 rw [CH.rows]
 exact rows_cells_one (by
  intro e he
  simp only [List.mem_cons, List.not_mem_nil, or_false] at he
  rcases he with rfl | rfl | rfl | rfl | rfl
  ·simp [Value.oneCell', Sl.v]
  ·simp [Value.oneCell', Sl.v]
  ·simp [Value.oneCell', Sl.v]
  ·exact Rr.one _
  ·simp [Value.oneCell', Sl.v])
theorem CH.sT : sizT 52 = some 70 := by kernel_rfl
theorem CH.la (x : CH) : LA 52 x.c 0 (.agg x.c) := LA.whole Zk (by rw [CH.size]; exact CH.sT)
theorem CH.sa (x : CH) {z : Array Value} (h : z.size = 70) : SA 52 z 0 (.agg x.c) x.c := SA.whole (by rw [CH.size]; exact CH.sT) x.one (by rw [CH.size, h])
theorem CH.f_src (x : CH) : FA 9 x.c 0 (.string x.src) := by rw [CH.rows]; exact fa_one 0 Zk rfl (by simp [offs, Rr.size])
theorem CH.s_src (x : CH) (v : ByteArray) : SA 9 x.c 0 (.string v) { x with src := v }.c := by rw [CH.rows, CH.rows]; exact sa_fld_one 0 Zk rfl rfl rfl (by simp [offs, Rr.size])
theorem CH.f_cur (x : CH) : FA 9 x.c 1 (.string x.cur) := by rw [CH.rows]; exact fa_one 1 Zk rfl (by simp [offs, Rr.size])
theorem CH.s_cur (x : CH) (v : ByteArray) : SA 9 x.c 1 (.string v) { x with cur := v }.c := by rw [CH.rows, CH.rows]; exact sa_fld_one 1 Zk rfl rfl rfl (by simp [offs, Rr.size])
theorem CH.f_day (x : CH) : FA 3 x.c 2 (.int .i64 x.day) := by rw [CH.rows]; exact fa_one 2 Zk rfl (by simp [offs, Rr.size])
theorem CH.s_day (x : CH) (v : Int) : SA 3 x.c 2 (.int .i64 v) { x with day := v }.c := by rw [CH.rows, CH.rows]; exact sa_fld_one 2 Zk rfl rfl rfl (by simp [offs, Rr.size])
theorem CH.f_prc (x : CH) : FA 35 x.c 3 (.agg x.prc.c) := by rw [CH.rows]; exact fa_agg 3 Zk (by rw [Rr.size]; kernel_rfl) rfl (by simp [offs, Rr.size])
theorem CH.s_prc (x : CH) (v : Rr) : SA 35 x.c 3 (.agg v.c) { x with prc := v }.c := by rw [CH.rows, CH.rows]; exact sa_fld_agg 3 (by rw [Rr.size]; kernel_rfl) v.one rfl (by rw [Rr.size, Rr.size]) (by simp [offs, Rr.size])
theorem CH.f_chl (x : CH) : FA 29 x.c 69 (Sl.v x.chl) := by rw [CH.rows]; exact fa_one 4 Zk rfl (by simp [offs, Rr.size])
theorem CH.s_chl (x : CH) (v : Sl) : SA 29 x.c 69 (Sl.v v) { x with chl := v }.c := by rw [CH.rows, CH.rows]; exact sa_fld_one 4 Zk rfl rfl rfl (by simp [offs, Rr.size])
def CH.zero : CH := ⟨{ data := #[] }, { data := #[] }, 0, Rr.zero, ⟨none, 0, 0⟩⟩
theorem CH.zeroC : CH.zero.c = #[Value.string { data := #[] }, .string { data := #[] }, .int .i64 0] ++ Bg.ratA false 0 false 0 ++ #[.slice none 0 0] := by
 rw [CH.rows]
 apply Array.toList_inj.1
 simp [rowsOf, CH.zero, Sl.v, Rr.zero_c]
theorem CH.zeroF : (zeroValue 52).run Tryz.prog = fun w => .ok (.agg CH.zero.c) w := by
 rw [CH.zeroC]; unfold Bg.ratA; rw [← Bg.zeroInt]; kernel_rfl
theorem CH.za : ZA 52 CH.zero.c := ⟨_, rfl, fun w => by rw [CH.zeroF]⟩
theorem CH.und : Tryz.prog.underlying 52 = some (.struct (Tryz.prog.fieldsOf 52)) := by kernel_rfl
theorem CH.shape : shapeOf [#[.string CH.zero.src], #[.string CH.zero.cur], #[.int .i64 CH.zero.day], CH.zero.prc.c, #[Sl.v CH.zero.chl]] = [(0, 1), (1, 1), (2, 1), (3, 66), (69, 1)] := by
 exact z9_58
theorem CH.places (w : World) : ((Tryz.prog.fieldsOf 52).mapM (fun f => do pure (f.offset, ← sizeOf f.type)) : Sem (Array (Nat × Nat))).run Tryz.prog w = .ok [(0, 1), (1, 1), (2, 1), (3, 66), (69, 1)].toArray w := by kernel_rfl
theorem CH.bld {parts : Array (Nat × Value)} {r : CH} (h : ∀ p ∈ parts.toList, ∃ n, ([(0, 1), (1, 1), (2, 1), (3, 66), (69, 1)] : List (Nat × Nat))[p.1]?.map Prod.snd = some n ∧ p.2.cells.size = n) (hr : rowsOf (setsL [#[.string CH.zero.src], #[.string CH.zero.cur], #[.int .i64 CH.zero.day], CH.zero.prc.c, #[Sl.v CH.zero.chl]] parts.toList) = r.c) (w : World) : (Instr.build 52 parts).run Tryz.prog w = .ok (.agg r.c) w :=
 run_build_flds CH.und (fun w => by rw [CH.zeroF, CH.rows]) CH.places CH.shape h hr w
end
section
structure MM where
 l : Sl
 p : WP
 k : Int
 day : Int
@[irreducible] def MM.c (x : MM) : Array Value := rowsOf [#[Sl.v x.l], x.p.c, #[.int .i64 x.k], #[.int .i64 x.day]]
theorem MM.rows (x : MM) : x.c = rowsOf [#[Sl.v x.l], x.p.c, #[.int .i64 x.k], #[.int .i64 x.day]] := by unfold MM.c; rfl
theorem MM.size (x : MM) : x.c.size = 71 := by rw [MM.rows]; simp [rowsOf, WP.size]
theorem MM.one (x : MM) : x.c.all (·.oneCell') = true := by
 rw [MM.rows]
 exact rows_cells_one (by
  intro e he
  simp only [List.mem_cons, List.not_mem_nil, or_false] at he
  rcases he with rfl | rfl | rfl | rfl
  ·simp [Value.oneCell', Sl.v]
  ·exact WP.one _
  ·simp [Value.oneCell', Sl.v]
  ·simp [Value.oneCell', Sl.v])
theorem MM.sT : sizT 96 = some 71 := by kernel_rfl
theorem MM.la (x : MM) : LA 96 x.c 0 (.agg x.c) := LA.whole Zk (by rw [MM.size]; exact MM.sT)
theorem MM.sa (x : MM) {z : Array Value} (h : z.size = 71) : SA 96 z 0 (.agg x.c) x.c := SA.whole (by rw [MM.size]; exact MM.sT) x.one (by rw [MM.size, h])
theorem MM.f_l (x : MM) : FA 26 x.c 0 (Sl.v x.l) := by rw [MM.rows]; exact fa_one 0 Zk rfl (by simp [offs, WP.size])
theorem MM.f_p (x : MM) : FA 37 x.c 1 (.agg x.p.c) := by rw [MM.rows]; exact fa_agg 1 Zk (by rw [WP.size]; kernel_rfl) rfl (by simp [offs, WP.size])
theorem MM.f_k (x : MM) : FA 3 x.c 69 (.int .i64 x.k) := by rw [MM.rows]; exact fa_one 2 Zk rfl (by simp [offs, WP.size])
theorem MM.f_day (x : MM) : FA 3 x.c 70 (.int .i64 x.day) := by rw [MM.rows]; exact fa_one 3 Zk rfl (by simp [offs, WP.size])
def MM.zero : MM := ⟨⟨none, 0, 0⟩, WP.zero, 0, 0⟩
theorem MM.zeroC : MM.zero.c = #[Value.slice none 0 0, .slice none 0 0] ++ Bg.ratA false 0 false 0 ++ #[.int .i64 0, .int .i64 0, .int .i64 0] := by
 rw [MM.rows]
 apply Array.toList_inj.1
 simp [rowsOf, MM.zero, Sl.v, WP.zeroC]
theorem MM.zeroF : (zeroValue 96).run Tryz.prog = fun w => .ok (.agg MM.zero.c) w := by
 rw [MM.zeroC]; unfold Bg.ratA; rw [← Bg.zeroInt]; kernel_rfl
theorem MM.za : ZA 96 MM.zero.c := ⟨_, rfl, fun w => by rw [MM.zeroF]⟩
theorem MM.und : Tryz.prog.underlying 96 = some (.struct (Tryz.prog.fieldsOf 96)) := by kernel_rfl
theorem MM.shape : shapeOf [#[Sl.v MM.zero.l], MM.zero.p.c, #[.int .i64 MM.zero.k], #[.int .i64 MM.zero.day]] = [(0, 1), (1, 68), (69, 1), (70, 1)] := by
 simp [shapeOf, offs, WP.size, List.range, List.range.loop]
theorem MM.places (w : World) : ((Tryz.prog.fieldsOf 96).mapM (fun f => do pure (f.offset, ← sizeOf f.type)) : Sem (Array (Nat × Nat))).run Tryz.prog w = .ok [(0, 1), (1, 68), (69, 1), (70, 1)].toArray w := by kernel_rfl
theorem MM.bld {parts : Array (Nat × Value)} {r : MM} (h : ∀ p ∈ parts.toList, ∃ n, ([(0, 1), (1, 68), (69, 1), (70, 1)] : List (Nat × Nat))[p.1]?.map Prod.snd = some n ∧ p.2.cells.size = n) (hr : rowsOf (setsL [#[Sl.v MM.zero.l], MM.zero.p.c, #[.int .i64 MM.zero.k], #[.int .i64 MM.zero.day]] parts.toList) = r.c) (w : World) : (Instr.build 96 parts).run Tryz.prog w = .ok (.agg r.c) w :=
 run_build_flds MM.und (fun w => by rw [MM.zeroF, MM.rows]) MM.places MM.shape h hr w
end
end Go.Proofs.YtiekmabiecalbaaGreatDoor
