/- Bounds and order of rational numbers. -/
import Derived.Test.YtekfabhmopkapaaRatZ
namespace Go.Proofs.Ytekfabhmopkapaa
set_option maxRecDepth 8000
open Go.RowKit
/-- Numerator of at most i bits, denominator of at most j. -/
structure Rt.Bd (x : Rat) (i j : Nat) : Prop where
  n : x.num.natAbs < Bg.p2 i
  d : x.den < Bg.p2 j
theorem Rt.Bd.fit {x : Rat} {i j : Nat} (h : Rt.Bd x i j) (hi : i ≤ 480 := by decide) (hj : j ≤ 480 := by decide) : Rt.Fit x :=
  ⟨Nat.lt_of_lt_of_le h.n (Bg.p2_mono hi), Nat.lt_of_lt_of_le h.d (Bg.p2_mono hj)⟩
theorem Rt.Bd.up {x : Rat} {i j i' j' : Nat} (h : Rt.Bd x i j) (hi : i ≤ i' := by decide) (hj : j ≤ j' := by decide) : Rt.Bd x i' j' :=
  ⟨Nat.lt_of_lt_of_le h.n (Bg.p2_mono hi), Nat.lt_of_lt_of_le h.d (Bg.p2_mono hj)⟩
theorem Rt.mul_p2 {p d : Int} {i j : Nat} (hp : p.natAbs < Bg.p2 i) (hd : d.natAbs < Bg.p2 j) : (p * d).natAbs < Bg.p2 (i + j) := by
  rw [Int.natAbs_mul, Bg.p2_add]; exact Nat.mul_lt_mul'' hp hd
theorem Rt.Bd.dn {x : Rat} {i j : Nat} (h : Rt.Bd x i j) : ((x.den : Nat) : Int).natAbs < Bg.p2 j := by rw [Int.natAbs_natCast]; exact h.d
theorem Rt.Bd.divInt {p q : Int} {i j : Nat} (h0 : q ≠ 0) (hp : p.natAbs < Bg.p2 i) (hq : q.natAbs < Bg.p2 j) : Rt.Bd (Rat.divInt p q) i j := by
  obtain ⟨l1, l2⟩ := Rt.divInt_le (p := p) h0
  exact ⟨by omega, by omega⟩
theorem Rt.Bd.add {x y : Rat} {i j i2 j2 : Nat} (hx : Rt.Bd x i j) (hy : Rt.Bd y i2 j2) : Rt.Bd (x + y) (max (i + j2) (i2 + j) + 1) (j + j2) := by
  rw [Rt.add_div]
  refine .divInt (Rt.den2_ne x y) ?_ (Rt.mul_p2 hx.dn hy.dn)
  have h1 := Nat.lt_of_lt_of_le (Rt.mul_p2 hx.n hy.dn) (Bg.p2_mono (Nat.le_max_left (i + j2) (i2 + j)))
  have h2 := Nat.lt_of_lt_of_le (Rt.mul_p2 hy.n hx.dn) (Bg.p2_mono (Nat.le_max_right (i + j2) (i2 + j)))
  rw [Bg.p2_succ]
  show (x.num * y.den + y.num * x.den).natAbs < _
  omega
theorem Rt.Bd.sub {x y : Rat} {i j i2 j2 : Nat} (hx : Rt.Bd x i j) (hy : Rt.Bd y i2 j2) : Rt.Bd (x - y) (max (i + j2) (i2 + j) + 1) (j + j2) := by
  rw [Rt.sub_div]
  refine .divInt (Rt.den2_ne x y) ?_ (Rt.mul_p2 hx.dn hy.dn)
  have h1 := Nat.lt_of_lt_of_le (Rt.mul_p2 hx.n hy.dn) (Bg.p2_mono (Nat.le_max_left (i + j2) (i2 + j)))
  have h2 := Nat.lt_of_lt_of_le (Rt.mul_p2 hy.n hx.dn) (Bg.p2_mono (Nat.le_max_right (i + j2) (i2 + j)))
  rw [Bg.p2_succ]
  show (x.num * y.den + -(y.num * x.den)).natAbs < _
  omega
theorem Rt.Bd.mul {x y : Rat} {i j i2 j2 : Nat} (hx : Rt.Bd x i j) (hy : Rt.Bd y i2 j2) : Rt.Bd (x * y) (i + i2) (j + j2) := by
  rw [Rt.mul_div]
  exact .divInt (Rt.den2_ne x y) (Rt.mul_p2 hx.n hy.n) (Rt.mul_p2 hx.dn hy.dn)
theorem Rt.Bd.quo {x y : Rat} {i j i2 j2 : Nat} (hx : Rt.Bd x i j) (hy : Rt.Bd y i2 j2) (h0 : y ≠ 0) : Rt.Bd (x / y) (i + j2) (j + i2) := by
  rw [Rt.quo_div]
  exact .divInt (Int.mul_ne_zero (Rt.den_ne x) (fun h => h0 (Rat.num_eq_zero.1 h))) (Rt.mul_p2 hx.n hy.dn) (Rt.mul_p2 hx.dn hy.n)
theorem Bg.p2_small {n : Nat} (k v : Nat) (hv : Bg.p2 k = v) (h : n < v) : n < Bg.p2 k := hv ▸ h
theorem Rt.cmp_sub (x y : Rat) : (x - y).num.sign = Rt.cmp x y := by
  have h0 : (x - y).num.sign = Rt.cmp (x - y) 0 := by unfold Rt.cmp; congr 1; simp
  rw [h0]
  rcases Rt.cmp_cases (x - y) 0 with ⟨h1, h2⟩ | ⟨h1, h2⟩ | ⟨h1, h2⟩ <;> rcases Rt.cmp_cases x y with ⟨h3, h4⟩ | ⟨h3, h4⟩ | ⟨h3, h4⟩ <;> first | (rw [h1, h3]; done) | (exfalso; grind)
theorem Rt.cmp_add (x y z : Rat) : Rt.cmp (x + z) (y + z) = Rt.cmp x y := by
  rcases Rt.cmp_cases (x + z) (y + z) with ⟨h1, h2⟩ | ⟨h1, h2⟩ | ⟨h1, h2⟩ <;> rcases Rt.cmp_cases x y with ⟨h3, h4⟩ | ⟨h3, h4⟩ | ⟨h3, h4⟩ <;> first | (rw [h1, h3]; done) | (exfalso; grind)
theorem Rt.cmp_mul (x y z : Rat) (hz : 0 < z) : Rt.cmp (x * z) (y * z) = Rt.cmp x y := by
  rcases Rt.cmp_cases x y with ⟨h3, h4⟩ | ⟨h3, h4⟩ | ⟨h3, h4⟩
  · rw [h3]; exact Rt.cmp_lt.2 (Rat.mul_lt_mul_of_pos_right h4 hz)
  · rw [h3, h4]; exact Rt.cmp_eq.2 rfl
  · rw [h3]; exact Rt.cmp_gt.2 (Rat.mul_lt_mul_of_pos_right h4 hz)
theorem Rt.cmp_swap (x y : Rat) : Rt.cmp y x = -Rt.cmp x y := by
  rcases Rt.cmp_cases y x with ⟨h1, h2⟩ | ⟨h1, h2⟩ | ⟨h1, h2⟩ <;> rcases Rt.cmp_cases x y with ⟨h3, h4⟩ | ⟨h3, h4⟩ | ⟨h3, h4⟩ <;> first | (rw [h1, h3]; done) | (rw [h1, h3]; rfl) | (exfalso; grind)
theorem Rt.divInt_pos {p q : Int} (hp : 0 < p) (hq : 0 < q) : 0 < Rat.divInt p q := by
  rw [Rat.divInt_eq_div]
  have h1 : (0 : Rat) < (p : Rat) := Rat.intCast_pos.2 hp
  have h2 : (0 : Rat) < (q : Rat) := Rat.intCast_pos.2 hq
  rw [Rat.div_def]
  exact Rat.mul_pos h1 (Rat.inv_pos.2 h2)
end Go.Proofs.Ytekfabhmopkapaa
