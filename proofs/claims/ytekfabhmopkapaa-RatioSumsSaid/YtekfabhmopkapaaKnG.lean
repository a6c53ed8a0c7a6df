import Derived.Test.YtekfabhmopkapaaKnMath
namespace Go.Proofs.Ytekfabhmopkapaa.Bg
set_option maxRecDepth 8000
theorem div_limb (N i : Nat) : N / pw i = limb N i + 4294967296 * (N / pw (i + 1)) := by
  have e : N / pw (i + 1) = N / pw i / 4294967296 := by rw [Nat.div_div_eq_div_mul, p32]
  rw [e]
  unfold limb
  omega
/-- What is known of the two upper limbs of the divisor and the three of the dividend. -/
structure GuF (U V n k h nx X u2 : Nat) : Prop where
  v1 : (h * 4294967296 + nx) * pw (n - 2) ≤ V
  v2 : V < (h * 4294967296 + nx + 1) * pw (n - 2)
  u1 : (X * 4294967296 + u2) * pw (n - 2) ≤ U / pw k
  u2 : U / pw k < (X * 4294967296 + u2 + 1) * pw (n - 2)
  f1 : h * pw (n - 1) ≤ V
  f2 : U / pw k < (X + 1) * pw (n - 1)
  xl : X < (h + 1) * 4294967296
  dl : U / pw k / V < 4294967296
theorem div_two {N M p : Nat} (hp : 0 < p) (h : N / p = M) : M * p ≤ N ∧ N < (M + 1) * p := by
  subst h
  refine ⟨Nat.div_mul_le_self _ _, ?_⟩
  have := Nat.lt_div_mul_add hp (a := N)
  rw [Nat.add_mul, Nat.one_mul]
  omega
theorem GuF.mk2 {A U V n k Q h nx X u2 : Nat} (hn : 2 ≤ n) (hV : V < pw n) (hS : DvSt A V n (k + 1) U Q) (hh : h = limb V (n - 1)) (hnx : nx = limb V (n - 2)) (hX : X = limb U (k + n) * 4294967296 + limb U (k + n - 1)) (hu2 : u2 = limb U (k + n - 2)) : GuF U V n k h nx X u2 := by
  have hU := hS.fits hV
  have hd := hS.digit
  have hlt := hS.lt
  have a1 := div_limb V (n - 1)
  rw [show n - 1 + 1 = n from by omega, Nat.div_eq_of_lt hV] at a1
  have a2 := div_limb V (n - 2)
  rw [show n - 2 + 1 = n - 1 from by omega, a1] at a2
  have b1 := div_limb U (k + n)
  rw [Nat.div_eq_of_lt hU] at b1
  have b2 := div_limb U (k + n - 1)
  rw [show k + n - 1 + 1 = k + n from by omega, b1] at b2
  have b3 := div_limb U (k + n - 2)
  rw [show k + n - 2 + 1 = k + n - 1 from by omega, b2] at b3
  have e2 : U / pw k / pw (n - 1) = U / pw (k + n - 1) := by rw [Nat.div_div_eq_div_mul, ← padd, show k + (n - 1) = k + n - 1 from by omega]
  have e3 : U / pw k / pw (n - 2) = U / pw (k + n - 2) := by rw [Nat.div_div_eq_div_mul, ← padd, show k + (n - 2) = k + n - 2 from by omega]
  rw [← hh] at a1 a2
  rw [← hnx] at a2
  rw [← hu2] at b3
  have b4 : U / pw (k + n - 1) = X := by omega
  have b5 : U / pw (k + n - 2) = X * 4294967296 + u2 := by omega
  have a4 : V / pw (n - 1) = h := by omega
  have a5 : V / pw (n - 2) = h * 4294967296 + nx := by omega
  obtain ⟨c1, c2⟩ := div_two (ppos (n - 1)) a4
  obtain ⟨c3, c4⟩ := div_two (ppos (n - 2)) a5
  obtain ⟨c5, c6⟩ := div_two (ppos (n - 1)) (e2.trans b4)
  obtain ⟨c7, c8⟩ := div_two (ppos (n - 2)) (e3.trans b5)
  refine ⟨c3, c4, c7, c8, c1, c6, ?_, hd⟩
  have h1 : U / pw k < V * 4294967296 := by
    rw [Nat.div_lt_iff_lt_mul (ppos k)]
    rw [p32] at hlt
    rw [Nat.mul_assoc, Nat.mul_comm 4294967296]; exact hlt
  have h2 : X * pw (n - 1) < (h + 1) * 4294967296 * pw (n - 1) := by
    have h3 : V * 4294967296 < (h + 1) * pw (n - 1) * 4294967296 := Nat.mul_lt_mul_of_pos_right c2 (by decide)
    rw [Nat.mul_assoc, Nat.mul_comm (pw (n - 1)), ← Nat.mul_assoc] at h3
    omega
  exact Nat.lt_of_mul_lt_mul_right h2
/-- While the estimate is corrected. -/
structure GuSt (U V n k h nx X u2 g r : Nat) : Prop where
  eq : g * h + r = X
  ge : U / pw k / V ≤ g
  r : r < 4294967296
  g : g ≤ 4294967297
structure GuEnd (U V k g : Nat) : Prop where
  ge : U / pw k / V ≤ g
  le : g ≤ U / pw k / V + 1
  lt : g < 4294967296
theorem GuSt.start {U V n k h nx X u2 : Nat} (hF : GuF U V n k h nx X u2) (hh : 2147483648 ≤ h) (hl : h < 4294967296) : GuSt U V n k h nx X u2 (X / h) (X % h) := by
  have h0 : 0 < h := by omega
  refine ⟨by rw [Nat.mul_comm]; exact Nat.div_add_mod X h, guess_first hF.f1 hF.f2 h0, by have := Nat.mod_lt X h0; omega, ?_⟩
  have h1 : X / h < 4294967298 := by
    rw [Nat.div_lt_iff_lt_mul h0]
    have := hF.xl
    omega
  omega
theorem GuSt.stop {U V n k h nx X u2 g r : Nat} (hS : GuSt U V n k h nx X u2 g r) (hF : GuF U V n k h nx X u2) (hh : 0 < h) (h1 : g < 4294967296) (h2 : g * nx ≤ r * 4294967296 + u2) : GuEnd U V k g :=
  ⟨hS.ge, guess_tight (ppos (n - 2)) hF.v1 hF.v2 hF.u1 hS.eq h2 (by omega) hh (by decide), h1⟩
theorem GuSt.low {U V n k h nx X u2 g r : Nat} (hS : GuSt U V n k h nx X u2 g r) (hF : GuF U V n k h nx X u2) (hh : 0 < h) (h1 : 4294967296 ≤ g ∨ r * 4294967296 + u2 < g * nx) :
    U / pw k / V ≤ g - 1 ∧ 1 ≤ g := by
  rcases h1 with h1 | h1
  · have := hF.dl; omega
  · exact guess_down (ppos (n - 2)) hF.v1 hF.u2 hS.eq hS.ge h1 hh (by decide)
theorem GuSt.next {U V n k h nx X u2 g r : Nat} (hS : GuSt U V n k h nx X u2 g r) (hF : GuF U V n k h nx X u2) (hh : 0 < h) (h1 : 4294967296 ≤ g ∨ r * 4294967296 + u2 < g * nx) (hr : r + h < 4294967296) :
    GuSt U V n k h nx X u2 (g - 1) (r + h) := by
  obtain ⟨a, b⟩ := hS.low hF hh h1
  obtain ⟨g', rfl⟩ : ∃ g', g = g' + 1 := ⟨g - 1, by omega⟩
  refine ⟨?_, a, hr, by have := hS.g; omega⟩
  have := hS.eq
  rw [Nat.add_mul] at this
  simp only [Nat.add_sub_cancel]
  omega
theorem GuSt.leave {U V n k h nx X u2 g r : Nat} (hS : GuSt U V n k h nx X u2 g r) (hF : GuF U V n k h nx X u2) (hh : 0 < h) (hnx : nx < 4294967296) (h1 : 4294967296 ≤ g ∨ r * 4294967296 + u2 < g * nx) (hr : 4294967296 ≤ r + h) :
    GuEnd U V k (g - 1) := by
  obtain ⟨a, b⟩ := hS.low hF hh h1
  obtain ⟨g', rfl⟩ : ∃ g', g = g' + 1 := ⟨g - 1, by omega⟩
  simp only [Nat.add_sub_cancel] at a ⊢
  have e : g' * h + (r + h) = X := by
    have := hS.eq
    rw [Nat.add_mul] at this
    omega
  have hx := hF.xl
  have hg : g' < 4294967296 := by
    rw [Nat.add_mul] at hx
    have h2 : g' * h < 4294967296 * h := by
      have := Nat.mul_comm h 4294967296
      omega
    exact Nat.lt_of_mul_lt_mul_right h2
  refine ⟨a, guess_tight (ppos (n - 2)) hF.v1 hF.v2 hF.u1 e ?_ (by omega) hh (by decide), hg⟩
  have h3 : g' * nx ≤ 4294967296 * 4294967296 := Nat.mul_le_mul (by omega) (by omega)
  have h4 : 4294967296 * 4294967296 ≤ (r + h) * 4294967296 := Nat.mul_le_mul_right _ hr
  omega
end Go.Proofs.Ytekfabhmopkapaa.Bg
