/- The document's long division, bit by bit: plain arithmetic, no program in sight. -/
import Derived.Test.YtekfabhmopkapaaKnMath
namespace Go.Proofs.Ytekfabhmopkapaa.Bg
set_option maxRecDepth 8000
theorem setL_low' (N i y : Nat) (hy : y < 4294967296) : setL N i y % pw (i + 1) = N % pw i + y * pw i := by
  have hm : N % pw i < pw i := Nat.mod_lt _ (ppos i)
  have hlow : N % pw i + y * pw i < pw (i + 1) := lt_succ hm hy
  unfold setL
  rw [Nat.add_mul_mod_self_right, Nat.mod_eq_of_lt hlow]
/-- While a magnitude is doubled: the limbs below i are those of the double. -/
structure DbSt (N c i R b : Nat) : Prop where
  eq : R % pw i + b * pw i = 2 * (N % pw i) + c
  hi : R / pw i = N / pw i
  b : b ≤ 1
theorem DbSt.start {N c : Nat} (h : c ≤ 1) : DbSt N c 0 N c := ⟨by simp [pw_zero, Nat.mod_one], rfl, h⟩
theorem or_bit {x b : Nat} (hb : b ≤ 1) : x * 2 % 4294967296 ||| b = x * 2 % 4294967296 + b := by
  have h := Nat.two_pow_add_eq_or_of_lt (i := 1) (b := b) (by omega) (x * 2 % 4294967296 / 2)
  rw [show 2 ^ 1 * (x * 2 % 4294967296 / 2) = x * 2 % 4294967296 from by omega] at h
  exact h.symm
theorem DbSt.step {N c i R b : Nat} (h : DbSt N c i R b) : limb R i = limb N i ∧ DbSt N c (i + 1) (setL R i (limb N i * 2 % 4294967296 + b)) (limb N i / 2147483648) := by
  obtain ⟨h1, h2, h3⟩ := h
  have hx := hi_same h2
  have hl := limb_lt N i
  refine ⟨hx.1, ?_, ?_, by omega⟩
  · have hy : limb N i * 2 % 4294967296 + b < 4294967296 := by omega
    rw [setL_low' _ _ _ hy, low_succ, p32]
    have e : limb N i * 2 % 4294967296 + b + limb N i / 2147483648 * 4294967296 = 2 * limb N i + b := by omega
    generalize limb N i * 2 % 4294967296 + b = y at *
    generalize limb N i / 2147483648 = b2 at *
    generalize limb N i = x at *
    generalize pw i = p at *
    generalize R % p = r at *
    generalize N % p = n at *
    grind
  · rw [setL_hi _ _ _ (by omega), hx.2]
theorem DbSt.done {N c R b : Nat} (h : DbSt N c 32 R b) (hN : N < lim) : R = (2 * N + c) % lim ∧ (b = 1 ↔ lim ≤ 2 * N + c) := by
  obtain ⟨h1, h2, h3⟩ := h
  have hN' : N < pw 32 := hN
  rw [Nat.div_eq_of_lt hN', Nat.mod_eq_of_lt hN'] at *
  have hR : R < pw 32 := by
    rcases Nat.lt_or_ge R (pw 32) with h | h
    · exact h
    · have := Nat.div_pos h (ppos 32); omega
  rw [Nat.mod_eq_of_lt hR] at h1
  change R < lim at hR
  change R + b * lim = 2 * N + c at h1
  rcases (show b = 0 ∨ b = 1 by omega) with rfl | rfl
  · refine ⟨?_, ?_⟩
    · rw [← h1, Nat.zero_mul, Nat.add_zero, Nat.mod_eq_of_lt hR]
    · omega
  · refine ⟨?_, ?_⟩
    · rw [← h1, Nat.one_mul, Nat.add_mod_right, Nat.mod_eq_of_lt hR]
    · omega
/-- The bits below n fall. -/
theorem shifted_limb (N k r i : Nat) (hr : r < 32) : limb (N / 2 ^ (32 * k + r)) i = if r = 0 then limb N (k + i) else limb N (k + i) / 2 ^ r ||| (limb N (k + i + 1) * 2 ^ (32 - r) % 4294967296) := by
  have e : N / 2 ^ (32 * k + r) = N / pw k / 2 ^ r := by rw [Nat.pow_add, ← pw_two, Nat.div_div_eq_div_mul]
  rw [e]
  split
  · rename_i h; subst h; rw [Nat.pow_zero, Nat.div_one, limb_div]
  · rw [shr_or _ _ _ hr (by omega), ← limb_div, ← limb_div, Nat.add_assoc]
theorem shifted_lt {N k r : Nat} (hN : N < lim) (hk : k ≤ 32) : N / 2 ^ (32 * k + r) < pw (32 - k) := by
  have e : N / 2 ^ (32 * k + r) = N / pw k / 2 ^ r := by rw [Nat.pow_add, ← pw_two, Nat.div_div_eq_div_mul]
  have h1 : N / pw k < pw (32 - k) := by
    rw [Nat.div_lt_iff_lt_mul (ppos k), ← padd, show 32 - k + k = 32 from by omega]
    exact hN
  have h2 : N / pw k / 2 ^ r ≤ N / pw k := Nat.div_le_self _ _
  omega
theorem limb_top {N i : Nat} (hN : N < lim) (h : 32 ≤ i) : limb N i = 0 := by
  have : N < pw i := Nat.lt_of_lt_of_le hN (pmono h)
  unfold limb; rw [Nat.div_eq_of_lt this]
/-- Bit by bit: before bit j - 1 of the dividend is taken. -/
structure BdSt (a b j q r : Nat) : Prop where
  r : r = a / 2 ^ j % b
  q : q = a / 2 ^ j / b * 2 ^ j
theorem BdSt.start {a b n m : Nat} (hb : 2 ^ n ≤ b) (ha : a < 2 ^ (n + m)) : BdSt a b m 0 (a / 2 ^ m) := by
  have h : a / 2 ^ m < b := by
    refine Nat.lt_of_lt_of_le ?_ hb
    rw [Nat.div_lt_iff_lt_mul (Nat.two_pow_pos _), ← Nat.pow_add]
    exact ha
  exact ⟨(Nat.mod_eq_of_lt h).symm, by rw [Nat.div_eq_of_lt h, Nat.zero_mul]⟩
theorem half_step (a j : Nat) : a / 2 ^ j = 2 * (a / 2 ^ (j + 1)) + a / 2 ^ j % 2 := by
  rw [Nat.pow_succ, ← Nat.div_div_eq_div_mul]
  omega
theorem BdSt.more {a b j q r x : Nat} (h : BdSt a b (j + 1) q r) (hb : 0 < b) (hx : x = 2 * r + a / 2 ^ j % 2) (hge : b ≤ x) : BdSt a b j (q + 2 ^ j) (x - b) ∧ x - b < b := by
  obtain ⟨h1, h2⟩ := h
  have hs := half_step a j
  have hd := Nat.div_add_mod (a / 2 ^ (j + 1)) b
  have hl := Nat.mod_lt (a / 2 ^ (j + 1)) hb
  rw [← h1] at hd hl
  have hxl : x - b < b := by omega
  obtain ⟨A, hA0⟩ : ∃ A, A = a / 2 ^ j := ⟨_, rfl⟩
  rw [← hA0] at hs hx
  generalize hA : a / 2 ^ (j + 1) = A2 at *
  generalize hQ : A2 / b = Q at *
  have e : A = (x - b) + b * (2 * Q + 1) := by
    have : b * (2 * Q + 1) = 2 * (b * Q) + b := by grind
    omega
  refine ⟨⟨?_, ?_⟩, hxl⟩
  · show x - b = a / 2 ^ j % b
    rw [← hA0, e, Nat.add_mul_mod_self_left, Nat.mod_eq_of_lt hxl]
  · show q + 2 ^ j = a / 2 ^ j / b * 2 ^ j
    rw [← hA0, e, Nat.add_mul_div_left _ _ hb, Nat.div_eq_of_lt hxl, h2, Nat.pow_succ]
    grind
theorem BdSt.less {a b j q r x : Nat} (h : BdSt a b (j + 1) q r) (hb : 0 < b) (hx : x = 2 * r + a / 2 ^ j % 2) (hlt : x < b) : BdSt a b j q x := by
  obtain ⟨h1, h2⟩ := h
  have hs := half_step a j
  have hd := Nat.div_add_mod (a / 2 ^ (j + 1)) b
  rw [← h1] at hd
  obtain ⟨A, hA0⟩ : ∃ A, A = a / 2 ^ j := ⟨_, rfl⟩
  rw [← hA0] at hs hx
  generalize hA : a / 2 ^ (j + 1) = A2 at *
  generalize hQ : A2 / b = Q at *
  have e : A = x + b * (2 * Q) := by
    have : b * (2 * Q) = 2 * (b * Q) := by grind
    omega
  refine ⟨?_, ?_⟩
  · show x = a / 2 ^ j % b
    rw [← hA0, e, Nat.add_mul_mod_self_left, Nat.mod_eq_of_lt hlt]
  · show q = a / 2 ^ j / b * 2 ^ j
    rw [← hA0, e, Nat.add_mul_div_left _ _ hb, Nat.div_eq_of_lt hlt, h2, Nat.pow_succ]
    grind
theorem BdSt.done {a b q r : Nat} (h : BdSt a b 0 q r) : q = a / b ∧ r = a % b := by
  obtain ⟨h1, h2⟩ := h
  rw [Nat.pow_zero, Nat.div_one] at h1
  rw [Nat.pow_zero, Nat.div_one, Nat.mul_one] at h2
  exact ⟨h2, h1⟩
/-- The bit at place 32 k + s, as the code reads it. -/
theorem bit_at (a k s : Nat) (hs : s < 32) : limb a k / 2 ^ s &&& 1 = a / 2 ^ (32 * k + s) % 2 := by
  rw [Nat.and_one_is_mod, Nat.pow_add, ← pw_two, ← Nat.div_div_eq_div_mul]
  unfold limb
  generalize a / pw k = x
  have e : x % 4294967296 / 2 ^ s = x / 2 ^ s % 2 ^ (32 - s) := by
    rw [show 4294967296 = 2 ^ s * 2 ^ (32 - s) from by rw [← Nat.pow_add, show s + (32 - s) = 32 from by omega], Nat.mod_mul_right_div_self]
  rw [e]
  exact Nat.mod_mod_of_dvd _ (Nat.pow_dvd_pow 2 (show 1 ≤ 32 - s by omega) |> fun h => by simpa using h)
/-- A bit is set where all below it, and it, are not. -/
theorem bit_set (Q k s : Nat) (hs : s < 32) (h : Q % 2 ^ (32 * k + s + 1) = 0) : setL Q k (limb Q k ||| 2 ^ s) = Q + 2 ^ (32 * k + s) ∧ limb Q k ||| 2 ^ s < 4294967296 := by
  have h0 : limb Q k % 2 ^ (s + 1) = 0 := by
    obtain ⟨t, ht⟩ := Nat.dvd_of_mod_eq_zero h
    have e : Q / pw k = 2 ^ (s + 1) * t := by
      rw [ht, Nat.add_assoc, Nat.pow_add, ← pw_two, Nat.mul_assoc, Nat.mul_div_cancel_left _ (ppos k)]
    unfold limb
    rw [show 4294967296 = 2 ^ 32 from rfl, Nat.mod_mod_of_dvd _ (Nat.pow_dvd_pow 2 (show s + 1 ≤ 32 by omega)), e]
    exact Nat.mul_mod_right _ _
  have e2 : limb Q k ||| 2 ^ s = limb Q k + 2 ^ s := by
    obtain ⟨t, ht⟩ := Nat.dvd_of_mod_eq_zero h0
    rw [ht]
    exact (Nat.two_pow_add_eq_or_of_lt (Nat.pow_lt_pow_right (by decide) (by omega)) t).symm
  have hl := limb_lt Q k
  have h3 : limb Q k ||| 2 ^ s < 2 ^ 32 := Nat.or_lt_two_pow hl (Nat.pow_lt_pow_right (by decide) hs)
  refine ⟨?_, h3⟩
  rw [e2] at *
  have hse := setL_eq Q k (limb Q k + 2 ^ s)
  rw [Nat.add_mul] at hse
  rw [show 2 ^ (32 * k + s) = 2 ^ s * pw k from by rw [Nat.pow_add, ← pw_two, Nat.mul_comm]]
  omega
theorem BdSt.free {a b j q r : Nat} (h : BdSt a b (j + 1) q r) : q % 2 ^ (j + 1) = 0 := by rw [h.q]; exact Nat.mul_mod_left _ _
end Go.Proofs.Ytekfabhmopkapaa.Bg
