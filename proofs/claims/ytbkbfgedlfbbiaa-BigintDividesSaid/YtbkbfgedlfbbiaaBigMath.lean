/- Limbs of 32 bits: plain arithmetic, no program in sight. -/
import Init.Data.Nat.Lemmas
import Init.Omega
import Init.Grind
namespace Go.Proofs.Ytbkbfgedlfbbiaa.Bg
/-- 2 to the power 32 * i. -/
@[irreducible] def pw (i : Nat) : Nat := 2 ^ (32 * i)
@[irreducible] def limb (N i : Nat) : Nat := N / pw i % 4294967296
theorem p32 (i : Nat) : pw (i + 1) = pw i * 4294967296 := by
  unfold pw; rw [show 32 * (i + 1) = 32 * i + 32 from by omega, Nat.pow_add]
theorem padd (i j : Nat) : pw (i + j) = pw i * pw j := by
  unfold pw; rw [Nat.mul_add, Nat.pow_add]
theorem pw_zero : pw 0 = 1 := by unfold pw; rfl
theorem ppos (i : Nat) : 0 < pw i := by unfold pw; exact Nat.two_pow_pos _
theorem pmono {i j : Nat} (h : i ≤ j) : pw i ≤ pw j := by unfold pw; exact Nat.pow_le_pow_right (by decide) (by omega)
theorem limb_lt (N i : Nat) : limb N i < 4294967296 := by unfold limb; exact Nat.mod_lt _ (by decide)
theorem limb_zero (i : Nat) : limb 0 i = 0 := by simp [limb]
theorem low_succ (N i : Nat) : N % pw (i + 1) = N % pw i + limb N i * pw i := by
  rw [p32, Nat.mod_mul]
  unfold limb
  rw [Nat.mul_comm (pw i)]
theorem limb_low (N n i : Nat) (h : i < n) : limb (N % pw n) i = limb N i := by
  unfold limb pw
  rw [show 4294967296 = 2 ^ 32 from rfl]
  apply Nat.eq_of_testBit_eq
  intro j
  simp only [Nat.testBit_mod_two_pow, Nat.testBit_div_two_pow]
  by_cases hj : j < 32
  · have h2 : j + 32 * i < 32 * n := by omega
    simp [hj, h2]
  · simp [hj]
theorem limb_high (N n i : Nat) (h : n ≤ i) (hN : N < pw n) : limb N i = 0 := by
  unfold limb
  rw [Nat.div_eq_of_lt (Nat.lt_of_lt_of_le hN (pmono h))]
/-- The limb at place i of a number that is given in parts. -/
theorem limb_mid (L x H i : Nat) (hL : L < pw i) (hx : x < 4294967296) : limb (L + x * pw i + H * pw (i + 1)) i = x := by
  unfold limb
  have e : L + x * pw i + H * pw (i + 1) = L + pw i * (x + 4294967296 * H) := by rw [p32]; grind
  rw [e, Nat.add_mul_div_left _ _ (ppos i), Nat.div_eq_of_lt hL, Nat.zero_add, Nat.add_mul_mod_self_left, Nat.mod_eq_of_lt hx]
theorem low_mid (L R i : Nat) (hL : L < pw i) : (L + R * pw i) % pw i = L := by
  rw [Nat.add_mul_mod_self_right, Nat.mod_eq_of_lt hL]
/-- Low limbs are those of the low part. -/
theorem limb_add_high (L R n i : Nat) (hL : L < pw n) (h : i < n) : limb (L + R * pw n) i = limb L i := by
  rw [← limb_low _ n i h, low_mid L R n hL]
/-- High limbs are those of the high part. -/
theorem limb_up (L R n i : Nat) (hL : L < pw n) : limb (L + R * pw n) (n + i) = limb R i := by
  unfold limb
  rw [padd, ← Nat.div_div_eq_div_mul, Nat.add_mul_div_right _ _ (ppos n), Nat.div_eq_of_lt hL, Nat.zero_add]
/-- Two numbers with the same limbs. -/
theorem limb_ext (n : Nat) : ∀ (N M : Nat), N < pw n → M < pw n → (∀ i, i < n → limb N i = limb M i) → N = M := by
  induction n with
  | zero => intro N M h1 h2 _; rw [pw_zero] at h1 h2; omega
  | succ n ih =>
    intro N M h1 h2 h
    have e : N % pw n = M % pw n := ih _ _ (Nat.mod_lt _ (ppos n)) (Nat.mod_lt _ (ppos n)) (fun i hi => by rw [limb_low _ _ _ hi, limb_low _ _ _ hi]; exact h i (by omega))
    have a := low_succ N n
    have b := low_succ M n
    rw [Nat.mod_eq_of_lt h1] at a
    rw [Nat.mod_eq_of_lt h2] at b
    rw [a, b, e, h n (by omega)]
/-- A number with one limb changed. -/
def setL (N i x : Nat) : Nat := N % pw i + x * pw i + N / pw (i + 1) * pw (i + 1)
theorem setL_limb (N i x j : Nat) (hx : x < 4294967296) : limb (setL N i x) j = if j = i then x else limb N j := by
  unfold setL
  have hm : N % pw i < pw i := Nat.mod_lt _ (ppos i)
  have hlow : N % pw i + x * pw i < pw (i + 1) := by
    rw [p32]
    have : (x + 1) * pw i ≤ 4294967296 * pw i := Nat.mul_le_mul_right _ hx
    rw [Nat.add_mul] at this
    omega
  by_cases h1 : j = i
  · subst h1; rw [if_pos rfl]; exact limb_mid _ _ _ _ hm hx
  · rw [if_neg h1]
    by_cases h2 : j < i
    · rw [limb_add_high _ _ (i + 1) j hlow (by omega), limb_add_high _ _ i j hm h2, limb_low _ _ _ h2]
    · obtain ⟨k, rfl⟩ : ∃ k, j = i + 1 + k := ⟨j - (i + 1), by omega⟩
      rw [limb_up _ _ _ _ hlow]
      unfold limb
      rw [Nat.div_div_eq_div_mul, ← padd]
theorem setL_lt (N i x n : Nat) (hx : x < 4294967296) (hi : i < n) (hN : N < pw n) : setL N i x < pw n := by
  unfold setL
  have hm : N % pw i < pw i := Nat.mod_lt _ (ppos i)
  have hlow : N % pw i + x * pw i < pw (i + 1) := by
    rw [p32]
    have : (x + 1) * pw i ≤ 4294967296 * pw i := Nat.mul_le_mul_right _ hx
    rw [Nat.add_mul] at this
    omega
  obtain ⟨d, rfl⟩ : ∃ d, n = i + 1 + d := ⟨n - (i + 1), by omega⟩
  rw [padd] at hN
  have hq : N / pw (i + 1) < pw d := by rw [Nat.div_lt_iff_lt_mul (ppos _), Nat.mul_comm]; exact hN
  have : (N / pw (i + 1) + 1) * pw (i + 1) ≤ pw d * pw (i + 1) := Nat.mul_le_mul_right _ hq
  rw [Nat.add_mul] at this
  rw [padd (i + 1) d, Nat.mul_comm (pw (i + 1)) (pw d)]
  generalize N / pw (i + 1) * pw (i + 1) = q at *
  generalize pw d * pw (i + 1) = r at *
  omega
/-- Where nothing lies at place i or above it: the limb is laid on top. -/
theorem setL_top (N i x : Nat) (hN : N < pw i) : setL N i x = N + x * pw i := by
  unfold setL
  rw [Nat.mod_eq_of_lt hN, Nat.div_eq_of_lt (Nat.lt_of_lt_of_le hN (pmono (Nat.le_succ i))), Nat.zero_mul, Nat.add_zero]
theorem lt_succ {N i x : Nat} (hN : N < pw i) (hx : x < 4294967296) : N + x * pw i < pw (i + 1) := by
  rw [p32]
  have : (x + 1) * pw i ≤ 4294967296 * pw i := Nat.mul_le_mul_right _ hx
  rw [Nat.add_mul] at this
  omega
/-- How many limbs are used. -/
def top : Nat → Nat → Nat
  | 0, _ => 0
  | k + 1, N => if limb N k = 0 then top k N else k + 1
def used (N : Nat) : Nat := top 32 N
theorem top_le (N : Nat) : ∀ k, top k N ≤ k
  | 0 => Nat.le_refl _
  | k + 1 => by
    unfold top
    have := top_le N k
    split <;> omega
theorem top_down {N k : Nat} (h : limb N k = 0) : top (k + 1) N = top k N := by rw [top, if_pos h]
theorem top_stop {N k : Nat} (h : limb N k ≠ 0) : top (k + 1) N = k + 1 := by rw [top, if_neg h]
theorem top_lt (N k : Nat) (h : N < pw k) : N < pw (top k N) := by
  induction k with
  | zero => exact h
  | succ k ih =>
    unfold top
    split
    · rename_i h0
      have := low_succ N k
      rw [Nat.mod_eq_of_lt h, h0, Nat.zero_mul, Nat.add_zero] at this
      exact ih (by rw [this]; exact Nat.mod_lt _ (ppos k))
    · exact h
theorem top_ge (N k : Nat) : top k N = 0 ∨ pw (top k N - 1) ≤ N := by
  induction k with
  | zero => exact .inl rfl
  | succ k ih =>
    unfold top
    split
    · exact ih
    · rename_i h0
      right
      refine Nat.le_of_not_lt (fun hlt => h0 ?_)
      exact limb_high N k k (Nat.le_refl _) (by simpa using hlt)
/-- Magnitudes are below this. -/
def lim : Nat := pw 32
theorem used_le (N : Nat) : used N ≤ 32 := top_le N 32
theorem used_lt {N : Nat} (h : N < lim) : N < pw (used N) := by unfold used; exact top_lt N 32 h
theorem used_ge (N : Nat) : used N = 0 ∨ pw (used N - 1) ≤ N := by unfold used; exact top_ge N 32
theorem used_zero {N : Nat} (h : N < lim) : used N = 0 ↔ N = 0 := by
  have h1 := used_lt h
  have h2 := used_ge N
  constructor
  · intro e; rw [e, pw_zero] at h1; omega
  · intro e
    rcases h2 with h2 | h2
    · exact h2
    · have h3 := ppos (used N - 1)
      rw [e] at h2 h3
      exact absurd h2 (Nat.not_le_of_lt h3)
/-- The borrow of a subtraction. -/
def brw (x y c : Nat) : Nat := if x < y + c then 1 else 0
theorem brw_le (x y c : Nat) : brw x y c ≤ 1 := by unfold brw; split <;> omega
theorem top_bit (z : Nat) (hz : z < 4294967296) : z / 2147483648 = (z.testBit 31).toNat := by
  rw [Nat.testBit_eq_decide_div_mod_eq]
  have : z / 2 ^ 31 % 2 = z / 2147483648 := by omega
  rw [this]
  by_cases h : z / 2147483648 = 1
  · simp [h]
  · simp [h]; omega
theorem tb31 (z : Nat) (hz : z < 4294967296) : z.testBit 31 = decide (2147483648 ≤ z) := by
  rw [Nat.testBit_eq_decide_div_mod_eq]
  by_cases h : 2147483648 ≤ z
  · simp [h]; omega
  · simp [h]; omega
theorem borrow_bits (x y c : Nat) (hx : x < 4294967296) (hy : y < 4294967296) (hc : c ≤ 1) :
    (((4294967295 ^^^ x) &&& y) ||| ((4294967295 ^^^ (x ^^^ y)) &&& ((x + 4294967296 - y + 4294967296 - c) % 4294967296))) / 2147483648 = brw x y c := by
  generalize hd : (x + 4294967296 - y + 4294967296 - c) % 4294967296 = d
  have hd2 : d < 4294967296 := by omega
  have h1 : (4294967295 ^^^ x) &&& y < 4294967296 := Nat.lt_of_le_of_lt Nat.and_le_right hy
  have h2 : (4294967295 ^^^ (x ^^^ y)) &&& d < 4294967296 := Nat.lt_of_le_of_lt Nat.and_le_right hd2
  rw [top_bit _ (Nat.or_lt_two_pow (n := 32) h1 h2)]
  have h3 : Nat.testBit 4294967295 31 = true := by decide
  simp only [Nat.testBit_or, Nat.testBit_and, Nat.testBit_xor, h3, tb31 x hx, tb31 y hy, tb31 d hd2]
  unfold brw
  by_cases a : 2147483648 ≤ x <;> by_cases b : 2147483648 ≤ y <;> by_cases e : 2147483648 ≤ d <;> simp [a, b, e] <;> omega
theorem div_step (N i : Nat) : N / pw i = limb N i + 4294967296 * (N / pw (i + 1)) := by
  have h := Nat.mod_add_div (N / pw i) 4294967296
  rw [Nat.div_div_eq_div_mul, ← p32] at h
  unfold limb
  exact h.symm
theorem lt_of_div {a b i : Nat} (h : a / pw i < b / pw i) : a < b := by
  refine Nat.lt_of_not_le (fun hle => ?_)
  have := Nat.div_le_div_right (c := pw i) hle
  omega
/-- The comparison of two numbers. -/
def cmp (a b : Nat) : Int := if a < b then -1 else if b < a then 1 else 0
theorem cmp_lt {a b i : Nat} (h : a / pw (i + 1) = b / pw (i + 1)) (hl : limb a i < limb b i) : cmp a b = -1 := by
  have : a < b := lt_of_div (i := i) (by rw [div_step a i, div_step b i, h]; omega)
  simp [cmp, this]
theorem cmp_gt {a b i : Nat} (h : a / pw (i + 1) = b / pw (i + 1)) (hl : limb b i < limb a i) : cmp a b = 1 := by
  have : b < a := lt_of_div (i := i) (by rw [div_step a i, div_step b i, h]; omega)
  have h2 : ¬ a < b := by omega
  simp [cmp, this, h2]
theorem cmp_eq {a b i : Nat} (h : a / pw (i + 1) = b / pw (i + 1)) (hl : limb a i = limb b i) : a / pw i = b / pw i := by
  rw [div_step a i, div_step b i, h, hl]
theorem cmp_same {a b : Nat} (h : a / pw 0 = b / pw 0) : cmp a b = 0 := by
  rw [pw_zero, Nat.div_one, Nat.div_one] at h
  subst h
  simp [cmp]
/-- A sum, limb by limb. -/
structure AddSt (a b i s c : Nat) : Prop where
  lt : s < pw i
  eq : a % pw i + b % pw i = s + c * pw i
  le : c ≤ 1
theorem AddSt.zero (a b : Nat) : AddSt a b 0 0 0 := ⟨ppos 0, by simp [pw_zero, Nat.mod_one], by omega⟩
theorem AddSt.step {a b i s c : Nat} (h : AddSt a b i s c) : AddSt a b (i + 1) (setL s i ((limb a i + limb b i + c) % 4294967296)) ((limb a i + limb b i + c) / 4294967296) := by
  obtain ⟨h1, h2, h3⟩ := h
  have hx := limb_lt a i
  have hy := limb_lt b i
  rw [setL_top _ _ _ h1]
  refine ⟨lt_succ h1 (Nat.mod_lt _ (by decide)), ?_, by omega⟩
  rw [low_succ, low_succ, p32]
  have e := Nat.div_add_mod (limb a i + limb b i + c) 4294967296
  generalize (limb a i + limb b i + c) / 4294967296 = q at *
  generalize (limb a i + limb b i + c) % 4294967296 = r at *
  generalize pw i = p at *
  generalize limb a i = x at *
  generalize limb b i = y at *
  grind
theorem AddSt.done {a b s c : Nat} (h : AddSt a b 32 s c) (ha : a < lim) (hb : b < lim) : s = (a + b) % lim ∧ (c = 0 ↔ a + b < lim) := by
  obtain ⟨h1, h2, h3⟩ := h
  have hl : s < lim := h1
  change a % lim + b % lim = s + c * lim at h2
  rw [Nat.mod_eq_of_lt ha, Nat.mod_eq_of_lt hb] at h2
  have h2' : a + b = s + c * lim := h2
  generalize lim = L at *
  have : c = 0 ∨ c = 1 := by omega
  rcases this with rfl | rfl
  · rw [h2', Nat.zero_mul, Nat.add_zero, Nat.mod_eq_of_lt hl]
    exact ⟨rfl, by simp; omega⟩
  · rw [h2', Nat.one_mul, Nat.add_mod_right, Nat.mod_eq_of_lt hl]
    exact ⟨rfl, by simp⟩
/-- A difference, limb by limb. -/
structure SubSt (a b i s c : Nat) : Prop where
  lt : s < pw i
  eq : a % pw i + c * pw i = b % pw i + s
  le : c ≤ 1
theorem SubSt.zero (a b : Nat) : SubSt a b 0 0 0 := ⟨ppos 0, by simp [pw_zero, Nat.mod_one], by omega⟩
theorem SubSt.step {a b i s c d c2 : Nat} (h : SubSt a b i s c) (hd : d < 4294967296) (hc : c2 ≤ 1) (he : limb a i + c2 * 4294967296 = limb b i + c + d) : SubSt a b (i + 1) (setL s i d) c2 := by
  obtain ⟨h1, h2, h3⟩ := h
  rw [setL_top _ _ _ h1]
  refine ⟨lt_succ h1 hd, ?_, hc⟩
  rw [low_succ, low_succ, p32]
  generalize pw i = p at *
  generalize limb a i = x at *
  generalize limb b i = y at *
  grind
theorem brw_eq (x y c : Nat) (hx : x < 4294967296) (hy : y < 4294967296) (hc : c ≤ 1) : x + brw x y c * 4294967296 = y + c + (x + 4294967296 - y + 4294967296 - c) % 4294967296 := by
  unfold brw
  split <;> omega
/-- The difference of two magnitudes, modulo the limit. -/
def dif (a b : Nat) : Nat := if b ≤ a then a - b else a + lim - b
theorem SubSt.done {a b s c : Nat} (h : SubSt a b 32 s c) (ha : a < lim) (hb : b < lim) : s = dif a b := by
  obtain ⟨h1, h2, h3⟩ := h
  have hl : s < lim := h1
  change a % lim + c * lim = b % lim + s at h2
  rw [Nat.mod_eq_of_lt ha, Nat.mod_eq_of_lt hb] at h2
  have h2' : a + c * lim = b + s := h2
  unfold dif
  generalize lim = L at *
  have : c = 0 ∨ c = 1 := by omega
  rcases this with rfl | rfl
  · rw [if_pos (by omega)]; omega
  · rw [if_neg (by omega)]; omega
theorem dif_lt {a b : Nat} (ha : a < lim) (hb : b < lim) : dif a b < lim := by
  unfold dif; split <;> omega
theorem setL_eq (N i x : Nat) : setL N i x + limb N i * pw i = N + x * pw i := by
  have h1 := Nat.div_add_mod N (pw (i + 1))
  have h2 := low_succ N i
  unfold setL
  generalize N % pw i = p at *
  generalize limb N i * pw i = q at *
  generalize x * pw i = r at *
  rw [Nat.mul_comm] at h1
  generalize N / pw (i + 1) * pw (i + 1) = u at *
  omega
/-- A product, row by row: before row i. -/
structure MulSt (a b m i s : Nat) : Prop where
  lt : s < pw (i + m)
  eq : s = a % pw i * b
/-- Within row i, before column j. -/
structure RowSt (a b m i j t c : Nat) : Prop where
  lt : t < pw (i + m)
  eq : t + c * pw (i + j) = a % pw i * b + limb a i * (b % pw j) * pw i
  le : c < 4294967296
theorem MulSt.zero (a b m : Nat) : MulSt a b m 0 0 := ⟨ppos _, by simp [pw_zero, Nat.mod_one]⟩
theorem MulSt.row {a b m i s : Nat} (h : MulSt a b m i s) : RowSt a b m i 0 s 0 := ⟨h.lt, by rw [pw_zero, Nat.mod_one]; simp [h.eq], by decide⟩
/-- The sum of one column. -/
def col (x y t c : Nat) : Nat := x * y + t + c
theorem col_lt {x y t c : Nat} (hx : x < 4294967296) (hy : y < 4294967296) (ht : t < 4294967296) (hc : c < 4294967296) : col x y t c < 18446744073709551616 := by
  unfold col
  have : x * y ≤ 4294967295 * 4294967295 := Nat.mul_le_mul (by omega) (by omega)
  omega
theorem col_mul {x y : Nat} (hx : x < 4294967296) (hy : y < 4294967296) : x * y ≤ 18446744065119617025 := by
  have : x * y ≤ 4294967295 * 4294967295 := Nat.mul_le_mul (by omega) (by omega)
  omega
theorem RowSt.step {a b m i j t c : Nat} (h : RowSt a b m i j t c) (hj : j < m) :
    RowSt a b m i (j + 1) (setL t (i + j) (col (limb a i) (limb b j) (limb t (i + j)) c % 4294967296)) (col (limb a i) (limb b j) (limb t (i + j)) c / 4294967296) := by
  obtain ⟨h1, h2, h3⟩ := h
  have hx := limb_lt a i
  have hy := limb_lt b j
  have ht := limb_lt t (i + j)
  have hc := col_lt hx hy ht h3
  have e := Nat.div_add_mod (col (limb a i) (limb b j) (limb t (i + j)) c) 4294967296
  refine ⟨setL_lt _ _ _ _ (Nat.mod_lt _ (by decide)) (by omega) h1, ?_, by omega⟩
  have hs := setL_eq t (i + j) (col (limb a i) (limb b j) (limb t (i + j)) c % 4294967296)
  rw [low_succ, ← Nat.add_assoc, p32]
  generalize col (limb a i) (limb b j) (limb t (i + j)) c / 4294967296 = q at *
  generalize col (limb a i) (limb b j) (limb t (i + j)) c % 4294967296 = r at *
  generalize setL t (i + j) r = t2 at *
  unfold col at e
  rw [padd] at *
  generalize pw i = pi at *
  generalize pw j = pj at *
  generalize limb a i = x at *
  generalize limb b j = y at *
  generalize limb t (i + j) = z at *
  grind
theorem RowSt.done {a b m i t c : Nat} (h : RowSt a b m i m t c) (hb : b < pw m) : MulSt a b m (i + 1) (setL t (i + m) c) := by
  obtain ⟨h1, h2, h3⟩ := h
  rw [setL_top _ _ _ h1]
  refine ⟨?_, ?_⟩
  · rw [show i + 1 + m = i + m + 1 from by omega]
    exact lt_succ h1 h3
  · rw [low_succ, h2, Nat.mod_eq_of_lt hb, Nat.add_mul]
    grind
theorem MulSt.done {a b m n s : Nat} (h : MulSt a b m n s) (ha : a < pw n) : s = a * b := by rw [h.eq, Nat.mod_eq_of_lt ha]
theorem limb_low' (N n i : Nat) (h : i < n) : limb N i = limb (N % pw n) i := (limb_low N n i h).symm
theorem limb_div (N n i : Nat) : limb N (n + i) = limb (N / pw n) i := by
  unfold limb
  rw [padd, Nat.div_div_eq_div_mul]
theorem mul_fits {a b : Nat} (ha : a < lim) (hb : b < lim) : a * b / lim < lim := by
  have h0 : 0 < lim := ppos 32
  rw [Nat.div_lt_iff_lt_mul h0]
  exact Nat.mul_lt_mul'' ha hb
theorem div_zero (N : Nat) : (N / lim = 0) = (N < lim) := by
  rw [Nat.div_eq_zero_iff]
  have : ¬ lim = 0 := by have := ppos 32; unfold lim; omega
  simp [this]
/-- Division by one limb, from the top: k limbs are left. -/
def shT (N x k : Nat) : Nat := N % pw k + N / pw k / x * pw k
def shR (N x k : Nat) : Nat := N / pw k % x
theorem shT_top {N x k : Nat} (h : N < pw k) : shT N x k = N := by
  unfold shT; rw [Nat.div_eq_of_lt h, Nat.mod_eq_of_lt h]; simp
theorem shR_top {N x k : Nat} (h : N < pw k) : shR N x k = 0 := by
  unfold shR; rw [Nat.div_eq_of_lt h]; simp
theorem shT_limb (N x k : Nat) : limb (shT N x (k + 1)) k = limb N k := by
  unfold shT
  rw [limb_add_high _ _ _ _ (Nat.mod_lt _ (ppos _)) (Nat.lt_succ_self k), limb_low _ _ _ (Nat.lt_succ_self k)]
theorem sh_div (A l x : Nat) (hx : 0 < x) : (l + 4294967296 * A) / x = (A % x * 4294967296 + l) / x + A / x * 4294967296 ∧ (l + 4294967296 * A) % x = (A % x * 4294967296 + l) % x := by
  have h := Nat.div_add_mod A x
  have e : l + 4294967296 * A = (A % x * 4294967296 + l) + x * (A / x * 4294967296) := by
    rw [← Nat.mul_assoc]
    generalize x * (A / x) = u at *
    omega
  rw [e]
  exact ⟨Nat.add_mul_div_left _ _ hx, Nat.add_mul_mod_self_left _ _ _⟩
theorem sh_step {N x k : Nat} (hx : 0 < x) : setL (shT N x (k + 1)) k ((shR N x (k + 1) * 4294967296 + limb N k) / x) = shT N x k ∧ shR N x k = (shR N x (k + 1) * 4294967296 + limb N k) % x := by
  have hd := sh_div (N / pw (k + 1)) (limb N k) x hx
  have ht : shT N x (k + 1) % pw k = N % pw k := by
    unfold shT
    rw [low_succ, p32]
    have e : N % pw k + limb N k * pw k + N / (pw k * 4294967296) / x * (pw k * 4294967296) = N % pw k + (limb N k + N / (pw k * 4294967296) / x * 4294967296) * pw k := by grind
    rw [e, Nat.add_mul_mod_self_right, Nat.mod_eq_of_lt (Nat.mod_lt _ (ppos k))]
  have hq : shT N x (k + 1) / pw (k + 1) = N / pw (k + 1) / x := by
    unfold shT
    rw [Nat.add_mul_div_right _ _ (ppos _), Nat.div_eq_of_lt (Nat.mod_lt _ (ppos _)), Nat.zero_add]
  constructor
  · unfold setL
    rw [ht, hq]
    unfold shT shR
    rw [div_step N k, hd.1, p32]
    generalize (N / (pw k * 4294967296) % x * 4294967296 + limb N k) / x = q
    generalize N / (pw k * 4294967296) / x = u
    grind
  · unfold shR
    rw [div_step N k, hd.2]
theorem sh_done (N x : Nat) : shT N x 0 = N / x ∧ shR N x 0 = N % x := by
  unfold shT shR
  rw [pw_zero, Nat.mod_one, Nat.div_one]
  simp
theorem shR_lt (N x k : Nat) (hx : 0 < x) : shR N x k < x := Nat.mod_lt _ hx
theorem shT_lt {N x k : Nat} (hN : N < lim) : shT N x k < lim := by
  unfold shT
  have h1 : N / pw k / x * pw k ≤ N / pw k * pw k := Nat.mul_le_mul_right _ (Nat.div_le_self _ _)
  have h2 := Nat.div_add_mod N (pw k)
  rw [Nat.mul_comm] at h2
  omega
/-- One more than the quotient fits where there is a remainder. -/
theorem quo_up {M N : Nat} (hM : M < lim) (hd : M % N ≠ 0) : M / N + 1 < lim := by
  have h1 : N ≠ 1 := by intro e; subst e; simp [Nat.mod_one] at hd
  have h2 : M ≠ 0 := by intro e; subst e; simp at hd
  have h0 : N ≠ 0 ∨ N = 0 := by omega
  rcases h0 with h0 | h0
  · have h3 : M / N ≤ M / 2 := Nat.div_le_div_left (by omega) (by decide)
    omega
  · subst h0
    simp only [Nat.div_zero]
    omega
end Go.Proofs.Ytbkbfgedlfbbiaa.Bg
