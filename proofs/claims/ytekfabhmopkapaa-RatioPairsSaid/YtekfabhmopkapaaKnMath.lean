/- Long division by limbs: plain arithmetic, no program in sight. -/
import Derived.Test.YtekfabhmopkapaaEngA
namespace Go.Proofs.Ytekfabhmopkapaa.Bg
set_option maxRecDepth 8000
theorem pw_two (i : Nat) : pw i = 2 ^ (32 * i) := by unfold pw; rfl
theorem limb_test (N i j : Nat) : (limb N i).testBit j = (decide (j < 32) && N.testBit (j + 32 * i)) := by
  unfold limb pw
  rw [show 4294967296 = 2 ^ 32 from rfl, Nat.testBit_mod_two_pow, Nat.testBit_div_two_pow]
/-- A shifted number, limb by limb. -/
theorem shl_or (A i s : Nat) (hs : s < 32) (h0 : 0 < s) : limb (A * 2 ^ s) (i + 1) = (limb A (i + 1) * 2 ^ s % 4294967296) ||| (limb A i / 2 ^ (32 - s)) := by
  apply Nat.eq_of_testBit_eq
  intro j
  rw [Nat.testBit_or, limb_test, show 4294967296 = 2 ^ 32 from rfl, Nat.testBit_mod_two_pow, Nat.testBit_div_two_pow, Nat.testBit_mul_two_pow, Nat.testBit_mul_two_pow, limb_test, limb_test]
  by_cases hj : j < 32
  · by_cases hjs : s ≤ j
    · have e1 : ¬ (j + (32 - s) < 32) := by omega
      have e2 : s ≤ j + 32 * (i + 1) := by omega
      have e3 : j - s < 32 := by omega
      have e4 : j + 32 * (i + 1) - s = j - s + 32 * (i + 1) := by omega
      simp [hj, hjs, e1, e2, e3, e4]
    · have e1 : j + (32 - s) < 32 := by omega
      have e2 : s ≤ j + 32 * (i + 1) := by omega
      have e4 : j + 32 * (i + 1) - s = j + (32 - s) + 32 * i := by omega
      simp [hj, hjs, e1, e2, e4]
  · have e1 : ¬ (j + (32 - s) < 32) := by omega
    simp [hj, e1]
theorem shl_zero (A s : Nat) (hs : s < 32) : limb (A * 2 ^ s) 0 = limb A 0 * 2 ^ s % 4294967296 := by
  apply Nat.eq_of_testBit_eq
  intro j
  rw [limb_test, show 4294967296 = 2 ^ 32 from rfl, Nat.testBit_mod_two_pow, Nat.testBit_mul_two_pow, Nat.testBit_mul_two_pow, limb_test]
  by_cases hj : j < 32
  · by_cases hjs : s ≤ j
    · have e3 : j - s < 32 := by omega
      simp [hj, hjs, e3]
    · simp [hjs]
  · simp [hj]
theorem shr_or (U i s : Nat) (hs : s < 32) (h0 : 0 < s) : limb (U / 2 ^ s) i = (limb U i / 2 ^ s) ||| (limb U (i + 1) * 2 ^ (32 - s) % 4294967296) := by
  apply Nat.eq_of_testBit_eq
  intro j
  rw [Nat.testBit_or, limb_test, show 4294967296 = 2 ^ 32 from rfl, Nat.testBit_mod_two_pow, Nat.testBit_div_two_pow, Nat.testBit_div_two_pow, Nat.testBit_mul_two_pow, limb_test, limb_test]
  by_cases hj : j < 32
  · by_cases hjs : j + s < 32
    · have e1 : ¬ (32 - s ≤ j) := by omega
      have e4 : j + 32 * i + s = j + s + 32 * i := by omega
      simp [hj, hjs, e1, e4]
    · have e1 : 32 - s ≤ j := by omega
      have e2 : j - (32 - s) < 32 := by omega
      have e4 : j + 32 * i + s = j - (32 - s) + 32 * (i + 1) := by omega
      simp [hj, hjs, e1, e2, e4]
  · have hjs : ¬ (j + s < 32) := by omega
    simp [hj, hjs]
/-- The limbs from place i on. -/
def hi (V i : Nat) : Nat := V / pw i * pw i
theorem hi_top {V n : Nat} (h : V < pw n) : hi V n = 0 := by unfold hi; rw [Nat.div_eq_of_lt h, Nat.zero_mul]
theorem hi_zero (V : Nat) : hi V 0 = V := by unfold hi; rw [pw_zero]; omega
theorem hi_le (V i : Nat) : hi V i ≤ V := by unfold hi; exact Nat.div_mul_le_self _ _
theorem setL_twice (N i x y : Nat) (hx : x < 4294967296) : setL (setL N i x) i y = setL N i y := by
  have hm : N % pw i < pw i := Nat.mod_lt _ (ppos i)
  have h1 : setL N i x % pw i = N % pw i := by
    unfold setL
    rw [p32, show N % pw i + x * pw i + N / (pw i * 4294967296) * (pw i * 4294967296) = N % pw i + (x + N / (pw i * 4294967296) * 4294967296) * pw i from by grind]
    rw [Nat.add_mul_mod_self_right, Nat.mod_eq_of_lt hm]
  have h2 : setL N i x / pw (i + 1) = N / pw (i + 1) := by
    have hlow : N % pw i + x * pw i < pw (i + 1) := lt_succ hm hx
    unfold setL
    rw [Nat.add_mul_div_right _ _ (ppos _), Nat.div_eq_of_lt hlow, Nat.zero_add]
  rw [setL, h1, h2]
  rfl
theorem low_set (N i : Nat) : setL (N % pw i) i (limb N i) = N % pw (i + 1) := by
  rw [setL_top _ _ _ (Nat.mod_lt _ (ppos i)), low_succ]
theorem hi_set (V i : Nat) : setL (hi V (i + 1)) i (limb V i) = hi V i := by
  unfold setL hi
  have h1 : V / pw (i + 1) * pw (i + 1) % pw i = 0 := by
    rw [p32, Nat.mul_comm (pw i), ← Nat.mul_assoc]
    exact Nat.mul_mod_left _ _
  rw [h1, Nat.mul_div_cancel _ (ppos _), div_step V i, p32]
  grind
theorem hi_limb (V n i : Nat) (h : i < n) : limb (hi V n) i = 0 := by
  have e : hi V n = V / pw n * pw (n - (i + 1)) * pw (i + 1) := by
    unfold hi
    rw [Nat.mul_assoc, ← padd, show n - (i + 1) + (i + 1) = n from by omega]
  rw [e]
  have := limb_mid 0 0 (V / pw n * pw (n - (i + 1))) i (ppos i) (by decide)
  simpa using this
theorem mul_le_imp {a b c : Nat} (h : a * c < b * c) : a < b := Nat.lt_of_mul_lt_mul_right h
/-- Three limbs of the dividend, two of the divisor: an estimate that passes the test is at most one too large. -/
theorem guess_tight {B U V h nx x u2 g r p : Nat} (hp : 0 < p)
    (hV1 : (h * B + nx) * p ≤ V) (hV2 : V < (h * B + nx + 1) * p)
    (hU1 : (x * B + u2) * p ≤ U) (hs : g * h + r = x) (ht : g * nx ≤ r * B + u2) (hg : g ≤ B) (hh : 0 < h) (hB : 0 < B) : g ≤ U / V + 1 := by
  have h1 : g * (h * B + nx) ≤ x * B + u2 := by
    rw [Nat.mul_add, ← Nat.mul_assoc]
    rw [← hs, Nat.add_mul]
    omega
  have h2 : g * (h * B + nx) * p ≤ U := Nat.le_trans (Nat.mul_le_mul_right _ h1) hU1
  have h3 : B * p ≤ V := by
    refine Nat.le_trans (Nat.mul_le_mul_right _ ?_) hV1
    have : 1 * B ≤ h * B := Nat.mul_le_mul_right _ hh
    omega
  have hV0 : 0 < V := Nat.lt_of_lt_of_le (Nat.mul_pos hB hp) h3
  rcases Nat.eq_zero_or_pos g with rfl | hg0
  · exact Nat.zero_le _
  obtain ⟨g', rfl⟩ : ∃ g', g = g' + 1 := ⟨g - 1, by omega⟩
  have h4 : g' * V ≤ U := by
    have a1 : g' * V ≤ g' * ((h * B + nx) * p) + g' * p := by
      rw [← Nat.mul_add]
      refine Nat.mul_le_mul_left _ ?_
      rw [Nat.add_mul, Nat.one_mul] at hV2
      omega
    have a2 : (g' + 1) * (h * B + nx) * p = g' * ((h * B + nx) * p) + (h * B + nx) * p := by
      rw [Nat.add_mul, Nat.one_mul, Nat.add_mul, Nat.mul_assoc]
    have a3 : g' * p ≤ B * p := Nat.mul_le_mul_right _ (by omega)
    have a4 : B * p ≤ (h * B + nx) * p := by
      refine Nat.mul_le_mul_right _ ?_
      have : 1 * B ≤ h * B := Nat.mul_le_mul_right _ hh
      omega
    omega
  have : g' ≤ U / V := (Nat.le_div_iff_mul_le hV0).2 h4
  omega
/-- An estimate that fails the test is too large. -/
theorem guess_down {B U V h nx x u2 g r p : Nat} (hp : 0 < p) (hV1 : (h * B + nx) * p ≤ V) (hU2 : U < (x * B + u2 + 1) * p)
    (hs : g * h + r = x) (hq : U / V ≤ g) (ht : r * B + u2 < g * nx) (hh : 0 < h) (hB : 0 < B) : U / V ≤ g - 1 ∧ 1 ≤ g := by
  have h0 : 1 ≤ g := by
    rcases Nat.eq_zero_or_pos g with rfl | h
    · simp at ht
    · exact h
  refine ⟨?_, h0⟩
  have hne : U / V ≠ g := by
    intro e
    have hV0 : 0 < V := by
      refine Nat.lt_of_lt_of_le (Nat.mul_pos ?_ hp) hV1
      have : 1 * B ≤ h * B := Nat.mul_le_mul_right _ hh
      omega
    have h1 : g * V ≤ U := by rw [← e]; exact Nat.div_mul_le_self _ _
    have h2 : g * ((h * B + nx) * p) ≤ g * V := Nat.mul_le_mul_left _ hV1
    have h3 : g * (h * B + nx) * p < (x * B + u2 + 1) * p := by
      rw [Nat.mul_assoc]
      omega
    have h4 := Nat.lt_of_mul_lt_mul_right h3
    rw [Nat.mul_add, ← Nat.mul_assoc] at h4
    rw [← hs, Nat.add_mul] at h4
    omega
  omega
/-- The first estimate. -/
theorem guess_first {U V h x p2 : Nat} (hV1 : h * p2 ≤ V) (hU2 : U < (x + 1) * p2) (hh : 0 < h) : U / V ≤ x / h := by
  rw [Nat.le_div_iff_mul_le hh]
  have h1 : U / V * V ≤ U := Nat.div_mul_le_self _ _
  have h2 : U / V * (h * p2) ≤ U / V * V := Nat.mul_le_mul_left _ hV1
  have h3 : U / V * h * p2 < (x + 1) * p2 := by rw [Nat.mul_assoc]; omega
  have := Nat.lt_of_mul_lt_mul_right h3
  omega
/-- A product is taken off, limb by limb. -/
structure MsSt (U0 V g n j i U c b : Nat) : Prop where
  eq : U + g * (V % pw i) * pw j = U0 + (c + b) * pw (j + i)
  hi : U / pw (j + i) = U0 / pw (j + i)
  c : c < 4294967296
  b : b ≤ 1
  lt : U < pw (j + n + 1)
theorem MsSt.start {U0 V g n j : Nat} (h : U0 < pw (j + n + 1)) : MsSt U0 V g n j 0 U0 0 0 := ⟨by simp [pw_zero, Nat.mod_one], rfl, by decide, by decide, h⟩
theorem hi_same {U U0 k : Nat} (h : U / pw k = U0 / pw k) : limb U k = limb U0 k ∧ U / pw (k + 1) = U0 / pw (k + 1) := by
  constructor
  · unfold limb; rw [h]
  · rw [p32, ← Nat.div_div_eq_div_mul, ← Nat.div_div_eq_div_mul, h]
theorem setL_hi (N i x : Nat) (hx : x < 4294967296) : setL N i x / pw (i + 1) = N / pw (i + 1) := by
  have hm : N % pw i < pw i := Nat.mod_lt _ (ppos i)
  have hlow : N % pw i + x * pw i < pw (i + 1) := lt_succ hm hx
  unfold setL
  rw [Nat.add_mul_div_right _ _ (ppos _), Nat.div_eq_of_lt hlow, Nat.zero_add]
theorem MsSt.step {U0 V g n j i U c b t d b2 : Nat} (h : MsSt U0 V g n j i U c b) (hi : i < n) (ht : t = g * limb V i + c) (ht2 : t < 18446744073709551616) (hd : d < 4294967296) (hb2 : b2 ≤ 1)
    (he : limb U (j + i) + b2 * 4294967296 = t % 4294967296 + b + d) : MsSt U0 V g n j (i + 1) (setL U (j + i) d) (t / 4294967296) b2 := by
  obtain ⟨h1, h2, h3, h4, h5⟩ := h
  have hx := hi_same h2
  refine ⟨?_, ?_, by omega, hb2, setL_lt _ _ _ _ hd (by omega) h5⟩
  · have hs := setL_eq U (j + i) d
    have e := Nat.div_add_mod t 4294967296
    rw [low_succ, ← Nat.add_assoc, p32]
    rw [padd] at *
    generalize t / 4294967296 = q at *
    generalize t % 4294967296 = r at *
    generalize setL U (j + i) d = U2 at *
    generalize V % pw i = vl at *
    generalize limb V i = v at *
    generalize limb U (j + i) = x at *
    generalize pw j = pj at *
    generalize pw i = pi at *
    grind
  · rw [← Nat.add_assoc, setL_hi _ _ _ hd, hx.2]
/-- The last limb of the difference. -/
theorem MsSt.last {U0 V g n j U c b d b2 : Nat} (h : MsSt U0 V g n j n U c b) (hV : V < pw n) (hd : d < 4294967296) (he : limb U (j + n) + b2 * 4294967296 = c + b + d) :
    setL U (j + n) d + g * V * pw j = U0 + b2 * pw (j + n + 1) ∧ setL U (j + n) d < pw (j + n + 1) := by
  obtain ⟨h1, _, _, _, h5⟩ := h
  refine ⟨?_, setL_lt _ _ _ _ hd (by omega) h5⟩
  have hs := setL_eq U (j + n) d
  rw [Nat.mod_eq_of_lt hV] at h1
  rw [p32]
  generalize setL U (j + n) d = U2 at *
  generalize limb U (j + n) = x at *
  generalize pw (j + n) = p at *
  generalize g * V * pw j = G at *
  grind
/-- The divisor is added back, limb by limb. -/
structure AbSt (U0 V n j i U c : Nat) : Prop where
  eq : U + c * pw (j + i) = U0 + V % pw i * pw j
  c : c ≤ 1
  lt : U < pw (j + n + 1)
theorem AbSt.start {U0 V n j : Nat} (h : U0 < pw (j + n + 1)) : AbSt U0 V n j 0 U0 0 := ⟨by simp [pw_zero, Nat.mod_one], by decide, h⟩
theorem AbSt.step {U0 V n j i U c : Nat} (h : AbSt U0 V n j i U c) (hi : i < n) :
    AbSt U0 V n j (i + 1) (setL U (j + i) ((limb U (j + i) + limb V i + c) % 4294967296)) ((limb U (j + i) + limb V i + c) / 4294967296) := by
  obtain ⟨h1, h2, h3⟩ := h
  have hx := limb_lt U (j + i)
  have hy := limb_lt V i
  have hd : (limb U (j + i) + limb V i + c) % 4294967296 < 4294967296 := Nat.mod_lt _ (by decide)
  refine ⟨?_, by omega, setL_lt _ _ _ _ hd (by omega) h3⟩
  have hs := setL_eq U (j + i) ((limb U (j + i) + limb V i + c) % 4294967296)
  have e := Nat.div_add_mod (limb U (j + i) + limb V i + c) 4294967296
  rw [low_succ, ← Nat.add_assoc, p32]
  rw [padd] at *
  generalize (limb U (j + i) + limb V i + c) / 4294967296 = q at *
  generalize (limb U (j + i) + limb V i + c) % 4294967296 = r at *
  generalize setL U (j + i) r = U2 at *
  generalize V % pw i = vl at *
  generalize limb V i = v at *
  generalize limb U (j + i) = x at *
  generalize pw j = pj at *
  generalize pw i = pi at *
  grind
theorem AbSt.last {U0 V n j U c d : Nat} (h : AbSt U0 V n j n U c) (hV : V < pw n) (hd : d = (limb U (j + n) + c) % 4294967296) :
    ∃ e, setL U (j + n) d + e * pw (j + n + 1) = U0 + V * pw j ∧ setL U (j + n) d < pw (j + n + 1) := by
  obtain ⟨h1, h2, h3⟩ := h
  have hdl : d < 4294967296 := by rw [hd]; exact Nat.mod_lt _ (by decide)
  refine ⟨(limb U (j + n) + c) / 4294967296, ?_, setL_lt _ _ _ _ hdl (by omega) h3⟩
  have hs := setL_eq U (j + n) d
  have e := Nat.div_add_mod (limb U (j + n) + c) 4294967296
  rw [← hd] at e
  rw [Nat.mod_eq_of_lt hV] at h1
  rw [p32]
  generalize (limb U (j + n) + c) / 4294967296 = q at *
  generalize setL U (j + n) d = U2 at *
  generalize limb U (j + n) = x at *
  generalize pw (j + n) = p at *
  generalize V * pw j = G at *
  grind
/-- Before the limb at place k - 1 of the quotient is found. -/
structure DvSt (A V n k U Q : Nat) : Prop where
  eq : A = U + Q * V
  lt : U < V * pw k
  low : Q % pw k = 0
theorem DvSt.start {A V n k : Nat} (h : A < V * pw k) : DvSt A V n k A 0 := ⟨by simp, h, by simp⟩
theorem DvSt.fits {A V n k U Q : Nat} (h : DvSt A V n (k + 1) U Q) (hV : V < pw n) : U < pw (k + n + 1) := by
  have h1 := h.lt
  have h2 : V * pw (k + 1) ≤ pw n * pw (k + 1) := Nat.mul_le_mul_right _ (Nat.le_of_lt hV)
  rw [← padd, show n + (k + 1) = k + n + 1 from by omega] at h2
  omega
theorem DvSt.digit {A V n k U Q : Nat} (h : DvSt A V n (k + 1) U Q) : U / pw k / V < 4294967296 := by
  have hV0 : 0 < V := by
    rcases Nat.eq_zero_or_pos V with e | e
    · have := h.lt; rw [e] at this; omega
    · exact e
  rw [Nat.div_lt_iff_lt_mul hV0, Nat.div_lt_iff_lt_mul (ppos k)]
  have := h.lt
  rw [p32] at this
  rw [Nat.mul_comm 4294967296, Nat.mul_assoc, Nat.mul_comm 4294967296]
  exact this
theorem DvSt.step {A V n k U Q U2 : Nat} (h : DvSt A V n (k + 1) U Q) (hU : U2 + U / pw k / V * V * pw k = U) : DvSt A V n k U2 (setL Q k (U / pw k / V)) := by
  obtain ⟨h1, h2, h3⟩ := h
  have hlow : Q % pw k = 0 := by
    have := Nat.mod_mod_of_dvd Q (show pw k ∣ pw (k + 1) from ⟨4294967296, by rw [p32]⟩)
    rw [← this, h3, Nat.zero_mod]
  have hk : limb Q k = 0 := by
    have := low_succ Q k
    rw [h3, hlow] at this
    have hp := ppos k
    rcases Nat.eq_zero_or_pos (limb Q k) with e | e
    · exact e
    · have := Nat.mul_pos e hp; omega
  have hs := setL_eq Q k (U / pw k / V)
  rw [hk, Nat.zero_mul, Nat.add_zero] at hs
  have hV0 : 0 < V := by
    rcases Nat.eq_zero_or_pos V with e | e
    · rw [e] at h2; omega
    · exact e
  refine ⟨?_, ?_, ?_⟩
  · rw [hs, h1]
    generalize U / pw k / V = q at *
    have : q * pw k * V = q * V * pw k := by rw [Nat.mul_assoc, Nat.mul_comm (pw k), ← Nat.mul_assoc]
    rw [Nat.add_mul]
    omega
  · have e1 := Nat.div_add_mod U (pw k)
    have e2 := Nat.div_add_mod (U / pw k) V
    have m1 := Nat.mod_lt U (ppos k)
    have m2 := Nat.mod_lt (U / pw k) hV0
    have e3 : U2 = U / pw k % V * pw k + U % pw k := by
      have : U / pw k / V * V * pw k + (U / pw k % V * pw k + U % pw k) = U := by
        rw [← Nat.add_assoc, ← Nat.add_mul, Nat.mul_comm _ V, e2, Nat.mul_comm, e1]
      omega
    have e4 : (U / pw k % V + 1) * pw k ≤ V * pw k := Nat.mul_le_mul_right _ m2
    rw [Nat.add_mul, Nat.one_mul] at e4
    omega
  · rw [hs, Nat.add_mul_mod_self_right, hlow]
theorem DvSt.done {A V n U Q : Nat} (h : DvSt A V n 0 U Q) : Q = A / V ∧ U = A % V := by
  obtain ⟨h1, h2, _⟩ := h
  rw [pw_zero, Nat.mul_one] at h2
  have hV0 : 0 < V := by omega
  subst h1
  constructor
  · rw [Nat.add_mul_div_right _ _ hV0, Nat.div_eq_of_lt h2, Nat.zero_add]
  · rw [Nat.add_mul_mod_self_right, Nat.mod_eq_of_lt h2]
/-- What one round leaves, when the estimate was right, or one too large. -/
theorem round_right {U V k n g U2 b2 : Nat} (hU2 : U2 + g * V * pw k = U + b2 * pw (k + n + 1)) (hl : U2 < pw (k + n + 1)) (h1 : U / pw k / V ≤ g) (h2 : g ≤ U / pw k / V + 1) (hV0 : 0 < V) :
    (b2 = 0 → g = U / pw k / V) ∧ (b2 = 1 → g = U / pw k / V + 1) := by
  have e1 : U / pw k * pw k ≤ U := Nat.div_mul_le_self _ _
  have e2 : U / pw k / V * V ≤ U / pw k := Nat.div_mul_le_self _ _
  have e3 : U / pw k / V * V * pw k ≤ U / pw k * pw k := Nat.mul_le_mul_right _ e2
  constructor
  · intro hb
    subst hb
    have h3 : g * V * pw k ≤ U := by omega
    have h4 : g * V ≤ U / pw k := (Nat.le_div_iff_mul_le (ppos k)).2 h3
    have h5 : g ≤ U / pw k / V := (Nat.le_div_iff_mul_le hV0).2 h4
    omega
  · intro hb
    subst hb
    rcases Nat.lt_or_ge (U / pw k / V) g with h | h
    · omega
    · exfalso
      have : g = U / pw k / V := by omega
      rw [this] at hU2
      omega
theorem round_back {U V k n g U2 U3 e : Nat} (hU2 : U2 + g * V * pw k = U + pw (k + n + 1)) (hg : g = U / pw k / V + 1) (h3 : U3 + e * pw (k + n + 1) = U2 + V * pw k) (hl : U3 < pw (k + n + 1)) (hU : U < pw (k + n + 1)) :
    U3 + U / pw k / V * V * pw k = U := by
  have e1 : U / pw k * pw k ≤ U := Nat.div_mul_le_self _ _
  have e2 : U / pw k / V * V ≤ U / pw k := Nat.div_mul_le_self _ _
  have e3 : U / pw k / V * V * pw k ≤ U / pw k * pw k := Nat.mul_le_mul_right _ e2
  rw [hg, Nat.add_mul, Nat.one_mul, Nat.add_mul] at hU2
  generalize U / pw k / V * V * pw k = q at *
  generalize V * pw k = v at *
  generalize pw (k + n + 1) = p at *
  have h4 : U3 + e * p + q = U + p := by omega
  rcases e with _ | _ | e
  · omega
  · omega
  · exfalso
    have : (e + 1 + 1) * p = e * p + p + p := by grind
    omega
end Go.Proofs.Ytekfabhmopkapaa.Bg
