/- Plain arithmetic of the days of the years 2000 to 2199: no program in sight. -/
namespace Go.Proofs.Ytaokneooejbfkaa
set_option maxRecDepth 8000
namespace Dt
def leapB (y : Int) : Bool := decide (y % 4 = 0 ∧ (y % 100 ≠ 0 ∨ y % 400 = 0))
def ylen (y : Int) : Int := if leapB y = true then 366 else 365
def dim (y m : Int) : Int := if m = 2 then ylen y - 337 else if m = 4 ∨ m = 6 ∨ m = 9 ∨ m = 11 then 30 else 31
def dby (y : Int) : Int := 365 * (y - 2000) + (y - 2000 + 3) / 4 - (if 2100 < y then 1 else 0)
def lp (y : Int) : Int := if leapB y = true then 1 else 0
def cum (y m : Int) : Int :=
  if m ≤ 1 then 0 else if m = 2 then 31 else if m = 3 then 59 + lp y else if m = 4 then 90 + lp y else if m = 5 then 120 + lp y else if m = 6 then 151 + lp y
  else if m = 7 then 181 + lp y else if m = 8 then 212 + lp y else if m = 9 then 243 + lp y else if m = 10 then 273 + lp y else if m = 11 then 304 + lp y else if m = 12 then 334 + lp y else 365 + lp y
def isDay (n : Int) : Bool := decide (0 ≤ n ∧ n ≤ 73048)
def isYM (y m : Int) : Bool := decide (2000 ≤ y ∧ y ≤ 2199 ∧ 1 ≤ m ∧ m ≤ 12)

theorem ylen_eq (y : Int) : ylen y = 365 + lp y := by unfold ylen lp; split <;> rfl
theorem lp_01 (y : Int) : 0 ≤ lp y ∧ lp y ≤ 1 := by unfold lp; split <;> omega
theorem ylen_bd (y : Int) : 365 ≤ ylen y ∧ ylen y ≤ 366 := by have := lp_01 y; rw [ylen_eq]; omega
theorem dim_bd (y m : Int) : 28 ≤ dim y m ∧ dim y m ≤ 31 := by
  have := ylen_bd y; unfold dim; split
  · omega
  · split <;> omega
theorem dby_succ (y : Int) (h : 2000 ≤ y) (h2 : y ≤ 2199) : dby (y + 1) = dby y + ylen y := by
  unfold dby ylen leapB
  by_cases a : y % 4 = 0 <;> by_cases b : y % 100 = 0 <;> by_cases c : y % 400 = 0 <;> simp only [a, b, c] <;> simp <;> split <;> split <;> omega
theorem dby_first : dby 2000 = 0 := by decide
theorem dby_last : dby 2200 = 73049 := by decide
theorem cum_succ (y m : Int) (h : 1 ≤ m) (h2 : m ≤ 12) : cum y (m + 1) = cum y m + dim y m := by
  have : m = 1 ∨ m = 2 ∨ m = 3 ∨ m = 4 ∨ m = 5 ∨ m = 6 ∨ m = 7 ∨ m = 8 ∨ m = 9 ∨ m = 10 ∨ m = 11 ∨ m = 12 := by omega
  have e := ylen_eq y
  rcases this with h | h | h | h | h | h | h | h | h | h | h | h <;> subst h <;> simp [cum, dim] <;> omega
theorem cum_one (y : Int) : cum y 1 = 0 := by simp [cum]
theorem cum_end (y : Int) : cum y 13 = ylen y := by rw [ylen_eq]; simp [cum]
theorem cum_bd (y m : Int) : 0 ≤ cum y m ∧ cum y m ≤ 366 := by
  have := lp_01 y
  unfold cum
  repeat' (split <;> try omega)
theorem dby_bd (y : Int) (h : 2000 ≤ y) (h2 : y ≤ 2200) : 0 ≤ dby y ∧ dby y ≤ 73049 := by unfold dby; split <;> omega
theorem dby_mono (a b : Int) (h : a ≤ b) : dby a ≤ dby b := by unfold dby; split <;> split <;> omega
theorem cum_step (y m : Int) : cum y m ≤ cum y (m + 1) := by
  by_cases h : 1 ≤ m
  · by_cases h2 : m ≤ 12
    · rw [cum_succ y m h h2]; have := dim_bd y m; omega
    · have e : ∀ k : Int, 13 ≤ k → cum y k = 365 + lp y := by
        intro k hk
        unfold cum
        rw [if_neg (by omega), if_neg (by omega), if_neg (by omega), if_neg (by omega), if_neg (by omega), if_neg (by omega), if_neg (by omega), if_neg (by omega), if_neg (by omega), if_neg (by omega), if_neg (by omega), if_neg (by omega)]
      rw [e m (by omega), e (m + 1) (by omega)]; exact Int.le_refl _
  · unfold cum
    rw [if_pos (by omega), if_pos (by omega)]; exact Int.le_refl _
theorem cum_mono_nat (y a : Int) : ∀ k : Nat, cum y a ≤ cum y (a + k)
  | 0 => by simp
  | k + 1 => by
    have h1 := cum_mono_nat y a k
    have h2 := cum_step y (a + k)
    have e : a + ((k + 1 : Nat) : Int) = a + (k : Int) + 1 := by omega
    rw [e]; exact Int.le_trans h1 h2
theorem cum_mono (y a b : Int) (h : a ≤ b) : cum y a ≤ cum y b := by
  have h1 := cum_mono_nat y a (b - a).toNat
  rw [show a + ((b - a).toNat : Int) = b from by omega] at h1
  exact h1

/-- The civil date of a day. -/
def isCiv (n y m d : Int) : Prop := 2000 ≤ y ∧ y ≤ 2199 ∧ 1 ≤ m ∧ m ≤ 12 ∧ 1 ≤ d ∧ d ≤ dim y m ∧ n = dby y + cum y m + d - 1
theorem cum_dim (y m : Int) (h : 1 ≤ m) (h2 : m ≤ 12) : cum y m + dim y m ≤ ylen y := by
  rw [← cum_succ y m h h2, ← cum_end]; exact cum_mono _ _ _ (by omega)
theorem civ_year {n y m d : Int} (h : isCiv n y m d) : dby y ≤ n ∧ n < dby (y + 1) := by
  obtain ⟨h1, h2, h3, h4, h5, h6, h7⟩ := h
  have := cum_dim y m h3 h4; have := dby_succ y h1 h2; have := cum_bd y m
  omega
theorem civ_unique {n y m d y' m' d' : Int} (h : isCiv n y m d) (h' : isCiv n y' m' d') : y = y' ∧ m = m' ∧ d = d' := by
  have a := civ_year h
  have b := civ_year h'
  have e : y = y' := by
    by_cases h1 : y + 1 ≤ y'
    · have := dby_mono _ _ h1; omega
    · by_cases h2 : y' + 1 ≤ y
      · have := dby_mono _ _ h2; omega
      · omega
  subst e
  obtain ⟨h1, h2, h3, h4, h5, h6, h7⟩ := h
  obtain ⟨g1, g2, g3, g4, g5, g6, g7⟩ := h'
  have c1 := cum_succ y m h3 h4
  have c2 := cum_succ y m' g3 g4
  have e : m = m' := by
    by_cases h1 : m + 1 ≤ m'
    · have := cum_mono y _ _ h1; omega
    · by_cases h2 : m' + 1 ≤ m
      · have := cum_mono y _ _ h2; omega
      · omega
  subst e
  exact ⟨rfl, rfl, by omega⟩
open Classical in
noncomputable def civ (n : Int) : Int × Int × Int := Classical.epsilon (fun p => isCiv n p.1 p.2.1 p.2.2)
theorem civ_of {n y m d : Int} (h : isCiv n y m d) : civ n = (y, m, d) := by
  have s : isCiv n (civ n).1 (civ n).2.1 (civ n).2.2 := @Classical.epsilon_spec _ (fun p : Int × Int × Int => isCiv n p.1 p.2.1 p.2.2) ⟨(y, m, d), h⟩
  obtain ⟨a, b, c⟩ := civ_unique s h
  exact Prod.ext a (Prod.ext b c)
theorem civ_range {n y m d : Int} (h : isCiv n y m d) : isDay n = true := by
  have a := civ_year h
  have b := dby_bd y h.1 (by have := h.2.1; omega)
  have c := dby_mono (y + 1) 2200 (by have := h.2.1; omega)
  rw [dby_last] at c
  unfold isDay
  simp; omega
theorem year_ex (n : Int) (h0 : 0 ≤ n) (k : Nat) : (k : Int) ≤ 199 → n < dby (2000 + (k : Int) + 1) → ∃ y, 2000 ≤ y ∧ y ≤ 2199 ∧ dby y ≤ n ∧ n < dby (y + 1) := by
  induction k with
  | zero =>
    intro _ h
    exact ⟨2000, by omega, by omega, by rw [dby_first]; exact h0, by simpa using h⟩
  | succ k ih =>
    intro hk h
    by_cases e : n < dby (2000 + (k : Int) + 1)
    · exact ih (by omega) e
    · refine ⟨2000 + (k : Int) + 1, by omega, by omega, by omega, ?_⟩
      have e2 : (2000 : Int) + (k : Int) + 1 + 1 = 2000 + ((k + 1 : Nat) : Int) + 1 := by omega
      rw [e2]; exact h
theorem month_ex (y r : Int) (h0 : 0 ≤ r) (k : Nat) : (k : Int) ≤ 11 → r < cum y (1 + (k : Int) + 1) → ∃ m, 1 ≤ m ∧ m ≤ 12 ∧ cum y m ≤ r ∧ r < cum y (m + 1) := by
  induction k with
  | zero =>
    intro _ h
    exact ⟨1, by omega, by omega, by rw [cum_one]; exact h0, by simpa using h⟩
  | succ k ih =>
    intro hk h
    by_cases e : r < cum y (1 + (k : Int) + 1)
    · exact ih (by omega) e
    · refine ⟨1 + (k : Int) + 1, by omega, by omega, by omega, ?_⟩
      have e2 : (1 : Int) + (k : Int) + 1 + 1 = 1 + ((k + 1 : Nat) : Int) + 1 := by omega
      rw [e2]; exact h
theorem civ_ex {n : Int} (h : isDay n = true) : ∃ y m d, isCiv n y m d := by
  have h0 : 0 ≤ n ∧ n ≤ 73048 := by unfold isDay at h; simpa using h
  have e1 : (2000 : Int) + ((199 : Nat) : Int) + 1 = 2200 := by omega
  have e2 : (1 : Int) + ((11 : Nat) : Int) + 1 = 13 := by omega
  obtain ⟨y, y1, y2, y3, y4⟩ := year_ex n h0.1 199 (by omega) (by rw [e1, dby_last]; omega)
  have hs := dby_succ y y1 y2
  obtain ⟨m, m1, m2, m3, m4⟩ := month_ex y (n - dby y) (by omega) 11 (by omega) (by rw [e2, cum_end]; omega)
  have hc := cum_succ y m m1 m2
  exact ⟨y, m, n - dby y - cum y m + 1, y1, y2, m1, m2, by omega, by omega, by omega⟩
theorem civ_spec {n : Int} (h : isDay n = true) : isCiv n (civ n).1 (civ n).2.1 (civ n).2.2 := by
  obtain ⟨y, m, d, hc⟩ := civ_ex h
  rw [civ_of hc]; exact hc
end Dt
end Go.Proofs.Ytaokneooejbfkaa
