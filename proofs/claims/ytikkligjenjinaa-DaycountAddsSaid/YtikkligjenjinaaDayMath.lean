/- Plain arithmetic of periods: days of leap years, positions in years of 360 days. -/
import Derived.Test.YtikkligjenjinaaDateMath
namespace Go.Proofs.Ytikkligjenjinaa
set_option maxRecDepth 8000
namespace Dy
open Dt
/-- The leap years from 2000 on, up to before y. -/
def lk (y : Int) : Int := (y - 2000 + 3) / 4 - (if 2100 < y then 1 else 0)
theorem dby_lk (y : Int) : dby y = 365 * (y - 2000) + lk y := by unfold dby lk; omega
theorem lk_succ (y : Int) (h : 2000 ≤ y) (h2 : y ≤ 2199) : lk (y + 1) = lk y + lp y := by
  have := dby_succ y h h2
  rw [dby_lk, dby_lk, ylen_eq] at this
  omega
theorem lk_mono {a b : Int} (h : a ≤ b) : lk a ≤ lk b ∧ lk b - lk a ≤ b - a := by unfold lk; split <;> split <;> omega
theorem lk_bd {y : Int} (h : 2000 ≤ y) (h2 : y ≤ 2200) : 0 ≤ lk y ∧ lk y ≤ 49 := by unfold lk; split <;> omega
/-- The days of leap years that lie before a day. -/
noncomputable def ld (n : Int) : Int := 366 * lk (civ n).1 + (if leapB (civ n).1 = true then n - dby (civ n).1 else 0)
theorem ld_of {n y m d : Int} (h : isCiv n y m d) : ld n = 366 * lk y + (if leapB y = true then n - dby y else 0) := by unfold ld; rw [civ_of h]
theorem year_of {e y y' m' d' : Int} (h : isCiv e y' m' d') (h1 : dby y ≤ e) (h2 : e < dby (y + 1)) : y' = y := by
  have := civ_year h
  by_cases c : y' + 1 ≤ y
  · have := dby_mono _ _ c; omega
  · by_cases c2 : y + 1 ≤ y'
    · have := dby_mono _ _ c2; omega
    · omega
theorem lp_leap (y : Int) : lp y = if leapB y = true then 1 else 0 := rfl
theorem ld_step {n y m d e : Int} (h : isCiv n y m d) (h1 : n ≤ e) (h2 : e ≤ dby (y + 1)) (he : isDay e = true) : ld e = ld n + if leapB y = true then e - n else 0 := by
  obtain ⟨y', m', d', h'⟩ := civ_ex he
  have hy := civ_year h
  have hy' := civ_year h'
  have y1 := h.1
  have y2 := h.2.1
  rw [ld_of h, ld_of h']
  by_cases c : e = dby (y + 1)
  · have e1 : y' = y + 1 := by
      by_cases hlast : y + 1 ≤ 2199
      · exact year_of h' (by omega) (by have := dby_succ (y + 1) (by omega) hlast; have := ylen_bd (y + 1); omega)
      · have : y = 2199 := by omega
        subst this
        have hl := dby_last
        have : isDay e = true := he
        unfold isDay at this
        simp at this
        have e2 : (2199 : Int) + 1 = 2200 := by omega
        rw [e2] at c
        omega
    subst e1
    have hs := lk_succ y y1 y2
    have hd := dby_succ y y1 y2
    rw [ylen_eq] at hd
    rw [lp_leap] at hs hd
    rw [c]
    split <;> split <;> simp_all <;> omega
  · have e1 := year_of (y := y) h' (by omega) (by omega)
    subst e1
    split <;> omega
theorem ld_le {a b : Int} (ha : isDay a = true) (hb : isDay b = true) (h : a ≤ b) : ld a ≤ ld b ∧ ld b - ld a ≤ b - a := by
  obtain ⟨y, m, d, h1⟩ := civ_ex ha
  obtain ⟨y', m', d', h2⟩ := civ_ex hb
  have a1 := civ_year h1
  have a2 := civ_year h2
  rw [ld_of h1, ld_of h2]
  by_cases c : y = y'
  · subst c; split <;> omega
  · have hlt : y + 1 ≤ y' := by
      by_cases c2 : y' + 1 ≤ y
      · have := dby_mono _ _ c2; omega
      · omega
    have hm := lk_mono hlt
    have hs := lk_succ y h1.1 h1.2.1
    have hd := dby_succ y h1.1 h1.2.1
    have hd2 := dby_lk y
    have hd3 := dby_lk y'
    have hd4 := dby_lk (y + 1)
    rw [ylen_eq] at hd
    rw [lp_leap] at hs hd
    split <;> split <;> simp_all <;> omega
/-- The position of a day in years of 360 days. -/
noncomputable def pos (n : Int) : Int := 360 * (civ n).1 + 30 * (civ n).2.1 + min (civ n).2.2 30
theorem pos_of {n y m d : Int} (h : isCiv n y m d) : pos n = 360 * y + 30 * m + min d 30 := by unfold pos; rw [civ_of h]
theorem pos_le {a b : Int} (ha : isDay a = true) (hb : isDay b = true) (h : a ≤ b) : pos a ≤ pos b := by
  obtain ⟨y, m, d, h1⟩ := civ_ex ha
  obtain ⟨y', m', d', h2⟩ := civ_ex hb
  have a1 := civ_year h1
  have a2 := civ_year h2
  rw [pos_of h1, pos_of h2]
  obtain ⟨p1, p2, p3, p4, p5, p6, p7⟩ := h1
  obtain ⟨q1, q2, q3, q4, q5, q6, q7⟩ := h2
  have d1 := dim_bd y m
  by_cases c : y = y'
  · subst c
    by_cases c2 : m = m'
    · subst c2; omega
    · have hlt : m + 1 ≤ m' := by
        by_cases c3 : m' + 1 ≤ m
        · have := cum_mono y _ _ c3
          have := cum_succ y m' q3 q4
          omega
        · omega
      omega
  · have hlt : y + 1 ≤ y' := by
      by_cases c2 : y' + 1 ≤ y
      · have := dby_mono _ _ c2; omega
      · omega
    omega
theorem pos_bd {a : Int} (ha : isDay a = true) : 720031 ≤ pos a ∧ pos a ≤ 792030 := by
  obtain ⟨y, m, d, h1⟩ := civ_ex ha
  rw [pos_of h1]
  obtain ⟨p1, p2, p3, p4, p5, p6, p7⟩ := h1
  omega
/-- The error of a period, 0 if there is none. -/
def err (b f t : Int) : Int := if b < 1 ∨ 4 < b then 60 else if isDay f = false ∨ isDay t = false then 50 else if t < f then 61 else 0
/-- The days of a period. -/
noncomputable def days (b f t : Int) : Int := if err b f t ≠ 0 then 0 else if b = 4 then pos t - pos f else t - f
structure Ok (b f t : Int) : Prop where
  b1 : 1 ≤ b
  b2 : b ≤ 4
  hf : isDay f = true
  ht : isDay t = true
  le : f ≤ t
theorem err_zero {b f t : Int} : err b f t = 0 ↔ Ok b f t := by
  unfold err
  constructor
  · intro h
    split at h
    · omega
    · split at h
      · omega
      · split at h
        · omega
        · rename_i h1 h2 h3
          exact ⟨by omega, by omega, by simpa using fun c => h2 (.inl c), by simpa using fun c => h2 (.inr c), by omega⟩
  · rintro ⟨h1, h2, h3, h4, h5⟩
    rw [if_neg (by omega), if_neg (by simp [h3, h4]), if_neg (by omega)]
theorem days_ok {b f t : Int} (h : Ok b f t) : days b f t = if b = 4 then pos t - pos f else t - f := by
  unfold days; rw [if_neg (by simpa using err_zero.2 h)]
theorem days_bd {b f t : Int} (h : Ok b f t) : 0 ≤ days b f t ∧ days b f t ≤ 100000 := by
  rw [days_ok h]
  have h1 := pos_bd h.hf
  have h2 := pos_bd h.ht
  have h3 := pos_le h.hf h.ht h.le
  have h4 := h.hf
  have h5 := h.ht
  have := h.le
  unfold isDay at h4 h5
  simp at h4 h5
  split <;> omega
/-- The fraction of a year. -/
noncomputable def frac (b f t : Int) : Rat := if b = 3 then Rat.divInt (t - f - (ld t - ld f)) 365 + Rat.divInt (ld t - ld f) 366 else Rat.divInt (days b f t) (if b = 2 then 365 else 360)
end Dy
end Go.Proofs.Ytikkligjenjinaa
