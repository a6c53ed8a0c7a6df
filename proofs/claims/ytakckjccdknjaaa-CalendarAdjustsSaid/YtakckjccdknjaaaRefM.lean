/- The contracts of the reference of layer 5: days out of civil dates, the ends of months. -/
import Derived.Test.YtakckjccdknjaaaDateR
namespace Go.Proofs.Ytakckjccdknjaaa
open Go.RowKit
theorem ret_two {a b : Int} (h : a = b) : Ending.returned (.tuple #[.int .i64 a, .int .i64 0]) = .returned (.tuple #[.int .i64 b, .int .i64 0]) := by rw [h]
set_option maxHeartbeats 1000000 in
theorem rFrom_yes (y m d : Int) (w : World) (h1 : 2000 ≤ y) (h2 : y ≤ 2199) (h3 : 1 ≤ m) (h4 : m ≤ 12) (h5 : 1 ≤ d) (h6 : d ≤ Dt.dim y m) :
    Calls Try.prog 46 #[.int .i64 y, .int .i64 m, .int .i64 d] w fun e w' => e = .returned (.tuple #[.int .i64 (Dt.dby y + Dt.cum y m + d - 1), .int .i64 0]) ∧ w = w' := by
  have hdm := Dt.dim_bd y m
  go_enter Try.func46, Try.ntmps46
  go_wp2_with (go_at_call 57; refine (rLength_yes _ _ _ (by omega) (by omega) (by omega) (by omega)).mono ?_; rintro e w' ⟨rfl, rfl⟩)
  go_loop [10, 11] (fun r t => ∃ x : Int, 2000 ≤ x ∧ x ≤ y ∧ t = .int .i64 x ∧ r = .int .i64 (d - 1 + Dt.dby x)) (fun _ t => (2199 - intOf t).toNat)
  case atStart => exact ⟨2000, by omega, by omega, rfl, by rw [Dt.dby_first]; simp⟩
  case round =>
    obtain ⟨x, hx1, hx2, rfl, rfl⟩ := hrel
    have hb := Dt.dby_bd x hx1 (by omega)
    by_cases hc : x < y
    · have HS := Lib.hid (Dt.dby_succ x hx1 (by omega))
      have hl := Dt.ylen_bd x
      go_wp2_with (go_at_call 55; refine (rdays_any _ _ (by omega)).mono ?_; rintro e w' ⟨rfl, rfl⟩)
      go_round
      case rel => exact ⟨x + 1, by omega, by omega, by go_num, by have := HS.out; rw [this]; go_num⟩
      case measure => simp [intOf]; omega
    · obtain rfl : x = y := by omega
      go_wp2_with fail
      go_loop [10, 12] (fun r t => ∃ z : Int, 1 ≤ z ∧ z ≤ m ∧ t = .int .i64 z ∧ r = .int .i64 (d - 1 + Dt.dby x + Dt.cum x z)) (fun _ t => (12 - intOf t).toNat)
      case atStart => exact ⟨1, by omega, by omega, rfl, by rw [Dt.cum_one]; simp⟩
      case round =>
        obtain ⟨z, hz1, hz2, rfl, rfl⟩ := hrel
        have hb2 := Dt.cum_bd x z
        have hdz := Dt.dim_bd x z
        by_cases hc2 : z < m
        · have HS := Lib.hid (Dt.cum_succ x z hz1 (by omega))
          go_wp2_with (go_at_call 56; refine (rlength_any _ _ _ (by omega)).mono ?_; rintro e w' ⟨rfl, rfl⟩)
          go_round
          case rel => exact ⟨z + 1, by omega, by omega, by go_num, by have := HS.out; rw [this]; go_num⟩
          case measure => simp [intOf]; omega
        · obtain rfl : z = m := by omega
          go_wp2_with fail
          go_ret2
          exact ⟨ret_two (by omega), rfl⟩
theorem rMonthEnd_yes (n : Int) (w : World) (h : Dt.isDay n = true) :
    Calls Try.prog 47 #[.int .i64 n] w fun e w' => ∃ y m d : Int, Dt.isCiv n y m d ∧ e = .returned (.tuple #[.int .i64 (Dt.dby y + Dt.cum y m + Dt.dim y m - 1), .int .i64 0]) ∧ w = w' := by
  go_enter Try.func47, Try.ntmps47
  go_wp2_with fail
  refine (rCivil_yes n _ h).mono ?_
  rintro e w' ⟨y, m, d, hc, rfl, rfl⟩
  have HC := Lib.hid hc
  obtain ⟨h1, h2, h3, h4, _, _, _⟩ := hc
  have hdm := Dt.dim_bd y m
  go_wp2_with (first
    | (go_at_call 56; refine (rlength_any _ _ _ (by omega)).mono ?_; rintro e w' ⟨rfl, rfl⟩)
    | (go_at_call 46; refine (rFrom_yes _ _ _ _ (by omega) (by omega) (by omega) (by omega) (by omega) (by omega)).mono ?_; rintro e w' ⟨rfl, rfl⟩))
  go_ret2
  exact ⟨y, m, d, HC.out, rfl, rfl⟩
end Go.Proofs.Ytakckjccdknjaaa
