/- DaycountYears, walked. -/
import Derived.Test.YtikkligjenjinaaDayE
namespace Go.Proofs.Ytikkligjenjinaa
set_option maxRecDepth 8000
open Go.RowKit
theorem rone_q (w : World) : Calls Try.prog 22 #[] w fun r w' => r = .returned (.agg (Rt.qA 1)) ∧ Below w.heap.size w w' := by
  have HM := Mem.start w
  have hz0 := za_rat
  have hs := sa_q 1 (rZ_size 0 0)
  obtain ⟨x, hx⟩ : ∃ x : Rat, Hid (x = ((1 : Int) : Rat)) := ⟨_, rfl⟩
  obtain rfl : x = 1 := hx.out
  go_enter Try.func22, Try.ntmps22
  go_wp2_with (first | (go_at_call 39; ((with_reducible refine (rwhole_q 1 1 (by omega) (by omega) hx _).mono ?_); rintro e9 w2 ⟨rfl, hL⟩; replace HM := HM.call hL; clear hL)) | (first | ((with_reducible refine g_ld ?_); refine a_ld HM ?_) | ((with_reducible refine g_st ?_); refine a_st HM ?_; clear HM; intro w1 HM) | ((with_reducible refine g_al ?_); refine a_al HM ?_; clear HM; intro bk w1 HM) | ((with_reducible refine g_bx ?_); refine a_bx HM ?_; clear HM; intro bk w1 HM) | ((with_reducible refine g_bld ?_); refine a_bld ?_)))
  refine bodyPost_ret (r_c rfl rfl (HM.get (by ((repeat (first | exact Look.here | refine Look.there ?_)); done))) (la_q _)) rfl ⟨rfl, HM.low⟩
theorem Dy.self {n : Int} (h : n ≠ 0) : Rat.divInt n n = 1 := by
  rw [Rat.divInt_eq_div]
  have h1 : (n : Rat) ≠ 0 := fun e => h (by exact_mod_cast e)
  grind
/-- A fraction that is one. -/
theorem frac_one {b f t : Int} (hk : Dy.Ok b f t) (h : Dy.frac b f t = 1) (w : World) : Calls Try.prog 8 #[.int .i64 b, .int .i64 f, .int .i64 t] w fun r w' => r = .returned (.tuple #[.agg (Rt.qA 1), .int .i64 0]) ∧ Below w.heap.size w w' := by
  have h1 := fraction_any b f t w
  rwa [Dy.fc_ok hk, Dy.err_zero.2 hk, h] at h1
theorem year_ones {n y m d : Int} (h : Dt.isCiv n y m d) (hn : n ≤ 72047) (hn0 : 0 ≤ n) : y ≤ 2198 ∧ Dt.isDay (Dt.dby y) = true ∧ Dt.isDay (Dt.dby (y + 1)) = true ∧ Dy.Ok 3 (Dt.dby y) (Dt.dby (y + 1)) ∧ Dy.frac 3 (Dt.dby y) (Dt.dby (y + 1)) = 1 ∧ Dy.Ok 4 (Dt.dby y) (Dt.dby (y + 1)) ∧ Dy.frac 4 (Dt.dby y) (Dt.dby (y + 1)) = 1 ∧ Dy.Ok 2 n (n + 365) ∧ Dy.frac 2 n (n + 365) = 1 ∧ Dy.Ok 1 n (n + 360) ∧ Dy.frac 1 n (n + 360) = 1 := by
  have hy := Dt.civ_year h
  have y1 := h.1
  have y2 := h.2.1
  have e1 : Dt.dby 2199 = 72684 := by decide
  have hy3 : y ≤ 2198 := by
    rcases Int.lt_or_le y 2199 with c | c
    · omega
    · have := Dt.dby_mono _ _ c; omega
  have hm := Dt.dby_mono (y + 1) 2199 (by omega)
  have b1 := Dt.dby_bd y y1 (by omega)
  have b2 := Dt.dby_bd (y + 1) (by omega) (by omega)
  have hs := Dt.dby_succ y y1 y2
  have hl := Dt.ylen_bd y
  have d1 : Dt.isDay (Dt.dby y) = true := isDay_yes b1.1 (by omega)
  have d2 : Dt.isDay (Dt.dby (y + 1)) = true := isDay_yes b2.1 (by omega)
  have dn : Dt.isDay n = true := isDay_yes hn0 (by omega)
  have dn1 : Dt.isDay (n + 365) = true := isDay_yes (by omega) (by omega)
  have dn2 : Dt.isDay (n + 360) = true := isDay_yes (by omega) (by omega)
  have c1 : Dt.isCiv (Dt.dby y) y 1 1 := ⟨y1, y2, by omega, by omega, by omega, by have := Dt.dim_bd y 1; omega, by rw [Dt.cum_one]; omega⟩
  have c2 : Dt.isCiv (Dt.dby (y + 1)) (y + 1) 1 1 := ⟨by omega, by omega, by omega, by omega, by omega, by have := Dt.dim_bd (y + 1) 1; omega, by rw [Dt.cum_one]; omega⟩
  have k3 : Dy.Ok 3 (Dt.dby y) (Dt.dby (y + 1)) := ⟨by omega, by omega, d1, d2, by omega⟩
  have k4 : Dy.Ok 4 (Dt.dby y) (Dt.dby (y + 1)) := ⟨by omega, by omega, d1, d2, by omega⟩
  have k2 : Dy.Ok 2 n (n + 365) := ⟨by omega, by omega, dn, dn1, by omega⟩
  have k1 : Dy.Ok 1 n (n + 360) := ⟨by omega, by omega, dn, dn2, by omega⟩
  refine ⟨hy3, d1, d2, k3, ?_, k4, ?_, k2, ?_, k1, ?_⟩
  · have hst := Dy.ld_step c1 (e := Dt.dby (y + 1)) (by omega) (Int.le_refl _) d2
    rw [frac3]
    rw [Dt.ylen_eq, Dy.lp_leap] at hs
    split at hst
    · rename_i hb
      rw [if_pos hb] at hs
      rw [show Dt.dby (y + 1) - Dt.dby y - (Dy.ld (Dt.dby (y + 1)) - Dy.ld (Dt.dby y)) = 0 from by omega, show Dy.ld (Dt.dby (y + 1)) - Dy.ld (Dt.dby y) = 366 from by omega, Dy.self (by decide), Rat.zero_divInt, Rat.zero_add]
    · rename_i hb
      rw [if_neg hb] at hs
      rw [show Dt.dby (y + 1) - Dt.dby y - (Dy.ld (Dt.dby (y + 1)) - Dy.ld (Dt.dby y)) = 365 from by omega, show Dy.ld (Dt.dby (y + 1)) - Dy.ld (Dt.dby y) = 0 from by omega, Dy.self (by decide), Rat.zero_divInt, Rat.add_zero]
  · rw [Dy.frac_of (by decide), Dy.days_ok k4, if_pos rfl, if_neg (by decide), Dy.pos_of c1, Dy.pos_of c2, show (360 * (y + 1) + 30 * 1 + min 1 30 - (360 * y + 30 * 1 + min 1 30) : Int) = 360 from by omega]
    exact Dy.self (by decide)
  · rw [Dy.frac_of (by decide), Dy.days_ok k2, if_neg (by decide), if_pos rfl, show n + 365 - n = 365 from by omega]
    exact Dy.self (by decide)
  · rw [Dy.frac_of (by decide), Dy.days_ok k1, if_neg (by decide), if_neg (by decide), show n + 360 - n = 360 from by omega]
    exact Dy.self (by decide)
set_option maxRecDepth 100000 in
set_option maxHeartbeats 4000000 in
theorem dyears_any (a : Int) (w : World) (_h1 : -9223372036854775808 ≤ a) (_h2 : a < 9223372036854775808) :
    Calls Try.prog 6 #[.int .i64 a] w fun e w' => e = .returned (.bool true) ∧ Below w.heap.size w w' := by
  have HM := Mem.start w
  have hz0 := za_rat
  have s1 := sa_q 1 (rZ_size 0 0)
  have k1 := la_q 1
  have f1 : Rt.Fit 1 := (Rt.Bd.up (i := 1) (j := 1) (x := 1) ⟨Bg.p2_small 1 2 (by unfold Bg.p2; rfl) (by decide), Bg.p2_small 1 2 (by unfold Bg.p2; rfl) (by decide)⟩ (by omega) (by omega) : Rt.Bd 1 2 2).fit
  go_enter Try.func6, Try.ntmps6
  go_wp2_with fail
  refine (fold_any _ _ _ (by omega) (by omega)).mono ?_
  rintro e9 w2 ⟨n, rfl, n0, n1, rfl⟩
  have HC := Lib.hid (rCivil_yes n w (isDay_yes n0 (by omega)))
  go_wp2_with fail
  refine HC.out.mono ?_
  rintro e w9 ⟨y, m, d, hc, rfl, rfl⟩
  obtain ⟨y3, d1, d2, k3, e3, k4, e4, k2, e2, kk, ee⟩ := year_ones hc (by omega) n0
  have y1 := hc.1
  have hA : ∀ w, Hid (Calls Try.prog 21 #[.int .i64 y, .int .i64 1, .int .i64 1] w fun e w' => e = .returned (.tuple #[.int .i64 (Dt.dby y), .int .i64 0]) ∧ Below w.heap.size w w') := fun w => Lib.hid (by
    have h := bel (rfromCivil_yes y 1 1 w y1 (by omega) (by omega) (by omega) (by omega) (by have := Dt.dim_bd y 1; omega))
    rwa [Dt.cum_one, show Dt.dby y + 0 + 1 - 1 = Dt.dby y from by omega] at h)
  have hB : ∀ w, Hid (Calls Try.prog 21 #[.int .i64 (y + 1), .int .i64 1, .int .i64 1] w fun e w' => e = .returned (.tuple #[.int .i64 (Dt.dby (y + 1)), .int .i64 0]) ∧ Below w.heap.size w w') := fun w => Lib.hid (by
    have h := bel (rfromCivil_yes (y + 1) 1 1 w (by omega) (by omega) (by omega) (by omega) (by omega) (by have := Dt.dim_bd (y + 1) 1; omega))
    rwa [Dt.cum_one, show Dt.dby (y + 1) + 0 + 1 - 1 = Dt.dby (y + 1) from by omega] at h)
  have F3 := Lib.hid (frac_one k3 e3)
  have F4 := Lib.hid (frac_one k4 e4)
  have F2 := Lib.hid (frac_one k2 e2)
  have F1 := Lib.hid (frac_one kk ee)
  generalize Dt.dby y = p at *
  generalize Dt.dby (y + 1) = q at *
  have HA := Lib.hid hA
  have HB := Lib.hid hB
  clear hA hB k3 k4 k2 kk e3 e4 e2 ee d1 d2 hc HC
  go_wp2_with (first | first | (go_at_call 21; ((with_reducible refine ((HA.out _).out).mono ?_); rintro e9 w2 ⟨rfl, hL⟩; replace HM := HM.call hL; clear hL)) | (go_at_call 21; ((with_reducible refine ((HB.out _).out).mono ?_); rintro e9 w2 ⟨rfl, hL⟩; replace HM := HM.call hL; clear hL)) | (go_at_call 22; ((with_reducible refine (rone_q _).mono ?_); rintro e9 w2 ⟨rfl, hL⟩; replace HM := HM.call hL; clear hL)) | (go_at_call 8; ((with_reducible refine (F3.out _).mono ?_); rintro e9 w2 ⟨rfl, hL⟩; replace HM := HM.call hL; clear hL)) | (go_at_call 8; ((with_reducible refine (F4.out _).mono ?_); rintro e9 w2 ⟨rfl, hL⟩; replace HM := HM.call hL; clear hL)) | (go_at_call 8; ((with_reducible refine (F2.out _).mono ?_); rintro e9 w2 ⟨rfl, hL⟩; replace HM := HM.call hL; clear hL)) | (go_at_call 8; ((with_reducible refine (F1.out _).mono ?_); rintro e9 w2 ⟨rfl, hL⟩; replace HM := HM.call hL; clear hL)) | (go_at_call 12; ((with_reducible refine (dknown_any _).mono ?_); rintro e9 w2 ⟨rfl, hL⟩; replace HM := HM.call hL; clear hL)) | ((with_reducible refine g_bin ?_); refine a_cmpq .eql (1) (1) true (.inl rfl) (by simp) (f1) (f1) ?_) | (first | ((with_reducible refine g_ld ?_); refine a_ld HM ?_) | ((with_reducible refine g_st ?_); refine a_st HM ?_; clear HM; intro w1 HM) | ((with_reducible refine g_al ?_); refine a_al HM ?_; clear HM; intro bk w1 HM) | ((with_reducible refine g_bx ?_); refine a_bx HM ?_; clear HM; intro bk w1 HM) | ((with_reducible refine g_bld ?_); refine a_bld ?_)))
  go_ret
  exact ⟨rfl, HM.low⟩
end Go.Proofs.Ytikkligjenjinaa
