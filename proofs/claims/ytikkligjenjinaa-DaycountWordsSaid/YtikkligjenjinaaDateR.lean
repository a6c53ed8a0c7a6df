/- The contracts of the reference of layer 5. -/
import Derived.Test.YtikkligjenjinaaEngA
import Derived.Test.YtikkligjenjinaaDateMath
namespace Go.Proofs.Ytikkligjenjinaa
set_option maxRecDepth 8000
open Go.RowKit

theorem rOut_any (n : Int) (w : World) :
    Calls Try.prog 40 #[.int .i64 n] w fun e w' => e = .returned (.bool (!Dt.isDay n)) ∧ w = w' := by
  unfold Dt.isDay
  by_cases h : n < 0
  · go_enter Try.func40, Try.ntmps40
    go_wp2
    go_ret
    exact ⟨ret_bool (by first | (simp; done) | (simp; omega)), rfl⟩
  · by_cases h2 : 73048 < n
    all_goals
      go_enter Try.func40, Try.ntmps40
      go_wp2
      go_ret
      exact ⟨ret_bool (by first | (simp; done) | (simp; omega)), rfl⟩

theorem rLeap_any (y : Int) (w : World) (h0 : 0 ≤ y) :
    Calls Try.prog 53 #[.int .i64 y] w fun e w' => e = .returned (.bool (Dt.leapB y)) ∧ w = w' := by
  unfold Dt.leapB
  by_cases a : y % 4 = 0
  · by_cases b : y % 100 = 0
    · by_cases c : y % 400 = 0
      all_goals
        have a' : (y % 4 == 0) = true := by simp [a]
        have b' : (y % 100 != 0) = false := by simp [b]
        first | have c' : (y % 400 == 0) = true := by simp [c]
              | have c' : (y % 400 == 0) = false := by simp [c]
        have HA := Lib.hid a; have HB := Lib.hid b; have HC := Lib.hid c
        clear a b c
        go_enter Try.func53, Try.ntmps53
        go_wp2
        go_ret
        exact ⟨ret_bool (by have := HA.out; have := HB.out; have := HC.out; simp [*]), rfl⟩
    · have a' : (y % 4 == 0) = true := by simp [a]
      have b' : (y % 100 != 0) = true := by simp [b]
      have HA := Lib.hid a; have HB := Lib.hid b
      clear a b
      go_enter Try.func53, Try.ntmps53
      go_wp2
      go_ret
      exact ⟨ret_bool (by have := HA.out; have := HB.out; simp [*]), rfl⟩
  · have a' : (y % 4 == 0) = false := by simp [a]
    have HA := Lib.hid a
    clear a
    go_enter Try.func53, Try.ntmps53
    go_wp2
    go_ret
    exact ⟨ret_bool (by have := HA.out; simp [*]), rfl⟩

theorem rdays_any (y : Int) (w : World) (h0 : 0 ≤ y) :
    Calls Try.prog 41 #[.int .i64 y] w fun e w' => e = .returned (.int .i64 (Dt.ylen y)) ∧ w = w' := by
  unfold Dt.ylen
  cases hl : Dt.leapB y
  all_goals
    have HL := Lib.hid hl
    clear hl
    go_enter Try.func41, Try.ntmps41
    go_wp2_with (go_at_call 53; refine (rLeap_any _ _ h0).mono ?_; rintro e w' ⟨rfl, rfl⟩; rw [HL.out])
    go_ret
    exact ⟨ret_int (by simp), rfl⟩

set_option maxHeartbeats 1000000 in
theorem rlength_any (y m : Int) (w : World) (h0 : 0 ≤ y) :
    Calls Try.prog 42 #[.int .i64 y, .int .i64 m] w fun e w' => e = .returned (.int .i64 (Dt.dim y m)) ∧ w = w' := by
  have b := Dt.ylen_bd y
  unfold Dt.dim
  by_cases h2 : m = 2
  · subst h2
    go_enter Try.func42, Try.ntmps42
    go_wp2_with (go_at_call 41; refine (rdays_any _ _ h0).mono ?_; rintro e w' ⟨rfl, rfl⟩)
    go_ret
    exact ⟨ret_int (by simp), rfl⟩
  · by_cases h4 : m = 4
    · subst h4
      clear h2
      go_enter Try.func42, Try.ntmps42
      go_wp2
      go_ret
      exact ⟨ret_int (by simp), rfl⟩
    · by_cases h6 : m = 6
      · subst h6
        clear h2 h4
        go_enter Try.func42, Try.ntmps42
        go_wp2
        go_ret
        exact ⟨ret_int (by simp), rfl⟩
      · by_cases h9 : m = 9
        · subst h9
          clear h2 h4 h6
          go_enter Try.func42, Try.ntmps42
          go_wp2
          go_ret
          exact ⟨ret_int (by simp), rfl⟩
        · by_cases h11 : m = 11
          · subst h11
            clear h2 h4 h6 h9
            go_enter Try.func42, Try.ntmps42
            go_wp2
            go_ret
            exact ⟨ret_int (by simp), rfl⟩
          · have e2 : (m == 2) = false := by simp [h2]
            have e4 : (m == 4) = false := by simp [h4]
            have e6 : (m == 6) = false := by simp [h6]
            have e9 : (m == 9) = false := by simp [h9]
            have e11 : (m == 11) = false := by simp [h11]
            rw [if_neg h2, if_neg (by omega)]
            clear h2 h4 h6 h9 h11
            go_enter Try.func42, Try.ntmps42
            go_wp2
            go_ret
            exact ⟨rfl, rfl⟩

theorem rLength_yes (y m : Int) (w : World) (h1 : 2000 ≤ y) (h2 : y ≤ 2199) (h3 : 1 ≤ m) (h4 : m ≤ 12) :
    Calls Try.prog 43 #[.int .i64 y, .int .i64 m] w fun e w' => e = .returned (.tuple #[.int .i64 (Dt.dim y m), .int .i64 0]) ∧ w = w' := by
  go_enter Try.func43, Try.ntmps43
  go_wp2_with (go_at_call 42; refine (rlength_any _ _ _ (by omega)).mono ?_; rintro e w' ⟨rfl, rfl⟩)
  go_ret2
  exact ⟨rfl, rfl⟩

theorem rCivil_no (n : Int) (w : World) (h : Dt.isDay n = false) :
    Calls Try.prog 20 #[.int .i64 n] w fun e w' => e = .returned (.tuple #[.int .i64 0, .int .i64 0, .int .i64 0, .int .i64 50]) ∧ w = w' := by
  go_enter Try.func20, Try.ntmps20
  go_wp2_with (go_at_call 40; refine (rOut_any _ _).mono ?_; rintro e w' ⟨rfl, rfl⟩)
  refine bodyPost_ret (res_four rfl _ _ _) rfl ?_
  exact ⟨rfl, rfl⟩

set_option maxHeartbeats 1000000 in
theorem rCivil_yes (n : Int) (w : World) (h : Dt.isDay n = true) :
    Calls Try.prog 20 #[.int .i64 n] w fun e w' => ∃ y m d : Int, Dt.isCiv n y m d ∧ e = .returned (.tuple #[.int .i64 y, .int .i64 m, .int .i64 d, .int .i64 0]) ∧ w = w' := by
  have h0 : 0 ≤ n ∧ n ≤ 73048 := by unfold Dt.isDay at h; simpa using h
  obtain ⟨h1, h2⟩ := h0
  go_enter Try.func20, Try.ntmps20
  go_wp2_with (go_at_call 40; refine (rOut_any _ _).mono ?_; rintro e w' ⟨rfl, rfl⟩)
  go_loop [0, 2] (fun r t => ∃ y : Int, 2000 ≤ y ∧ y ≤ 2199 ∧ Dt.dby y ≤ n ∧ t = .int .i64 y ∧ r = .int .i64 (n - Dt.dby y)) (fun _ t => (2199 - intOf t).toNat)
  case atStart => exact ⟨2000, by omega, by omega, by rw [Dt.dby_first]; omega, rfl, by rw [Dt.dby_first]; simp⟩
  case round =>
    obtain ⟨y, hy1, hy2, hy3, rfl, rfl⟩ := hrel
    have hs := Dt.dby_succ y hy1 hy2
    have hl := Dt.ylen_bd y
    have hb := Dt.dby_bd y hy1 (by omega)
    by_cases hc : Dt.ylen y ≤ n - Dt.dby y
    · have hlt : y < 2199 := by
        by_cases e : y = 2199
        · subst e; have := Dt.dby_last; simp at hs; rw [this] at hs; omega
        · omega
      have HS := Lib.hid hs
      clear hs
      go_wp2_with (go_at_call 41; refine (rdays_any _ _ (by omega)).mono ?_; rintro e w' ⟨rfl, rfl⟩)
      go_round
      case rel => exact ⟨y + 1, by omega, by omega, by have := HS.out; omega, rfl, by have := HS.out; rw [this]; go_num⟩
      case measure => simp [intOf]; omega
    · clear hs
      go_wp2_with (go_at_call 41; refine (rdays_any _ _ (by omega)).mono ?_; rintro e w' ⟨rfl, rfl⟩)
      go_loop [0, 3] (fun r t => ∃ m : Int, 1 ≤ m ∧ m ≤ 12 ∧ Dt.cum y m ≤ n - Dt.dby y ∧ t = .int .i64 m ∧ r = .int .i64 (n - Dt.dby y - Dt.cum y m)) (fun _ t => (12 - intOf t).toNat)
      case atStart => exact ⟨1, by omega, by omega, by rw [Dt.cum_one]; omega, rfl, by rw [Dt.cum_one]; simp⟩
      case round =>
        obtain ⟨m, hm1, hm2, hm3, rfl, rfl⟩ := hrel
        have hs := Dt.cum_succ y m hm1 hm2
        have hd := Dt.dim_bd y m
        have hb2 := Dt.cum_bd y m
        by_cases hc2 : Dt.dim y m ≤ n - Dt.dby y - Dt.cum y m
        · have hlt : m < 12 := by
            by_cases e : m = 12
            · subst e; have := Dt.cum_end y; simp at hs; rw [this] at hs; omega
            · omega
          have HS := Lib.hid hs
          clear hs
          go_wp2_with (go_at_call 42; refine (rlength_any _ _ _ (by omega)).mono ?_; rintro e w' ⟨rfl, rfl⟩)
          go_round
          case rel => exact ⟨m + 1, by omega, by omega, by have := HS.out; omega, rfl, by have := HS.out; rw [this]; go_num⟩
          case measure => simp [intOf]; omega
        · clear hs
          have HC : Hid (Dt.isCiv n y m (n - Dt.dby y - Dt.cum y m + 1)) := ⟨hy1, hy2, hm1, hm2, by omega, by omega, by omega⟩
          go_wp2_with (go_at_call 42; refine (rlength_any _ _ _ (by omega)).mono ?_; rintro e w' ⟨rfl, rfl⟩)
          refine bodyPost_ret (res_four rfl _ _ _) rfl ?_
          exact ⟨_, _, _, HC.out, rfl, rfl⟩

end Go.Proofs.Ytikkligjenjinaa
