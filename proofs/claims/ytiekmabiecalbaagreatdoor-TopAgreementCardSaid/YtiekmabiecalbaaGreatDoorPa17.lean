/- Walks. -/
import Derived.Test.YtiekmabiecalbaaGreatDoorPa06
import Derived.Test.YtiekmabiecalbaaGreatDoorPa02
namespace Go.Proofs.YtiekmabiecalbaaGreatDoor
set_option maxHeartbeats 16000000
open Go.RowKit
set_option maxRecDepth 8000
section
structure Bg.SmSt (N x y i S c : Nat) : Prop where
 lt : S < Bg.lim
 hi : ∀ j, i ≤ j → Bg.limb S j = Bg.limb N j
 eq : S % Bg.pw i + c * Bg.pw i = N % Bg.pw i * x + y
 le : c < 4294967296
end
section
theorem z9_74 {P : Prop} (h : P := by
 have b1 := Dt.cum_bd y (1 + (n - Dt.dby y) / 31)
 go_wp2_with (first | (go_at_call 97; refine (yearStart_any _ _ Zo Zo).mono ?_; rintro e w' ⟨rfl, rfl⟩) | (go_at_call 98; refine (ah _ _ _ Zo Zo Zo).mono ?_; rintro e w' ⟨rfl, rfl⟩))
 refine bodyPost_ret (res_four rfl _ _ _) rfl ?_
 exact ⟨_, _, _, HN.out _ Zo Zo q2 Zo, rfl, rfl⟩) : P := h
end
section
theorem dvalid_any (n : Int) (w : World) :
    Calls Tryz.prog 117 #[.int .i64 n] w fun e w' => e = .returned (.bool (Dt.isDay n)) ∧ w = w' := by
 unfold Dt.isDay
 by_cases h : 0 ≤ n
 ·by_cases h2 : n ≤ 73048
  all_goals
   go_enter Tryz.func117, Tryz.ntmps117
   go_wp2
   go_ret
   exact ⟨ret_bool (by simp; omega), rfl⟩
 ·go_enter Tryz.func117, Tryz.ntmps117
  go_wp2
  go_ret
  exact ⟨ret_bool (by simp; omega), rfl⟩
theorem leap_any (y : Int) (w : World) (h0 : 0 ≤ y) :
    Calls Tryz.prog 139 #[.int .i64 y] w fun e w' => e = .returned (.bool (Dt.leapB y)) ∧ w = w' := by
 unfold Dt.leapB
 by_cases a : y % 4 = 0 
 ·by_cases b : y % 100 = 0
  ·by_cases c : y % 400 = 0
   all_goals
    have a' : (y % 4 == 0) = true := by simp [a]
    have b' : (y % 100 != 0) = false := by simp [b]
    first | have c' : (y % 400 == 0) = true := by simp [c]
          | have c' : (y % 400 == 0) = false := by simp [c]
    have HA := Zi a; have HB := Zi b; have HC := Zi c
    clear a b c
    go_enter Tryz.func139, Tryz.ntmps139
    go_wp2
    go_ret
    exact ⟨ret_bool (by have := HA.out; have := HB.out; have := HC.out; simp [*]), rfl⟩
  ·have a' : (y % 4 == 0) = true := by simp [a]
   have b' : (y % 100 != 0) = true := by simp [b]
   have HA := Zi a; have HB := Zi b
   clear a b
   go_enter Tryz.func139, Tryz.ntmps139
   go_wp2
   go_ret
   exact ⟨ret_bool (by have := HA.out; have := HB.out; simp [*]), rfl⟩
 ·have a' : (y % 4 == 0) = false := by simp [a]
  have HA := Zi a
  clear a
  go_enter Tryz.func139, Tryz.ntmps139
  go_wp2
  go_ret
  exact ⟨ret_bool (by have := HA.out; simp [*]), rfl⟩
theorem yearStart_any (y : Int) (w : World) (h1 : 2000 ≤ y) (h2 : y ≤ 2200) :
    Calls Tryz.prog 97 #[.int .i64 y] w fun e w' => e = .returned (.int .i64 (Dt.dby y)) ∧ w = w' := by
 by_cases h : 2100 < y
 all_goals
  go_enter Tryz.func97, Tryz.ntmps97
  go_wp2
  go_ret
  exact ⟨ret_int (by unfold Dt.dby; split <;> omega), rfl⟩
def AheadC : Prop := ∀ (y m : Int) (w : World), 0 ≤ y → 1 ≤ m → m ≤ 12 → Calls Tryz.prog 98 #[.int .i64 y, .int .i64 m] w fun e w' => e = .returned (.int .i64 (Dt.cum y m)) ∧ w = w'
theorem length_yes (y m : Int) (w : World) (h1 : 2000 ≤ y) (h2 : y ≤ 2199) (h3 : 1 ≤ m) (h4 : m ≤ 12) (ah : AheadC) :
    Calls Tryz.prog 96 #[.int .i64 y, .int .i64 m] w fun e w' => e = .returned (.tuple #[.int .i64 (Dt.dim y m), .int .i64 0]) ∧ w = w' := by
 by_cases e : m = 12
 ·subst e
  clear h3 h4
  go_enter Tryz.func96, Tryz.ntmps96
  go_wp2
  go_ret2
  exact ⟨by simp [Dt.dim], rfl⟩
 ·have HS := Zi (Dt.cum_succ y m h3 h4)
  have b1 := Dt.cum_bd y m
  have b2 := Dt.cum_bd y (m + 1)
  have e' : (m == 12) = false := by simp [e]
  have e2 : m ≤ 11 := by omega
  clear e
  go_enter Tryz.func96, Tryz.ntmps96
  go_wp2_with fail
  refine (ah y (m + 1) _ Zo Zo Zo).mono ?_
  rintro e w' ⟨rfl, rfl⟩
  go_wp2_with fail
  refine (ah y m _ Zo Zo Zo).mono ?_
  rintro e w' ⟨rfl, rfl⟩
  go_wp2
  go_ret2
  exact ⟨by have := HS.out; simp; omega, rfl⟩
theorem dby_guess (n : Int) (h : 0 ≤ n) : Dt.dby (2000 + n / 366) ≤ n := by unfold Dt.dby; split <;> omega
theorem month_ok (y r : Int) (h0 : 0 ≤ r) (h1 : r < Dt.ylen y) : 0 ≤ r / 31 ∧ r / 31 ≤ 11 ∧ Dt.cum y (1 + r / 31) ≤ r ∧ (r / 31 = 11 → r < Dt.cum y (1 + r / 31 + 1)) ∧ (r / 31 ≤ 10 → r < Dt.cum y (1 + r / 31 + 1 + 1)) := by
 have hy := Dt.ylen_eq y
 have hl := Dt.lp_01 y
 have hq : 0 ≤ r / 31 ∧ r / 31 ≤ 11 := by omega
 refine ⟨hq.1, hq.2, ?_⟩
 have : r / 31 = 0 ∨ r / 31 = 1 ∨ r / 31 = 2 ∨ r / 31 = 3 ∨ r / 31 = 4 ∨ r / 31 = 5 ∨ r / 31 = 6 ∨ r / 31 = 7 ∨ r / 31 = 8 ∨ r / 31 = 9 ∨ r / 31 = 10 ∨ r / 31 = 11 := by omega
 rcases this with h | h | h | h | h | h | h | h | h | h | h | h <;> rw [h] <;> simp [Dt.cum] <;> omega
theorem civ_mk {n y m : Int} (h1 : 2000 ≤ y) (h2 : y ≤ 2199) (h3 : 1 ≤ m) (h4 : m ≤ 12) (h5 : Dt.cum y m ≤ n - Dt.dby y) (h6 : n - Dt.dby y < Dt.cum y (m + 1)) : Dt.isCiv n y m (n - Dt.dby y - Dt.cum y m + 1) := by
 have := Dt.cum_succ y m h3 h4
 exact ⟨h1, h2, h3, h4, by omega, by omega, by omega⟩
theorem civil_yes (n : Int) (w : World) (h : Dt.isDay n = true) (ah : AheadC) :
    Calls Tryz.prog 75 #[.int .i64 n] w fun e w' => ∃ y m d : Int, Dt.isCiv n y m d ∧ e = .returned (.tuple #[.int .i64 y, .int .i64 m, .int .i64 d, .int .i64 0]) ∧ w = w' := by
 have h0 : 0 ≤ n ∧ n ≤ 73048 := by unfold Dt.isDay at h; simpa using h
 obtain ⟨h1, h2⟩ := h0
 have g0 := dby_guess n h1
 have hq : n / 366 ≤ 199 := by omega
 have hq0 : 0 ≤ n / 366 := by omega
 go_enter Tryz.func75, Tryz.ntmps75
 go_wp2_with (go_at_call 117; refine (dvalid_any _ _).mono ?_; rintro e w' ⟨rfl, rfl⟩)
 go_loop [2] (fun t => ∃ y : Int, 2000 ≤ y ∧ y ≤ 2199 ∧ Dt.dby y ≤ n ∧ t = .int .i64 y) (fun t => (2199 - intOf t).toNat)
 case atStart => exact ⟨_, by omega, by omega, g0, rfl⟩
 case round =>
  obtain ⟨y, hy1, hy2, hy3, rfl⟩ := hrel
  clear g0 hq hq0
  by_cases hc : Dt.dby (y + 1) ≤ n
  ·have hlt : y < 2199 := by
     by_cases e : y = 2199
     ·subst e; have := Dt.dby_last; simp at hc; rw [this] at hc; omega
     ·omega
   go_wp2_with (go_at_call 97; refine (yearStart_any _ _ Zo Zo).mono ?_; rintro e w' ⟨rfl, rfl⟩)
   go_round
   case rel => exact ⟨y + 1, by omega, by omega, hc, rfl⟩
   case measure => simp [intOf]; omega
  ·have hs := Dt.dby_succ y hy1 hy2
   have hl := Dt.ylen_bd y
   have hb := Dt.dby_bd y hy1 Zo
   have hr : n - Dt.dby y < 366 := by omega
   have hr2 : n - Dt.dby y < Dt.ylen y := by omega
   have hr0 : 0 ≤ n - Dt.dby y := by omega
   clear hs
   go_wp2_with fail
   refine (yearStart_any _ _ Zo Zo).mono ?_
   rintro e w' ⟨rfl, rfl⟩
   have mk := month_ok y (n - Dt.dby y) hr0 hr2
   have hn : ∀ m, 1 ≤ m → m ≤ 12 → Dt.cum y m ≤ n - Dt.dby y → n - Dt.dby y < Dt.cum y (m + 1) → Dt.isCiv n y m (n - Dt.dby y - Dt.cum y m + 1) := fun m a b c d => civ_mk hy1 hy2 a b c d
   have HN := Zi hn
   clear hn
   obtain ⟨q0, q1, q2, q3, q4⟩ := mk
   have cb := fun m => Dt.cum_bd y m
   by_cases hm : (n - Dt.dby y) / 31 ≤ 10
   ·have q4' := q4 hm
    clear q3 q4 cb
    by_cases hu : Dt.cum y (1 + (n - Dt.dby y) / 31 + 1) ≤ n - Dt.dby y
    ·have b1 := Dt.cum_bd y (1 + (n - Dt.dby y) / 31 + 1)
     go_wp2_with (first | (go_at_call 97; refine (yearStart_any _ _ Zo Zo).mono ?_; rintro e w' ⟨rfl, rfl⟩) | (go_at_call 98; refine (ah _ _ _ Zo Zo Zo).mono ?_; rintro e w' ⟨rfl, rfl⟩))
     refine bodyPost_ret (res_four rfl _ _ _) rfl ?_
     exact ⟨_, _, _, HN.out _ Zo Zo hu q4', rfl, rfl⟩
    ·exact z9_74
   ·have q3' := q3 Zo
    clear q4 q3
    exact z9_74
end
section
theorem ret_cum {y m a : Int} (h : a = Dt.cum y m) : Ending.returned (.int .i64 a) = .returned (.int .i64 (Dt.cum y m)) := by rw [h]
theorem ahead_c : AheadC := by
 intro y m w h0 h1 h2
 have : m = 1 ∨ m = 2 ∨ m = 3 ∨ m = 4 ∨ m = 5 ∨ m = 6 ∨ m = 7 ∨ m = 8 ∨ m = 9 ∨ m = 10 ∨ m = 11 ∨ m = 12 := by omega
 rcases this with h | h | h | h | h | h | h | h | h | h | h | h <;> subst h
 all_goals
  clear h1 h2
  go_enter Tryz.func98, Tryz.ntmps98
  go_wp2_with (go_at_call 139; refine (leap_any _ _ h0).mono ?_; rintro e w' ⟨rfl, rfl⟩)
  all_goals
   go_ret
   first
    | exact ⟨rfl, rfl⟩
    | exact ⟨ret_cum (by simp [Dt.cum, Dt.lp, *]), rfl⟩
end
end Go.Proofs.YtiekmabiecalbaaGreatDoor
