/- Walks, and plain facts for them. -/
import Derived.Lib.MinMax
import Derived.Test.YtmbjaaaeekacfaaGreatDoorPb01
import Derived.Test.YtmbjaaaeekacfaaGreatDoorPb17
import Derived.Test.YtmbjaaaeekacfaaGreatDoorPb02
namespace Go.Proofs.YtmbjaaaeekacfaaGreatDoor
set_option maxRecDepth 8000
open Go.RowKit
theorem bel {f : FuncId} {args : Array Value} {v : Value} {w : World} (h : Calls Tryz.prog f args w fun e w' => e = .returned v ∧ w = w') : Calls Tryz.prog f args w fun e w' => e = .returned v ∧ Below w.heap.size w w' := h.mono (by rintro e w' ⟨rfl, rfl⟩; exact ⟨rfl, Below.refl _ _⟩)
theorem fromCivil_yes (y m d : Int) (w : World) (h1 : 2000 ≤ y) (h2 : y ≤ 2199) (h3 : 1 ≤ m) (h4 : m ≤ 12) (h5 : 1 ≤ d) (h6 : d ≤ Dt.dim y m) :
    Calls Tryz.prog 129 #[.int .i64 y, .int .i64 m, .int .i64 d] w fun e w' => e = .returned (.tuple #[.int .i64 (Dt.dby y + Dt.cum y m + d - 1), .int .i64 0]) ∧ w = w' := by
 have hl := length_yes y m w h1 h2 h3 h4 ahead_c
 have hy := yearStart_any y w h1 (by omega)
 have ha := ahead_c y m w (by omega) h3 h4
 have b1 := Dt.cum_bd y m
 have b2 := Dt.dim_bd y m
 have b3 := Dt.dby_bd y h1 (by omega)
 generalize Dt.dim y m = k at *
 generalize Dt.cum y m = c at *
 generalize Dt.dby y = u at *
 have HL := Lib.hid hl
 have HY := Lib.hid hy
 have HA := Lib.hid ha
 clear hl hy ha
 go_enter Tryz.func129, Tryz.ntmps129
 go_wp2_with (first | (go_at_call 160; refine (HL.out).mono ?_; rintro e w' ⟨rfl, rfl⟩) | (go_at_call 158; refine (HY.out).mono ?_; rintro e w' ⟨rfl, rfl⟩) | (go_at_call 159; refine (HA.out).mono ?_; rintro e w' ⟨rfl, rfl⟩))
 go_ret2
 exact ⟨rfl, rfl⟩
theorem length_no (y m : Int) (w : World) (h : 2199 < y) :
    Calls Tryz.prog 160 #[.int .i64 y, .int .i64 m] w fun e w' => e = .returned (.tuple #[.int .i64 0, .int .i64 51]) ∧ w = w' := by
 have h1 : ¬ y < 2000 := by omega
 go_enter Tryz.func160, Tryz.ntmps160
 go_wp2
 go_ret2
 exact ⟨rfl, rfl⟩
theorem fromCivil_no (y m d : Int) (w : World) (h : 2199 < y) :
    Calls Tryz.prog 129 #[.int .i64 y, .int .i64 m, .int .i64 d] w fun e w' => e = .returned (.tuple #[.int .i64 0, .int .i64 51]) ∧ w = w' := by
 go_enter Tryz.func129, Tryz.ntmps129
 go_wp2_with (go_at_call 160; refine (length_no y m _ h).mono ?_; rintro e w' ⟨rfl, rfl⟩)
 go_ret2
 exact ⟨rfl, rfl⟩
set_option maxHeartbeats 1000000 in
theorem rfromCivil_yes (y m d : Int) (w : World) (h1 : 2000 ≤ y) (h2 : y ≤ 2199) (h3 : 1 ≤ m) (h4 : m ≤ 12) (h5 : 1 ≤ d) (h6 : d ≤ Dt.dim y m) :
    Calls Tryz.prog 105 #[.int .i64 y, .int .i64 m, .int .i64 d] w fun e w' => e = .returned (.tuple #[.int .i64 (Dt.dby y + Dt.cum y m + d - 1), .int .i64 0]) ∧ w = w' := by
 have HL := Lib.hid (rLength_yes y m w h1 h2 h3 h4)
 have b2 := Dt.dim_bd y m
 obtain ⟨k, hk⟩ : ∃ k, k = Dt.dim y m := ⟨_, rfl⟩
 have hdk : d ≤ k := by omega
 have hk31 : k ≤ 31 := by omega
 have HK := Lib.hid hk
 rw [← HK.out] at HL
 clear hk b2 h6
 go_enter Tryz.func105, Tryz.ntmps105
 go_wp2_with (go_at_call 143; refine (HL.out).mono ?_; rintro e w' ⟨rfl, rfl⟩)
 go_loop [10, 11] (fun n i => ∃ v : Int, 2000 ≤ v ∧ v ≤ y ∧ i = .int .i64 v ∧ n = .int .i64 (d - 1 + Dt.dby v)) (fun _ i => (2199 - intOf i).toNat)
 case atStart => exact ⟨2000, by omega, h1, rfl, by rw [Dt.dby_first]; go_num⟩
 case round =>
  obtain ⟨v, hv1, hv2, rfl, rfl⟩ := hrel
  have b3 := Dt.dby_bd v hv1 (by omega)
  have b4 := Dt.ylen_bd v
  by_cases hlt : v < y
  ·have hs := Lib.hid (Dt.dby_succ v hv1 (by omega))
   go_wp2_with (go_at_call 141; refine (rdays_any v _ (by omega)).mono ?_; rintro e w' ⟨rfl, rfl⟩)
   go_round
   case rel => exact ⟨v + 1, by omega, by omega, by go_num, by rw [hs.out]; go_num⟩
   case measure => simp [intOf]; omega
  ·obtain rfl : v = y := by omega
   go_wp2_with fail
   go_loop [10, 12] (fun n i => ∃ u : Int, 1 ≤ u ∧ u ≤ m ∧ i = .int .i64 u ∧ n = .int .i64 (d - 1 + Dt.dby v + Dt.cum v u)) (fun _ i => (12 - intOf i).toNat)
   case atStart => exact ⟨1, by omega, h3, rfl, by rw [Dt.cum_one]; go_num⟩
   case round =>
    obtain ⟨u, hu1, hu2, rfl, rfl⟩ := hrel
    have b5 := Dt.cum_bd v u
    have b6 := Dt.dim_bd v u
    by_cases hlt2 : u < m
    ·have hs := Lib.hid (Dt.cum_succ v u hu1 (by omega))
     go_wp2_with (go_at_call 142; refine (rlength_any v u _ (by omega)).mono ?_; rintro e w' ⟨rfl, rfl⟩)
     go_round
     case rel => exact ⟨u + 1, by omega, by omega, by go_num, by rw [hs.out]; go_num⟩
     case measure => simp [intOf]; omega
    ·obtain rfl : u = m := by omega
     go_wp2
     go_ret2
     exact ⟨by simp; omega, rfl⟩
theorem position_any (n : Int) (w : World) (h : Dt.isDay n = true) :
    Calls Tryz.prog 127 #[.int .i64 n] w fun e w' => e = .returned (.int .i64 (Dy.pos n)) ∧ w = w' := by
 have HC := Lib.hid (civil_yes n w h ahead_c)
 go_enter Tryz.func127, Tryz.ntmps127
 go_wp2_with fail
 refine HC.out.mono ?_
 rintro e w' ⟨y, m, d, hc, rfl, rfl⟩
 have hp := Lib.hid (Dy.pos_of hc)
 obtain ⟨h1, h2, h3, h4, h5, h6, -⟩ := hc
 have h7 := Dt.dim_bd y m
 have h8 : d ≤ 31 := by omega
 clear h6 h7
 by_cases hd : d ≤ 30
 all_goals
  go_wp2
  go_ret
  exact ⟨by rw [hp.out]; first | rfl | (congr 2; omega), rfl⟩
theorem rposition_any (n : Int) (w : World) (h : Dt.isDay n = true) :
    Calls Tryz.prog 103 #[.int .i64 n] w fun e w' => e = .returned (.int .i64 (Dy.pos n)) ∧ w = w' := by
 have HC := Lib.hid (rCivil_yes n w h)
 go_enter Tryz.func103, Tryz.ntmps103
 go_wp2_with fail
 refine HC.out.mono ?_
 rintro e w' ⟨y, m, d, hc, rfl, rfl⟩
 have hp := Lib.hid (Dy.pos_of hc)
 obtain ⟨h1, h2, h3, h4, h5, h6, -⟩ := hc
 have h7 := Dt.dim_bd y m
 have h8 : d ≤ 31 := by omega
 clear h6 h7
 by_cases hd : d ≤ 30
 all_goals
  go_wp2
  go_ret
  exact ⟨by rw [hp.out]; first | rfl | (congr 2; omega), rfl⟩
theorem Dy.err_b {b f t : Int} (h : b < 1 ∨ 4 < b) : Dy.err b f t = 60 ∧ Dy.days b f t = 0 := by
 have e : Dy.err b f t = 60 := by unfold Dy.err; rw [if_pos h]
 exact ⟨e, by unfold Dy.days; rw [e, if_pos (by decide)]⟩
theorem Dy.err_d {b f t : Int} (h1 : 1 ≤ b) (h2 : b ≤ 4) (h : Dt.isDay f = false ∨ Dt.isDay t = false) : Dy.err b f t = 50 ∧ Dy.days b f t = 0 := by
 have e : Dy.err b f t = 50 := by unfold Dy.err; rw [if_neg (by omega), if_pos h]
 exact ⟨e, by unfold Dy.days; rw [e, if_pos (by decide)]⟩
theorem Dy.err_p {b f t : Int} (h1 : 1 ≤ b) (h2 : b ≤ 4) (hf : Dt.isDay f = true) (ht : Dt.isDay t = true) (h : t < f) : Dy.err b f t = 61 ∧ Dy.days b f t = 0 := by
 have e : Dy.err b f t = 61 := by unfold Dy.err; rw [if_neg (by omega), if_neg (by simp [hf, ht]), if_pos h]
 exact ⟨e, by unfold Dy.days; rw [e, if_pos (by decide)]⟩
theorem isDay_no {n : Int} (h : n < 0 ∨ 73048 < n) : Dt.isDay n = false := by unfold Dt.isDay; simp; omega
theorem isDay_yes {n : Int} (h0 : 0 ≤ n) (h1 : n ≤ 73048) : Dt.isDay n = true := by unfold Dt.isDay; simp; omega
set_option maxHeartbeats 2000000 in
theorem days_any (b f t : Int) (w : World) :
    Calls Tryz.prog 82 #[.int .i64 b, .int .i64 f, .int .i64 t] w fun e w' => e = .returned (.tuple #[.int .i64 (Dy.days b f t), .int .i64 (Dy.err b f t)]) ∧ w = w' := by
 by_cases b1 : b < 1
 ·obtain ⟨h1, h2⟩ := Dy.err_b (f := f) (t := t) (.inl b1)
  rw [h1, h2]
  clear h1 h2
  go_enter Tryz.func82, Tryz.ntmps82
  go_wp2
  go_ret2
  exact ⟨rfl, rfl⟩
 by_cases b2 : 4 < b
 ·obtain ⟨h1, h2⟩ := Dy.err_b (f := f) (t := t) (.inr b2)
  rw [h1, h2]
  clear h1 h2
  go_enter Tryz.func82, Tryz.ntmps82
  go_wp2
  go_ret2
  exact ⟨rfl, rfl⟩
 by_cases f1 : f < 0
 ·obtain ⟨h1, h2⟩ := Dy.err_d (b := b) (t := t) (by omega) (by omega) (.inl (isDay_no (.inl f1)))
  rw [h1, h2]
  clear h1 h2
  go_enter Tryz.func82, Tryz.ntmps82
  go_wp2
  go_ret2
  exact ⟨rfl, rfl⟩
 by_cases f2 : 73048 < f
 ·obtain ⟨h1, h2⟩ := Dy.err_d (b := b) (t := t) (by omega) (by omega) (.inl (isDay_no (.inr f2)))
  rw [h1, h2]
  clear h1 h2
  go_enter Tryz.func82, Tryz.ntmps82
  go_wp2
  go_ret2
  exact ⟨rfl, rfl⟩
 by_cases t1 : t < 0
 ·obtain ⟨h1, h2⟩ := Dy.err_d (b := b) (f := f) (by omega) (by omega) (.inr (isDay_no (.inl t1)))
  rw [h1, h2]
  clear h1 h2
  go_enter Tryz.func82, Tryz.ntmps82
  go_wp2
  go_ret2
  exact ⟨rfl, rfl⟩
 by_cases t2 : 73048 < t
 ·obtain ⟨h1, h2⟩ := Dy.err_d (b := b) (f := f) (by omega) (by omega) (.inr (isDay_no (.inr t2)))
  rw [h1, h2]
  clear h1 h2
  go_enter Tryz.func82, Tryz.ntmps82
  go_wp2
  go_ret2
  exact ⟨rfl, rfl⟩
 have hf := isDay_yes (n := f) (by omega) (by omega)
 have ht := isDay_yes (n := t) (by omega) (by omega)
 by_cases c : t < f
 ·obtain ⟨h1, h2⟩ := Dy.err_p (b := b) (by omega) (by omega) hf ht c
  rw [h1, h2]
  clear h1 h2 hf ht
  go_enter Tryz.func82, Tryz.ntmps82
  go_wp2
  go_ret2
  exact ⟨rfl, rfl⟩
 have hok : Dy.Ok b f t := ⟨by omega, by omega, hf, ht, by omega⟩
 have he := Dy.err_zero.2 hok
 have hd := Dy.days_ok hok
 rw [he]
 have HP := Lib.hid (position_any t w ht)
 have HQ := Lib.hid (position_any f w hf)
 have p1 := Dy.pos_bd hf
 have p2 := Dy.pos_bd ht
 clear hok he hf ht
 by_cases c4 : b = 4
 ·subst c4
  rw [if_pos rfl] at hd
  rw [hd]
  clear hd
  generalize Dy.pos t = p at *
  generalize Dy.pos f = q at *
  go_enter Tryz.func82, Tryz.ntmps82
  go_wp2_with (first | (go_at_call 127; ((with_reducible refine (HP.out).mono ?_); rintro e w' ⟨rfl, rfl⟩)) | (go_at_call 127; ((with_reducible refine (HQ.out).mono ?_); rintro e w' ⟨rfl, rfl⟩)))
  go_ret2
  exact ⟨rfl, rfl⟩
 ·rw [if_neg c4] at hd
  rw [hd]
  have hb : ((b : Int) == 4) = false := by simpa using c4
  clear hd HP HQ p1 p2 c4
  go_enter Tryz.func82, Tryz.ntmps82
  go_wp2
  go_ret2
  exact ⟨rfl, rfl⟩
set_option maxHeartbeats 2000000 in
theorem rcheck_any (b f t : Int) (w : World) :
    Calls Tryz.prog 102 #[.int .i64 b, .int .i64 f, .int .i64 t] w fun e w' => e = .returned (.int .i64 (Dy.err b f t)) ∧ w = w' := by
 by_cases b1 : b < 1
 ·rw [(Dy.err_b (f := f) (t := t) (.inl b1)).1]
  go_enter Tryz.func102, Tryz.ntmps102
  go_wp2
  go_ret
  exact ⟨rfl, rfl⟩
 by_cases b2 : 4 < b
 ·rw [(Dy.err_b (f := f) (t := t) (.inr b2)).1]
  go_enter Tryz.func102, Tryz.ntmps102
  go_wp2
  go_ret
  exact ⟨rfl, rfl⟩
 have hof := rOut_any f w
 have hot := rOut_any t w
 cases hf : Dt.isDay f with
 | false =>
  rw [(Dy.err_d (b := b) (t := t) (by omega) (by omega) (.inl hf)).1]
  rw [hf] at hof
  have HF := Lib.hid hof
  clear hof hot hf
  go_enter Tryz.func102, Tryz.ntmps102
  go_wp2_with (go_at_call 43; refine (HF.out).mono ?_; rintro e w' ⟨rfl, rfl⟩)
  go_ret
  exact ⟨rfl, rfl⟩
 | true =>
  cases ht : Dt.isDay t with
  | false =>
   rw [(Dy.err_d (b := b) (f := f) (by omega) (by omega) (.inr ht)).1]
   rw [hf] at hof
   rw [ht] at hot
   have HF := Lib.hid hof
   have HT := Lib.hid hot
   have hne : ∃ k : Int, k = f := ⟨_, rfl⟩
   clear hof hot hf ht hne
   go_enter Tryz.func102, Tryz.ntmps102
   go_wp2_with (first | (go_at_call 43; ((with_reducible refine (HF.out).mono ?_); rintro e w' ⟨rfl, rfl⟩)) | (go_at_call 43; ((with_reducible refine (HT.out).mono ?_); rintro e w' ⟨rfl, rfl⟩)))
   go_ret
   exact ⟨rfl, rfl⟩
  | true =>
   rw [hf] at hof
   rw [ht] at hot
   have HF := Lib.hid hof
   have HT := Lib.hid hot
   by_cases c : t < f
   ·rw [(Dy.err_p (b := b) (by omega) (by omega) hf ht c).1]
    clear hof hot hf ht
    go_enter Tryz.func102, Tryz.ntmps102
    go_wp2_with (first | (go_at_call 43; ((with_reducible refine (HF.out).mono ?_); rintro e w' ⟨rfl, rfl⟩)) | (go_at_call 43; ((with_reducible refine (HT.out).mono ?_); rintro e w' ⟨rfl, rfl⟩)))
    go_ret
    exact ⟨rfl, rfl⟩
   ·rw [Dy.err_zero.2 ⟨by omega, by omega, hf, ht, by omega⟩]
    clear hof hot hf ht
    go_enter Tryz.func102, Tryz.ntmps102
    go_wp2_with (first | (go_at_call 43; ((with_reducible refine (HF.out).mono ?_); rintro e w' ⟨rfl, rfl⟩)) | (go_at_call 43; ((with_reducible refine (HT.out).mono ?_); rintro e w' ⟨rfl, rfl⟩)))
    go_ret
    exact ⟨rfl, rfl⟩
set_option maxHeartbeats 2000000 in
theorem rdaysP_any (b f t : Int) (w : World) :
    Calls Tryz.prog 63 #[.int .i64 b, .int .i64 f, .int .i64 t] w fun e w' => e = .returned (.tuple #[.int .i64 (Dy.days b f t), .int .i64 (Dy.err b f t)]) ∧ w = w' := by
 have HK := Lib.hid (rcheck_any b f t w)
 by_cases h : Dy.err b f t = 0
 ·have hok := Dy.err_zero.1 h
  have hd := Dy.days_ok hok
  rw [h] at HK ⊢
  have HP := Lib.hid (rposition_any t w hok.ht)
  have HQ := Lib.hid (rposition_any f w hok.hf)
  have p1 := Dy.pos_bd hok.hf
  have p2 := Dy.pos_bd hok.ht
  have t1 := hok.ht
  have f1 := hok.hf
  unfold Dt.isDay at t1 f1
  simp only [decide_eq_true_eq] at t1 f1
  obtain ⟨t1, t2⟩ := t1
  obtain ⟨f1, f2⟩ := f1
  by_cases c4 : b = 4
  ·subst c4
   rw [if_pos rfl] at hd
   rw [hd]
   clear hd hok h
   generalize Dy.pos t = p at *
   generalize Dy.pos f = q at *
   go_enter Tryz.func63, Tryz.ntmps63
   go_wp2_with (first | (go_at_call 102; refine (HK.out).mono ?_; rintro e w' ⟨rfl, rfl⟩) | (go_at_call 103; ((with_reducible refine (HP.out).mono ?_); rintro e w' ⟨rfl, rfl⟩)) | (go_at_call 103; ((with_reducible refine (HQ.out).mono ?_); rintro e w' ⟨rfl, rfl⟩)))
   go_ret2
   exact ⟨rfl, rfl⟩
  ·rw [if_neg c4] at hd
   rw [hd]
   have hb : ((b : Int) == 4) = false := by simpa using c4
   clear hd HP HQ p1 p2 c4 hok h
   go_enter Tryz.func63, Tryz.ntmps63
   go_wp2_with (go_at_call 102; refine (HK.out).mono ?_; rintro e w' ⟨rfl, rfl⟩)
   go_ret2
   exact ⟨rfl, rfl⟩
 ·have hd : Dy.days b f t = 0 := by unfold Dy.days; rw [if_pos h]
  rw [hd]
  obtain ⟨e, he⟩ : ∃ e, e = Dy.err b f t := ⟨_, rfl⟩
  rw [← he] at HK h ⊢
  have hne : ((e : Int) != 0) = true := by simpa using h
  clear he hd h
  go_enter Tryz.func63, Tryz.ntmps63
  go_wp2_with (go_at_call 102; refine (HK.out).mono ?_; rintro e w' ⟨rfl, rfl⟩)
  go_ret2
  exact ⟨rfl, rfl⟩
end Go.Proofs.YtmbjaaaeekacfaaGreatDoor
