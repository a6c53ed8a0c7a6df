/- Walks, and plain facts for them. -/
import Derived.Test.YtmbjaaaeekacfaaGreatDoorPa26
import Derived.Test.YtmbjaaaeekacfaaGreatDoorPa25
namespace Go.Proofs.YtmbjaaaeekacfaaGreatDoor
set_option maxRecDepth 8000
open Go.RowKit
set_option maxHeartbeats 4000000 in
theorem fraction_any (b f t : Int) (w : World) :
    Calls Tryz.prog 44 #[.int .i64 b, .int .i64 f, .int .i64 t] w fun r w' => r = .returned (.tuple #[.agg (Dy.fc b f t), .int .i64 (Dy.err b f t)]) ∧ Below w.heap.size w w' := by
 have HM := Mem.start w
 have hz0 := za_rat
 by_cases he : Dy.err b f t = 0
 ·have hok := Dy.err_zero.1 he
  have hdb := Dy.days_bd hok
  have hbd := Dy.frac_bd hok
  obtain ⟨z, hz⟩ : ∃ z, Hid (z = Dy.frac b f t) := ⟨_, rfl⟩
  have fz : Rt.Fit z := by rw [hz.out]; exact hbd.fit
  have HD : ∀ w, Hid (Calls Tryz.prog 82 #[.int .i64 b, .int .i64 f, .int .i64 t] w fun e w' => e = .returned (.tuple #[.int .i64 (Dy.days b f t), .int .i64 0]) ∧ Below w.heap.size w w') := fun w => Lib.hid (by have := bel (days_any b f t w); rwa [he] at this)
  rw [Dy.fc_ok hok, he, ← hz.out]
  have sz := sa_q z (rZ_size 0 0)
  have HO := Lib.hid hok
  obtain ⟨d0, d1⟩ := hdb
  by_cases h3 : b = 3
  ·subst h3
   rw [show Dy.days 3 f t = t - f from by rw [Dy.days_ok hok, if_neg (by decide)]] at HD d0 d1
   have HD2 := Lib.hid HD
   have HA : ∀ w, Hid (Calls Tryz.prog 83 #[.int .i64 f, .int .i64 t] w fun r w' => r = .returned (.tuple #[.agg (Rt.qA z), .int .i64 0]) ∧ Below w.heap.size w w') := fun w => Lib.hid (by rw [hz.out]; exact actual_any f t w hok.hf hok.ht hok.le)
   have HA2 := Lib.hid HA
   clear HD HA hbd hok he
   go_enter Tryz.func44, Tryz.ntmps44
   go_wp2_with (first | (go_at_call 82; ((with_reducible refine ((HD2.out _).out).mono ?_); rintro e9 w2 ⟨rfl, hL⟩; replace HM := HM.call hL; clear hL)) | (go_at_call 83; ((with_reducible refine ((HA2.out _).out).mono ?_); rintro e9 w2 ⟨rfl, hL⟩; replace HM := HM.call hL; clear hL)) | (first | ((with_reducible refine g_st ?_); refine a_st HM ?_; clear HM; intro w1 HM) | ((with_reducible refine g_al ?_); refine a_al HM ?_; clear HM; intro bk w1 HM) | ((with_reducible refine g_bld ?_); refine a_bld ?_)))
   refine bodyPost_ret (r_ct rfl rfl (HM.get (by ((repeat (first | exact Look.here | refine Look.there ?_)); done))) (la_q _)) rfl ⟨rfl, HM.low⟩
  ·have hfr := Lib.hid (Dy.frac_of (f := f) (t := t) h3)
   have hb3 : ((b : Int) == 3) = false := by simpa using h3
   obtain ⟨d, hd⟩ : ∃ d, d = Dy.days b f t := ⟨_, rfl⟩
   rw [← hd] at HD d0 d1 hfr
   have HD2 := Lib.hid HD
   clear HD hbd hok he hd h3
   by_cases h2 : b = 2
   ·subst h2
    have hx : Hid (z = Rat.divInt d 365) := Lib.hid (by rw [hz.out, hfr.out, if_pos rfl])
    go_enter Tryz.func44, Tryz.ntmps44
    go_wp2_with (first | (go_at_call 82; ((with_reducible refine ((HD2.out _).out).mono ?_); rintro e9 w2 ⟨rfl, hL⟩; replace HM := HM.call hL; clear hL)) | (go_at_call 84; ((with_reducible refine (of_q d 365 z (by omega) (by omega) (by omega) (by omega) (by omega) hx _).mono ?_); rintro e9 w2 ⟨rfl, hL⟩; replace HM := HM.call hL; clear hL)) | (first | ((with_reducible refine g_st ?_); refine a_st HM ?_; clear HM; intro w1 HM) | ((with_reducible refine g_al ?_); refine a_al HM ?_; clear HM; intro bk w1 HM) | ((with_reducible refine g_bld ?_); refine a_bld ?_)))
    refine bodyPost_ret (r_ct rfl rfl (HM.get (by ((repeat (first | exact Look.here | refine Look.there ?_)); done))) (la_q _)) rfl ⟨rfl, HM.low⟩
   ·have hx : Hid (z = Rat.divInt d 360) := Lib.hid (by rw [hz.out, hfr.out, if_neg h2])
    have hb2 : ((b : Int) == 2) = false := by simpa using h2
    clear h2
    go_enter Tryz.func44, Tryz.ntmps44
    go_wp2_with (first | (go_at_call 82; ((with_reducible refine ((HD2.out _).out).mono ?_); rintro e9 w2 ⟨rfl, hL⟩; replace HM := HM.call hL; clear hL)) | (go_at_call 84; ((with_reducible refine (of_q d 360 z (by omega) (by omega) (by omega) (by omega) (by omega) hx _).mono ?_); rintro e9 w2 ⟨rfl, hL⟩; replace HM := HM.call hL; clear hL)) | (first | ((with_reducible refine g_st ?_); refine a_st HM ?_; clear HM; intro w1 HM) | ((with_reducible refine g_al ?_); refine a_al HM ?_; clear HM; intro bk w1 HM) | ((with_reducible refine g_bld ?_); refine a_bld ?_)))
    refine bodyPost_ret (r_ct rfl rfl (HM.get (by ((repeat (first | exact Look.here | refine Look.there ?_)); done))) (la_q _)) rfl ⟨rfl, HM.low⟩
 ·have hfc : Dy.fc b f t = Bg.rZ 0 0 := by unfold Dy.fc; rw [if_neg he]
  have HD : ∀ w, Hid (Calls Tryz.prog 82 #[.int .i64 b, .int .i64 f, .int .i64 t] w fun e w' => e = .returned (.tuple #[.int .i64 0, .int .i64 (Dy.err b f t)]) ∧ Below w.heap.size w w') := fun w => Lib.hid (by have := bel (days_any b f t w); rwa [show Dy.days b f t = 0 from by unfold Dy.days; rw [if_pos he]] at this)
  rw [hfc]
  obtain ⟨e, hee⟩ : ∃ e, e = Dy.err b f t := ⟨_, rfl⟩
  rw [← hee] at HD he ⊢
  have HD2 := Lib.hid HD
  have hne : ((e : Int) != 0) = true := by simpa using he
  have s0 := sa_rz 0 0 (rZ_size 0 0)
  clear HD hee hfc he
  go_enter Tryz.func44, Tryz.ntmps44
  go_wp2_with (first | ((with_reducible refine g_bld ?_); refine a_rbl ?_) | (go_at_call 82; ((with_reducible refine ((HD2.out _).out).mono ?_); rintro e9 w2 ⟨rfl, hL⟩; replace HM := HM.call hL; clear hL)) | (first | ((with_reducible refine g_st ?_); refine a_st HM ?_; clear HM; intro w1 HM) | ((with_reducible refine g_al ?_); refine a_al HM ?_; clear HM; intro bk w1 HM) | ((with_reducible refine g_bld ?_); refine a_bld ?_)))
  refine bodyPost_ret (r_ct rfl rfl (HM.get (by ((repeat (first | exact Look.here | refine Look.there ?_)); done))) (la_rz _ _)) rfl ⟨rfl, HM.low⟩
set_option maxHeartbeats 4000000 in
theorem rfraction_any (b f t : Int) (w : World) :
    Calls Tryz.prog 31 #[.int .i64 b, .int .i64 f, .int .i64 t] w fun r w' => r = .returned (.tuple #[.agg (Dy.fc b f t), .int .i64 (Dy.err b f t)]) ∧ Below w.heap.size w w' := by
 have HM := Mem.start w
 have hz0 := za_rat
 by_cases he : Dy.err b f t = 0
 ·have hok := Dy.err_zero.1 he
  have hdb := Dy.days_bd hok
  have hbd := Dy.frac_bd hok
  obtain ⟨z, hz⟩ : ∃ z, Hid (z = Dy.frac b f t) := ⟨_, rfl⟩
  have fz : Rt.Fit z := by rw [hz.out]; exact hbd.fit
  have HD : ∀ w, Hid (Calls Tryz.prog 63 #[.int .i64 b, .int .i64 f, .int .i64 t] w fun e w' => e = .returned (.tuple #[.int .i64 (Dy.days b f t), .int .i64 0]) ∧ Below w.heap.size w w') := fun w => Lib.hid (by have := bel (rdaysP_any b f t w); rwa [he] at this)
  rw [Dy.fc_ok hok, he, ← hz.out]
  have sz := sa_q z (rZ_size 0 0)
  have HO := Lib.hid hok
  obtain ⟨d0, d1⟩ := hdb
  by_cases h3 : b = 3
  ·subst h3
   rw [show Dy.days 3 f t = t - f from by rw [Dy.days_ok hok, if_neg (by decide)]] at HD d0 d1
   have HD2 := Lib.hid HD
   have HA : ∀ w, Hid (Calls Tryz.prog 64 #[.int .i64 f, .int .i64 t] w fun r w' => r = .returned (.agg (Rt.qA z)) ∧ Below w.heap.size w w') := fun w => Lib.hid (by rw [hz.out]; exact ractual_any f t w hok.hf hok.ht hok.le)
   have HA2 := Lib.hid HA
   clear HD HA hbd hok he
   go_enter Tryz.func31, Tryz.ntmps31
   go_wp2_with (first | (go_at_call 63; ((with_reducible refine ((HD2.out _).out).mono ?_); rintro e9 w2 ⟨rfl, hL⟩; replace HM := HM.call hL; clear hL)) | (go_at_call 64; ((with_reducible refine ((HA2.out _).out).mono ?_); rintro e9 w2 ⟨rfl, hL⟩; replace HM := HM.call hL; clear hL)) | (first | ((with_reducible refine g_st ?_); refine a_st HM ?_; clear HM; intro w1 HM) | ((with_reducible refine g_al ?_); refine a_al HM ?_; clear HM; intro bk w1 HM) | ((with_reducible refine g_bld ?_); refine a_bld ?_)))
   refine bodyPost_ret (r_ct rfl rfl (HM.get (by ((repeat (first | exact Look.here | refine Look.there ?_)); done))) (la_q _)) rfl ⟨rfl, HM.low⟩
  ·have hfr := Lib.hid (Dy.frac_of (f := f) (t := t) h3)
   have hb3 : ((b : Int) == 3) = false := by simpa using h3
   obtain ⟨d, hd⟩ : ∃ d, d = Dy.days b f t := ⟨_, rfl⟩
   rw [← hd] at HD d0 d1 hfr
   have HD2 := Lib.hid HD
   clear HD hbd hok he hd h3
   by_cases h2 : b = 2
   ·subst h2
    have hx : Hid (z = Rat.divInt d 365) := Lib.hid (by rw [hz.out, hfr.out, if_pos rfl])
    go_enter Tryz.func31, Tryz.ntmps31
    go_wp2_with (first | (go_at_call 63; ((with_reducible refine ((HD2.out _).out).mono ?_); rintro e9 w2 ⟨rfl, hL⟩; replace HM := HM.call hL; clear hL)) | (go_at_call 57; ((with_reducible refine (rof_q d 365 z (by omega) (by omega) (by omega) (by omega) (by omega) hx _).mono ?_); rintro e9 w2 ⟨rfl, hL⟩; replace HM := HM.call hL; clear hL)) | (first | ((with_reducible refine g_st ?_); refine a_st HM ?_; clear HM; intro w1 HM) | ((with_reducible refine g_al ?_); refine a_al HM ?_; clear HM; intro bk w1 HM) | ((with_reducible refine g_bld ?_); refine a_bld ?_)))
    refine bodyPost_ret (r_ct rfl rfl (HM.get (by ((repeat (first | exact Look.here | refine Look.there ?_)); done))) (la_q _)) rfl ⟨rfl, HM.low⟩
   ·have hx : Hid (z = Rat.divInt d 360) := Lib.hid (by rw [hz.out, hfr.out, if_neg h2])
    have hb2 : ((b : Int) == 2) = false := by simpa using h2
    clear h2
    go_enter Tryz.func31, Tryz.ntmps31
    go_wp2_with (first | (go_at_call 63; ((with_reducible refine ((HD2.out _).out).mono ?_); rintro e9 w2 ⟨rfl, hL⟩; replace HM := HM.call hL; clear hL)) | (go_at_call 57; ((with_reducible refine (rof_q d 360 z (by omega) (by omega) (by omega) (by omega) (by omega) hx _).mono ?_); rintro e9 w2 ⟨rfl, hL⟩; replace HM := HM.call hL; clear hL)) | (first | ((with_reducible refine g_st ?_); refine a_st HM ?_; clear HM; intro w1 HM) | ((with_reducible refine g_al ?_); refine a_al HM ?_; clear HM; intro bk w1 HM) | ((with_reducible refine g_bld ?_); refine a_bld ?_)))
    refine bodyPost_ret (r_ct rfl rfl (HM.get (by ((repeat (first | exact Look.here | refine Look.there ?_)); done))) (la_q _)) rfl ⟨rfl, HM.low⟩
 ·have hfc : Dy.fc b f t = Bg.rZ 0 0 := by unfold Dy.fc; rw [if_neg he]
  have HD : ∀ w, Hid (Calls Tryz.prog 63 #[.int .i64 b, .int .i64 f, .int .i64 t] w fun e w' => e = .returned (.tuple #[.int .i64 0, .int .i64 (Dy.err b f t)]) ∧ Below w.heap.size w w') := fun w => Lib.hid (by have := bel (rdaysP_any b f t w); rwa [show Dy.days b f t = 0 from by unfold Dy.days; rw [if_pos he]] at this)
  rw [hfc]
  obtain ⟨e, hee⟩ : ∃ e, e = Dy.err b f t := ⟨_, rfl⟩
  rw [← hee] at HD he ⊢
  have HD2 := Lib.hid HD
  have hne : ((e : Int) != 0) = true := by simpa using he
  have s0 := sa_rz 0 0 (rZ_size 0 0)
  clear HD hee hfc he
  go_enter Tryz.func31, Tryz.ntmps31
  go_wp2_with (first | ((with_reducible refine g_bld ?_); refine a_rbl ?_) | (go_at_call 63; ((with_reducible refine ((HD2.out _).out).mono ?_); rintro e9 w2 ⟨rfl, hL⟩; replace HM := HM.call hL; clear hL)) | (first | ((with_reducible refine g_st ?_); refine a_st HM ?_; clear HM; intro w1 HM) | ((with_reducible refine g_al ?_); refine a_al HM ?_; clear HM; intro bk w1 HM) | ((with_reducible refine g_bld ?_); refine a_bld ?_)))
  refine bodyPost_ret (r_ct rfl rfl (HM.get (by ((repeat (first | exact Look.here | refine Look.there ?_)); done))) (la_rz _ _)) rfl ⟨rfl, HM.low⟩
end Go.Proofs.YtmbjaaaeekacfaaGreatDoor
namespace Go.Proofs.YtmbjaaaeekacfaaGreatDoor
set_option maxRecDepth 8000
open Go.RowKit
theorem rzero_d (w : World) : Calls Tryz.prog 30 #[] w fun r w' => r = .returned (.agg (Rt.qA 0)) ∧ Below w.heap.size w w' := by
 have HM := Mem.start w
 have hz0 := za_rat
 have hs := sa_q 0 (rZ_size 0 0)
 obtain ⟨x, hx⟩ : ∃ x : Rat, Hid (x = ((0 : Int) : Rat)) := ⟨_, rfl⟩
 obtain rfl : x = 0 := hx.out
 go_enter Tryz.func30, Tryz.ntmps30
 go_wp2_with (first | (go_at_call 33; ((with_reducible refine (rwhole_q 0 0 (by omega) (by omega) hx _).mono ?_); rintro e9 w2 ⟨rfl, hL⟩; replace HM := HM.call hL; clear hL)) | (first | ((with_reducible refine g_st ?_); refine a_st HM ?_; clear HM; intro w1 HM) | ((with_reducible refine g_al ?_); refine a_al HM ?_; clear HM; intro bk w1 HM)))
 refine bodyPost_ret (r_c rfl rfl (HM.get (by ((repeat (first | exact Look.here | refine Look.there ?_)); done))) (la_q _)) rfl ⟨rfl, HM.low⟩
theorem Dy.frac_nonneg {b f t : Int} (h : Dy.Ok b f t) : 0 ≤ Dy.frac b f t := by
 by_cases h3 : b = 3
 ·subst h3
  have h1 := Dy.ld_le h.hf h.ht h.le
  rw [frac3]
  have a1 : 0 ≤ Rat.divInt (t - f - (Dy.ld t - Dy.ld f)) 365 := Rat.divInt_nonneg (by omega) (by omega)
  have a2 : 0 ≤ Rat.divInt (Dy.ld t - Dy.ld f) 366 := Rat.divInt_nonneg (by omega) (by omega)
  grind
 ·rw [Dy.frac_of h3]
  exact Rat.divInt_nonneg (Dy.days_bd h).1 (by split <;> omega)
end Go.Proofs.YtmbjaaaeekacfaaGreatDoor
