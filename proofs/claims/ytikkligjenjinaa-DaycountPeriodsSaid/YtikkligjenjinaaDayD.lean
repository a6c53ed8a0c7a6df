/- Fraction of both; the chapter's examples. -/
import Derived.Test.YtikkligjenjinaaDayB
import Derived.Test.YtikkligjenjinaaDayC
namespace Go.Proofs.Ytikkligjenjinaa
set_option maxRecDepth 8000
open Go.RowKit
set_option maxHeartbeats 4000000 in
theorem fraction_any (b f t : Int) (w : World) :
    Calls Try.prog 8 #[.int .i64 b, .int .i64 f, .int .i64 t] w fun r w' => r = .returned (.tuple #[.agg (Dy.fc b f t), .int .i64 (Dy.err b f t)]) ∧ Below w.heap.size w w' := by
  have HM := Mem.start w
  have hz0 := za_rat
  by_cases he : Dy.err b f t = 0
  · have hok := Dy.err_zero.1 he
    have hdb := Dy.days_bd hok
    have hbd := Dy.frac_bd hok
    obtain ⟨z, hz⟩ : ∃ z, Hid (z = Dy.frac b f t) := ⟨_, rfl⟩
    have fz : Rt.Fit z := by rw [hz.out]; exact hbd.fit
    have HD : ∀ w, Hid (Calls Try.prog 10 #[.int .i64 b, .int .i64 f, .int .i64 t] w fun e w' => e = .returned (.tuple #[.int .i64 (Dy.days b f t), .int .i64 0]) ∧ Below w.heap.size w w') := fun w => Lib.hid (by have := bel (days_any b f t w); rwa [he] at this)
    rw [Dy.fc_ok hok, he, ← hz.out]
    have sz := sa_q z (rZ_size 0 0)
    have HO := Lib.hid hok
    obtain ⟨d0, d1⟩ := hdb
    by_cases h3 : b = 3
    · subst h3
      rw [show Dy.days 3 f t = t - f from by rw [Dy.days_ok hok, if_neg (by decide)]] at HD d0 d1
      have HD2 := Lib.hid HD
      have HA : ∀ w, Hid (Calls Try.prog 27 #[.int .i64 f, .int .i64 t] w fun r w' => r = .returned (.tuple #[.agg (Rt.qA z), .int .i64 0]) ∧ Below w.heap.size w w') := fun w => Lib.hid (by rw [hz.out]; exact actual_any f t w hok.hf hok.ht hok.le)
      have HA2 := Lib.hid HA
      clear HD HA hbd hok he
      go_enter Try.func8, Try.ntmps8
      go_wp2_with (first | first | (go_at_call 10; ((with_reducible refine ((HD2.out _).out).mono ?_); rintro e9 w2 ⟨rfl, hL⟩; replace HM := HM.call hL; clear hL)) | (go_at_call 27; ((with_reducible refine ((HA2.out _).out).mono ?_); rintro e9 w2 ⟨rfl, hL⟩; replace HM := HM.call hL; clear hL)) | (first | ((with_reducible refine g_ld ?_); refine a_ld HM ?_) | ((with_reducible refine g_st ?_); refine a_st HM ?_; clear HM; intro w1 HM) | ((with_reducible refine g_al ?_); refine a_al HM ?_; clear HM; intro bk w1 HM) | ((with_reducible refine g_bx ?_); refine a_bx HM ?_; clear HM; intro bk w1 HM) | ((with_reducible refine g_bld ?_); refine a_bld ?_)))
      refine bodyPost_ret (r_ct rfl rfl (HM.get (by ((repeat (first | exact Look.here | refine Look.there ?_)); done))) (la_q _)) rfl ⟨rfl, HM.low⟩
    · have hfr := Lib.hid (Dy.frac_of (f := f) (t := t) h3)
      have hb3 : ((b : Int) == 3) = false := by simpa using h3
      obtain ⟨d, hd⟩ : ∃ d, d = Dy.days b f t := ⟨_, rfl⟩
      rw [← hd] at HD d0 d1 hfr
      have HD2 := Lib.hid HD
      clear HD hbd hok he hd h3
      by_cases h2 : b = 2
      · subst h2
        have hx : Hid (z = Rat.divInt d 365) := Lib.hid (by rw [hz.out, hfr.out, if_pos rfl])
        go_enter Try.func8, Try.ntmps8
        go_wp2_with (first | first | (go_at_call 10; ((with_reducible refine ((HD2.out _).out).mono ?_); rintro e9 w2 ⟨rfl, hL⟩; replace HM := HM.call hL; clear hL)) | (go_at_call 28; ((with_reducible refine (of_q d 365 z (by omega) (by omega) (by omega) (by omega) (by omega) hx _).mono ?_); rintro e9 w2 ⟨rfl, hL⟩; replace HM := HM.call hL; clear hL)) | (first | ((with_reducible refine g_ld ?_); refine a_ld HM ?_) | ((with_reducible refine g_st ?_); refine a_st HM ?_; clear HM; intro w1 HM) | ((with_reducible refine g_al ?_); refine a_al HM ?_; clear HM; intro bk w1 HM) | ((with_reducible refine g_bx ?_); refine a_bx HM ?_; clear HM; intro bk w1 HM) | ((with_reducible refine g_bld ?_); refine a_bld ?_)))
        refine bodyPost_ret (r_ct rfl rfl (HM.get (by ((repeat (first | exact Look.here | refine Look.there ?_)); done))) (la_q _)) rfl ⟨rfl, HM.low⟩
      · have hx : Hid (z = Rat.divInt d 360) := Lib.hid (by rw [hz.out, hfr.out, if_neg h2])
        have hb2 : ((b : Int) == 2) = false := by simpa using h2
        clear h2
        go_enter Try.func8, Try.ntmps8
        go_wp2_with (first | first | (go_at_call 10; ((with_reducible refine ((HD2.out _).out).mono ?_); rintro e9 w2 ⟨rfl, hL⟩; replace HM := HM.call hL; clear hL)) | (go_at_call 28; ((with_reducible refine (of_q d 360 z (by omega) (by omega) (by omega) (by omega) (by omega) hx _).mono ?_); rintro e9 w2 ⟨rfl, hL⟩; replace HM := HM.call hL; clear hL)) | (first | ((with_reducible refine g_ld ?_); refine a_ld HM ?_) | ((with_reducible refine g_st ?_); refine a_st HM ?_; clear HM; intro w1 HM) | ((with_reducible refine g_al ?_); refine a_al HM ?_; clear HM; intro bk w1 HM) | ((with_reducible refine g_bx ?_); refine a_bx HM ?_; clear HM; intro bk w1 HM) | ((with_reducible refine g_bld ?_); refine a_bld ?_)))
        refine bodyPost_ret (r_ct rfl rfl (HM.get (by ((repeat (first | exact Look.here | refine Look.there ?_)); done))) (la_q _)) rfl ⟨rfl, HM.low⟩
  · have hfc : Dy.fc b f t = Bg.rZ 0 0 := by unfold Dy.fc; rw [if_neg he]
    have HD : ∀ w, Hid (Calls Try.prog 10 #[.int .i64 b, .int .i64 f, .int .i64 t] w fun e w' => e = .returned (.tuple #[.int .i64 0, .int .i64 (Dy.err b f t)]) ∧ Below w.heap.size w w') := fun w => Lib.hid (by have := bel (days_any b f t w); rwa [show Dy.days b f t = 0 from by unfold Dy.days; rw [if_pos he]] at this)
    rw [hfc]
    obtain ⟨e, hee⟩ : ∃ e, e = Dy.err b f t := ⟨_, rfl⟩
    rw [← hee] at HD he ⊢
    have HD2 := Lib.hid HD
    have hne : ((e : Int) != 0) = true := by simpa using he
    have s0 := sa_rz 0 0 (rZ_size 0 0)
    clear HD hee hfc he
    go_enter Try.func8, Try.ntmps8
    go_wp2_with (first | first | ((with_reducible refine g_bld ?_); refine a_rbl ?_) | (go_at_call 10; ((with_reducible refine ((HD2.out _).out).mono ?_); rintro e9 w2 ⟨rfl, hL⟩; replace HM := HM.call hL; clear hL)) | (first | ((with_reducible refine g_ld ?_); refine a_ld HM ?_) | ((with_reducible refine g_st ?_); refine a_st HM ?_; clear HM; intro w1 HM) | ((with_reducible refine g_al ?_); refine a_al HM ?_; clear HM; intro bk w1 HM) | ((with_reducible refine g_bx ?_); refine a_bx HM ?_; clear HM; intro bk w1 HM) | ((with_reducible refine g_bld ?_); refine a_bld ?_)))
    refine bodyPost_ret (r_ct rfl rfl (HM.get (by ((repeat (first | exact Look.here | refine Look.there ?_)); done))) (la_rz _ _)) rfl ⟨rfl, HM.low⟩
set_option maxHeartbeats 4000000 in
theorem rfraction_any (b f t : Int) (w : World) :
    Calls Try.prog 9 #[.int .i64 b, .int .i64 f, .int .i64 t] w fun r w' => r = .returned (.tuple #[.agg (Dy.fc b f t), .int .i64 (Dy.err b f t)]) ∧ Below w.heap.size w w' := by
  have HM := Mem.start w
  have hz0 := za_rat
  by_cases he : Dy.err b f t = 0
  · have hok := Dy.err_zero.1 he
    have hdb := Dy.days_bd hok
    have hbd := Dy.frac_bd hok
    obtain ⟨z, hz⟩ : ∃ z, Hid (z = Dy.frac b f t) := ⟨_, rfl⟩
    have fz : Rt.Fit z := by rw [hz.out]; exact hbd.fit
    have HD : ∀ w, Hid (Calls Try.prog 11 #[.int .i64 b, .int .i64 f, .int .i64 t] w fun e w' => e = .returned (.tuple #[.int .i64 (Dy.days b f t), .int .i64 0]) ∧ Below w.heap.size w w') := fun w => Lib.hid (by have := bel (rdaysP_any b f t w); rwa [he] at this)
    rw [Dy.fc_ok hok, he, ← hz.out]
    have sz := sa_q z (rZ_size 0 0)
    have HO := Lib.hid hok
    obtain ⟨d0, d1⟩ := hdb
    by_cases h3 : b = 3
    · subst h3
      rw [show Dy.days 3 f t = t - f from by rw [Dy.days_ok hok, if_neg (by decide)]] at HD d0 d1
      have HD2 := Lib.hid HD
      have HA : ∀ w, Hid (Calls Try.prog 30 #[.int .i64 f, .int .i64 t] w fun r w' => r = .returned (.agg (Rt.qA z)) ∧ Below w.heap.size w w') := fun w => Lib.hid (by rw [hz.out]; exact ractual_any f t w hok.hf hok.ht hok.le)
      have HA2 := Lib.hid HA
      clear HD HA hbd hok he
      go_enter Try.func9, Try.ntmps9
      go_wp2_with (first | first | (go_at_call 11; ((with_reducible refine ((HD2.out _).out).mono ?_); rintro e9 w2 ⟨rfl, hL⟩; replace HM := HM.call hL; clear hL)) | (go_at_call 30; ((with_reducible refine ((HA2.out _).out).mono ?_); rintro e9 w2 ⟨rfl, hL⟩; replace HM := HM.call hL; clear hL)) | (first | ((with_reducible refine g_ld ?_); refine a_ld HM ?_) | ((with_reducible refine g_st ?_); refine a_st HM ?_; clear HM; intro w1 HM) | ((with_reducible refine g_al ?_); refine a_al HM ?_; clear HM; intro bk w1 HM) | ((with_reducible refine g_bx ?_); refine a_bx HM ?_; clear HM; intro bk w1 HM) | ((with_reducible refine g_bld ?_); refine a_bld ?_)))
      refine bodyPost_ret (r_ct rfl rfl (HM.get (by ((repeat (first | exact Look.here | refine Look.there ?_)); done))) (la_q _)) rfl ⟨rfl, HM.low⟩
    · have hfr := Lib.hid (Dy.frac_of (f := f) (t := t) h3)
      have hb3 : ((b : Int) == 3) = false := by simpa using h3
      obtain ⟨d, hd⟩ : ∃ d, d = Dy.days b f t := ⟨_, rfl⟩
      rw [← hd] at HD d0 d1 hfr
      have HD2 := Lib.hid HD
      clear HD hbd hok he hd h3
      by_cases h2 : b = 2
      · subst h2
        have hx : Hid (z = Rat.divInt d 365) := Lib.hid (by rw [hz.out, hfr.out, if_pos rfl])
        go_enter Try.func9, Try.ntmps9
        go_wp2_with (first | first | (go_at_call 11; ((with_reducible refine ((HD2.out _).out).mono ?_); rintro e9 w2 ⟨rfl, hL⟩; replace HM := HM.call hL; clear hL)) | (go_at_call 29; ((with_reducible refine (rof_q d 365 z (by omega) (by omega) (by omega) (by omega) (by omega) hx _).mono ?_); rintro e9 w2 ⟨rfl, hL⟩; replace HM := HM.call hL; clear hL)) | (first | ((with_reducible refine g_ld ?_); refine a_ld HM ?_) | ((with_reducible refine g_st ?_); refine a_st HM ?_; clear HM; intro w1 HM) | ((with_reducible refine g_al ?_); refine a_al HM ?_; clear HM; intro bk w1 HM) | ((with_reducible refine g_bx ?_); refine a_bx HM ?_; clear HM; intro bk w1 HM) | ((with_reducible refine g_bld ?_); refine a_bld ?_)))
        refine bodyPost_ret (r_ct rfl rfl (HM.get (by ((repeat (first | exact Look.here | refine Look.there ?_)); done))) (la_q _)) rfl ⟨rfl, HM.low⟩
      · have hx : Hid (z = Rat.divInt d 360) := Lib.hid (by rw [hz.out, hfr.out, if_neg h2])
        have hb2 : ((b : Int) == 2) = false := by simpa using h2
        clear h2
        go_enter Try.func9, Try.ntmps9
        go_wp2_with (first | first | (go_at_call 11; ((with_reducible refine ((HD2.out _).out).mono ?_); rintro e9 w2 ⟨rfl, hL⟩; replace HM := HM.call hL; clear hL)) | (go_at_call 29; ((with_reducible refine (rof_q d 360 z (by omega) (by omega) (by omega) (by omega) (by omega) hx _).mono ?_); rintro e9 w2 ⟨rfl, hL⟩; replace HM := HM.call hL; clear hL)) | (first | ((with_reducible refine g_ld ?_); refine a_ld HM ?_) | ((with_reducible refine g_st ?_); refine a_st HM ?_; clear HM; intro w1 HM) | ((with_reducible refine g_al ?_); refine a_al HM ?_; clear HM; intro bk w1 HM) | ((with_reducible refine g_bx ?_); refine a_bx HM ?_; clear HM; intro bk w1 HM) | ((with_reducible refine g_bld ?_); refine a_bld ?_)))
        refine bodyPost_ret (r_ct rfl rfl (HM.get (by ((repeat (first | exact Look.here | refine Look.there ?_)); done))) (la_q _)) rfl ⟨rfl, HM.low⟩
  · have hfc : Dy.fc b f t = Bg.rZ 0 0 := by unfold Dy.fc; rw [if_neg he]
    have HD : ∀ w, Hid (Calls Try.prog 11 #[.int .i64 b, .int .i64 f, .int .i64 t] w fun e w' => e = .returned (.tuple #[.int .i64 0, .int .i64 (Dy.err b f t)]) ∧ Below w.heap.size w w') := fun w => Lib.hid (by have := bel (rdaysP_any b f t w); rwa [show Dy.days b f t = 0 from by unfold Dy.days; rw [if_pos he]] at this)
    rw [hfc]
    obtain ⟨e, hee⟩ : ∃ e, e = Dy.err b f t := ⟨_, rfl⟩
    rw [← hee] at HD he ⊢
    have HD2 := Lib.hid HD
    have hne : ((e : Int) != 0) = true := by simpa using he
    have s0 := sa_rz 0 0 (rZ_size 0 0)
    clear HD hee hfc he
    go_enter Try.func9, Try.ntmps9
    go_wp2_with (first | first | ((with_reducible refine g_bld ?_); refine a_rbl ?_) | (go_at_call 11; ((with_reducible refine ((HD2.out _).out).mono ?_); rintro e9 w2 ⟨rfl, hL⟩; replace HM := HM.call hL; clear hL)) | (first | ((with_reducible refine g_ld ?_); refine a_ld HM ?_) | ((with_reducible refine g_st ?_); refine a_st HM ?_; clear HM; intro w1 HM) | ((with_reducible refine g_al ?_); refine a_al HM ?_; clear HM; intro bk w1 HM) | ((with_reducible refine g_bx ?_); refine a_bx HM ?_; clear HM; intro bk w1 HM) | ((with_reducible refine g_bld ?_); refine a_bld ?_)))
    refine bodyPost_ret (r_ct rfl rfl (HM.get (by ((repeat (first | exact Look.here | refine Look.there ?_)); done))) (la_rz _ _)) rfl ⟨rfl, HM.low⟩
end Go.Proofs.Ytikkligjenjinaa
