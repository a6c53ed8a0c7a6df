/- Walks, and plain facts for them. -/
import Derived.WalkMore
import Derived.Test.YtmbjaaaeekacfaaGreatDoorPb14
import Derived.Test.YtmbjaaaeekacfaaGreatDoorPb24
namespace Go.Proofs.YtmbjaaaeekacfaaGreatDoor
set_option maxRecDepth 8000
open Go.RowKit
theorem of_q (n d : Int) (x : Rat) (hn1 : -9223372036854775808 ≤ n) (hn2 : n < 9223372036854775808) (hd1 : -9223372036854775808 ≤ d) (hd2 : d < 9223372036854775808) (h0 : d ≠ 0) (hx : Hid (x = Rat.divInt n d)) (w : World) :
    Calls Tryz.prog 84 #[.int .i64 n, .int .i64 d] w fun r w' => r = .returned (.tuple #[.agg (Rt.qA x), .int .i64 0]) ∧ Below w.heap.size w w' := by
 rw [qA_rZ]
 exact of_n n d _ _ 0 hn1 hn2 hd1 hd2 (Rt.mk_q h0 (small_480 (z := n) (by omega)) (small_480 (z := d) (by omega)) hx.out) w
theorem rof_q (n d : Int) (x : Rat) (hn1 : -9223372036854775808 ≤ n) (hn2 : n < 9223372036854775808) (hd1 : -9223372036854775808 ≤ d) (hd2 : d < 9223372036854775808) (h0 : d ≠ 0) (hx : Hid (x = Rat.divInt n d)) (w : World) :
    Calls Tryz.prog 57 #[.int .i64 n, .int .i64 d] w fun r w' => r = .returned (.tuple #[.agg (Rt.qA x), .int .i64 0]) ∧ Below w.heap.size w w' := by
 rw [qA_rZ]
 exact rof_n n d _ _ 0 hn1 hn2 hd1 hd2 (Rt.mk_q h0 (small_480 (z := n) (by omega)) (small_480 (z := d) (by omega)) hx.out) w
structure YearSt (f t v c l : Int) : Prop where
 lo : f ≤ v
 hi : v ≤ t
 el : l = Dy.ld v - Dy.ld f
 ec : c = v - f - l
 day : Dt.isDay v = true
theorem YearSt.bd {f t v c l : Int} (h : YearSt f t v c l) (hf : Dt.isDay f = true) : 0 ≤ l ∧ l ≤ v - f ∧ 0 ≤ c := by
 have := Dy.ld_le hf h.day h.lo
 have h1 := h.el
 have h2 := h.ec
 omega
theorem YearSt.step {f t v c l y m d e : Int} (h : YearSt f t v c l) (ht : Dt.isDay t = true) (hc : Dt.isCiv v y m d) (h1 : v ≤ e) (h2 : e ≤ Dt.dby (y + 1)) (h3 : e ≤ t) : (Dt.leapB y = true → YearSt f t e c (l + (e - v))) ∧ (Dt.leapB y = false → YearSt f t e (c + (e - v)) l) := by
 have hd := h.day
 have he : Dt.isDay e = true := by
  unfold Dt.isDay at *
  simp only [decide_eq_true_eq] at *
  omega
 have hs := Dy.ld_step hc h1 h2 he
 have a1 := h.lo
 have a2 := h.el
 have a3 := h.ec
 constructor
 ·intro hl
  rw [if_pos hl] at hs
  exact ⟨by omega, h3, by omega, by omega, he⟩
 ·intro hl
  rw [if_neg (by simp [hl])] at hs
  exact ⟨by omega, h3, by omega, by omega, he⟩
theorem day_bd {n : Int} (h : Dt.isDay n = true) : 0 ≤ n ∧ n ≤ 73048 := by unfold Dt.isDay at h; simpa using h
theorem frac3 {f t : Int} : Dy.frac 3 f t = Rat.divInt (t - f - (Dy.ld t - Dy.ld f)) 365 + Rat.divInt (Dy.ld t - Dy.ld f) 366 := by unfold Dy.frac; rw [if_pos rfl]
theorem small_bd {c k : Int} (h1 : 0 ≤ c) (h2 : c ≤ 100000) (h3 : 1 ≤ k) (h4 : k ≤ 366) : Rt.Bd (Rat.divInt c k) 17 9 :=
 .divInt (by omega) (Bg.p2_small 17 131072 (by unfold Bg.p2; rfl) (by omega)) (Bg.p2_small 9 512 (by unfold Bg.p2; rfl) (by omega))
theorem frac3_bd {f t : Int} (hf : Dt.isDay f = true) (ht : Dt.isDay t = true) (h : f ≤ t) : Rt.Bd (Dy.frac 3 f t) 27 18 := by
 have h1 := Dy.ld_le hf ht h
 have h2 := day_bd hf
 have h3 := day_bd ht
 rw [frac3]
 exact ((small_bd (k := 365) (by omega) (by omega) (by omega) (by omega)).add (small_bd (k := 366) (by omega) (by omega) (by omega) (by omega))).up
set_option maxHeartbeats 4000000 in
theorem actual_any (f t : Int) (w : World) (hf : Dt.isDay f = true) (ht : Dt.isDay t = true) (h : f ≤ t) :
    Calls Tryz.prog 83 #[.int .i64 f, .int .i64 t] w fun r w' => r = .returned (.tuple #[.agg (Rt.qA (Dy.frac 3 f t)), .int .i64 0]) ∧ Below w.heap.size w w' := by
 have HM := Mem.start w
 have hz0 := za_rat
 have HF := Lib.hid hf
 have HT := Lib.hid ht
 obtain ⟨f0, f1⟩ := day_bd hf
 obtain ⟨t0, t1⟩ := day_bd ht
 obtain ⟨z, hz⟩ : ∃ z, Hid (z = Dy.frac 3 f t) := ⟨_, rfl⟩
 have fz : Rt.Fit z := by rw [hz.out]; exact (frac3_bd hf ht h).fit
 rw [← hz.out]
 have sz := sa_q z (rZ_size 0 0)
 clear hf ht
 go_enter Tryz.func83, Tryz.ntmps83
 go_wp2_with (first | ((with_reducible refine g_ld ?_); refine a_ld HM ?_) | ((with_reducible refine g_st ?_); refine a_st HM ?_; clear HM; intro w1 HM) | ((with_reducible refine g_al ?_); refine a_al HM ?_; clear HM; intro bk w1 HM))
 obtain ⟨b4, rfl⟩ := HM.nm0
 go_step3
 go_wp2_with (first | ((with_reducible refine g_ld ?_); refine a_ld HM ?_) | ((with_reducible refine g_st ?_); refine a_st HM ?_; clear HM; intro w1 HM) | ((with_reducible refine g_al ?_); refine a_al HM ?_; clear HM; intro bk w1 HM))
 go_step3
 go_wp2_with (first | ((with_reducible refine g_ld ?_); refine a_ld HM ?_) | ((with_reducible refine g_st ?_); refine a_st HM ?_; clear HM; intro w1 HM) | ((with_reducible refine g_al ?_); refine a_al HM ?_; clear HM; intro bk w1 HM))
 go_loopw [0, 6, 7] (fun a c l wr => ∃ v x y : Int, a = .int .i64 v ∧ c = .int .i64 x ∧ l = .int .i64 y ∧ Hid (YearSt f t v x y) ∧ Mem w [] [(b4, Bg.rZ 0 0)] wr) (fun a _ _ _ => (t - intOf a).toNat)
 case atStart => exact ⟨f, 0, 0, rfl, rfl, rfl, Lib.hid ⟨by omega, h, by omega, by omega, HF.out⟩, HM⟩
 case round =>
  obtain ⟨v, x, y, rfl, rfl, rfl, HS, HM⟩ := hrel
  have hb := HS.out.bd HF.out
  have hlo := HS.out.lo
  have hhi := HS.out.hi
  obtain ⟨v0, v1⟩ := day_bd HS.out.day
  obtain ⟨y0, y1, x0⟩ := hb
  have hec := HS.out.ec
  have x1 : x ≤ 73048 := by omega
  clear hec
  by_cases hlt : v < t
  ·have HC := Lib.hid (civil_yes v wr HS.out.day ahead_c)
   go_wp2_with fail
   refine HC.out.mono ?_
   rintro e w9 ⟨yy, mm, dd, hc, rfl, rfl⟩
   have hcy := Dt.civ_year hc
   have hy1 := hc.1
   have hy2 := hc.2.1
   have HCV := Lib.hid hc
   obtain ⟨E, hE⟩ : ∃ E, E = Dt.dby (yy + 1) := ⟨_, rfl⟩
   rw [← hE] at hcy
   have hbd := Dt.dby_bd (yy + 1) (by omega) (by omega)
   rw [← hE] at hbd
   have HE := Lib.hid hE
   obtain ⟨lb, hlb⟩ : ∃ b, b = Dt.leapB yy := ⟨_, rfl⟩
   have HLB := Lib.hid hlb
   have HLC := Lib.hid (leap_any yy wr (by omega))
   rw [← HLB.out] at HLC
   clear hc hE hlb
   by_cases hyl : yy ≤ 2198
   ·have HFC := Lib.hid (fromCivil_yes (yy + 1) 1 1 wr (by omega) (by omega) (by omega) (by omega) (by omega) (by have := Dt.dim_bd (yy + 1) 1; omega))
    rw [show Dt.dby (yy + 1) + Dt.cum (yy + 1) 1 + 1 - 1 = E from by rw [Dt.cum_one, HE.out]; omega] at HFC
    by_cases hET : t < E
    ·have hst := HS.out.step HT.out HCV.out (e := t) (by omega) (by rw [← HE.out]; omega) (Int.le_refl _)
     have HST := Lib.hid hst
     clear hst
     (cases lb <;> (go_wp2_with (first | (go_at_call 129; ((with_reducible refine (HFC.out).mono ?_); rintro e w' ⟨rfl, rfl⟩)) | (go_at_call 130; ((with_reducible refine (HLC.out).mono ?_); rintro e w' ⟨rfl, rfl⟩)))); rotate_left 1)
     ·go_roundw
      case rel => exact ⟨t, _, _, rfl, rfl, rfl, Lib.hid (HST.out.1 HLB.out.symm), HM⟩
      case measure => simp [intOf]; omega
     ·go_roundw
      case rel => exact ⟨t, _, _, rfl, rfl, rfl, Lib.hid (HST.out.2 HLB.out.symm), HM⟩
      case measure => simp [intOf]; omega
    ·have hst := HS.out.step HT.out HCV.out (e := E) (by omega) (by rw [← HE.out]; omega) (by omega)
     have HST := Lib.hid hst
     clear hst
     (cases lb <;> (go_wp2_with (first | (go_at_call 129; ((with_reducible refine (HFC.out).mono ?_); rintro e w' ⟨rfl, rfl⟩)) | (go_at_call 130; ((with_reducible refine (HLC.out).mono ?_); rintro e w' ⟨rfl, rfl⟩)))); rotate_left 1)
     ·go_roundw
      case rel => exact ⟨E, _, _, rfl, rfl, rfl, Lib.hid (HST.out.1 HLB.out.symm), HM⟩
      case measure => simp [intOf]; omega
     ·go_roundw
      case rel => exact ⟨E, _, _, rfl, rfl, rfl, Lib.hid (HST.out.2 HLB.out.symm), HM⟩
      case measure => simp [intOf]; omega
   ·have HFC := Lib.hid (fromCivil_no (yy + 1) 1 1 wr (by omega))
    have hE9 : E = 73049 := by rw [HE.out, show yy + 1 = 2200 from by omega]; exact Dt.dby_last
    have hst := HS.out.step HT.out HCV.out (e := t) (by omega) (by rw [← HE.out]; omega) (Int.le_refl _)
    have HST := Lib.hid hst
    clear hst hE9
    (cases lb <;> (go_wp2_with (first | (go_at_call 129; ((with_reducible refine (HFC.out).mono ?_); rintro e w' ⟨rfl, rfl⟩)) | (go_at_call 130; ((with_reducible refine (HLC.out).mono ?_); rintro e w' ⟨rfl, rfl⟩)))); rotate_left 1)
    ·go_roundw
     case rel => exact ⟨t, _, _, rfl, rfl, rfl, Lib.hid (HST.out.1 HLB.out.symm), HM⟩
     case measure => simp [intOf]; omega
    ·go_roundw
     case rel => exact ⟨t, _, _, rfl, rfl, rfl, Lib.hid (HST.out.2 HLB.out.symm), HM⟩
     case measure => simp [intOf]; omega
  ·obtain rfl : v = t := by omega
   have e1 := HS.out.el
   have e2 := HS.out.ec
   obtain ⟨p, hp⟩ : ∃ p, Hid (p = Rat.divInt x 365) := ⟨_, rfl⟩
   obtain ⟨q, hq⟩ : ∃ q, Hid (q = Rat.divInt y 366) := ⟨_, rfl⟩
   have hpq : Hid (z = p + q) := Lib.hid (by rw [hz.out, frac3, hp.out, hq.out, e2, e1])
   have Bp : Rt.Bd p 17 9 := by rw [hp.out]; exact small_bd x0 (by omega) (by omega) (by omega)
   have Bq : Rt.Bd q 17 9 := by rw [hq.out]; exact small_bd y0 (by omega) (by omega) (by omega)
   have fp := Bp.fit
   have fq := Bq.fit
   have sp := sa_q p (rZ_size 0 0)
   have sq := sa_q q (rZ_size 0 0)
   have kp := la_q p
   have kq := la_q q
   clear e1 e2 Bp Bq
   go_wp2_with (first | (go_at_call 84; ((with_reducible refine (of_q x 365 p (by omega) (by omega) (by omega) (by omega) (by omega) hp _).mono ?_); rintro e9 w2 ⟨rfl, hL⟩; replace HM := HM.call hL; clear hL)) | (go_at_call 84; ((with_reducible refine (of_q y 366 q (by omega) (by omega) (by omega) (by omega) (by omega) hq _).mono ?_); rintro e9 w2 ⟨rfl, hL⟩; replace HM := HM.call hL; clear hL)) | (go_at_call 48; ((with_reducible refine (add_q p q z fp fq hpq fz _).mono ?_); rintro e9 w2 ⟨rfl, hL⟩; replace HM := HM.call hL; clear hL)) | (first | ((with_reducible refine g_ld ?_); refine a_ld HM ?_) | ((with_reducible refine g_st ?_); refine a_st HM ?_; clear HM; intro w1 HM) | ((with_reducible refine g_al ?_); refine a_al HM ?_; clear HM; intro bk w1 HM)))
   rw [Exit.noGoto_ret]
   refine bodyPost_ret (r_ct rfl rfl (HM.get (by ((repeat (first | exact Look.here | refine Look.there ?_)); done))) (la_q _)) rfl ⟨rfl, HM.low⟩
set_option maxHeartbeats 4000000 in
theorem ractual_any (f t : Int) (w : World) (hf : Dt.isDay f = true) (ht : Dt.isDay t = true) (h : f ≤ t) :
    Calls Tryz.prog 64 #[.int .i64 f, .int .i64 t] w fun r w' => r = .returned (.agg (Rt.qA (Dy.frac 3 f t))) ∧ Below w.heap.size w w' := by
 have HM := Mem.start w
 have hz0 := za_rat
 have HF := Lib.hid hf
 have HT := Lib.hid ht
 obtain ⟨f0, f1⟩ := day_bd hf
 obtain ⟨t0, t1⟩ := day_bd ht
 obtain ⟨z, hz⟩ : ∃ z, Hid (z = Dy.frac 3 f t) := ⟨_, rfl⟩
 have fz : Rt.Fit z := by rw [hz.out]; exact (frac3_bd hf ht h).fit
 rw [← hz.out]
 have sz := sa_q z (rZ_size 0 0)
 have kz := la_q z
 clear hf ht
 go_enter Tryz.func64, Tryz.ntmps64
 go_wp2_with (first | ((with_reducible refine g_ld ?_); refine a_ld HM ?_) | ((with_reducible refine g_st ?_); refine a_st HM ?_; clear HM; intro w1 HM) | ((with_reducible refine g_al ?_); refine a_al HM ?_; clear HM; intro bk w1 HM))
 obtain ⟨b4, rfl⟩ := HM.nm0
 go_loopw [5, 6, 7] (fun c l a wr => ∃ v x y : Int, a = .int .i64 v ∧ c = .int .i64 x ∧ l = .int .i64 y ∧ Hid (YearSt f t v x y) ∧ Mem w [] [(b4, Bg.rZ 0 0)] wr) (fun _ _ a _ => (t - intOf a).toNat)
 case atStart => exact ⟨f, 0, 0, rfl, rfl, rfl, Lib.hid ⟨by omega, h, by omega, by omega, HF.out⟩, HM⟩
 case round =>
  obtain ⟨v, x, y, rfl, rfl, rfl, HS, HM⟩ := hrel
  have hb := HS.out.bd HF.out
  have hlo := HS.out.lo
  have hhi := HS.out.hi
  obtain ⟨v0, v1⟩ := day_bd HS.out.day
  obtain ⟨y0, y1, x0⟩ := hb
  have hec := HS.out.ec
  have x1 : x ≤ 73048 := by omega
  clear hec
  by_cases hlt : v < t
  ·have HC := Lib.hid (rCivil_yes v wr HS.out.day)
   go_wp2_with fail
   refine HC.out.mono ?_
   rintro e w9 ⟨yy, mm, dd, hc, rfl, rfl⟩
   have hcy := Dt.civ_year hc
   have hy1 := hc.1
   have hy2 := hc.2.1
   have HCV := Lib.hid hc
   obtain ⟨E, hE⟩ : ∃ E, E = Dt.dby (yy + 1) := ⟨_, rfl⟩
   rw [← hE] at hcy
   have hbd := Dt.dby_bd (yy + 1) (by omega) (by omega)
   rw [← hE] at hbd
   have HE := Lib.hid hE
   obtain ⟨lb, hlb⟩ : ∃ b, b = Dt.leapB yy := ⟨_, rfl⟩
   have HLB := Lib.hid hlb
   have HLC := Lib.hid (rLeap_any yy wr (by omega))
   rw [← HLB.out] at HLC
   have HFC := Lib.hid (rfromCivil_yes yy 12 31 wr hy1 hy2 (by omega) (by omega) (by omega) (by simp [Dt.dim]))
   have hdec : Dt.dby yy + Dt.cum yy 12 + 31 - 1 = E - 1 := by
    have h1 := Dt.dby_succ yy hy1 hy2
    have h2 := Dt.cum_succ yy 12 (by omega) (by omega)
    have h3 := Dt.cum_end yy
    have h4 : Dt.dim yy 12 = 31 := by simp [Dt.dim]
    have h5 : (12 : Int) + 1 = 13 := by omega
    rw [h5, h3, h4] at h2
    omega
   rw [hdec] at HFC
   clear hc hE hlb hdec
   by_cases hET : t < E
   ·have hst := HS.out.step HT.out HCV.out (e := t) (by omega) (by rw [← HE.out]; omega) (Int.le_refl _)
    have HST := Lib.hid hst
    have hmin : min t E = t := by omega
    clear hst
    (cases lb <;> (go_wp2_with (first | (go_at_call 105; ((with_reducible refine (HFC.out).mono ?_); rintro e w' ⟨rfl, rfl⟩)) | (go_at_call 106; ((with_reducible refine (HLC.out).mono ?_); rintro e w' ⟨rfl, rfl⟩)))); rotate_left 1)
    ·go_roundw
     case rel => exact ⟨t, _, _, rfl, rfl, rfl, Lib.hid (HST.out.1 HLB.out.symm), HM⟩
     case measure => simp [intOf]; omega
    ·go_roundw
     case rel => exact ⟨t, _, _, rfl, rfl, rfl, Lib.hid (HST.out.2 HLB.out.symm), HM⟩
     case measure => simp [intOf]; omega
   ·have hst := HS.out.step HT.out HCV.out (e := E) (by omega) (by rw [← HE.out]; omega) (by omega)
    have HST := Lib.hid hst
    have hmin : min t E = E := by omega
    clear hst
    (cases lb <;> (go_wp2_with (first | (go_at_call 105; ((with_reducible refine (HFC.out).mono ?_); rintro e w' ⟨rfl, rfl⟩)) | (go_at_call 106; ((with_reducible refine (HLC.out).mono ?_); rintro e w' ⟨rfl, rfl⟩)))); rotate_left 1)
    ·go_roundw
     case rel => exact ⟨E, _, _, by go_num, rfl, rfl, Lib.hid (HST.out.1 HLB.out.symm), HM⟩
     case measure => simp [intOf]; omega
    ·go_roundw
     case rel => exact ⟨E, _, _, by go_num, rfl, rfl, Lib.hid (HST.out.2 HLB.out.symm), HM⟩
     case measure => simp [intOf]; omega
  ·obtain rfl : v = t := by omega
   have e1 := HS.out.el
   have e2 := HS.out.ec
   obtain ⟨p, hp⟩ : ∃ p, Hid (p = Rat.divInt x 365) := ⟨_, rfl⟩
   obtain ⟨q, hq⟩ : ∃ q, Hid (q = Rat.divInt y 366) := ⟨_, rfl⟩
   have hpq : Hid (z = p + q) := Lib.hid (by rw [hz.out, frac3, hp.out, hq.out, e2, e1])
   have Bp : Rt.Bd p 17 9 := by rw [hp.out]; exact small_bd x0 (by omega) (by omega) (by omega)
   have Bq : Rt.Bd q 17 9 := by rw [hq.out]; exact small_bd y0 (by omega) (by omega) (by omega)
   have fp := Bp.fit
   have fq := Bq.fit
   have sp := sa_q p (rZ_size 0 0)
   have sq := sa_q q (rZ_size 0 0)
   have kp := la_q p
   have kq := la_q q
   clear e1 e2 Bp Bq
   go_wp2_with (first | (go_at_call 57; ((with_reducible refine (rof_q x 365 p (by omega) (by omega) (by omega) (by omega) (by omega) hp _).mono ?_); rintro e9 w2 ⟨rfl, hL⟩; replace HM := HM.call hL; clear hL)) | (go_at_call 57; ((with_reducible refine (rof_q y 366 q (by omega) (by omega) (by omega) (by omega) (by omega) hq _).mono ?_); rintro e9 w2 ⟨rfl, hL⟩; replace HM := HM.call hL; clear hL)) | (go_at_call 34; ((with_reducible refine (radd_q p q z fp fq hpq fz _).mono ?_); rintro e9 w2 ⟨rfl, hL⟩; replace HM := HM.call hL; clear hL)) | (first | ((with_reducible refine g_ld ?_); refine a_ld HM ?_) | ((with_reducible refine g_st ?_); refine a_st HM ?_; clear HM; intro w1 HM) | ((with_reducible refine g_al ?_); refine a_al HM ?_; clear HM; intro bk w1 HM)))
   refine bodyPost_ret (r_c rfl rfl (HM.get (by ((repeat (first | exact Look.here | refine Look.there ?_)); done))) (la_q _)) rfl ⟨rfl, HM.low⟩
noncomputable def Dy.fc (b f t : Int) : Array Value := if Dy.err b f t = 0 then Rt.qA (Dy.frac b f t) else Bg.rZ 0 0
theorem Dy.fc_ok {b f t : Int} (h : Dy.Ok b f t) : Dy.fc b f t = Rt.qA (Dy.frac b f t) := by unfold Dy.fc; rw [if_pos (Dy.err_zero.2 h)]
theorem Dy.frac_bd {b f t : Int} (h : Dy.Ok b f t) : Rt.Bd (Dy.frac b f t) 27 18 := by
 by_cases h3 : b = 3
 ·subst h3; exact frac3_bd h.hf h.ht h.le
 ·have hd := Dy.days_bd h
  unfold Dy.frac
  rw [if_neg h3]
  split
  ·exact (small_bd (k := 365) hd.1 hd.2 (by omega) (by omega)).up
  ·exact (small_bd (k := 360) hd.1 hd.2 (by omega) (by omega)).up
theorem Dy.frac_of {b f t : Int} (h3 : b ≠ 3) : Dy.frac b f t = Rat.divInt (Dy.days b f t) (if b = 2 then 365 else 360) := by unfold Dy.frac; rw [if_neg h3]
end Go.Proofs.YtmbjaaaeekacfaaGreatDoor
