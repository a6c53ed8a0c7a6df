/- Walks, and plain facts for them. -/
import Derived.Test.YtmbjaaaeekacfaaGreatDoorPb26
import Derived.Test.YtmbjaaaeekacfaaGreatDoorPb25
namespace Go.Proofs.YtmbjaaaeekacfaaGreatDoor
set_option maxRecDepth 8000
open Go.RowKit
set_option maxHeartbeats 4000000 in
theorem fraction_any (b f t : Int) (w : World) :
    Calls Tryz.prog 44 #[.int .i64 b, .int .i64 f, .int .i64 t] w fun r w' => r = .returned (.tuple #[.agg (Dy.fc b f t), .int .i64 (Dy.err b f t)]) ∧ Below w.heap.size w w' := by
 have HM := Mem.start w
 have hz0 := za_rat
 by_cases he : Dy.err b f t = 0
 ·have hok := Dy.err_zero.1 he
  have hdb := Dy.days_bd hok
  have hbd := Dy.frac_bd hok
  obtain ⟨z, hz⟩ : ∃ z, Hid (z = Dy.frac b f t) := ⟨_, rfl⟩
  have fz : Rt.Fit z := by rw [hz.out]; exact hbd.fit
  have HD : ∀ w, Hid (Calls Tryz.prog 82 #[.int .i64 b, .int .i64 f, .int .i64 t] w fun e w' => e = .returned (.tuple #[.int .i64 (Dy.days b f t), .int .i64 0]) ∧ Below w.heap.size w w') := fun w => Lib.hid (by have := bel (days_any b f t w); rwa [he] at this)
  rw [Dy.fc_ok hok, he, ← hz.out]
  have sz := sa_q z (rZ_size 0 0)
  have HO := Lib.hid hok
  obtain ⟨d0, d1⟩ := hdb
  by_cases h3 : b = 3
  ·subst h3
   rw [show Dy.days 3 f t = t - f from by rw [Dy.days_ok hok, if_neg (by decide)]] at HD d0 d1
   have HD2 := Lib.hid HD
   have HA : ∀ w, Hid (Calls Tryz.prog 83 #[.int .i64 f, .int .i64 t] w fun r w' => r = .returned (.tuple #[.agg (Rt.qA z), .int .i64 0]) ∧ Below w.heap.size w w') := fun w => Lib.hid (by rw [hz.out]; exact actual_any f t w hok.hf hok.ht hok.le)
   have HA2 := Lib.hid HA
   clear HD HA hbd hok he
   go_enter Tryz.func44, Tryz.ntmps44
   go_wp2_with (first | (go_at_call 82; ((with_reducible refine ((HD2.out _).out).mono ?_); rintro e9 w2 ⟨rfl, hL⟩; replace HM := HM.call hL; clear hL)) | (go_at_call 83; ((with_reducible refine ((HA2.out _).out).mono ?_); rintro e9 w2 ⟨rfl, hL⟩; replace HM := HM.call hL; clear hL)) | (first | ((with_reducible refine g_st ?_); refine a_st HM ?_; clear HM; intro w1 HM) | ((with_reducible refine g_al ?_); refine a_al HM ?_; clear HM; intro bk w1 HM) | ((with_reducible refine g_bld ?_); refine a_bld ?_)))
   refine bodyPost_ret (r_ct rfl rfl (HM.get (by ((repeat (first | exact Look.here | refine Look.there ?_)); done))) (la_q _)) rfl ⟨rfl, HM.low⟩
  ·have hfr := Lib.hid (Dy.frac_of (f := f) (t := t) h3)
   have hb3 : ((b : Int) == 3) = false := by simpa using h3
   obtain ⟨d, hd⟩ : ∃ d, d = Dy.days b f t := ⟨_, rfl⟩
   rw [← hd] at HD d0 d1 hfr
   have HD2 := Lib.hid HD
   clear HD hbd hok he hd h3
   by_cases h2 : b = 2
   ·subst h2
    have hx : Hid (z = Rat.divInt d 365) := Lib.hid (by rw [hz.out, hfr.out, if_pos rfl])
    go_enter Tryz.func44, Tryz.ntmps44
    go_wp2_with (first | (go_at_call 82; ((with_reducible refine ((HD2.out _).out).mono ?_); rintro e9 w2 ⟨rfl, hL⟩; replace HM := HM.call hL; clear hL)) | (go_at_call 84; ((with_reducible refine (of_q d 365 z (by omega) (by omega) (by omega) (by omega) (by omega) hx _).mono ?_); rintro e9 w2 ⟨rfl, hL⟩; replace HM := HM.call hL; clear hL)) | (first | ((with_reducible refine g_st ?_); refine a_st HM ?_; clear HM; intro w1 HM) | ((with_reducible refine g_al ?_); refine a_al HM ?_; clear HM; intro bk w1 HM) | ((with_reducible refine g_bld ?_); refine a_bld ?_)))
    refine bodyPost_ret (r_ct rfl rfl (HM.get (by ((repeat (first | exact Look.here | refine Look.there ?_)); done))) (la_q _)) rfl ⟨rfl, HM.low⟩
   ·have hx : Hid (z = Rat.divInt d 360) := Lib.hid (by rw [hz.out, hfr.out, if_neg h2])
    have hb2 : ((b : Int) == 2) = false := by simpa using h2
    clear h2
    go_enter Tryz.func44, Tryz.ntmps44
    go_wp2_with (first | (go_at_call 82; ((with_reducible refine ((HD2.out _).out).mono ?_); rintro e9 w2 ⟨rfl, hL⟩; replace HM := HM.call hL; clear hL)) | (go_at_call 84; ((with_reducible refine (of_q d 360 z (by omega) (by omega) (by omega) (by omega) (by omega) hx _).mono ?_); rintro e9 w2 ⟨rfl, hL⟩; replace HM := HM.call hL; clear hL)) | (first | ((with_reducible refine g_st ?_); refine a_st HM ?_; clear HM; intro w1 HM) | ((with_reducible refine g_al ?_); refine a_al HM ?_; clear HM; intro bk w1 HM) | ((with_reducible refine g_bld ?_); refine a_bld ?_)))
    refine bodyPost_ret (r_ct rfl rfl (HM.get (by ((repeat (first | exact Look.here | refine Look.there ?_)); done))) (la_q _)) rfl ⟨rfl, HM.low⟩
 ·have hfc : Dy.fc b f t = Bg.rZ 0 0 := by unfold Dy.fc; rw [if_neg he]
  have HD : ∀ w, Hid (Calls Tryz.prog 82 #[.int .i64 b, .int .i64 f, .int .i64 t] w fun e w' => e = .returned (.tuple #[.int .i64 0, .int .i64 (Dy.err b f t)]) ∧ Below w.heap.size w w') := fun w => Lib.hid (by have := bel (days_any b f t w); rwa [show Dy.days b f t = 0 from by unfold Dy.days; rw [if_pos he]] at this)
  rw [hfc]
  obtain ⟨e, hee⟩ : ∃ e, e = Dy.err b f t := ⟨_, rfl⟩
  rw [← hee] at HD he ⊢
  have HD2 := Lib.hid HD
  have hne : ((e : Int) != 0) = true := by simpa using he
  have s0 := sa_rz 0 0 (rZ_size 0 0)
  clear HD hee hfc he
  go_enter Tryz.func44, Tryz.ntmps44
  go_wp2_with (first | ((with_reducible refine g_bld ?_); refine a_rbl ?_) | (go_at_call 82; ((with_reducible refine ((HD2.out _).out).mono ?_); rintro e9 w2 ⟨rfl, hL⟩; replace HM := HM.call hL; clear hL)) | (first | ((with_reducible refine g_st ?_); refine a_st HM ?_; clear HM; intro w1 HM) | ((with_reducible refine g_al ?_); refine a_al HM ?_; clear HM; intro bk w1 HM) | ((with_reducible refine g_bld ?_); refine a_bld ?_)))
  refine bodyPost_ret (r_ct rfl rfl (HM.get (by ((repeat (first | exact Look.here | refine Look.there ?_)); done))) (la_rz _ _)) rfl ⟨rfl, HM.low⟩
set_option maxHeartbeats 4000000 in
theorem rfraction_any (b f t : Int) (w : World) :
    Calls Tryz.prog 31 #[.int .i64 b, .int .i64 f, .int .i64 t] w fun r w' => r = .returned (.tuple #[.agg (Dy.fc b f t), .int .i64 (Dy.err b f t)]) ∧ Below w.heap.size w w' := by
 have HM := Mem.start w
 have hz0 := za_rat
 by_cases he : Dy.err b f t = 0
 ·have hok := Dy.err_zero.1 he
  have hdb := Dy.days_bd hok
  have hbd := Dy.frac_bd hok
  obtain ⟨z, hz⟩ : ∃ z, Hid (z = Dy.frac b f t) := ⟨_, rfl⟩
  have fz : Rt.Fit z := by rw [hz.out]; exact hbd.fit
  have HD : ∀ w, Hid (Calls Tryz.prog 63 #[.int .i64 b, .int .i64 f, .int .i64 t] w fun e w' => e = .returned (.tuple #[.int .i64 (Dy.days b f t), .int .i64 0]) ∧ Below w.heap.size w w') := fun w => Lib.hid (by have := bel (rdaysP_any b f t w); rwa [he] at this)
  rw [Dy.fc_ok hok, he, ← hz.out]
  have sz := sa_q z (rZ_size 0 0)
  have HO := Lib.hid hok
  obtain ⟨d0, d1⟩ := hdb
  by_cases h3 : b = 3
  ·subst h3
   rw [show Dy.days 3 f t = t - f from by rw [Dy.days_ok hok, if_neg (by decide)]] at HD d0 d1
   have HD2 := Lib.hid HD
   have HA : ∀ w, Hid (Calls Tryz.prog 64 #[.int .i64 f, .int .i64 t] w fun r w' => r = .returned (.agg (Rt.qA z)) ∧ Below w.heap.size w w') := fun w => Lib.hid (by rw [hz.out]; exact ractual_any f t w hok.hf hok.ht hok.le)
   have HA2 := Lib.hid HA
   clear HD HA hbd hok he
   go_enter Tryz.func31, Tryz.ntmps31
   go_wp2_with (first | (go_at_call 63; ((with_reducible refine ((HD2.out _).out).mono ?_); rintro e9 w2 ⟨rfl, hL⟩; replace HM := HM.call hL; clear hL)) | (go_at_call 64; ((with_reducible refine ((HA2.out _).out).mono ?_); rintro e9 w2 ⟨rfl, hL⟩; replace HM := HM.call hL; clear hL)) | (first | ((with_reducible refine g_st ?_); refine a_st HM ?_; clear HM; intro w1 HM) | ((with_reducible refine g_al ?_); refine a_al HM ?_; clear HM; intro bk w1 HM) | ((with_reducible refine g_bld ?_); refine a_bld ?_)))
   refine bodyPost_ret (r_ct rfl rfl (HM.get (by ((repeat (first | exact Look.here | refine Look.there ?_)); done))) (la_q _)) rfl ⟨rfl, HM.low⟩
  ·have hfr := Lib.hid (Dy.frac_of (f := f) (t := t) h3)
   have hb3 : ((b : Int) == 3) = false := by simpa using h3
   obtain ⟨d, hd⟩ : ∃ d, d = Dy.days b f t := ⟨_, rfl⟩
   rw [← hd] at HD d0 d1 hfr
   have HD2 := Lib.hid HD
   clear HD hbd hok he hd h3
   by_cases h2 : b = 2
   ·subst h2
    have hx : Hid (z = Rat.divInt d 365) := Lib.hid (by rw [hz.out, hfr.out, if_pos rfl])
    go_enter Tryz.func31, Tryz.ntmps31
    go_wp2_with (first | (go_at_call 63; ((with_reducible refine ((HD2.out _).out).mono ?_); rintro e9 w2 ⟨rfl, hL⟩; replace HM := HM.call hL; clear hL)) | (go_at_call 57; ((with_reducible refine (rof_q d 365 z (by omega) (by omega) (by omega) (by omega) (by omega) hx _).mono ?_); rintro e9 w2 ⟨rfl, hL⟩; replace HM := HM.call hL; clear hL)) | (first | ((with_reducible refine g_st ?_); refine a_st HM ?_; clear HM; intro w1 HM) | ((with_reducible refine g_al ?_); refine a_al HM ?_; clear HM; intro bk w1 HM) | ((with_reducible refine g_bld ?_); refine a_bld ?_)))
    refine bodyPost_ret (r_ct rfl rfl (HM.get (by ((repeat (first | exact Look.here | refine Look.there ?_)); done))) (la_q _)) rfl ⟨rfl, HM.low⟩
   ·have hx : Hid (z = Rat.divInt d 360) := Lib.hid (by rw [hz.out, hfr.out, if_neg h2])
    have hb2 : ((b : Int) == 2) = false := by simpa using h2
    clear h2
    go_enter Tryz.func31, Tryz.ntmps31
    go_wp2_with (first | (go_at_call 63; ((with_reducible refine ((HD2.out _).out).mono ?_); rintro e9 w2 ⟨rfl, hL⟩; replace HM := HM.call hL; clear hL)) | (go_at_call 57; ((with_reducible refine (rof_q d 360 z (by omega) (by omega) (by omega) (by omega) (by omega) hx _).mono ?_); rintro e9 w2 ⟨rfl, hL⟩; replace HM := HM.call hL; clear hL)) | (first | ((with_reducible refine g_st ?_); refine a_st HM ?_; clear HM; intro w1 HM) | ((with_reducible refine g_al ?_); refine a_al HM ?_; clear HM; intro bk w1 HM) | ((with_reducible refine g_bld ?_); refine a_bld ?_)))
    refine bodyPost_ret (r_ct rfl rfl (HM.get (by ((repeat (first | exact Look.here | refine Look.there ?_)); done))) (la_q _)) rfl ⟨rfl, HM.low⟩
 ·have hfc : Dy.fc b f t = Bg.rZ 0 0 := by unfold Dy.fc; rw [if_neg he]
  have HD : ∀ w, Hid (Calls Tryz.prog 63 #[.int .i64 b, .int .i64 f, .int .i64 t] w fun e w' => e = .returned (.tuple #[.int .i64 0, .int .i64 (Dy.err b f t)]) ∧ Below w.heap.size w w') := fun w => Lib.hid (by have := bel (rdaysP_any b f t w); rwa [show Dy.days b f t = 0 from by unfold Dy.days; rw [if_pos he]] at this)
  rw [hfc]
  obtain ⟨e, hee⟩ : ∃ e, e = Dy.err b f t := ⟨_, rfl⟩
  rw [← hee] at HD he ⊢
  have HD2 := Lib.hid HD
  have hne : ((e : Int) != 0) = true := by simpa using he
  have s0 := sa_rz 0 0 (rZ_size 0 0)
  clear HD hee hfc he
  go_enter Tryz.func31, Tryz.ntmps31
  go_wp2_with (first | ((with_reducible refine g_bld ?_); refine a_rbl ?_) | (go_at_call 63; ((with_reducible refine ((HD2.out _).out).mono ?_); rintro e9 w2 ⟨rfl, hL⟩; replace HM := HM.call hL; clear hL)) | (first | ((with_reducible refine g_st ?_); refine a_st HM ?_; clear HM; intro w1 HM) | ((with_reducible refine g_al ?_); refine a_al HM ?_; clear HM; intro bk w1 HM) | ((with_reducible refine g_bld ?_); refine a_bld ?_)))
  refine bodyPost_ret (r_ct rfl rfl (HM.get (by ((repeat (first | exact Look.here | refine Look.there ?_)); done))) (la_rz _ _)) rfl ⟨rfl, HM.low⟩
end Go.Proofs.YtmbjaaaeekacfaaGreatDoor
namespace Go.Proofs.YtmbjaaaeekacfaaGreatDoor
set_option maxRecDepth 8000
open Go.RowKit
def DayPost (W : World) (tb m : Nat) (w : World) (e : Ending) (w' : World) : Prop :=
 ∃ v : Int, e = .returned (.int .i64 v) ∧ 0 ≤ v ∧ v ≤ 73048 ∧ Tp W tb (m + 1000) w' ∧ w.grownBy w' (some tb)
set_option maxHeartbeats 2000000 in
theorem day_any (W : World) (tb m : Nat) (w : World) (hT : Tp W tb m w) (hm : m ≤ 900000000) :
    Calls Tryz.prog 20 #[.pointer (some ⟨tb, 0, none⟩)] w (DayPost W tb m w) := by
 obtain ⟨cs, hb, hc, h0, hle0⟩ := hT
 have HM := Mem.start1 w hb
 have HC := Lib.hid hc
 have H0 := Lib.hid h0
 have hle : ∀ b ∈ [tb], W.heap.size ≤ b := by simpa using hle0
 clear hb hc h0
 go_enter Tryz.func20, Tryz.ntmps20
 go_wp2_with fail
 (refine (next_any W tb _ _ _ (HM.tp (by ((repeat (first | exact Look.here | refine Look.there ?_)); done)) HC.out H0.out hle) (by omega) (by omega) (by omega)).mono ?_; rintro e9 w2 ⟨k, rfl, k0, k1, ⟨c1, hb1, hc1, -, -⟩, hg⟩; replace HM := HM.put (c' := c1) (by (repeat (first | exact At.here | apply At.there))) hb1 (Only.of_grown hg); clear hg hb1; replace HC := Lib.hid hc1; clear hc1)
 by_cases c0 : k = 0
 ·subst c0
  go_wp2_with fail
  (refine (next_any W tb _ _ _ (HM.tp (by ((repeat (first | exact Look.here | refine Look.there ?_)); done)) HC.out H0.out hle) (by omega) (by omega) (by omega)).mono ?_; rintro e9 w2 ⟨v, rfl, v0, v1, ⟨c1, hb1, hc1, -, -⟩, hg⟩; replace HM := HM.put (c' := c1) (by (repeat (first | exact At.here | apply At.there))) hb1 (Only.of_grown hg); clear hg hb1; replace HC := Lib.hid hc1; clear hc1)
  go_wp2_with fail
  obtain ⟨hT, hg⟩ := HM.done (by ((repeat (first | exact Look.here | refine Look.there ?_)); done)) HC.out H0.out hle0
  go_ret
  exact ⟨v, rfl, by omega, by omega, hT.mono (by omega), hg⟩
 by_cases c1 : k = 1
 ·subst c1
  go_wp2_with fail
  (refine (next_any W tb _ _ _ (HM.tp (by ((repeat (first | exact Look.here | refine Look.there ?_)); done)) HC.out H0.out hle) (by omega) (by omega) (by omega)).mono ?_; rintro e9 w2 ⟨v, rfl, v0, v1, ⟨c1, hb1, hc1, -, -⟩, hg⟩; replace HM := HM.put (c' := c1) (by (repeat (first | exact At.here | apply At.there))) hb1 (Only.of_grown hg); clear hg hb1; replace HC := Lib.hid hc1; clear hc1)
  go_wp2_with fail
  obtain ⟨hT, hg⟩ := HM.done (by ((repeat (first | exact Look.here | refine Look.there ?_)); done)) HC.out H0.out hle0
  go_ret
  exact ⟨73048 - v, rfl, by omega, by omega, hT.mono (by omega), hg⟩
 by_cases c2 : k = 2
 ·subst c2
  go_wp2_with fail
  (refine (next_any W tb _ _ _ (HM.tp (by ((repeat (first | exact Look.here | refine Look.there ?_)); done)) HC.out H0.out hle) (by omega) (by omega) (by omega)).mono ?_; rintro e9 w2 ⟨v, rfl, v0, v1, ⟨c1, hb1, hc1, -, -⟩, hg⟩; replace HM := HM.put (c' := c1) (by (repeat (first | exact At.here | apply At.there))) hb1 (Only.of_grown hg); clear hg hb1; replace HC := Lib.hid hc1; clear hc1)
  go_wp2_with fail
  obtain ⟨hT, hg⟩ := HM.done (by ((repeat (first | exact Look.here | refine Look.there ?_)); done)) HC.out H0.out hle0
  go_ret
  exact ⟨v, rfl, by omega, by omega, hT.mono (by omega), hg⟩
 by_cases c3 : k = 3
 ·subst c3
  go_wp2_with fail
  (refine (pick_new (tb := tb) (W := W) HM (by ((repeat (first | exact Look.here | refine Look.there ?_)); done)) HC.out H0.out (by first | exact hle | simpa using hle) [59, 60, 365, 366, 1520, 8825, 36584, 36583, 36525, 9861, 9862] _ (by omega) (by simp) (by simp)).mono ?_; rintro e9 w2 ⟨v1, c1, rfl, hv, hc1, hb1, hg⟩; replace HM := HM.put (c' := c1) (by (repeat (first | exact At.here | apply At.there))) hb1 hg; clear hg hb1; replace HC := Lib.hid hc1; clear hc1)
  have hvb : 0 ≤ v1 ∧ v1 ≤ 36584 := by
   simp only [List.mem_cons, List.not_mem_nil, or_false] at hv
   omega
  obtain ⟨v0, v2⟩ := hvb
  clear hv
  go_wp2_with fail
  obtain ⟨hT, hg⟩ := HM.done (by ((repeat (first | exact Look.here | refine Look.there ?_)); done)) HC.out H0.out hle0
  go_ret
  exact ⟨v1, rfl, by omega, by omega, hT.mono (by omega), hg⟩
 have a0 : ((k : Int) == 0) = false := by simpa using c0
 have a1 : ((k : Int) == 1) = false := by simpa using c1
 have a2 : ((k : Int) == 2) = false := by simpa using c2
 have a3 : ((k : Int) == 3) = false := by simpa using c3
 clear c0 c1 c2 c3
 go_wp2_with fail
 (refine (next_any W tb _ _ _ (HM.tp (by ((repeat (first | exact Look.here | refine Look.there ?_)); done)) HC.out H0.out hle) (by omega) (by omega) (by omega)).mono ?_; rintro e9 w2 ⟨v, rfl, v0, v1, ⟨c1, hb1, hc1, -, -⟩, hg⟩; replace HM := HM.put (c' := c1) (by (repeat (first | exact At.here | apply At.there))) hb1 (Only.of_grown hg); clear hg hb1; replace HC := Lib.hid hc1; clear hc1)
 go_wp2_with fail
 obtain ⟨hT, hg⟩ := HM.done (by ((repeat (first | exact Look.here | refine Look.there ?_)); done)) HC.out H0.out hle0
 go_ret
 exact ⟨9487 + v, rfl, by omega, by omega, hT.mono (by omega), hg⟩
end Go.Proofs.YtmbjaaaeekacfaaGreatDoor
namespace Go.Proofs.YtmbjaaaeekacfaaGreatDoor
set_option maxRecDepth 8000
open Go.RowKit
theorem rzero_d (w : World) : Calls Tryz.prog 30 #[] w fun r w' => r = .returned (.agg (Rt.qA 0)) ∧ Below w.heap.size w w' := by
 have HM := Mem.start w
 have hz0 := za_rat
 have hs := sa_q 0 (rZ_size 0 0)
 obtain ⟨x, hx⟩ : ∃ x : Rat, Hid (x = ((0 : Int) : Rat)) := ⟨_, rfl⟩
 obtain rfl : x = 0 := hx.out
 go_enter Tryz.func30, Tryz.ntmps30
 go_wp2_with (first | (go_at_call 33; ((with_reducible refine (rwhole_q 0 0 (by omega) (by omega) hx _).mono ?_); rintro e9 w2 ⟨rfl, hL⟩; replace HM := HM.call hL; clear hL)) | (first | ((with_reducible refine g_st ?_); refine a_st HM ?_; clear HM; intro w1 HM) | ((with_reducible refine g_al ?_); refine a_al HM ?_; clear HM; intro bk w1 HM)))
 refine bodyPost_ret (r_c rfl rfl (HM.get (by ((repeat (first | exact Look.here | refine Look.there ?_)); done))) (la_q _)) rfl ⟨rfl, HM.low⟩
theorem Dy.add_same (a b k : Int) : Rat.divInt a k + Rat.divInt b k = Rat.divInt (a + b) k := by
 rw [Rat.divInt_eq_div, Rat.divInt_eq_div, Rat.divInt_eq_div, Rat.intCast_add]
 grind
theorem Dy.ok_trans {b f m t : Int} (h1 : Dy.Ok b f m) (h2 : Dy.Ok b m t) : Dy.Ok b f t := ⟨h1.b1, h1.b2, h1.hf, h2.ht, Int.le_trans h1.le h2.le⟩
theorem Dy.days_add {b f m t : Int} (h1 : Dy.Ok b f m) (h2 : Dy.Ok b m t) : Dy.days b f t = Dy.days b f m + Dy.days b m t := by
 rw [Dy.days_ok h1, Dy.days_ok h2, Dy.days_ok (Dy.ok_trans h1 h2)]
 split <;> omega
theorem Dy.frac_add {b f m t : Int} (h1 : Dy.Ok b f m) (h2 : Dy.Ok b m t) : Dy.frac b f t = Dy.frac b f m + Dy.frac b m t := by
 by_cases h : b = 3
 ·subst h
  have e1 := Dy.add_same (m - f - (Dy.ld m - Dy.ld f)) (t - m - (Dy.ld t - Dy.ld m)) 365
  have e2 := Dy.add_same (Dy.ld m - Dy.ld f) (Dy.ld t - Dy.ld m) 366
  rw [show m - f - (Dy.ld m - Dy.ld f) + (t - m - (Dy.ld t - Dy.ld m)) = t - f - (Dy.ld t - Dy.ld f) from by omega] at e1
  rw [show Dy.ld m - Dy.ld f + (Dy.ld t - Dy.ld m) = Dy.ld t - Dy.ld f from by omega] at e2
  rw [frac3, frac3, frac3, ← e1, ← e2]
  grind
 ·rw [Dy.frac_of h, Dy.frac_of h, Dy.frac_of h, Dy.days_add h1 h2, Dy.add_same]
theorem Dy.frac_none {b f : Int} (h : Dy.Ok b f f) : Dy.frac b f f = 0 := by
 by_cases h3 : b = 3
 ·subst h3
  rw [frac3, show f - f - (Dy.ld f - Dy.ld f) = 0 from by omega, show Dy.ld f - Dy.ld f = 0 from by omega, Rat.zero_divInt, Rat.zero_divInt, Rat.add_zero]
 ·rw [Dy.frac_of h3, Dy.days_ok h, show (if b = 4 then Dy.pos f - Dy.pos f else f - f) = 0 from by split <;> omega, Rat.zero_divInt]
theorem Dy.frac_nonneg {b f t : Int} (h : Dy.Ok b f t) : 0 ≤ Dy.frac b f t := by
 by_cases h3 : b = 3
 ·subst h3
  have h1 := Dy.ld_le h.hf h.ht h.le
  rw [frac3]
  have a1 : 0 ≤ Rat.divInt (t - f - (Dy.ld t - Dy.ld f)) 365 := Rat.divInt_nonneg (by omega) (by omega)
  have a2 : 0 ≤ Rat.divInt (Dy.ld t - Dy.ld f) 366 := Rat.divInt_nonneg (by omega) (by omega)
  grind
 ·rw [Dy.frac_of h3]
  exact Rat.divInt_nonneg (Dy.days_bd h).1 (by split <;> omega)
end Go.Proofs.YtmbjaaaeekacfaaGreatDoor
