/- Walks, and plain facts for them. -/
import Derived.Test.YtmbjaaaeekacfaaGreatDoorPb31
namespace Go.Proofs.YtmbjaaaeekacfaaGreatDoor
set_option maxRecDepth 8000
open Go.RowKit
set_option maxRecDepth 100000 in
set_option maxHeartbeats 8000000 in
theorem asteps_any (A : Option Addr) (xs : List Int) (c0 : Nat) (W : World) (hI : IntsAt W A xs) (hxl : xs.length ≤ 9223372036854775807) :
    Calls Tryz.prog 6 #[.slice A xs.length c0] W fun e w' => e = .returned (.bool true) ∧ Below W.heap.size W w' := by
 have HM := Mem.start W
 have HI := Lib.hid hI
 have zz := Ag.za_z
 have KN := fun w => aknown_any w
 clear hI
 go_enter Tryz.func6, Tryz.ntmps6
 go_upto_region 2 with (first | ((with_reducible refine g_ld ?_); refine a_ld HM ?_) | ((with_reducible refine g_st ?_); refine a_st HM ?_; clear HM; intro w1 HM) | ((with_reducible refine g_al ?_); refine a_al HM ?_; clear HM; intro bk w1 HM) | ((with_reducible refine g_bx ?_); refine a_bx HM ?_; clear HM; intro bk w1 HM) | ((with_reducible refine g_bld ?_); refine a_bld ?_))
 obtain ⟨tb, rfl⟩ := HM.nm0
 have HC : Hid (TapeC W 0 #[.slice A xs.length c0, .int .i64 0]) := ⟨A, xs, c0, 0, rfl, by omega, by omega, HI.out, hxl⟩
 have H0 : Hid (Below W.heap.size W W) := Below.refl _ _
 have hle : ∀ b ∈ ([] : List Nat), W.heap.size ≤ b := by simp
 go_wp2_with fail
 (go_at_call 21; refine (agg_any W tb _ _ _ _ (HM.tp (by ((repeat (first | exact Look.here | refine Look.there ?_)); done)) HC.out H0.out hle) (by omega) (by decide +kernel) (by decide)).mono ?_; rintro e9 w2 ⟨a, r, x, rfl, hk, -, hnm, hun, -, -, hbd, hx1, ⟨c1, hb1', hc1, -, -⟩, hg9⟩; replace HM := HM.put (c' := c1) (by (repeat (first | exact At.here | apply At.there))) hb1' (Only.of_grown hg9); clear hg9 hb1'; replace HC := Lib.hid hc1; clear hc1)
 have la := Ag.la_c a
 have s0 := Ag.sa_c a Ag.z_size
 have fu : LA 3 a.c 135 (.int .i64 9497) := by rw [← hun]; exact (Ag.fun_ a.hr.size a.he.size).la
 have hd0 := isDay_yes (n := 9497) (by omega) (by omega)
 have hfx := hbd.fit
 have hself := Ac.acc_self hk hfx
 rw [hun] at hself
 have hsz : a.nm.size ≤ 9223372036854775807 := by rw [hnm]; decide
 have hbs : 1 ≤ a.bs ∧ a.bs ≤ 4 := by
  have := hk.tm
  unfold Ac.tm at this
  simp only [Bool.and_eq_true, decide_eq_true_eq] at this
  exact this.2.2.2
 have HK := Lib.hid hk
 have HBD := Lib.hid hbd
 have HX1 := Lib.hid hx1
 have HUN := Lib.hid hun
 have HBS := Lib.hid hbs
 have OKD : ∀ {te : Int}, 9497 ≤ te → te ≤ 20000 → Dy.Ok a.bs a.un te := fun h1 h2 => by
  rw [HUN.out]; exact ⟨HBS.out.1, HBS.out.2, hd0, isDay_yes (by omega) (by omega), h1⟩
 have HOKD : Hid (∀ {te : Int}, 9497 ≤ te → te ≤ 20000 → Dy.Ok a.bs a.un te) := Lib.hid OKD
 have HZ : Hid (Dy.frac a.bs a.un 9497 = 0) := Lib.hid (by rw [HUN.out]; exact Dy.frac_none (by have := OKD (te := 9497) (by omega) (by omega); rwa [HUN.out] at this))
 clear hk hbd hx1 hun OKD hbs hnm hd0
 go_wp2_with (first | ((with_reducible refine g_ld ?_); refine a_ld HM ?_) | ((with_reducible refine g_st ?_); refine a_st HM ?_; clear HM; intro w1 HM) | ((with_reducible refine g_al ?_); refine a_al HM ?_; clear HM; intro bk w1 HM) | ((with_reducible refine g_bx ?_); refine a_bx HM ?_; clear HM; intro bk w1 HM) | ((with_reducible refine g_bld ?_); refine a_bld ?_))
 (refine (next_any W tb _ _ _ (HM.tp (by ((repeat (first | exact Look.here | refine Look.there ?_)); done)) HC.out H0.out hle) (by omega) (by omega) (by omega)).mono ?_; rintro e9 w2 ⟨base, rfl, base0, base1, ⟨c1, hb1, hc1, -, -⟩, hg⟩; replace HM := HM.put (c' := c1) (by (repeat (first | exact At.here | apply At.there))) hb1 (Only.of_grown hg); clear hg hb1; replace HC := Lib.hid hc1; clear hc1)
 have hx0 : Hid (x = x + r * Dy.frac a.bs a.un 9497 * ((base : Int) : Rat)) := Lib.hid (by rw [HZ.out]; grind)
 go_upto_region 6 with (first | ((with_reducible refine g_ld ?_); refine a_ld HM ?_) | ((with_reducible refine g_st ?_); refine a_st HM ?_; clear HM; intro w1 HM) | ((with_reducible refine g_al ?_); refine a_al HM ?_; clear HM; intro bk w1 HM) | ((with_reducible refine g_bx ?_); refine a_bx HM ?_; clear HM; intro bk w1 HM) | ((with_reducible refine g_bld ?_); refine a_bld ?_))
 obtain ⟨b6, rfl⟩ := HM.nm0
 obtain ⟨b4, rfl⟩ := HM.nm1
 have HSELF := Lib.hid hself
 clear hself
 go_wp2_with (first | ((with_reducible refine g_ld ?_); refine a_ld HM ?_) | ((with_reducible refine g_st ?_); refine a_st HM ?_; clear HM; intro w1 HM) | ((with_reducible refine g_al ?_); refine a_al HM ?_; clear HM; intro bk w1 HM) | ((with_reducible refine g_bx ?_); refine a_bx HM ?_; clear HM; intro bk w1 HM) | ((with_reducible refine g_bld ?_); refine a_bld ?_))
 go_loopw [7, 8] (fun tv iv wr => ∃ (i : Nat) (te : Int) (y : Rat) (hy : Rt.Fit y) (c : Array Value), iv = .int .i64 (i : Nat) ∧ i ≤ 6 ∧ tv = .int .i64 te ∧ 9497 ≤ te ∧ te ≤ 9497 + 400 * i ∧ Hid (y = x + r * Dy.frac a.bs a.un te * ((base : Int) : Rat)) ∧ Hid (Ac.Ok (a.acc y hy te) r y) ∧ Hid (TapeC W (3000 + 20 * i) c) ∧ Mem W [] [(b6, (a.acc y hy te).c), (b4, a.c), (tb, c)] wr) (fun _ iv _ => (6 - intOf iv).toNat)
 case atStart =>
  obtain ⟨hf, hk2⟩ := Ac.step_ok HK.out HBD.out HX1.out base0 (by omega) (HOKD.out (te := 9497) (by omega) (by omega)) hx0.out
  exact ⟨0, 9497, x, _, _, rfl, by omega, rfl, by omega, by omega, hx0, Lib.hid hk2, Lib.hid (HC.out.mono (by omega)), by rw [HSELF.out]; exact HM⟩
 case round =>
  clear HM HC
  obtain ⟨i, te, y, hy, c, rfl, hi, rfl, t0, t1, HY, HKY, HC, HM⟩ := hrel
  go_wp2_with fail
  (refine (next_any W tb _ _ _ (HM.tp (by ((repeat (first | exact Look.here | refine Look.there ?_)); done)) HC.out H0.out hle) (by omega) (by omega) (by omega)).mono ?_; rintro e9 w2 ⟨v, rfl, v0, v1, ⟨c1, hb1, hc1, -, -⟩, hg⟩; replace HM := HM.put (c' := c1) (by (repeat (first | exact At.here | apply At.there))) hb1 (Only.of_grown hg); clear hg hb1; replace HC := Lib.hid hc1; clear hc1)
  by_cases hlt : (i : Int) < 1 + v
  ·go_wp2_with fail
   (refine (pick_new (tb := tb) (W := W) HM (by ((repeat (first | exact Look.here | refine Look.there ?_)); done)) HC.out H0.out (by first | exact hle | simpa using hle) [0, 1, 1, 2, 30, 400] _ (by omega) (by simp) (by simp)).mono ?_; rintro e9 w2 ⟨v1, c1, rfl, hv, hc1, hb1, hg⟩; replace HM := HM.put (c' := c1) (by (repeat (first | exact At.here | apply At.there))) hb1 hg; clear hg hb1; replace HC := Lib.hid hc1; clear hc1)
   have hvb : 0 ≤ v1 ∧ v1 ≤ 400 := by
    simp only [List.mem_cons, List.not_mem_nil, or_false] at hv
    omega
   obtain ⟨p0, p1⟩ := hvb
   clear hv
   obtain ⟨to2, hto2⟩ : ∃ to2, te + v1 = to2 := ⟨_, rfl⟩
   have q0 : te ≤ to2 := by omega
   have q1 : to2 ≤ te + 400 := by omega
   have D1 := HOKD.out (te := te) (by omega) (by omega)
   have D2 := HOKD.out (te := to2) (by omega) (by omega)
   have D3 : Dy.Ok a.bs te to2 := ⟨D1.b1, D1.b2, D1.ht, D2.ht, q0⟩
   obtain ⟨z, hz⟩ : ∃ z, Hid (z = x + r * Dy.frac a.bs a.un to2 * ((base : Int) : Rat)) := ⟨_, Lib.hid rfl⟩
   obtain ⟨hfz, hkz⟩ := Ac.step_ok HK.out HBD.out HX1.out base0 (by omega) D2 hz.out
   have AC := fun w => accrue_any (a.acc y hy te) hsz base to2 _ 0 (Lib.hid (Ac.two_ok HKY.out hkz base0 (by omega) D1 D3 HY.out hz.out).symm) w
   have HKZ := Lib.hid hkz
   have ly := Ag.la_c (a.acc y hy te)
   have lz := Ag.la_c (a.acc z hfz to2)
   have sz := Ag.sa_c (a.acc z hfz to2) Ag.z_size
   have sy := Ag.sa_c (a.acc z hfz to2) (Ag.c_size (a.acc y hy te))
   clear D1 D2 D3 hkz
   go_wp2_with (first | (go_at_call 11; ((with_reducible refine (AC _).mono ?_); rintro e9 w2 ⟨rfl, hL⟩; replace HM := HM.call hL; clear hL)) | (first | ((with_reducible refine g_ld ?_); refine a_ld HM ?_) | ((with_reducible refine g_st ?_); refine a_st HM ?_; clear HM; intro w1 HM) | ((with_reducible refine g_al ?_); refine a_al HM ?_; clear HM; intro bk w1 HM) | ((with_reducible refine g_bx ?_); refine a_bx HM ?_; clear HM; intro bk w1 HM) | ((with_reducible refine g_bld ?_); refine a_bld ?_)))
   go_roundw
   case rel => exact ⟨i + 1, to2, z, hfz, _, by go_num, by omega, rfl, by omega, by omega, hz, HKZ, Lib.hid (HC.out.mono (by omega)), HM.pick⟩
   case measure => simp [intOf]; omega
  ·have D1 := HOKD.out (te := te) (by omega) (by omega)
   obtain ⟨AQ, -⟩ := Ac.ac_ok HK.out (base := base) (d9 := te) (by omega) (by omega) D1 HY.out hy HKY.out.x1
   have AC := fun w => accrue_any a hsz base te _ 0 (Lib.hid AQ.symm) w
   have ly := Ag.la_c (a.acc y hy te)
   have sy := Ag.sa_c (a.acc y hy te) Ag.z_size
   have Q1 := Ag.eq_self (a.acc y hy te)
   clear D1 AQ
   generalize Ag.c (a.acc y hy te) = Y at *
   go_wp2_with (first | (go_at_call 11; ((with_reducible refine (AC _).mono ?_); rintro e9 w2 ⟨rfl, hL⟩; replace HM := HM.call hL; clear hL)) | (go_at_call 17; ((with_reducible refine (KN _).mono ?_); rintro e9 w2 ⟨rfl, hL⟩; replace HM := HM.call hL; clear hL)) | ((with_reducible refine g_bin ?_); refine a_cmps .eql true (.inl rfl) (Q1) rfl (by kernel_rfl) ?_) | (first | ((with_reducible refine g_ld ?_); refine a_ld HM ?_) | ((with_reducible refine g_st ?_); refine a_st HM ?_; clear HM; intro w1 HM) | ((with_reducible refine g_al ?_); refine a_al HM ?_; clear HM; intro bk w1 HM) | ((with_reducible refine g_bx ?_); refine a_bx HM ?_; clear HM; intro bk w1 HM) | ((with_reducible refine g_bld ?_); refine a_bld ?_)))
   go_ret
   exact ⟨rfl, HM.low⟩
end Go.Proofs.YtmbjaaaeekacfaaGreatDoor
