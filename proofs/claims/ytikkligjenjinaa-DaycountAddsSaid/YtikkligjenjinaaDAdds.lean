/- DaycountAdds, walked. -/
import Derived.Test.YtikkligjenjinaaDPeriods
namespace Go.Proofs.Ytikkligjenjinaa
set_option maxRecDepth 8000
open Go.RowKit
theorem rzero_q (w : World) : Calls Try.prog 18 #[] w fun r w' => r = .returned (.agg (Rt.qA 0)) ∧ Below w.heap.size w w' := by
  have HM := Mem.start w
  have hz0 := za_rat
  have hs := sa_q 0 (rZ_size 0 0)
  obtain ⟨x, hx⟩ : ∃ x : Rat, Hid (x = ((0 : Int) : Rat)) := ⟨_, rfl⟩
  obtain rfl : x = 0 := hx.out
  go_enter Try.func18, Try.ntmps18
  go_wp2_with (first | (go_at_call 39; ((with_reducible refine (rwhole_q 0 0 (by omega) (by omega) hx _).mono ?_); rintro e9 w2 ⟨rfl, hL⟩; replace HM := HM.call hL; clear hL)) | (first | ((with_reducible refine g_ld ?_); refine a_ld HM ?_) | ((with_reducible refine g_st ?_); refine a_st HM ?_; clear HM; intro w1 HM) | ((with_reducible refine g_al ?_); refine a_al HM ?_; clear HM; intro bk w1 HM) | ((with_reducible refine g_bx ?_); refine a_bx HM ?_; clear HM; intro bk w1 HM) | ((with_reducible refine g_bld ?_); refine a_bld ?_)))
  refine bodyPost_ret (r_c rfl rfl (HM.get (by ((repeat (first | exact Look.here | refine Look.there ?_)); done))) (la_q _)) rfl ⟨rfl, HM.low⟩
theorem Dy.add_same (a b k : Int) : Rat.divInt a k + Rat.divInt b k = Rat.divInt (a + b) k := by
  rw [Rat.divInt_eq_div, Rat.divInt_eq_div, Rat.divInt_eq_div, Rat.intCast_add]
  grind
theorem Dy.ok_trans {b f m t : Int} (h1 : Dy.Ok b f m) (h2 : Dy.Ok b m t) : Dy.Ok b f t := ⟨h1.b1, h1.b2, h1.hf, h2.ht, Int.le_trans h1.le h2.le⟩
theorem Dy.days_add {b f m t : Int} (h1 : Dy.Ok b f m) (h2 : Dy.Ok b m t) : Dy.days b f t = Dy.days b f m + Dy.days b m t := by
  rw [Dy.days_ok h1, Dy.days_ok h2, Dy.days_ok (Dy.ok_trans h1 h2)]
  split <;> omega
theorem Dy.frac_add {b f m t : Int} (h1 : Dy.Ok b f m) (h2 : Dy.Ok b m t) : Dy.frac b f t = Dy.frac b f m + Dy.frac b m t := by
  by_cases h : b = 3
  · subst h
    have e1 := Dy.add_same (m - f - (Dy.ld m - Dy.ld f)) (t - m - (Dy.ld t - Dy.ld m)) 365
    have e2 := Dy.add_same (Dy.ld m - Dy.ld f) (Dy.ld t - Dy.ld m) 366
    rw [show m - f - (Dy.ld m - Dy.ld f) + (t - m - (Dy.ld t - Dy.ld m)) = t - f - (Dy.ld t - Dy.ld f) from by omega] at e1
    rw [show Dy.ld m - Dy.ld f + (Dy.ld t - Dy.ld m) = Dy.ld t - Dy.ld f from by omega] at e2
    rw [frac3, frac3, frac3, ← e1, ← e2]
    grind
  · rw [Dy.frac_of h, Dy.frac_of h, Dy.frac_of h, Dy.days_add h1 h2, Dy.add_same]
theorem Dy.frac_none {b f : Int} (h : Dy.Ok b f f) : Dy.frac b f f = 0 := by
  by_cases h3 : b = 3
  · subst h3
    rw [frac3, show f - f - (Dy.ld f - Dy.ld f) = 0 from by omega, show Dy.ld f - Dy.ld f = 0 from by omega, Rat.zero_divInt, Rat.zero_divInt, Rat.add_zero]
  · rw [Dy.frac_of h3, Dy.days_ok h, show (if b = 4 then Dy.pos f - Dy.pos f else f - f) = 0 from by split <;> omega, Rat.zero_divInt]
theorem Dy.frac_nonneg {b f t : Int} (h : Dy.Ok b f t) : 0 ≤ Dy.frac b f t := by
  by_cases h3 : b = 3
  · subst h3
    have h1 := Dy.ld_le h.hf h.ht h.le
    rw [frac3]
    have a1 : 0 ≤ Rat.divInt (t - f - (Dy.ld t - Dy.ld f)) 365 := Rat.divInt_nonneg (by omega) (by omega)
    have a2 : 0 ≤ Rat.divInt (Dy.ld t - Dy.ld f) 366 := Rat.divInt_nonneg (by omega) (by omega)
    grind
  · rw [Dy.frac_of h3]
    exact Rat.divInt_nonneg (Dy.days_bd h).1 (by split <;> omega)
theorem la_qneg {x : Rat} (h : 0 ≤ x) : LA 4 (Rt.qA x) 0 (.bool false) := by
  have := la_rnneg (decide (x.num < 0)) x.num.natAbs (decide ((x.den : Int) < 0)) ((x.den : Int)).natAbs
  rw [qA_rZ, rZ_ratA]
  rwa [show decide (x.num < 0) = false from by have := Rat.num_nonneg.2 h; simp; omega] at this ⊢
theorem frac_q {b f t : Int} (hk : Dy.Ok b f t) {x : Rat} (h : Hid (x = Dy.frac b f t)) (w : World) : Calls Try.prog 8 #[.int .i64 b, .int .i64 f, .int .i64 t] w fun r w' => r = .returned (.tuple #[.agg (Rt.qA x), .int .i64 0]) ∧ Below w.heap.size w w' := by
  have h1 := fraction_any b f t w
  rwa [Dy.fc_ok hk, Dy.err_zero.2 hk, ← h.out] at h1
theorem days_q {b f t : Int} (hk : Dy.Ok b f t) {n : Int} (h : Hid (n = Dy.days b f t)) (w : World) : Calls Try.prog 10 #[.int .i64 b, .int .i64 f, .int .i64 t] w fun r w' => r = .returned (.tuple #[.int .i64 n, .int .i64 0]) ∧ Below w.heap.size w w' := by
  have h1 := bel (days_any b f t w)
  rwa [Dy.err_zero.2 hk, ← h.out] at h1
set_option maxRecDepth 100000 in
set_option maxHeartbeats 4000000 in
theorem dadds_any (A : Option Addr) (xs : List Int) (c0 : Nat) (W : World) (hI : IntsAt W A xs) (hxl : xs.length ≤ 9223372036854775807) :
    Calls Try.prog 5 #[.slice A xs.length c0] W fun e w' => e = .returned (.bool true) ∧ Below W.heap.size W w' := by
  have HM := Mem.start W
  have HI := Lib.hid hI
  have hz0 := za_rat
  clear hI
  go_enter Try.func5, Try.ntmps5
  go_upto_region 2 with (first | fail | (first | ((with_reducible refine g_ld ?_); refine a_ld HM ?_) | ((with_reducible refine g_st ?_); refine a_st HM ?_; clear HM; intro w1 HM) | ((with_reducible refine g_al ?_); refine a_al HM ?_; clear HM; intro bk w1 HM) | ((with_reducible refine g_bx ?_); refine a_bx HM ?_; clear HM; intro bk w1 HM) | ((with_reducible refine g_bld ?_); refine a_bld ?_)))
  obtain ⟨tb, rfl⟩ := HM.nm0
  have HC : Hid (TapeC W 0 #[.slice A xs.length c0, .int .i64 0]) := ⟨A, xs, c0, 0, rfl, by omega, by omega, HI.out, hxl⟩
  have H0 : Hid (Below W.heap.size W W) := Below.refl _ _
  have hle : ∀ b ∈ ([] : List Nat), W.heap.size ≤ b := by simp
  go_wp2_with fail
  (refine (day_any W tb _ _ (HM.tp (by ((repeat (first | exact Look.here | refine Look.there ?_)); done)) HC.out H0.out hle) (by omega)).mono ?_; rintro e9 w2 ⟨d, rfl, d0, d1, ⟨c1, hb1, hc1, -, -⟩, hg9⟩; replace HM := HM.put (c' := c1) (by (repeat (first | exact At.here | apply At.there))) hb1 (Only.of_grown hg9); clear hg9 hb1; replace HC := Lib.hid hc1; clear hc1)
  obtain ⟨a, ha⟩ : ∃ a, min d 71548 = a := ⟨_, rfl⟩
  have a0 : 0 ≤ a := by omega
  have a1 : a ≤ 71548 := by omega
  go_wp2_with fail
  clear ha d0 d1
  (refine (next_any W tb _ _ _ (HM.tp (by ((repeat (first | exact Look.here | refine Look.there ?_)); done)) HC.out H0.out hle) (by omega) (by omega) (by omega)).mono ?_; rintro e9 w2 ⟨u, rfl, u0, u1, ⟨c1, hb1, hc1, -, -⟩, hg⟩; replace HM := HM.put (c' := c1) (by (repeat (first | exact At.here | apply At.there))) hb1 (Only.of_grown hg); clear hg hb1; replace HC := Lib.hid hc1; clear hc1)
  go_wp2_with fail
  (refine (pick_new (tb := tb) (W := W) HM (by ((repeat (first | exact Look.here | refine Look.there ?_)); done)) HC.out H0.out (by first | exact hle | simpa using hle) [0, 1, 30, 366, u] _ (by omega) (by simp) (by simp)).mono ?_; rintro e9 w2 ⟨v1, c1, rfl, hv, hc1, hb1, hg⟩; replace HM := HM.put (c' := c1) (by (repeat (first | exact At.here | apply At.there))) hb1 hg; clear hg hb1; replace HC := Lib.hid hc1; clear hc1)
  have hvb : 0 ≤ v1 ∧ v1 ≤ 700 := by
    simp only [List.mem_cons, List.not_mem_nil, or_false] at hv
    omega
  obtain ⟨p0, p1⟩ := hvb
  clear hv
  go_wp2_with fail
  obtain ⟨b, hb⟩ : ∃ b, a + v1 = b := ⟨_, rfl⟩
  have b0 : a ≤ b := by omega
  have b1 : b ≤ a + 700 := by omega
  rw [hb]
  clear hb
  (refine (next_any W tb _ _ _ (HM.tp (by ((repeat (first | exact Look.here | refine Look.there ?_)); done)) HC.out H0.out hle) (by omega) (by omega) (by omega)).mono ?_; rintro e9 w2 ⟨u2, rfl, u02, u12, ⟨c1, hb1, hc1, -, -⟩, hg⟩; replace HM := HM.put (c' := c1) (by (repeat (first | exact At.here | apply At.there))) hb1 (Only.of_grown hg); clear hg hb1; replace HC := Lib.hid hc1; clear hc1)
  go_wp2_with fail
  (refine (pick_new (tb := tb) (W := W) HM (by ((repeat (first | exact Look.here | refine Look.there ?_)); done)) HC.out H0.out (by first | exact hle | simpa using hle) [0, 1, 31, 365, u2] _ (by omega) (by simp) (by simp)).mono ?_; rintro e9 w2 ⟨v1, c1, rfl, hv, hc1, hb1, hg⟩; replace HM := HM.put (c' := c1) (by (repeat (first | exact At.here | apply At.there))) hb1 hg; clear hg hb1; replace HC := Lib.hid hc1; clear hc1)
  have hvb : 0 ≤ v1 ∧ v1 ≤ 700 := by
    simp only [List.mem_cons, List.not_mem_nil, or_false] at hv
    omega
  obtain ⟨q0, q1⟩ := hvb
  clear hv
  go_wp2_with fail
  obtain ⟨c, hc⟩ : ∃ c, b + v1 = c := ⟨_, rfl⟩
  have e0 : b ≤ c := by omega
  have e1 : c ≤ b + 700 := by omega
  rw [hc]
  clear hc
  go_loopw [7] (fun i wr => ∃ v : Int, i = .int .i64 v ∧ 1 ≤ v ∧ v ≤ 5 ∧ Mem W [] [] wr) (fun i _ => (6 - intOf i).toNat)
  case atStart => exact ⟨1, rfl, by omega, by omega, HM.pick⟩
  case round =>
    obtain ⟨v, rfl, w0, w1, HM⟩ := hrel
    by_cases hlt : v ≤ 4
    · have da := isDay_yes (n := a) (by omega) (by omega)
      have db := isDay_yes (n := b) (by omega) (by omega)
      have dc := isDay_yes (n := c) (by omega) (by omega)
      have K1 : Dy.Ok v a b := ⟨w0, hlt, da, db, by omega⟩
      have K2 : Dy.Ok v b c := ⟨w0, hlt, db, dc, by omega⟩
      have K3 := Dy.ok_trans K1 K2
      have K4 : Dy.Ok v b b := ⟨w0, hlt, db, db, by omega⟩
      obtain ⟨x, hx⟩ : ∃ x, Hid (x = Dy.frac v a b) := ⟨_, rfl⟩
      obtain ⟨y, hy⟩ : ∃ x, Hid (x = Dy.frac v b c) := ⟨_, rfl⟩
      obtain ⟨z, hz⟩ : ∃ x, Hid (x = Dy.frac v a c) := ⟨_, rfl⟩
      have hzz : Hid (z = x + y) := Lib.hid (by rw [hz.out, hx.out, hy.out, Dy.frac_add K1 K2])
      have hn0 : Hid (0 = Dy.frac v b b) := Lib.hid (Dy.frac_none K4).symm
      obtain ⟨n, hn⟩ : ∃ n, Hid (n = Dy.days v a b) := ⟨_, rfl⟩
      obtain ⟨m, hm⟩ : ∃ n, Hid (n = Dy.days v b c) := ⟨_, rfl⟩
      have hk : Hid (n + m = Dy.days v a c) := Lib.hid (by rw [hn.out, hm.out, Dy.days_add K1 K2])
      have n0 : 0 ≤ n := by rw [hn.out]; exact (Dy.days_bd K1).1
      have n1 : n ≤ 100000 := by rw [hn.out]; exact (Dy.days_bd K1).2
      have m0 : 0 ≤ m := by rw [hm.out]; exact (Dy.days_bd K2).1
      have m1 : m ≤ 100000 := by rw [hm.out]; exact (Dy.days_bd K2).2
      have fx : Rt.Fit x := by rw [hx.out]; exact (Dy.frac_bd K1).fit
      have fy : Rt.Fit y := by rw [hy.out]; exact (Dy.frac_bd K2).fit
      have fz : Rt.Fit z := by rw [hz.out]; exact (Dy.frac_bd K3).fit
      have ln := la_qneg (x := x) (by rw [hx.out]; exact Dy.frac_nonneg K1)
      have J1 := Lib.hid K1
      have J2 := Lib.hid K2
      have J3 := Lib.hid K3
      have J4 := Lib.hid K4
      have sx := sa_q x (rZ_size 0 0)
      have sy := sa_q y (rZ_size 0 0)
      have sz := sa_q z (rZ_size 0 0)
      have s0 := sa_q 0 (rZ_size 0 0)
      have kx := la_q x
      have ky := la_q y
      have kz := la_q z
      have k0 := la_q 0
      clear K1 K2 K3 K4 da db dc
      go_upto_region 16 with (first | first
        | (go_at_call 8; ((with_reducible refine (frac_q J1.out hx _).mono ?_); rintro e9 w2 ⟨rfl, hL⟩; replace HM := HM.call hL; clear hL)) | (go_at_call 8; ((with_reducible refine (frac_q J2.out hy _).mono ?_); rintro e9 w2 ⟨rfl, hL⟩; replace HM := HM.call hL; clear hL)) | (go_at_call 8; ((with_reducible refine (frac_q J3.out hz _).mono ?_); rintro e9 w2 ⟨rfl, hL⟩; replace HM := HM.call hL; clear hL)) | (go_at_call 8; ((with_reducible refine (frac_q J4.out hn0 _).mono ?_); rintro e9 w2 ⟨rfl, hL⟩; replace HM := HM.call hL; clear hL))
        | (go_at_call 10; ((with_reducible refine (days_q J1.out hn _).mono ?_); rintro e9 w2 ⟨rfl, hL⟩; replace HM := HM.call hL; clear hL)) | (go_at_call 10; ((with_reducible refine (days_q J2.out hm _).mono ?_); rintro e9 w2 ⟨rfl, hL⟩; replace HM := HM.call hL; clear hL)) | (go_at_call 10; ((with_reducible refine (days_q J3.out hk _).mono ?_); rintro e9 w2 ⟨rfl, hL⟩; replace HM := HM.call hL; clear hL))
        | (go_at_call 17; ((with_reducible refine (radd_q x y z fx fy hzz fz _).mono ?_); rintro e9 w2 ⟨rfl, hL⟩; replace HM := HM.call hL; clear hL)) | (first | ((with_reducible refine g_ld ?_); refine a_ld HM ?_) | ((with_reducible refine g_st ?_); refine a_st HM ?_; clear HM; intro w1 HM) | ((with_reducible refine g_al ?_); refine a_al HM ?_; clear HM; intro bk w1 HM) | ((with_reducible refine g_bx ?_); refine a_bx HM ?_; clear HM; intro bk w1 HM) | ((with_reducible refine g_bld ?_); refine a_bld ?_)))
      go_cut [158] (fun v wc => v = .bool false ∧ Mem W [] [] wc)
      case first =>
        have hn5 : decide (n < 0) = false := by simpa using n0
        refine start_M [] HM (by kernel_rfl) (fun w0x H9 => ?_)
        replace HM := H9; clear H9
        refine k_mv 0 (heldE HM) ?_
        refine k_bin 1 (heldE HM) ?_
        refine k_mv 2 (heldE HM) ?_
        refine k_mv 3 (heldE HM) ?_
        refine k_bin 4 (heldE HM) ?_
        refine k_pick 5 (heldE HM) ?_
        refine k_mv 6 (heldE HM) ?_
        refine k_mv 7 (heldE HM) ?_
        refine k_bin 8 (heldE HM) ?_
        refine k_pick 9 (heldE HM) ?_
        refine k_mv 10 (heldE HM) ?_
        refine k_mv 11 (heldE HM) ?_
        refine k_bin 12 (heldE HM) ?_
        refine k_pick 13 (heldE HM) ?_
        refine k_mv 14 (heldE HM) ?_
        refine k_ld 15 [] (heldE HM) ?_
        refine k_ld 16 [] (heldE HM) ?_
        refine t_eq (i := 17) (v := ?_) [] rfl rfl rfl (by kernel_rfl) (fun _ _ _ h => h) (heldE HM) ?_ ?_; rotate_left 1; (focus ((refine y_cmpq .neq (z) (z) false (.inr rfl) (by simp) (fz) (fz) (x := ?_) (y := ?_) (t := ?_) ?_ ?_ ?_ ?_; rotate_left 3; (focus rfl); (focus rfl); (focus ((conv => lhs; whnf) <;> rfl)); ((conv => lhs; whnf) <;> rfl)))); ((try simp only [List.setIfInBounds_toArray]); (try simp only [List.set_cons_succ]); (try simp only [List.set_cons_zero]))
        refine k_pick 18 (heldE HM) ?_
        refine k_mv 19 (heldE HM) ?_
        refine k_fa 20 (heldE HM) ?_
        refine k_fa 21 (heldE HM) ?_
        refine k_ld 22 [] (heldE HM) ?_
        refine k_pick 23 (heldE HM) ?_
        refine k_mv 24 (heldE HM) ?_
        refine k_mv 25 (heldE HM) ?_
        refine k_bin 26 (heldE HM) ?_
        refine k_pick 27 (heldE HM) ?_
        refine k_mv 28 (heldE HM) ?_
        refine k_mv 29 (heldE HM) ?_
        refine k_bin 30 (heldE HM) ?_
        refine k_pick 31 (heldE HM) ?_
        refine k_mv 32 (heldE HM) ?_
        refine k_mv 33 (heldE HM) ?_
        refine k_bin 34 (heldE HM) ?_
        refine k_pick 35 (heldE HM) ?_
        refine k_mv 36 (heldE HM) ?_
        refine k_mv 37 (heldE HM) ?_
        refine k_mv 38 (heldE HM) ?_
        refine k_add 39 (heldE HM) ?_
        refine k_mv 40 (heldE HM) ?_
        refine k_bin 41 (heldE HM) ?_
        refine k_pick 42 (heldE HM) ?_
        refine k_mv 43 (heldE HM) ?_
        refine k_mv 44 (heldE HM) ?_
        refine k_bin 45 (heldE HM) ?_
        refine k_pick 46 (heldE HM) ?_
        refine k_mv 47 (heldE HM) ?_
        refine k_mv 48 (heldE HM) ?_
        refine k_bin 49 (heldE HM) ?_
        refine k_pick 50 (heldE HM) ?_
        refine k_mv 51 (heldE HM) ?_
        refine k_ld 52 [] (heldE HM) ?_
        refine j_one 53 fun K9 hK9 => ?_
        refine j_call0 (v := ?_) HM ?_ ?_; rotate_left 1; (focus (with_reducible (exact rzero_q _))); clear HM; intro w1 HM
        refine hK9 _ _ (heldE HM) ?_; clear hK9 K9
        refine t_eq (i := 54) (v := ?_) [] rfl rfl rfl (by kernel_rfl) (fun _ _ _ h => h) (heldE HM) ?_ ?_; rotate_left 1; (focus ((refine y_cmpq .neq (0) (0) false (.inr rfl) (by simp) (Rt.fit_zero) (Rt.fit_zero) (x := ?_) (y := ?_) (t := ?_) ?_ ?_ ?_ ?_; rotate_left 3; (focus rfl); (focus rfl); (focus ((conv => lhs; whnf) <;> rfl)); ((conv => lhs; whnf) <;> rfl)))); ((try simp only [List.setIfInBounds_toArray]); (try simp only [List.set_cons_succ]); (try simp only [List.set_cons_zero]))
        refine k_pick 55 (heldE HM) ?_
        refine wpAnyL_done (by kernel_rfl) ?_ _
        go_wp2_with fail
        go_meet
        case rel => exact ⟨rfl, HM.pick⟩
      case rest =>
        clear HM
        obtain ⟨rfl, HM⟩ := hcut
        go_step
        go_wp2_with fail
        go_roundw
        case rel => exact ⟨v + 1, rfl, by omega, by omega, HM⟩
        case measure => simp [intOf]; omega
    · go_wp2_with (first | (go_at_call 12; ((with_reducible refine (dknown_any _).mono ?_); rintro e9 w2 ⟨rfl, hL⟩; replace HM := HM.call hL; clear hL)) | (first | ((with_reducible refine g_ld ?_); refine a_ld HM ?_) | ((with_reducible refine g_st ?_); refine a_st HM ?_; clear HM; intro w1 HM) | ((with_reducible refine g_al ?_); refine a_al HM ?_; clear HM; intro bk w1 HM) | ((with_reducible refine g_bx ?_); refine a_bx HM ?_; clear HM; intro bk w1 HM) | ((with_reducible refine g_bld ?_); refine a_bld ?_)))
      go_ret
      exact ⟨rfl, HM.low⟩
end Go.Proofs.Ytikkligjenjinaa
