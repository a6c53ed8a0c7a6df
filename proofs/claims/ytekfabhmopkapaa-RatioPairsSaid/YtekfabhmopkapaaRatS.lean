/- The document's Make; Of and Whole of both. -/
import Derived.Test.YtekfabhmopkapaaRatR
namespace Go.Proofs.Ytekfabhmopkapaa
set_option maxRecDepth 8000
open Go.RowKit
theorem rdivMod_iz (s : Bool) (M : Nat) (G x y : Int) (hM : M < Bg.lim) (hG : G.natAbs < Bg.lim) (h0 : G ≠ 0) (hx : Hid (x = Bg.toZ s M / G)) (hy : Hid (y = Bg.toZ s M % G)) (w : World) :
    Calls Try.prog 56 #[.agg (Bg.intA s M), .agg (Bg.zA G)] w fun r w' => r = .returned (.tuple #[.agg (Bg.zA x), .agg (Bg.zA y), .int .i64 0]) ∧ Below w.heap.size w w' := by
  rw [zA_int G]
  exact rdivMod_any s _ M _ x y hM hG (by omega) (Lib.hid (by rw [Bg.toZ_iv]; exact hx.out)) (Lib.hid (by rw [Bg.toZ_iv]; exact hy.out)) w
theorem rsign_z (p g : Int) (hp : p.natAbs < Bg.lim) (hg : Hid (g = p.sign)) (w : World) :
    Calls Try.prog 49 #[.agg (Bg.zA p)] w fun e w' => e = .returned (.int .i64 g) ∧ Below w.heap.size w w' := by
  rw [zA_int p]; exact rsign_num _ _ g hp (Lib.hid (by rw [Bg.toZ_iv]; exact hg.out)) w
theorem rneg_z (p z : Int) (hp : p.natAbs < Bg.lim) (hz : Hid (z = -p)) (w : World) :
    Calls Try.prog 57 #[.agg (Bg.zA p)] w fun e w' => e = .returned (.agg (Bg.zA z)) ∧ Below w.heap.size w w' := by
  rw [zA_int p]; exact rneg_any _ _ z hp (Lib.hid (by rw [Bg.toZ_iv]; exact hz.out)) w
theorem rbits_z (p n : Int) (hp : p.natAbs < Bg.lim) (hn : Hid (n = (Bg.bl p.natAbs : Int))) (w : World) :
    Calls Try.prog 58 #[.agg (Bg.zA p)] w fun e w' => e = .returned (.int .i64 n) ∧ Below w.heap.size w w' := by
  rw [zA_int p]; exact rbits_any _ _ n hp hn w
/-- The document divides first and turns the signs behind that. -/
theorem Rt.sg_turn {p q G x1 x2 y1 y2 g0 : Int} (h0 : q ≠ 0) (hg : g0 = (Nat.gcd p.natAbs q.natAbs : Nat)) (hG : G = Rt.sg p q) (h1 : x1 = p / G) (h2 : x2 = q / G) (h3 : y1 = p / g0) (h4 : y2 = q / g0) :
    g0 ≠ 0 ∧ ((y2.sign = -1 ∧ x1 = -y1 ∧ x2 = -y2) ∨ (y2.sign = 1 ∧ x1 = y1 ∧ x2 = y2)) := by
  have hpos : 0 < g0 := by rw [hg]; have := Rt.sg_pos (p := p) h0; omega
  have hd : q = g0 * y2 := by
    rw [h4, Int.mul_ediv_cancel']
    rw [hg]; exact Int.ofNat_dvd_left.2 (Nat.gcd_dvd_right _ _)
  refine ⟨by omega, ?_⟩
  rw [h1, h2, hG]
  unfold Rt.sg
  rw [← hg]
  rcases Int.lt_or_gt_of_ne h0 with h | h
  · rw [if_pos h, Int.ediv_neg, Int.ediv_neg, ← h3, ← h4]
    refine .inl ⟨Int.sign_eq_neg_one_of_neg ?_, rfl, rfl⟩
    rcases Int.lt_or_le y2 0 with h5 | h5
    · exact h5
    · have := Int.mul_nonneg (Int.le_of_lt hpos) h5; omega
  · rw [if_neg (by omega), ← h3, ← h4]
    refine .inr ⟨Int.sign_eq_one_of_pos ?_, rfl, rfl⟩
    rcases Int.lt_or_le 0 y2 with h5 | h5
    · exact h5
    · have := Int.mul_nonneg (Int.le_of_lt hpos) (show 0 ≤ -y2 by omega)
      rw [Int.mul_neg] at this; omega
set_option maxHeartbeats 8000000 in
theorem rmake_n (s : Bool) (M : Nat) (t : Bool) (N : Nat) (n d e : Int) (hM : M < Bg.lim) (hN : N < Bg.lim) (hr : Hid ((n, d, e) = Rt.mk (Bg.toZ s M) (Bg.toZ t N))) (w : World) :
    Calls Try.prog 12 #[.agg (Bg.intA s M), .agg (Bg.intA t N)] w fun r w' => r = .returned (.tuple #[.agg (Bg.rZ n d), .int .i64 e]) ∧ Below w.heap.size w w' := by
  have HM := Mem.start w
  obtain ⟨p, hp⟩ : ∃ p, Hid (p = Bg.toZ s M) := ⟨_, rfl⟩
  obtain ⟨q, hq⟩ : ∃ p, Hid (p = Bg.toZ t N) := ⟨_, rfl⟩
  obtain ⟨g, hg⟩ : ∃ g, Hid (g = (Bg.toZ t N).sign) := ⟨_, rfl⟩
  have hz0 := za_rat
  have hs1 := sa_rz 0 0 (rZ_size 0 0)
  by_cases h0 : N = 0
  · have hq0 : Bg.toZ t N = 0 := by rw [h0]; cases t <;> rfl
    have hr2 := hr.out
    unfold Rt.mk at hr2
    rw [if_pos hq0] at hr2
    obtain ⟨rfl, rfl, rfl⟩ : n = 0 ∧ d = 0 ∧ e = 11 := by simpa using hr2
    obtain rfl : g = 0 := by rw [hg.out, hq0]; rfl
    clear hr2 hq0 h0
    go_enter Try.func12, Try.ntmps12
    go_wp2_with (first | first | ((with_reducible refine g_bld ?_); refine a_rbl ?_) | (go_at_call 49; ((with_reducible refine (rsign_num t N 0 hN hg _).mono ?_); rintro e9 w2 ⟨rfl, hL⟩; replace HM := HM.call hL; clear hL)) | (first | ((with_reducible refine g_ld ?_); refine a_ld HM ?_) | ((with_reducible refine g_st ?_); refine a_st HM ?_; clear HM; intro w1 HM) | ((with_reducible refine g_al ?_); refine a_al HM ?_; clear HM; intro bk w1 HM) | ((with_reducible refine g_bx ?_); refine a_bx HM ?_; clear HM; intro bk w1 HM) | ((with_reducible refine g_bld ?_); refine a_bld ?_)))
    refine bodyPost_ret (r_ct rfl rfl (HM.get (by ((repeat (first | exact Look.here | refine Look.there ?_)); done))) (la_rz _ _)) rfl ⟨rfl, HM.low⟩
  · have hq0 : q ≠ 0 := by
      intro h; have := Bg.toZ_abs t N; rw [← hq.out, h] at this; simp at this; omega
    rw [← hp.out, ← hq.out] at hr
    obtain ⟨G, x1, x2, f, HS⟩ := Rt.mkSt hq0 hr.out
    replace HS := Lib.hid HS
    obtain ⟨g0, hg0⟩ : ∃ z : Int, Hid (z = (Nat.gcd M N : Nat)) := ⟨_, rfl⟩
    have hgc : Nat.gcd p.natAbs q.natAbs = Nat.gcd M N := by rw [hp.out, hq.out, Bg.toZ_abs, Bg.toZ_abs]
    have lg0 : g0.natAbs < Bg.lim := by
      rw [hg0.out, Int.natAbs_natCast]
      exact Nat.lt_of_le_of_lt (Nat.gcd_le_right _ (by omega)) hN
    obtain ⟨y1, hy1⟩ : ∃ z, Hid (z = Bg.toZ s M / g0) := ⟨_, rfl⟩
    obtain ⟨y2, hy2⟩ : ∃ z, Hid (z = Bg.toZ t N / g0) := ⟨_, rfl⟩
    obtain ⟨r1, hr1⟩ : ∃ z, Hid (z = Bg.toZ s M % g0) := ⟨_, rfl⟩
    obtain ⟨r2, hr2⟩ : ∃ z, Hid (z = Bg.toZ t N % g0) := ⟨_, rfl⟩
    obtain ⟨hg00, hturn⟩ := Rt.sg_turn (g0 := g0) (y1 := y1) (y2 := y2) hq0 (by rw [hgc]; exact hg0.out) HS.out.eg HS.out.e1 HS.out.e2 (by rw [hp.out]; exact hy1.out) (by rw [hq.out]; exact hy2.out)
    have hG0 := Lib.hid hg00
    have l1 : x1.natAbs < Bg.lim := by rw [HS.out.e1]; exact ediv_lt (by rw [hp.out, Bg.toZ_abs]; exact hM)
    have l2 : x2.natAbs < Bg.lim := by rw [HS.out.e2]; exact ediv_lt (by rw [hq.out, Bg.toZ_abs]; exact hN)
    have l3 : y1.natAbs < Bg.lim := by rw [hy1.out]; exact ediv_lt (by rw [Bg.toZ_abs]; exact hM)
    have l4 : y2.natAbs < Bg.lim := by rw [hy2.out]; exact ediv_lt (by rw [Bg.toZ_abs]; exact hN)
    obtain ⟨gy, hgy⟩ : ∃ z, Hid (z = y2.sign) := ⟨_, rfl⟩
    rw [← hgy.out] at hturn
    have hgv : g = -1 ∨ g = 1 := by
      rw [hg.out, ← hq.out]
      rcases Int.lt_or_gt_of_ne hq0 with h | h
      · exact .inl (Int.sign_eq_neg_one_of_neg h)
      · exact .inr (Int.sign_eq_one_of_pos h)
    obtain ⟨m1, hm1⟩ : ∃ m : Int, Hid (m = (Bg.bl x1.natAbs : Int)) := ⟨_, rfl⟩
    obtain ⟨m2, hm2⟩ : ∃ m : Int, Hid (m = (Bg.bl x2.natAbs : Int)) := ⟨_, rfl⟩
    have hfm : Hid (f = (decide (m1 ≤ 480) && decide (m2 ≤ 480))) := Lib.hid (by
      rw [HS.out.ef, hm1.out, hm2.out]; unfold Rt.short
      congr 1 <;> (apply decide_eq_decide.2; omega))
    have k1 := sa_rz x1 x2 (rZ_size 0 0)
    clear hgc h0 hq0 hg00
    go_enter Try.func12, Try.ntmps12
    rcases hgv with rfl | rfl
    all_goals
      go_upto_if 36 with (first | first | (go_at_call 49; ((with_reducible refine (rsign_num t N _ hN hg _).mono ?_); rintro e9 w2 ⟨rfl, hL⟩; replace HM := HM.call hL; clear hL)) | (go_at_call 49; ((with_reducible refine (rsign_z y2 gy l4 hgy _).mono ?_); rintro e9 w2 ⟨rfl, hL⟩; replace HM := HM.call hL; clear hL)) | (go_at_call 55; ((with_reducible refine (rgcd_any s t M N g0 hM hN hg0 _).mono ?_); rintro e9 w2 ⟨rfl, hL⟩; replace HM := HM.call hL; clear hL)) | (go_at_call 56; ((with_reducible refine (rdivMod_iz s M g0 y1 r1 hM lg0 hG0.out hy1 hr1 _).mono ?_); rintro e9 w2 ⟨rfl, hL⟩; replace HM := HM.call hL; clear hL)) | (go_at_call 56; ((with_reducible refine (rdivMod_iz t N g0 y2 r2 hN lg0 hG0.out hy2 hr2 _).mono ?_); rintro e9 w2 ⟨rfl, hL⟩; replace HM := HM.call hL; clear hL)) | (first | ((with_reducible refine g_ld ?_); refine a_ld HM ?_) | ((with_reducible refine g_st ?_); refine a_st HM ?_; clear HM; intro w1 HM) | ((with_reducible refine g_al ?_); refine a_al HM ?_; clear HM; intro bk w1 HM) | ((with_reducible refine g_bx ?_); refine a_bx HM ?_; clear HM; intro bk w1 HM) | ((with_reducible refine g_bld ?_); refine a_bld ?_)))
      obtain ⟨b10, rfl⟩ := HM.nm1
      obtain ⟨b7, rfl⟩ := HM.nm3
      obtain ⟨b4, rfl⟩ := HM.nm5
      go_cut [] (fun wc => Mem w [] [(b10, Bg.zA x2), (b7, Bg.zA x1), (b4, Bg.rZ 0 0)] wc)
      case first =>
        rcases hturn with ⟨rfl, h1, h2⟩ | ⟨rfl, rfl, rfl⟩
        · have h1 := Lib.hid h1
          have h2 := Lib.hid h2
          go_upto_region 7 with fail
          refine start_M [4, 5] HM (by kernel_rfl) (fun w0x H9 => ?_)
          replace HM := H9; clear H9
          refine k_ld 0 [1, 3, 4, 5] (heldE HM) ?_
          refine k_ld 2 [3, 4, 5] (heldE HM) ?_
          refine j_one 1 fun K9 hK9 => ?_
          refine j_call1 (v := ?_) HM ?_ ?_; rotate_left 1; (focus (with_reducible (first | exact rneg_z y1 x1 l3 h1 _ | exact rneg_z y2 x2 l4 h2 _))); clear HM; intro w1 HM
          refine hK9 _ _ (heldE HM) ?_; clear hK9 K9
          refine j_one 3 fun K9 hK9 => ?_
          refine j_call1 (v := ?_) HM ?_ ?_; rotate_left 1; (focus (with_reducible (first | exact rneg_z y1 x1 l3 h1 _ | exact rneg_z y2 x2 l4 h2 _))); clear HM; intro w1 HM
          refine hK9 _ _ (heldE HM) ?_; clear hK9 K9
          refine j_one 4 fun K9 hK9 => ?_
          refine j_st HM ?_; clear HM; intro w1 HM
          refine hK9 _ _ heldN ?_; clear hK9 K9
          refine j_one 5 fun K9 hK9 => ?_
          refine j_st HM ?_; clear HM; intro w1 HM
          refine hK9 _ _ heldN ?_; clear hK9 K9
          refine wpAnyL_done (by kernel_rfl) ?_ _
          go_wp2_with fail
          go_meet
          case rel => refine HM.less ?_; (repeat (first | exact Sub.nil | refine Sub.keep ?_ | refine Sub.skip ?_))
        · go_wp2_with fail
          go_meet
          case rel => refine HM.less ?_; (repeat (first | exact Sub.nil | refine Sub.keep ?_ | refine Sub.skip ?_))
      case rest =>
        clear HM
        have HM := hcut
        clear hcut
        by_cases hb1 : m1 ≤ 480
        · have hb1' : decide (480 < m1) = false := by simp; omega
          by_cases hb2 : m2 ≤ 480
          · have hb2' : ¬ 480 < m2 := by omega
            obtain ⟨rfl, rfl, rfl⟩ := HS.out.yes (by rw [hfm.out]; simp [hb1, hb2])
            clear hb1 hb2
            go_wp2_with (first | first | ((with_reducible refine g_bld ?_); refine a_rbl ?_) | (go_at_call 58; ((with_reducible refine (rbits_z n m1 l1 hm1 _).mono ?_); rintro e9 w2 ⟨rfl, hL⟩; replace HM := HM.call hL; clear hL)) | (go_at_call 58; ((with_reducible refine (rbits_z d m2 l2 hm2 _).mono ?_); rintro e9 w2 ⟨rfl, hL⟩; replace HM := HM.call hL; clear hL)) | (first | ((with_reducible refine g_ld ?_); refine a_ld HM ?_) | ((with_reducible refine g_st ?_); refine a_st HM ?_; clear HM; intro w1 HM) | ((with_reducible refine g_al ?_); refine a_al HM ?_; clear HM; intro bk w1 HM) | ((with_reducible refine g_bx ?_); refine a_bx HM ?_; clear HM; intro bk w1 HM) | ((with_reducible refine g_bld ?_); refine a_bld ?_)))
            refine bodyPost_ret (r_ct (b := b4) (k := 0) rfl rfl (HM.get (by ((repeat (first | exact Look.here | refine Look.there ?_)); done))) (la_rz _ _)) rfl ⟨rfl, HM.low⟩
          · have hb2' : 480 < m2 := by omega
            obtain ⟨rfl, rfl, rfl⟩ := HS.out.no (by rw [hfm.out]; simp [hb2])
            clear hb1 hb2
            go_wp2_with (first | first | ((with_reducible refine g_bld ?_); refine a_rbl ?_) | (go_at_call 58; ((with_reducible refine (rbits_z x1 m1 l1 hm1 _).mono ?_); rintro e9 w2 ⟨rfl, hL⟩; replace HM := HM.call hL; clear hL)) | (go_at_call 58; ((with_reducible refine (rbits_z x2 m2 l2 hm2 _).mono ?_); rintro e9 w2 ⟨rfl, hL⟩; replace HM := HM.call hL; clear hL)) | (first | ((with_reducible refine g_ld ?_); refine a_ld HM ?_) | ((with_reducible refine g_st ?_); refine a_st HM ?_; clear HM; intro w1 HM) | ((with_reducible refine g_al ?_); refine a_al HM ?_; clear HM; intro bk w1 HM) | ((with_reducible refine g_bx ?_); refine a_bx HM ?_; clear HM; intro bk w1 HM) | ((with_reducible refine g_bld ?_); refine a_bld ?_)))
            refine bodyPost_ret (r_ct (b := b4) (k := 0) rfl rfl (HM.get (by ((repeat (first | exact Look.here | refine Look.there ?_)); done))) (la_rz _ _)) rfl ⟨rfl, HM.low⟩
        · have hb1' : 480 < m1 := by omega
          obtain ⟨rfl, rfl, rfl⟩ := HS.out.no (by rw [hfm.out]; simp [hb1])
          clear hb1
          go_wp2_with (first | first | ((with_reducible refine g_bld ?_); refine a_rbl ?_) | (go_at_call 58; ((with_reducible refine (rbits_z x1 m1 l1 hm1 _).mono ?_); rintro e9 w2 ⟨rfl, hL⟩; replace HM := HM.call hL; clear hL)) | (first | ((with_reducible refine g_ld ?_); refine a_ld HM ?_) | ((with_reducible refine g_st ?_); refine a_st HM ?_; clear HM; intro w1 HM) | ((with_reducible refine g_al ?_); refine a_al HM ?_; clear HM; intro bk w1 HM) | ((with_reducible refine g_bx ?_); refine a_bx HM ?_; clear HM; intro bk w1 HM) | ((with_reducible refine g_bld ?_); refine a_bld ?_)))
          refine bodyPost_ret (r_ct (b := b4) (k := 0) rfl rfl (HM.get (by ((repeat (first | exact Look.here | refine Look.there ?_)); done))) (la_rz _ _)) rfl ⟨rfl, HM.low⟩
theorem make_z (p q n d e : Int) (hp : p.natAbs < Bg.lim) (hq : q.natAbs < Bg.lim) (hr : Hid ((n, d, e) = Rt.mk p q)) (w : World) :
    Calls Try.prog 11 #[.agg (Bg.zA p), .agg (Bg.zA q)] w fun r w' => r = .returned (.tuple #[.agg (Bg.rZ n d), .int .i64 e]) ∧ Below w.heap.size w w' := by
  rw [zA_int p, zA_int q]; exact make_n _ _ _ _ n d e hp hq (Lib.hid (by rw [Bg.toZ_iv, Bg.toZ_iv]; exact hr.out)) w
theorem rmake_z (p q n d e : Int) (hp : p.natAbs < Bg.lim) (hq : q.natAbs < Bg.lim) (hr : Hid ((n, d, e) = Rt.mk p q)) (w : World) :
    Calls Try.prog 12 #[.agg (Bg.zA p), .agg (Bg.zA q)] w fun r w' => r = .returned (.tuple #[.agg (Bg.rZ n d), .int .i64 e]) ∧ Below w.heap.size w w' := by
  rw [zA_int p, zA_int q]; exact rmake_n _ _ _ _ n d e hp hq (Lib.hid (by rw [Bg.toZ_iv, Bg.toZ_iv]; exact hr.out)) w
theorem i64_lim {n : Int} (h1 : -9223372036854775808 ≤ n) (h2 : n < 9223372036854775808) : n.natAbs < Bg.lim := small_lim (by omega)
theorem of_n (n d x y e : Int) (hn1 : -9223372036854775808 ≤ n) (hn2 : n < 9223372036854775808) (hd1 : -9223372036854775808 ≤ d) (hd2 : d < 9223372036854775808) (hr : Hid ((x, y, e) = Rt.mk n d)) (w : World) :
    Calls Try.prog 13 #[.int .i64 n, .int .i64 d] w fun r w' => r = .returned (.tuple #[.agg (Bg.rZ x y), .int .i64 e]) ∧ Below w.heap.size w w' := by
  have HM := Mem.start w
  have ln := i64_lim hn1 hn2
  have ld := i64_lim hd1 hd2
  have hz0 := za_rat
  have hs1 := sa_rz x y (rZ_size 0 0)
  go_enter Try.func13, Try.ntmps13
  go_wp2_with (first | first | (go_at_call 59; ((with_reducible refine (fromInt_z n hn1 hn2 _).mono ?_); rintro e9 w2 ⟨rfl, hL⟩; replace HM := HM.call hL; clear hL)) | (go_at_call 59; ((with_reducible refine (fromInt_z d hd1 hd2 _).mono ?_); rintro e9 w2 ⟨rfl, hL⟩; replace HM := HM.call hL; clear hL)) | (go_at_call 11; ((with_reducible refine (make_z n d x y e ln ld hr _).mono ?_); rintro e9 w2 ⟨rfl, hL⟩; replace HM := HM.call hL; clear hL)) | (first | ((with_reducible refine g_ld ?_); refine a_ld HM ?_) | ((with_reducible refine g_st ?_); refine a_st HM ?_; clear HM; intro w1 HM) | ((with_reducible refine g_al ?_); refine a_al HM ?_; clear HM; intro bk w1 HM) | ((with_reducible refine g_bx ?_); refine a_bx HM ?_; clear HM; intro bk w1 HM) | ((with_reducible refine g_bld ?_); refine a_bld ?_)))
  refine bodyPost_ret (r_ct rfl rfl (HM.get (by ((repeat (first | exact Look.here | refine Look.there ?_)); done))) (la_rz _ _)) rfl ⟨rfl, HM.low⟩
theorem rof_n (n d x y e : Int) (hn1 : -9223372036854775808 ≤ n) (hn2 : n < 9223372036854775808) (hd1 : -9223372036854775808 ≤ d) (hd2 : d < 9223372036854775808) (hr : Hid ((x, y, e) = Rt.mk n d)) (w : World) :
    Calls Try.prog 14 #[.int .i64 n, .int .i64 d] w fun r w' => r = .returned (.tuple #[.agg (Bg.rZ x y), .int .i64 e]) ∧ Below w.heap.size w w' := by
  have HM := Mem.start w
  have ln := i64_lim hn1 hn2
  have ld := i64_lim hd1 hd2
  have hz0 := za_rat
  have hs1 := sa_rz x y (rZ_size 0 0)
  go_enter Try.func14, Try.ntmps14
  go_wp2_with (first | first | (go_at_call 40; ((with_reducible refine (rfromInt_z n hn1 hn2 _).mono ?_); rintro e9 w2 ⟨rfl, hL⟩; replace HM := HM.call hL; clear hL)) | (go_at_call 40; ((with_reducible refine (rfromInt_z d hd1 hd2 _).mono ?_); rintro e9 w2 ⟨rfl, hL⟩; replace HM := HM.call hL; clear hL)) | (go_at_call 12; ((with_reducible refine (rmake_z n d x y e ln ld hr _).mono ?_); rintro e9 w2 ⟨rfl, hL⟩; replace HM := HM.call hL; clear hL)) | (first | ((with_reducible refine g_ld ?_); refine a_ld HM ?_) | ((with_reducible refine g_st ?_); refine a_st HM ?_; clear HM; intro w1 HM) | ((with_reducible refine g_al ?_); refine a_al HM ?_; clear HM; intro bk w1 HM) | ((with_reducible refine g_bx ?_); refine a_bx HM ?_; clear HM; intro bk w1 HM) | ((with_reducible refine g_bld ?_); refine a_bld ?_)))
  refine bodyPost_ret (r_ct rfl rfl (HM.get (by ((repeat (first | exact Look.here | refine Look.there ?_)); done))) (la_rz _ _)) rfl ⟨rfl, HM.low⟩
theorem whole_w (n : Int) (hn1 : -9223372036854775808 ≤ n) (hn2 : n < 9223372036854775808) (w : World) :
    Calls Try.prog 17 #[.int .i64 n] w fun r w' => r = .returned (.agg (Bg.rZ n 1)) ∧ Below w.heap.size w w' := by
  have HM := Mem.start w
  have hz0 := za_rat
  have hs1 := sa_rz n 1 (rZ_size 0 0)
  go_enter Try.func17, Try.ntmps17
  go_wp2_with (first | first | ((with_reducible refine g_bld ?_); refine a_rbl ?_) | (go_at_call 59; ((with_reducible refine (fromInt_z n hn1 hn2 _).mono ?_); rintro e9 w2 ⟨rfl, hL⟩; replace HM := HM.call hL; clear hL)) | (go_at_call 59; ((with_reducible refine (fromInt_z 1 (by decide) (by decide) _).mono ?_); rintro e9 w2 ⟨rfl, hL⟩; replace HM := HM.call hL; clear hL)) | (first | ((with_reducible refine g_ld ?_); refine a_ld HM ?_) | ((with_reducible refine g_st ?_); refine a_st HM ?_; clear HM; intro w1 HM) | ((with_reducible refine g_al ?_); refine a_al HM ?_; clear HM; intro bk w1 HM) | ((with_reducible refine g_bx ?_); refine a_bx HM ?_; clear HM; intro bk w1 HM) | ((with_reducible refine g_bld ?_); refine a_bld ?_)))
  refine bodyPost_ret (r_c rfl rfl (HM.get (by ((repeat (first | exact Look.here | refine Look.there ?_)); done))) (la_rz _ _)) rfl ⟨rfl, HM.low⟩
theorem rwhole_w (n : Int) (hn1 : -9223372036854775808 ≤ n) (hn2 : n < 9223372036854775808) (w : World) :
    Calls Try.prog 18 #[.int .i64 n] w fun r w' => r = .returned (.agg (Bg.rZ n 1)) ∧ Below w.heap.size w w' := by
  have HM := Mem.start w
  have hz0 := za_rat
  have hs1 := sa_rz n 1 (rZ_size 0 0)
  go_enter Try.func18, Try.ntmps18
  go_wp2_with (first | first | ((with_reducible refine g_bld ?_); refine a_rbl ?_) | (go_at_call 40; ((with_reducible refine (rfromInt_z n hn1 hn2 _).mono ?_); rintro e9 w2 ⟨rfl, hL⟩; replace HM := HM.call hL; clear hL)) | (go_at_call 40; ((with_reducible refine (rfromInt_z 1 (by decide) (by decide) _).mono ?_); rintro e9 w2 ⟨rfl, hL⟩; replace HM := HM.call hL; clear hL)) | (first | ((with_reducible refine g_ld ?_); refine a_ld HM ?_) | ((with_reducible refine g_st ?_); refine a_st HM ?_; clear HM; intro w1 HM) | ((with_reducible refine g_al ?_); refine a_al HM ?_; clear HM; intro bk w1 HM) | ((with_reducible refine g_bx ?_); refine a_bx HM ?_; clear HM; intro bk w1 HM) | ((with_reducible refine g_bld ?_); refine a_bld ?_)))
  refine bodyPost_ret (r_c rfl rfl (HM.get (by ((repeat (first | exact Look.here | refine Look.there ?_)); done))) (la_rz _ _)) rfl ⟨rfl, HM.low⟩
end Go.Proofs.Ytekfabhmopkapaa
