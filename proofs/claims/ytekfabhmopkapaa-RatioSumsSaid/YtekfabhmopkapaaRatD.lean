/- ratio's Add, Sub, Mul and Quo, of any two values. -/
import Derived.Test.YtekfabhmopkapaaRatQ
namespace Go.Proofs.Ytekfabhmopkapaa
set_option maxRecDepth 8000
open Go.RowKit
theorem calc_mul_g (s : Bool) (M : Nat) (t : Bool) (N : Nat) (s2 : Bool) (M2 : Nat) (t2 : Bool) (N2 : Nat) (n d e : Int) (hM : M < Bg.lim) (hN : N < Bg.lim) (hM2 : M2 < Bg.lim) (hN2 : N2 < Bg.lim) (hr : Hid ((n, d, e) = Rt.bin (Rt.ok s M t N && Rt.ok s2 M2 t2 N2) (Bg.toZ s M * Bg.toZ s2 M2) (Bg.toZ t N * Bg.toZ t2 N2))) (w : World) :
    Calls Try.prog 61 #[.agg (Bg.ratA s M t N), .agg (Bg.ratA s2 M2 t2 N2), .func (.func 63) #[] #[]] w fun r w' => r = .returned (.tuple #[.agg (Bg.rZ n d), .int .i64 e]) ∧ Below w.heap.size w w' := by
  cases hk : (Rt.ok s M t N && Rt.ok s2 M2 t2 N2) with
  | false =>
    obtain ⟨rfl, rfl, rfl⟩ := Rt.bin_no hr.out hk
    exact calc_bad s M t N s2 M2 t2 N2 _ hM hN hM2 hN2 hk w
  | true =>
    have hm := Rt.bin_mk hr.out hk
    obtain ⟨k1, k2⟩ : Rt.ok s M t N = true ∧ Rt.ok s2 M2 t2 N2 = true := by simpa using hk
    obtain ⟨e1, z1⟩ := Rt.ok_z k1
    obtain ⟨e2, z2⟩ := Rt.ok_z k2
    have g1 := Rt.good (by rw [Bg.toZ_abs]; exact hM) (by rw [Bg.toZ_abs]; exact hN) z1
    have g2 := Rt.good (by rw [Bg.toZ_abs]; exact hM2) (by rw [Bg.toZ_abs]; exact hN2) z2
    rw [e1, e2]
    exact calc_mul _ _ _ _ _ _ n d e g1.lp g1.lq g2.lp g2.lq z1.symm z2.symm rfl rfl (lim_960 (mul_480 g1.bp g2.bp)) (lim_960 (mul_480 g1.bq g2.bq)) hm w
set_option maxHeartbeats 2000000 in
theorem mul_g (s : Bool) (M : Nat) (t : Bool) (N : Nat) (s2 : Bool) (M2 : Nat) (t2 : Bool) (N2 : Nat) (n d e : Int) (hM : M < Bg.lim) (hN : N < Bg.lim) (hM2 : M2 < Bg.lim) (hN2 : N2 < Bg.lim) (hr : Hid ((n, d, e) = Rt.bin (Rt.ok s M t N && Rt.ok s2 M2 t2 N2) (Bg.toZ s M * Bg.toZ s2 M2) (Bg.toZ t N * Bg.toZ t2 N2))) (w : World) :
    Calls Try.prog 23 #[.agg (Bg.ratA s M t N), .agg (Bg.ratA s2 M2 t2 N2)] w fun r w' => r = .returned (.tuple #[.agg (Bg.rZ n d), .int .i64 e]) ∧ Below w.heap.size w w' := by
  have HM := Mem.start w
  have hz0 := za_rat
  have hs1 := sa_rz n d (rZ_size 0 0)
  have k1 := la_rat s M t N
  have k2 := la_rat s2 M2 t2 N2
  go_enter Try.func23, Try.ntmps23
  go_wp2_with (first | (go_at_call 61; ((with_reducible refine (calc_mul_g s M t N s2 M2 t2 N2 n d e hM hN hM2 hN2 hr _).mono ?_); rintro e9 w2 ⟨rfl, hL⟩; replace HM := HM.call hL; clear hL)) | (first | ((with_reducible refine g_ld ?_); refine a_ld HM ?_) | ((with_reducible refine g_st ?_); refine a_st HM ?_; clear HM; intro w1 HM) | ((with_reducible refine g_al ?_); refine a_al HM ?_; clear HM; intro bk w1 HM) | ((with_reducible refine g_bx ?_); refine a_bx HM ?_; clear HM; intro bk w1 HM) | ((with_reducible refine g_bld ?_); refine a_bld ?_)))
  refine bodyPost_ret (r_ct rfl rfl (HM.get (by ((repeat (first | exact Look.here | refine Look.there ?_)); done))) (la_rz _ _)) rfl ⟨rfl, HM.low⟩
theorem calc_quo_g (s : Bool) (M : Nat) (t : Bool) (N : Nat) (s2 : Bool) (M2 : Nat) (t2 : Bool) (N2 : Nat) (n d e : Int) (hM : M < Bg.lim) (hN : N < Bg.lim) (hM2 : M2 < Bg.lim) (hN2 : N2 < Bg.lim) (hr : Hid ((n, d, e) = Rt.bin (Rt.ok s M t N && Rt.ok s2 M2 t2 N2) (Bg.toZ s M * Bg.toZ t2 N2) (Bg.toZ t N * Bg.toZ s2 M2))) (w : World) :
    Calls Try.prog 61 #[.agg (Bg.ratA s M t N), .agg (Bg.ratA s2 M2 t2 N2), .func (.func 65) #[] #[]] w fun r w' => r = .returned (.tuple #[.agg (Bg.rZ n d), .int .i64 e]) ∧ Below w.heap.size w w' := by
  cases hk : (Rt.ok s M t N && Rt.ok s2 M2 t2 N2) with
  | false =>
    obtain ⟨rfl, rfl, rfl⟩ := Rt.bin_no hr.out hk
    exact calc_bad s M t N s2 M2 t2 N2 _ hM hN hM2 hN2 hk w
  | true =>
    have hm := Rt.bin_mk hr.out hk
    obtain ⟨k1, k2⟩ : Rt.ok s M t N = true ∧ Rt.ok s2 M2 t2 N2 = true := by simpa using hk
    obtain ⟨e1, z1⟩ := Rt.ok_z k1
    obtain ⟨e2, z2⟩ := Rt.ok_z k2
    have g1 := Rt.good (by rw [Bg.toZ_abs]; exact hM) (by rw [Bg.toZ_abs]; exact hN) z1
    have g2 := Rt.good (by rw [Bg.toZ_abs]; exact hM2) (by rw [Bg.toZ_abs]; exact hN2) z2
    rw [e1, e2]
    exact calc_quo _ _ _ _ _ _ n d e g1.lp g1.lq g2.lp g2.lq z1.symm z2.symm rfl rfl (lim_960 (mul_480 g1.bp g2.bq)) (lim_960 (mul_480 g1.bq g2.bp)) hm w
set_option maxHeartbeats 2000000 in
theorem quo_g (s : Bool) (M : Nat) (t : Bool) (N : Nat) (s2 : Bool) (M2 : Nat) (t2 : Bool) (N2 : Nat) (n d e : Int) (hM : M < Bg.lim) (hN : N < Bg.lim) (hM2 : M2 < Bg.lim) (hN2 : N2 < Bg.lim) (hr : Hid ((n, d, e) = Rt.bin (Rt.ok s M t N && Rt.ok s2 M2 t2 N2) (Bg.toZ s M * Bg.toZ t2 N2) (Bg.toZ t N * Bg.toZ s2 M2))) (w : World) :
    Calls Try.prog 25 #[.agg (Bg.ratA s M t N), .agg (Bg.ratA s2 M2 t2 N2)] w fun r w' => r = .returned (.tuple #[.agg (Bg.rZ n d), .int .i64 e]) ∧ Below w.heap.size w w' := by
  have HM := Mem.start w
  have hz0 := za_rat
  have hs1 := sa_rz n d (rZ_size 0 0)
  have k1 := la_rat s M t N
  have k2 := la_rat s2 M2 t2 N2
  go_enter Try.func25, Try.ntmps25
  go_wp2_with (first | (go_at_call 61; ((with_reducible refine (calc_quo_g s M t N s2 M2 t2 N2 n d e hM hN hM2 hN2 hr _).mono ?_); rintro e9 w2 ⟨rfl, hL⟩; replace HM := HM.call hL; clear hL)) | (first | ((with_reducible refine g_ld ?_); refine a_ld HM ?_) | ((with_reducible refine g_st ?_); refine a_st HM ?_; clear HM; intro w1 HM) | ((with_reducible refine g_al ?_); refine a_al HM ?_; clear HM; intro bk w1 HM) | ((with_reducible refine g_bx ?_); refine a_bx HM ?_; clear HM; intro bk w1 HM) | ((with_reducible refine g_bld ?_); refine a_bld ?_)))
  refine bodyPost_ret (r_ct rfl rfl (HM.get (by ((repeat (first | exact Look.here | refine Look.there ?_)); done))) (la_rz _ _)) rfl ⟨rfl, HM.low⟩
/-- The numerator of a sum or of a difference. -/
def Rt.num (b : Bool) (p q r u : Int) : Int := p * u + (if b then -(r * q) else r * q)
theorem calc_comb_g (b : Bool) (bm : Nat) (s : Bool) (M : Nat) (t : Bool) (N : Nat) (s2 : Bool) (M2 : Nat) (t2 : Bool) (N2 : Nat) (n d e : Int) (hM : M < Bg.lim) (hN : N < Bg.lim) (hM2 : M2 < Bg.lim) (hN2 : N2 < Bg.lim) (hr : Hid ((n, d, e) = Rt.bin (Rt.ok s M t N && Rt.ok s2 M2 t2 N2) (Rt.num b (Bg.toZ s M) (Bg.toZ t N) (Bg.toZ s2 M2) (Bg.toZ t2 N2)) (Bg.toZ t N * Bg.toZ t2 N2))) (w : World) (hB : Blk w bm #[.bool b]) :
    Calls Try.prog 61 #[.agg (Bg.ratA s M t N), .agg (Bg.ratA s2 M2 t2 N2), .func (.func 85) #[] #[.pointer (some ⟨bm, 0, none⟩)]] w fun r w' => r = .returned (.tuple #[.agg (Bg.rZ n d), .int .i64 e]) ∧ Below w.heap.size w w' := by
  cases hk : (Rt.ok s M t N && Rt.ok s2 M2 t2 N2) with
  | false =>
    obtain ⟨rfl, rfl, rfl⟩ := Rt.bin_no hr.out hk
    exact calc_bad s M t N s2 M2 t2 N2 _ hM hN hM2 hN2 hk w
  | true =>
    have hm := Rt.bin_mk hr.out hk
    obtain ⟨k1, k2⟩ : Rt.ok s M t N = true ∧ Rt.ok s2 M2 t2 N2 = true := by simpa using hk
    obtain ⟨e1, z1⟩ := Rt.ok_z k1
    obtain ⟨e2, z2⟩ := Rt.ok_z k2
    have g1 := Rt.good (by rw [Bg.toZ_abs]; exact hM) (by rw [Bg.toZ_abs]; exact hN) z1
    have g2 := Rt.good (by rw [Bg.toZ_abs]; exact hM2) (by rw [Bg.toZ_abs]; exact hN2) z2
    rw [e1, e2]
    have m1 := mul_480 g2.bp g1.bq
    have m2 := mul_480 g1.bp g2.bq
    have m3 : (if b then -(Bg.toZ s2 M2 * Bg.toZ t N) else Bg.toZ s2 M2 * Bg.toZ t N).natAbs < Bg.p2 960 := by cases b <;> simp [m1]
    exact calc_comb b bm _ _ _ _ _ _ _ _ _ n d e g1.lp g1.lq g2.lp g2.lq z1.symm z2.symm rfl rfl rfl rfl rfl (lim_960 m1) (lim_960 m2) (lim_961 m2 m3) (lim_960 (mul_480 g1.bq g2.bq)) hm w hB
set_option maxHeartbeats 2000000 in
theorem add_g (s : Bool) (M : Nat) (t : Bool) (N : Nat) (s2 : Bool) (M2 : Nat) (t2 : Bool) (N2 : Nat) (n d e : Int) (hM : M < Bg.lim) (hN : N < Bg.lim) (hM2 : M2 < Bg.lim) (hN2 : N2 < Bg.lim) (hr : Hid ((n, d, e) = Rt.bin (Rt.ok s M t N && Rt.ok s2 M2 t2 N2) (Rt.num false (Bg.toZ s M) (Bg.toZ t N) (Bg.toZ s2 M2) (Bg.toZ t2 N2)) (Bg.toZ t N * Bg.toZ t2 N2))) (w : World) :
    Calls Try.prog 22 #[.agg (Bg.ratA s M t N), .agg (Bg.ratA s2 M2 t2 N2)] w fun r w' => r = .returned (.tuple #[.agg (Bg.rZ n d), .int .i64 e]) ∧ Below w.heap.size w w' := by
  have HM := Mem.start w
  have hz0 := za_rat
  have hs1 := sa_rz n d (rZ_size 0 0)
  have k1 := la_rat s M t N
  have k2 := la_rat s2 M2 t2 N2
  go_enter Try.func22, Try.ntmps22
  go_upto_region 1 with (first | fail | (first | ((with_reducible refine g_ld ?_); refine a_ld HM ?_) | ((with_reducible refine g_st ?_); refine a_st HM ?_; clear HM; intro w1 HM) | ((with_reducible refine g_al ?_); refine a_al HM ?_; clear HM; intro bk w1 HM) | ((with_reducible refine g_bx ?_); refine a_bx HM ?_; clear HM; intro bk w1 HM) | ((with_reducible refine g_bld ?_); refine a_bld ?_)))
  obtain ⟨b4, rfl⟩ := HM.nm0
  refine start_M [6] HM (by kernel_rfl) (fun w0x H9 => ?_)
  replace HM := H9; clear H9
  refine k_ld 0 [3, 4, 5, 6, 7] (heldE HM) ?_
  refine k_ld 1 [3, 4, 5, 6, 7] (heldE HM) ?_
  refine j_one 2 fun K9 hK9 => ?_
  refine o_callg (combine_any false _) rfl ?_ ?_; (focus (refine h_call1 (ts := ?_) (x1 := ?_) ?_ (by kernel_rfl) ?_; rotate_left 2; (focus rfl); rfl)); rintro e9 w1 ⟨bm, rfl, hB9, hn9, hL9⟩; replace HM := HM.fresh hL9 hB9 hn9; clear hL9 hB9 hn9; refine ⟨_, rfl, ?_⟩
  refine hK9 _ _ (heldE HM) ?_; clear hK9 K9; ((try simp only [List.setIfInBounds_toArray]); (try simp only [List.set_cons_succ]); (try simp only [List.set_cons_zero]))
  refine j_one 3 fun K9 hK9 => ?_
  refine j_call3 (v := ?_) HM ?_ ?_; rotate_left 1; (focus (with_reducible (exact calc_comb_g false bm s M t N s2 M2 t2 N2 n d e hM hN hM2 hN2 hr _ (HM.get (by ((repeat (first | exact Look.here | refine Look.there ?_)); done)))))); clear HM; intro w1 HM
  refine hK9 _ _ (heldE HM) ?_; clear hK9 K9
  refine k_ext 4 (heldE HM) ?_
  refine k_ext 5 (heldE HM) ?_
  refine j_one 6 fun K9 hK9 => ?_
  refine j_st HM ?_; clear HM; intro w1 HM
  refine hK9 _ _ heldN ?_; clear hK9 K9
  refine k_mv 7 heldN ?_
  refine wpAnyL_done (by kernel_rfl) ?_ _
  (go_wp2_with fail; refine bodyPost_ret (r_ct (b := b4) (k := 0) rfl rfl (HM.get (by ((repeat (first | exact Look.here | refine Look.there ?_)); done))) (la_rz _ _)) rfl ⟨rfl, HM.low⟩)
set_option maxHeartbeats 2000000 in
theorem sub_g (s : Bool) (M : Nat) (t : Bool) (N : Nat) (s2 : Bool) (M2 : Nat) (t2 : Bool) (N2 : Nat) (n d e : Int) (hM : M < Bg.lim) (hN : N < Bg.lim) (hM2 : M2 < Bg.lim) (hN2 : N2 < Bg.lim) (hr : Hid ((n, d, e) = Rt.bin (Rt.ok s M t N && Rt.ok s2 M2 t2 N2) (Rt.num true (Bg.toZ s M) (Bg.toZ t N) (Bg.toZ s2 M2) (Bg.toZ t2 N2)) (Bg.toZ t N * Bg.toZ t2 N2))) (w : World) :
    Calls Try.prog 24 #[.agg (Bg.ratA s M t N), .agg (Bg.ratA s2 M2 t2 N2)] w fun r w' => r = .returned (.tuple #[.agg (Bg.rZ n d), .int .i64 e]) ∧ Below w.heap.size w w' := by
  have HM := Mem.start w
  have hz0 := za_rat
  have hs1 := sa_rz n d (rZ_size 0 0)
  have k1 := la_rat s M t N
  have k2 := la_rat s2 M2 t2 N2
  go_enter Try.func24, Try.ntmps24
  go_upto_region 1 with (first | fail | (first | ((with_reducible refine g_ld ?_); refine a_ld HM ?_) | ((with_reducible refine g_st ?_); refine a_st HM ?_; clear HM; intro w1 HM) | ((with_reducible refine g_al ?_); refine a_al HM ?_; clear HM; intro bk w1 HM) | ((with_reducible refine g_bx ?_); refine a_bx HM ?_; clear HM; intro bk w1 HM) | ((with_reducible refine g_bld ?_); refine a_bld ?_)))
  obtain ⟨b4, rfl⟩ := HM.nm0
  refine start_M [6] HM (by kernel_rfl) (fun w0x H9 => ?_)
  replace HM := H9; clear H9
  refine k_ld 0 [3, 4, 5, 6, 7] (heldE HM) ?_
  refine k_ld 1 [3, 4, 5, 6, 7] (heldE HM) ?_
  refine j_one 2 fun K9 hK9 => ?_
  refine o_callg (combine_any true _) rfl ?_ ?_; (focus (refine h_call1 (ts := ?_) (x1 := ?_) ?_ (by kernel_rfl) ?_; rotate_left 2; (focus rfl); rfl)); rintro e9 w1 ⟨bm, rfl, hB9, hn9, hL9⟩; replace HM := HM.fresh hL9 hB9 hn9; clear hL9 hB9 hn9; refine ⟨_, rfl, ?_⟩
  refine hK9 _ _ (heldE HM) ?_; clear hK9 K9; ((try simp only [List.setIfInBounds_toArray]); (try simp only [List.set_cons_succ]); (try simp only [List.set_cons_zero]))
  refine j_one 3 fun K9 hK9 => ?_
  refine j_call3 (v := ?_) HM ?_ ?_; rotate_left 1; (focus (with_reducible (exact calc_comb_g true bm s M t N s2 M2 t2 N2 n d e hM hN hM2 hN2 hr _ (HM.get (by ((repeat (first | exact Look.here | refine Look.there ?_)); done)))))); clear HM; intro w1 HM
  refine hK9 _ _ (heldE HM) ?_; clear hK9 K9
  refine k_ext 4 (heldE HM) ?_
  refine k_ext 5 (heldE HM) ?_
  refine j_one 6 fun K9 hK9 => ?_
  refine j_st HM ?_; clear HM; intro w1 HM
  refine hK9 _ _ heldN ?_; clear hK9 K9
  refine k_mv 7 heldN ?_
  refine wpAnyL_done (by kernel_rfl) ?_ _
  (go_wp2_with fail; refine bodyPost_ret (r_ct (b := b4) (k := 0) rfl rfl (HM.get (by ((repeat (first | exact Look.here | refine Look.there ?_)); done))) (la_rz _ _)) rfl ⟨rfl, HM.low⟩)
end Go.Proofs.Ytekfabhmopkapaa
