/- The chapter's examples of ratios. -/
import Derived.Test.YtekfabhmopkapaaRatD
namespace Go.Proofs.Ytekfabhmopkapaa
set_option maxRecDepth 8000
open Go.RowKit
theorem add_zz (p q r u n d e : Int) (hp : p.natAbs < Bg.lim) (hq : q.natAbs < Bg.lim) (hr : r.natAbs < Bg.lim) (hu : u.natAbs < Bg.lim) (h : Hid ((n, d, e) = Rt.bin (Rt.okz p q && Rt.okz r u) (Rt.num false p q r u) (q * u))) (w : World) :
    Calls Try.prog 22 #[.agg (Bg.rZ p q), .agg (Bg.rZ r u)] w fun r w' => r = .returned (.tuple #[.agg (Bg.rZ n d), .int .i64 e]) ∧ Below w.heap.size w w' := by
  rw [rZ_ratA p q, rZ_ratA r u]
  exact add_g _ _ _ _ _ _ _ _ n d e hp hq hr hu (Lib.hid (by rw [Bg.toZ_iv, Bg.toZ_iv, Bg.toZ_iv, Bg.toZ_iv]; exact h.out)) w
theorem quo_zz (p q r u n d e : Int) (hp : p.natAbs < Bg.lim) (hq : q.natAbs < Bg.lim) (hr : r.natAbs < Bg.lim) (hu : u.natAbs < Bg.lim) (h : Hid ((n, d, e) = Rt.bin (Rt.okz p q && Rt.okz r u) (p * u) (q * r))) (w : World) :
    Calls Try.prog 25 #[.agg (Bg.rZ p q), .agg (Bg.rZ r u)] w fun r w' => r = .returned (.tuple #[.agg (Bg.rZ n d), .int .i64 e]) ∧ Below w.heap.size w w' := by
  rw [rZ_ratA p q, rZ_ratA r u]
  exact quo_g _ _ _ _ _ _ _ _ n d e hp hq hr hu (Lib.hid (by rw [Bg.toZ_iv, Bg.toZ_iv, Bg.toZ_iv, Bg.toZ_iv]; exact h.out)) w
theorem small_480 {z : Int} (h : z.natAbs < 18446744073709551616) : z.natAbs < Bg.p2 480 := Nat.lt_of_lt_of_le h (by have := Bg.p2_mono (show 64 ≤ 480 by decide); unfold Bg.p2 at *; omega)
theorem Rt.ok_small {p q : Int} (hp : p.natAbs < 18446744073709551616) (hq : q.natAbs < 18446744073709551616) (h0 : 0 < q) (h1 : Nat.gcd p.natAbs q.natAbs = 1) : Rt.okz p q = true := by
  refine Rt.okz_of ?_ h0 h1
  unfold Rt.short
  rw [decide_eq_true (Bg.bl_le (small_lim hp) (small_480 hp)), decide_eq_true (Bg.bl_le (small_lim hq) (small_480 hq))]
  rfl
theorem Rt.mk_small {p q : Int} (hp : p.natAbs < 18446744073709551616) (hq : q.natAbs < 18446744073709551616) (h0 : 0 < q) (h1 : Nat.gcd p.natAbs q.natAbs = 1) : Rt.mk p q = (p, q, 0) := Rt.mk_id (small_480 hp) (small_480 hq) h0 h1
theorem Rt.mk_9_18 : Rt.mk 9 18 = (1, 2, 0) := by
  unfold Rt.mk
  have hs : Rt.sg 9 18 = 9 := by decide
  rw [if_neg (by decide), hs, if_pos]
  · rfl
  · unfold Rt.short
    rw [decide_eq_true (Bg.bl_le (small_lim (by decide)) (small_480 (z := 9 / 9) (by decide))), decide_eq_true (Bg.bl_le (small_lim (by decide)) (small_480 (z := 18 / 9) (by decide)))]
    rfl
theorem Rt.ok_zero : Rt.okz 0 0 = false := by unfold Rt.okz Rt.ok; simp [Bg.toZ]
set_option maxRecDepth 20000 in
set_option maxHeartbeats 8000000 in
theorem rknown_any (w : World) : Calls Try.prog 16 #[] w fun e w' => e = .returned (.bool true) ∧ Below w.heap.size w w' := by
  have HM := Mem.start w
  have l0 : ((0 : Int)).natAbs < Bg.lim := small_lim (by decide)
  have l1 : ((1 : Int)).natAbs < Bg.lim := small_lim (by decide)
  have l2 : ((2 : Int)).natAbs < Bg.lim := small_lim (by decide)
  have l3 : ((3 : Int)).natAbs < Bg.lim := small_lim (by decide)
  have l6 : ((6 : Int)).natAbs < Bg.lim := small_lim (by decide)
  have m3 : Hid (((1 : Int), (3 : Int), (0 : Int)) = Rt.mk 1 3) := Lib.hid (by rw [Rt.mk_small (by decide) (by decide) (by decide) (by decide)])
  have m6 : Hid (((1 : Int), (6 : Int), (0 : Int)) = Rt.mk 1 6) := Lib.hid (by rw [Rt.mk_small (by decide) (by decide) (by decide) (by decide)])
  have m2 : Hid (((1 : Int), (2 : Int), (0 : Int)) = Rt.mk 1 2) := Lib.hid (by rw [Rt.mk_small (by decide) (by decide) (by decide) (by decide)])
  have ms : Hid (((1 : Int), (2 : Int), (0 : Int)) = Rt.bin (Rt.okz 1 3 && Rt.okz 1 6) (Rt.num false 1 3 1 6) (3 * 6)) := Lib.hid (by
    rw [Rt.ok_small (by decide) (by decide) (by decide) (by decide), Rt.ok_small (by decide) (by decide) (by decide) (by decide)]
    exact Rt.mk_9_18.symm)
  have mq : Hid (((0 : Int), (0 : Int), (11 : Int)) = Rt.bin (Rt.okz 1 3 && Rt.okz 0 1) (1 * 1) (3 * 0)) := Lib.hid (by
    rw [Rt.ok_small (by decide) (by decide) (by decide) (by decide), Rt.ok_small (by decide) (by decide) (by decide) (by decide)]
    unfold Rt.bin Rt.mk; rfl)
  have o2 : Hid (true = Rt.okz 1 2) := Lib.hid (Rt.ok_small (by decide) (by decide) (by decide) (by decide)).symm
  have o0 : Hid (false = Rt.okz 0 0) := Lib.hid Rt.ok_zero.symm
  have hz0 := za_rat
  have s2 := sa_rz 1 2 (rZ_size 0 0)
  have s3 := sa_rz 1 3 (rZ_size 0 0)
  have s6 := sa_rz 1 6 (rZ_size 0 0)
  have s0 := sa_rz 0 0 (rZ_size 0 0)
  have k2 := la_rz 1 2
  have k3 := la_rz 1 3
  have k6 := la_rz 1 6
  go_enter Try.func16, Try.ntmps16
  go_upto_region 5 with (first | first
    | (go_at_call 13; ((with_reducible refine (of_n 1 3 1 3 0 (by decide) (by decide) (by decide) (by decide) m3 _).mono ?_); rintro e9 w2 ⟨rfl, hL⟩; replace HM := HM.call hL; clear hL))
    | (go_at_call 13; ((with_reducible refine (of_n 1 6 1 6 0 (by decide) (by decide) (by decide) (by decide) m6 _).mono ?_); rintro e9 w2 ⟨rfl, hL⟩; replace HM := HM.call hL; clear hL))
    | (go_at_call 13; ((with_reducible refine (of_n 1 2 1 2 0 (by decide) (by decide) (by decide) (by decide) m2 _).mono ?_); rintro e9 w2 ⟨rfl, hL⟩; replace HM := HM.call hL; clear hL))
    | (go_at_call 22; ((with_reducible refine (add_zz 1 3 1 6 1 2 0 l1 l3 l1 l6 ms _).mono ?_); rintro e9 w2 ⟨rfl, hL⟩; replace HM := HM.call hL; clear hL)) | (first | ((with_reducible refine g_ld ?_); refine a_ld HM ?_) | ((with_reducible refine g_st ?_); refine a_st HM ?_; clear HM; intro w1 HM) | ((with_reducible refine g_al ?_); refine a_al HM ?_; clear HM; intro bk w1 HM) | ((with_reducible refine g_bx ?_); refine a_bx HM ?_; clear HM; intro bk w1 HM) | ((with_reducible refine g_bld ?_); refine a_bld ?_)))
  obtain ⟨b7, rfl⟩ := HM.nm0
  obtain ⟨b5, rfl⟩ := HM.nm1
  obtain ⟨b3, rfl⟩ := HM.nm2
  obtain ⟨b1, rfl⟩ := HM.nm3
  go_cut [10] (fun v wc => v = .int .i64 11 ∧ Mem w [] [(b7, Bg.rZ 1 2), (b5, Bg.rZ 1 2), (b3, Bg.rZ 1 6), (b1, Bg.rZ 1 3)] wc)
  case first =>
    refine start_M [7] HM (by kernel_rfl) (fun w0x H9 => ?_)
    replace HM := H9; clear H9
    refine k_ld 0 [2, 3, 4, 5, 7, 8] (heldE HM) ?_
    refine j_two 1 6 ?_ ?_
    · refine j_call1 (v := ?_) HM ?_ ?_; rotate_left 1; (focus (with_reducible (first | exact whole_w 0 (by decide) (by decide) _ | exact quo_zz 1 3 0 1 0 0 11 l1 l3 l0 l1 mq _))); clear HM; intro w1 HM
      refine ⟨(heldE HM), ?_⟩
      refine j_two 2 6 ?_ ?_
      · refine j_call2 (v := ?_) HM ?_ ?_; rotate_left 1; (focus (with_reducible (first | exact whole_w 0 (by decide) (by decide) _ | exact quo_zz 1 3 0 1 0 0 11 l1 l3 l0 l1 mq _))); clear HM; intro w1 HM
        refine ⟨(heldE HM), ?_⟩
        refine k_mv 3 (heldE HM) ?_
        refine k_ext 4 (heldE HM) ?_
        refine k_ext 5 (heldE HM) ?_
        refine j_one 6 fun K9 hK9 => ?_
        refine j_al HM ?_; clear HM; intro bk w1 HM
        refine hK9 _ _ (heldE HM) ?_; clear hK9 K9
        refine j_one 7 fun K9 hK9 => ?_
        refine j_st HM ?_; clear HM; intro w1 HM
        refine hK9 _ _ heldN ?_; clear hK9 K9
        refine k_mv 8 heldN ?_
        refine wpAnyL_done (by kernel_rfl) ?_ _
        (go_wp2_with fail; go_meet; (case rel => refine ⟨rfl, ?_⟩; refine HM.less ?_; (repeat (first | exact Sub.nil | refine Sub.keep ?_ | refine Sub.skip ?_))))
      · refine j_al HM ?_; clear HM; intro bk w1 HM
        refine ⟨(heldE HM), ?_⟩
        refine j_one 2 fun K9 hK9 => ?_
        refine j_call2 (v := ?_) HM ?_ ?_; rotate_left 1; (focus (with_reducible (first | exact whole_w 0 (by decide) (by decide) _ | exact quo_zz 1 3 0 1 0 0 11 l1 l3 l0 l1 mq _))); clear HM; intro w1 HM
        refine hK9 _ _ (heldE HM) ?_; clear hK9 K9
        refine k_mv 3 (heldE HM) ?_
        refine k_ext 4 (heldE HM) ?_
        refine k_ext 5 (heldE HM) ?_
        refine j_one 7 fun K9 hK9 => ?_
        refine j_st HM ?_; clear HM; intro w1 HM
        refine hK9 _ _ heldN ?_; clear hK9 K9
        refine k_mv 8 heldN ?_
        refine wpAnyL_done (by kernel_rfl) ?_ _
        (go_wp2_with fail; go_meet; (case rel => refine ⟨rfl, ?_⟩; refine HM.less ?_; (repeat (first | exact Sub.nil | refine Sub.keep ?_ | refine Sub.skip ?_))))
    · refine j_al HM ?_; clear HM; intro bk w1 HM
      refine ⟨(heldE HM), ?_⟩
      refine j_one 1 fun K9 hK9 => ?_
      refine j_call1 (v := ?_) HM ?_ ?_; rotate_left 1; (focus (with_reducible (first | exact whole_w 0 (by decide) (by decide) _ | exact quo_zz 1 3 0 1 0 0 11 l1 l3 l0 l1 mq _))); clear HM; intro w1 HM
      refine hK9 _ _ (heldE HM) ?_; clear hK9 K9
      refine j_one 2 fun K9 hK9 => ?_
      refine j_call2 (v := ?_) HM ?_ ?_; rotate_left 1; (focus (with_reducible (first | exact whole_w 0 (by decide) (by decide) _ | exact quo_zz 1 3 0 1 0 0 11 l1 l3 l0 l1 mq _))); clear HM; intro w1 HM
      refine hK9 _ _ (heldE HM) ?_; clear hK9 K9
      refine k_mv 3 (heldE HM) ?_
      refine k_ext 4 (heldE HM) ?_
      refine k_ext 5 (heldE HM) ?_
      refine j_one 7 fun K9 hK9 => ?_
      refine j_st HM ?_; clear HM; intro w1 HM
      refine hK9 _ _ heldN ?_; clear hK9 K9
      refine k_mv 8 heldN ?_
      refine wpAnyL_done (by kernel_rfl) ?_ _
      (go_wp2_with fail; go_meet; (case rel => refine ⟨rfl, ?_⟩; refine HM.less ?_; (repeat (first | exact Sub.nil | refine Sub.keep ?_ | refine Sub.skip ?_))))
  case rest =>
    clear HM
    obtain ⟨rfl, HM⟩ := hcut
    go_wp2_with (first | first
      | ((with_reducible refine g_bld ?_); refine a_rbl ?_)
      | (go_at_call 15; ((with_reducible refine (valid_z 1 2 true l1 l2 o2 _).mono ?_); rintro e9 w2 ⟨rfl, hL⟩; replace HM := HM.call hL; clear hL))
      | (go_at_call 15; ((with_reducible refine (valid_z 0 0 false l0 l0 o0 _).mono ?_); rintro e9 w2 ⟨rfl, hL⟩; replace HM := HM.call hL; clear hL))
      | ((with_reducible refine g_bin ?_); refine a_cmpr .eql (1) (2) (1) (2) true (.inl rfl) (by simp) (l1) (l2) (l1) (l2) ?_) | (first | ((with_reducible refine g_ld ?_); refine a_ld HM ?_) | ((with_reducible refine g_st ?_); refine a_st HM ?_; clear HM; intro w1 HM) | ((with_reducible refine g_al ?_); refine a_al HM ?_; clear HM; intro bk w1 HM) | ((with_reducible refine g_bx ?_); refine a_bx HM ?_; clear HM; intro bk w1 HM) | ((with_reducible refine g_bld ?_); refine a_bld ?_)))
    go_ret
    exact ⟨rfl, HM.low⟩
end Go.Proofs.Ytekfabhmopkapaa
