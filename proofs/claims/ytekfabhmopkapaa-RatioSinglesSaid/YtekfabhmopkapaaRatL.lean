/- The chapter's examples of ratios. -/
import Derived.Test.YtekfabhmopkapaaRatD
namespace Go.Proofs.Ytekfabhmopkapaa
set_option maxRecDepth 8000
open Go.RowKit
theorem add_zz (p q r u n d e : Int) (hp : p.natAbs < Bg.lim) (hq : q.natAbs < Bg.lim) (hr : r.natAbs < Bg.lim) (hu : u.natAbs < Bg.lim) (h : Hid ((n, d, e) = Rt.bin (Rt.okz p q && Rt.okz r u) (Rt.num false p q r u) (q * u))) (w : World) :
    Calls Try.prog 22 #[.agg (Bg.rZ p q), .agg (Bg.rZ r u)] w fun r w' => r = .returned (.tuple #[.agg (Bg.rZ n d), .int .i64 e]) ∧ Below w.heap.size w w' := by
  rw [rZ_ratA p q, rZ_ratA r u]
  exact add_g _ _ _ _ _ _ _ _ n d e hp hq hr hu (Lib.hid (by rw [Bg.toZ_iv, Bg.toZ_iv, Bg.toZ_iv, Bg.toZ_iv]; exact h.out)) w
theorem quo_zz (p q r u n d e : Int) (hp : p.natAbs < Bg.lim) (hq : q.natAbs < Bg.lim) (hr : r.natAbs < Bg.lim) (hu : u.natAbs < Bg.lim) (h : Hid ((n, d, e) = Rt.bin (Rt.okz p q && Rt.okz r u) (p * u) (q * r))) (w : World) :
    Calls Try.prog 25 #[.agg (Bg.rZ p q), .agg (Bg.rZ r u)] w fun r w' => r = .returned (.tuple #[.agg (Bg.rZ n d), .int .i64 e]) ∧ Below w.heap.size w w' := by
  rw [rZ_ratA p q, rZ_ratA r u]
  exact quo_g _ _ _ _ _ _ _ _ n d e hp hq hr hu (Lib.hid (by rw [Bg.toZ_iv, Bg.toZ_iv, Bg.toZ_iv, Bg.toZ_iv]; exact h.out)) w
theorem small_480 {z : Int} (h : z.natAbs < 18446744073709551616) : z.natAbs < Bg.p2 480 := Nat.lt_of_lt_of_le h (by have := Bg.p2_mono (show 64 ≤ 480 by decide); unfold Bg.p2 at *; omega)
theorem Rt.ok_small {p q : Int} (hp : p.natAbs < 18446744073709551616) (hq : q.natAbs < 18446744073709551616) (h0 : 0 < q) (h1 : Nat.gcd p.natAbs q.natAbs = 1) : Rt.okz p q = true := by
  refine Rt.okz_of ?_ h0 h1
  unfold Rt.short
  rw [decide_eq_true (Bg.bl_le (small_lim hp) (small_480 hp)), decide_eq_true (Bg.bl_le (small_lim hq) (small_480 hq))]
  rfl
theorem Rt.mk_small {p q : Int} (hp : p.natAbs < 18446744073709551616) (hq : q.natAbs < 18446744073709551616) (h0 : 0 < q) (h1 : Nat.gcd p.natAbs q.natAbs = 1) : Rt.mk p q = (p, q, 0) := Rt.mk_id (small_480 hp) (small_480 hq) h0 h1
theorem Rt.mk_9_18 : Rt.mk 9 18 = (1, 2, 0) := by
  unfold Rt.mk
  have hs : Rt.sg 9 18 = 9 := by decide
  rw [if_neg (by decide), hs, if_pos]
  · rfl
  · unfold Rt.short
    rw [decide_eq_true (Bg.bl_le (small_lim (by decide)) (small_480 (z := 9 / 9) (by decide))), decide_eq_true (Bg.bl_le (small_lim (by decide)) (small_480 (z := 18 / 9) (by decide)))]
    rfl
theorem Rt.ok_zero : Rt.okz 0 0 = false := by unfold Rt.okz Rt.ok; simp [Bg.toZ]
set_option maxRecDepth 20000 in
set_option maxHeartbeats 8000000 in
theorem rknown_any (w : World) : Calls Try.prog 16 #[] w fun e w' => e = .returned (.bool true) ∧ Below w.heap.size w w' := by
  have HM := Mem.start w
  have l0 : ((0 : Int)).natAbs < Bg.lim := small_lim (by decide)
  have l1 : ((1 : Int)).natAbs < Bg.lim := small_lim (by decide)
  have l2 : ((2 : Int)).natAbs < Bg.lim := small_lim (by decide)
  have l3 : ((3 : Int)).natAbs < Bg.lim := small_lim (by decide)
  have l6 : ((6 : Int)).natAbs < Bg.lim := small_lim (by decide)
  have m3 : Hid (((1 : Int), (3 : Int), (0 : Int)) = Rt.mk 1 3) := Lib.hid (by rw [Rt.mk_small (by decide) (by decide) (by decide) (by decide)])
  have m6 : Hid (((1 : Int), (6 : Int), (0 : Int)) = Rt.mk 1 6) := Lib.hid (by rw [Rt.mk_small (by decide) (by decide) (by decide) (by decide)])
  have m2 : Hid (((1 : Int), (2 : Int), (0 : Int)) = Rt.mk 1 2) := Lib.hid (by rw [Rt.mk_small (by decide) (by decide) (by decide) (by decide)])
  have ms : Hid (((1 : Int), (2 : Int), (0 : Int)) = Rt.bin (Rt.okz 1 3 && Rt.okz 1 6) (Rt.num false 1 3 1 6) (3 * 6)) := Lib.hid (by
    rw [Rt.ok_small (by decide) (by decide) (by decide) (by decide), Rt.ok_small (by decide) (by decide) (by decide) (by decide)]
    exact Rt.mk_9_18.symm)
  have mq : Hid (((0 : Int), (0 : Int), (11 : Int)) = Rt.bin (Rt.okz 1 3 && Rt.okz 0 1) (1 * 1) (3 * 0)) := Lib.hid (by
    rw [Rt.ok_small (by decide) (by decide) (by decide) (by decide), Rt.ok_small (by decide) (by decide) (by decide) (by decide)]
    unfold Rt.bin Rt.mk; rfl)
  have o2 : Hid (true = Rt.okz 1 2) := Lib.hid (Rt.ok_small (by decide) (by decide) (by decide) (by decide)).symm
  have o0 : Hid (false = Rt.okz 0 0) := Lib.hid Rt.ok_zero.symm
  have hz0 := za_rat
  have s2 := sa_rz 1 2 (rZ_size 0 0)
  have s3 := sa_rz 1 3 (rZ_size 0 0)
  have s6 := sa_rz 1 6 (rZ_size 0 0)
  have s0 := sa_rz 0 0 (rZ_size 0 0)
  have k2 := la_rz 1 2
  have k3 := la_rz 1 3
  have k6 := la_rz 1 6
  go_enter Try.func16, Try.ntmps16
  go_upto_region 5 with (first | first
    | (go_at_call 13; ((with_reducible refine (of_n 1 3 1 3 0 (by decide) (by decide) (by decide) (by decide) m3 _).mono ?_); rintro e9 w2 ⟨rfl, hL⟩; replace HM := HM.call hL; clear hL))
    | (go_at_call 13; ((with_reducible refine (of_n 1 6 1 6 0 (by decide) (by decide) (by decide) (by decide) m6 _).mono ?_); rintro e9 w2 ⟨rfl, hL⟩; replace HM := HM.call hL; clear hL))
    | (go_at_call 13; ((with_reducible refine (of_n 1 2 1 2 0 (by decide) (by decide) (by decide) (by decide) m2 _).mono ?_); rintro e9 w2 ⟨rfl, hL⟩; replace HM := HM.call hL; clear hL))
    | (go_at_call 22; ((with_reducible refine (add_zz 1 3 1 6 1 2 0 l1 l3 l1 l6 ms _).mono ?_); rintro e9 w2 ⟨rfl, hL⟩; replace HM := HM.call hL; clear hL)) | (first | ((with_reducible refine m_ld (b := ?_) (k := ?_) (c := ?_) (v := ?_) ?_ ?_ ?_ ?_ ?_); rotate_left 4; (focus (first | exact Or.inl rfl | exact Or.inr ⟨_, _, _, rfl, rfl, rfl⟩)); (focus ((conv => lhs; whnf) <;> rfl)); (focus (first | (refine HM.get ?_; ((repeat (first | exact Look.here | refine Look.there ?_)); done)) | (refine HM.ro (Hid.out ?_) ?_; (focus assumption); (focus simp)))); (focus (first | (with_reducible assumption) | exact la_z _ | exact la_i _ _ | exact la_mag _ | exact la_arr _ | exact la_fldz _ | exact la_fld _ _ | exact la_negz _ | exact la_neg _ _ | assumption | exact LA.one (by kernel_rfl) rfl)); ((try simp only [Act.put]); (try simp only [List.setIfInBounds_toArray]); (try simp only [List.set_cons_succ]); (try simp only [List.set_cons_zero]))) | ((with_reducible refine m_st (b := ?_) (k := ?_) (c := ?_) (c' := ?_) (L' := ?_) (v := ?_) HM ?_ ?_ ?_ ?_ ?_ ?_); rotate_left 6; (focus (first | exact Or.inl rfl | exact Or.inr ⟨_, _, _, rfl, rfl, rfl⟩)); (focus ((conv => lhs; whnf) <;> rfl)); (focus ((conv => lhs; whnf) <;> rfl)); (focus (repeat (first | exact At.here | (refine At.there (L' := ?_) ?_; rotate_left 1)))); (focus (first | (with_reducible assumption) | ((first | refine sa_z _ ?_ | refine sa_i _ _ ?_ | refine sa_mag _ ?_ | refine sa_arr _ ?_); (first | exact zA_size _ | exact Bg.intA_size _ _ | exact Bg.row_size _ _)) | exact sa_neg _ _ _ | assumption)); clear HM; intro w1 HM; ((try simp only [Act.put]); (try simp only [List.setIfInBounds_toArray]); (try simp only [List.set_cons_succ]); (try simp only [List.set_cons_zero]))) | ((with_reducible refine m_al (c := ?_) HM ?_ ?_ ?_); rotate_left 1; (focus (first | exact Or.inl rfl | exact Or.inr ⟨_, _, _, rfl, rfl, rfl⟩)); (focus (first | (with_reducible assumption) | exact za_int | exact za_mag | exact za_arr | assumption)); clear HM; intro bk w1 HM; ((try simp only [Act.put]); (try simp only [List.setIfInBounds_toArray]); (try simp only [List.set_cons_succ]); (try simp only [List.set_cons_zero]))) | ((with_reducible refine m_bx (c := ?_) (v := ?_) HM ?_ ?_ ?_ ?_); rotate_left 2; (focus (first | exact Or.inl rfl | exact Or.inr ⟨_, _, _, rfl, rfl, rfl⟩)); (focus ((conv => lhs; whnf) <;> rfl)); (focus ((conv => lhs; whnf) <;> rfl)); clear HM; intro bk w1 HM; ((try simp only [Act.put]); (try simp only [List.setIfInBounds_toArray]); (try simp only [List.set_cons_succ]); (try simp only [List.set_cons_zero])))))
  obtain ⟨b7, rfl⟩ := HM.nm0
  obtain ⟨b5, rfl⟩ := HM.nm1
  obtain ⟨b3, rfl⟩ := HM.nm2
  obtain ⟨b1, rfl⟩ := HM.nm3
  go_cut [10] (fun v wc => v = .int .i64 11 ∧ Mem w [] [(b7, Bg.rZ 1 2), (b5, Bg.rZ 1 2), (b3, Bg.rZ 1 6), (b1, Bg.rZ 1 3)] wc)
  case first =>
    refine start_M [7] HM (by kernel_rfl) (fun w0x H9 => ?_)
    replace HM := H9; clear H9
    refine t_ld (i := 0) (c := ?_) (v := ?_) [2, 3, 4, 5, 7, 8] rfl rfl rfl (by kernel_rfl) (fun _ _ _ h => h) (heldE HM) (by rfl) rfl rfl ?_ ?_ ?_; rotate_left 2; (focus (first | (refine rd_look ?_; ((repeat (first | exact Look.here | refine Look.there ?_)); done)) | (refine rd_ro (Hid.out ?_) ?_; (focus assumption); (focus simp)))); (focus (first | (with_reducible assumption) | exact la_z _ | exact la_i _ _ | exact la_mag _ | exact la_arr _ | exact la_fldz _ | exact la_fld _ _ | exact la_negz _ | exact la_neg _ _ | assumption | exact LA.one (by kernel_rfl) rfl)); ((try simp only [List.setIfInBounds_toArray]); (try simp only [List.set_cons_succ]); (try simp only [List.set_cons_zero]))
    refine two_L (i := 1) (j := 6) (by kernel_rfl) (op_L rfl (by rfl) ?_) (op_L rfl (by rfl) ?_)
    · refine o_call (f := ?_) (args := ?_) (v := ?_) ?_ HM rfl ?_ ?_; (case refine_5 => (refine h_call1 (ts := ?_) (x1 := ?_) (v1 := ?_) ?_ (by kernel_rfl) ?_; rotate_left 3; (focus rfl); ((conv => lhs; whnf) <;> rfl))); (case refine_4 => (with_reducible (first | exact whole_w 0 (by decide) (by decide) _ | exact quo_zz 1 3 0 1 0 0 11 l1 l3 l0 l1 mq _))); clear HM; intro w1 HM
      refine ⟨(heldE HM), ?_⟩; ((try simp only [List.setIfInBounds_toArray]); (try simp only [List.set_cons_succ]); (try simp only [List.set_cons_zero]))
      refine two_L (i := 2) (j := 6) (by kernel_rfl) (op_L rfl (by rfl) ?_) (op_L rfl (by rfl) ?_)
      · refine o_call (f := ?_) (args := ?_) (v := ?_) ?_ HM rfl ?_ ?_; (case refine_5 => (refine h_call2 (ts := ?_) (x1 := ?_) (x2 := ?_) (v1 := ?_) (v2 := ?_) ?_ (by kernel_rfl) ?_ ?_; rotate_left 5; (focus rfl); (focus ((conv => lhs; whnf) <;> rfl)); ((conv => lhs; whnf) <;> rfl))); (case refine_4 => (with_reducible (first | exact whole_w 0 (by decide) (by decide) _ | exact quo_zz 1 3 0 1 0 0 11 l1 l3 l0 l1 mq _))); clear HM; intro w1 HM
        refine ⟨(heldE HM), ?_⟩; ((try simp only [List.setIfInBounds_toArray]); (try simp only [List.set_cons_succ]); (try simp only [List.set_cons_zero]))
        refine t_pure (i := 3) (v := ?_) rfl rfl (by kernel_rfl) (fun _ _ _ h => h) (heldE HM) (by rfl) ?_ ?_; rotate_left 1; (focus (refine h_mv (x := ?_) ?_ ?_; rotate_left 1; (focus rfl); ((conv => lhs; whnf) <;> rfl))); ((try simp only [List.setIfInBounds_toArray]); (try simp only [List.set_cons_succ]); (try simp only [List.set_cons_zero]))
        refine t_pure (i := 4) (v := ?_) rfl rfl (by kernel_rfl) (fun _ _ _ h => h) (heldE HM) (by rfl) ?_ ?_; rotate_left 1; (focus (refine h_ext (x := ?_) (i := ?_) (vs := ?_) ?_ ?_ ?_; rotate_left 3; (focus rfl); (focus ((conv => lhs; whnf) <;> rfl)); (conv => lhs; whnf) <;> rfl)); ((try simp only [List.setIfInBounds_toArray]); (try simp only [List.set_cons_succ]); (try simp only [List.set_cons_zero]))
        refine t_pure (i := 5) (v := ?_) rfl rfl (by kernel_rfl) (fun _ _ _ h => h) (heldE HM) (by rfl) ?_ ?_; rotate_left 1; (focus (refine h_ext (x := ?_) (i := ?_) (vs := ?_) ?_ ?_ ?_; rotate_left 3; (focus rfl); (focus ((conv => lhs; whnf) <;> rfl)); (conv => lhs; whnf) <;> rfl)); ((try simp only [List.setIfInBounds_toArray]); (try simp only [List.set_cons_succ]); (try simp only [List.set_cons_zero]))
        refine one_L (i := 6) (by kernel_rfl) rfl (by rfl) (fun K9 hK9 => ?_)
        refine o_al (c := ?_) HM rfl rfl ?_ ?_; rotate_left 1; (focus (first | (with_reducible assumption) | exact za_int | exact za_mag | exact za_arr | assumption)); clear HM; intro bk w1 HM
        refine hK9 _ _ (heldE HM) ?_; clear hK9 K9; ((try simp only [List.setIfInBounds_toArray]); (try simp only [List.set_cons_succ]); (try simp only [List.set_cons_zero]))
        refine one_L (i := 7) (by kernel_rfl) rfl (by rfl) (fun K9 hK9 => ?_)
        refine o_st (c := ?_) (c' := ?_) (L' := ?_) HM rfl rfl rfl rfl ?_ ?_ ?_; rotate_left 3; (focus (repeat (first | exact At.here | (refine At.there (L' := ?_) ?_; rotate_left 1)))); (focus (first | (with_reducible assumption) | ((first | refine sa_z _ ?_ | refine sa_i _ _ ?_ | refine sa_mag _ ?_ | refine sa_arr _ ?_); (first | exact zA_size _ | exact Bg.intA_size _ _ | exact Bg.row_size _ _)) | exact sa_neg _ _ _ | assumption)); clear HM; intro w1 HM
        refine hK9 _ _ (heldN (by kernel_rfl)) ?_; clear hK9 K9
        refine t_pure (i := 8) (v := ?_) rfl rfl (by kernel_rfl) (fun _ _ _ h => h) (heldN (by kernel_rfl)) (by rfl) ?_ ?_; rotate_left 1; (focus (refine h_as (x := ?_) ?_ ?_; rotate_left 1; (focus rfl); ((conv => lhs; whnf) <;> rfl))); ((try simp only [List.setIfInBounds_toArray]); (try simp only [List.set_cons_succ]); (try simp only [List.set_cons_zero]))
        refine wpAnyL_done (by kernel_rfl) ?_ _
        (go_wp2_with fail; go_meet; (case rel => refine ⟨rfl, ?_⟩; refine HM.less ?_; (repeat (first | exact Sub.nil | refine Sub.keep ?_ | refine Sub.skip ?_))))
      · refine o_al (c := ?_) HM rfl rfl ?_ ?_; rotate_left 1; (focus (first | (with_reducible assumption) | exact za_int | exact za_mag | exact za_arr | assumption)); clear HM; intro bk w1 HM
        refine ⟨(heldE HM), ?_⟩; ((try simp only [List.setIfInBounds_toArray]); (try simp only [List.set_cons_succ]); (try simp only [List.set_cons_zero]))
        refine one_L (i := 2) (by kernel_rfl) rfl (by rfl) (fun K9 hK9 => ?_)
        refine o_call (f := ?_) (args := ?_) (v := ?_) ?_ HM rfl ?_ ?_; (case refine_5 => (refine h_call2 (ts := ?_) (x1 := ?_) (x2 := ?_) (v1 := ?_) (v2 := ?_) ?_ (by kernel_rfl) ?_ ?_; rotate_left 5; (focus rfl); (focus ((conv => lhs; whnf) <;> rfl)); ((conv => lhs; whnf) <;> rfl))); (case refine_4 => (with_reducible (first | exact whole_w 0 (by decide) (by decide) _ | exact quo_zz 1 3 0 1 0 0 11 l1 l3 l0 l1 mq _))); clear HM; intro w1 HM
        refine hK9 _ _ (heldE HM) ?_; clear hK9 K9; ((try simp only [List.setIfInBounds_toArray]); (try simp only [List.set_cons_succ]); (try simp only [List.set_cons_zero]))
        refine t_pure (i := 3) (v := ?_) rfl rfl (by kernel_rfl) (fun _ _ _ h => h) (heldE HM) (by rfl) ?_ ?_; rotate_left 1; (focus (refine h_mv (x := ?_) ?_ ?_; rotate_left 1; (focus rfl); ((conv => lhs; whnf) <;> rfl))); ((try simp only [List.setIfInBounds_toArray]); (try simp only [List.set_cons_succ]); (try simp only [List.set_cons_zero]))
        refine t_pure (i := 4) (v := ?_) rfl rfl (by kernel_rfl) (fun _ _ _ h => h) (heldE HM) (by rfl) ?_ ?_; rotate_left 1; (focus (refine h_ext (x := ?_) (i := ?_) (vs := ?_) ?_ ?_ ?_; rotate_left 3; (focus rfl); (focus ((conv => lhs; whnf) <;> rfl)); (conv => lhs; whnf) <;> rfl)); ((try simp only [List.setIfInBounds_toArray]); (try simp only [List.set_cons_succ]); (try simp only [List.set_cons_zero]))
        refine t_pure (i := 5) (v := ?_) rfl rfl (by kernel_rfl) (fun _ _ _ h => h) (heldE HM) (by rfl) ?_ ?_; rotate_left 1; (focus (refine h_ext (x := ?_) (i := ?_) (vs := ?_) ?_ ?_ ?_; rotate_left 3; (focus rfl); (focus ((conv => lhs; whnf) <;> rfl)); (conv => lhs; whnf) <;> rfl)); ((try simp only [List.setIfInBounds_toArray]); (try simp only [List.set_cons_succ]); (try simp only [List.set_cons_zero]))
        refine one_L (i := 7) (by kernel_rfl) rfl (by rfl) (fun K9 hK9 => ?_)
        refine o_st (c := ?_) (c' := ?_) (L' := ?_) HM rfl rfl rfl rfl ?_ ?_ ?_; rotate_left 3; (focus (repeat (first | exact At.here | (refine At.there (L' := ?_) ?_; rotate_left 1)))); (focus (first | (with_reducible assumption) | ((first | refine sa_z _ ?_ | refine sa_i _ _ ?_ | refine sa_mag _ ?_ | refine sa_arr _ ?_); (first | exact zA_size _ | exact Bg.intA_size _ _ | exact Bg.row_size _ _)) | exact sa_neg _ _ _ | assumption)); clear HM; intro w1 HM
        refine hK9 _ _ (heldN (by kernel_rfl)) ?_; clear hK9 K9
        refine t_pure (i := 8) (v := ?_) rfl rfl (by kernel_rfl) (fun _ _ _ h => h) (heldN (by kernel_rfl)) (by rfl) ?_ ?_; rotate_left 1; (focus (refine h_as (x := ?_) ?_ ?_; rotate_left 1; (focus rfl); ((conv => lhs; whnf) <;> rfl))); ((try simp only [List.setIfInBounds_toArray]); (try simp only [List.set_cons_succ]); (try simp only [List.set_cons_zero]))
        refine wpAnyL_done (by kernel_rfl) ?_ _
        (go_wp2_with fail; go_meet; (case rel => refine ⟨rfl, ?_⟩; refine HM.less ?_; (repeat (first | exact Sub.nil | refine Sub.keep ?_ | refine Sub.skip ?_))))
    · refine o_al (c := ?_) HM rfl rfl ?_ ?_; rotate_left 1; (focus (first | (with_reducible assumption) | exact za_int | exact za_mag | exact za_arr | assumption)); clear HM; intro bk w1 HM
      refine ⟨(heldE HM), ?_⟩; ((try simp only [List.setIfInBounds_toArray]); (try simp only [List.set_cons_succ]); (try simp only [List.set_cons_zero]))
      refine one_L (i := 1) (by kernel_rfl) rfl (by rfl) (fun K9 hK9 => ?_)
      refine o_call (f := ?_) (args := ?_) (v := ?_) ?_ HM rfl ?_ ?_; (case refine_5 => (refine h_call1 (ts := ?_) (x1 := ?_) (v1 := ?_) ?_ (by kernel_rfl) ?_; rotate_left 3; (focus rfl); ((conv => lhs; whnf) <;> rfl))); (case refine_4 => (with_reducible (first | exact whole_w 0 (by decide) (by decide) _ | exact quo_zz 1 3 0 1 0 0 11 l1 l3 l0 l1 mq _))); clear HM; intro w1 HM
      refine hK9 _ _ (heldE HM) ?_; clear hK9 K9; ((try simp only [List.setIfInBounds_toArray]); (try simp only [List.set_cons_succ]); (try simp only [List.set_cons_zero]))
      refine one_L (i := 2) (by kernel_rfl) rfl (by rfl) (fun K9 hK9 => ?_)
      refine o_call (f := ?_) (args := ?_) (v := ?_) ?_ HM rfl ?_ ?_; (case refine_5 => (refine h_call2 (ts := ?_) (x1 := ?_) (x2 := ?_) (v1 := ?_) (v2 := ?_) ?_ (by kernel_rfl) ?_ ?_; rotate_left 5; (focus rfl); (focus ((conv => lhs; whnf) <;> rfl)); ((conv => lhs; whnf) <;> rfl))); (case refine_4 => (with_reducible (first | exact whole_w 0 (by decide) (by decide) _ | exact quo_zz 1 3 0 1 0 0 11 l1 l3 l0 l1 mq _))); clear HM; intro w1 HM
      refine hK9 _ _ (heldE HM) ?_; clear hK9 K9; ((try simp only [List.setIfInBounds_toArray]); (try simp only [List.set_cons_succ]); (try simp only [List.set_cons_zero]))
      refine t_pure (i := 3) (v := ?_) rfl rfl (by kernel_rfl) (fun _ _ _ h => h) (heldE HM) (by rfl) ?_ ?_; rotate_left 1; (focus (refine h_mv (x := ?_) ?_ ?_; rotate_left 1; (focus rfl); ((conv => lhs; whnf) <;> rfl))); ((try simp only [List.setIfInBounds_toArray]); (try simp only [List.set_cons_succ]); (try simp only [List.set_cons_zero]))
      refine t_pure (i := 4) (v := ?_) rfl rfl (by kernel_rfl) (fun _ _ _ h => h) (heldE HM) (by rfl) ?_ ?_; rotate_left 1; (focus (refine h_ext (x := ?_) (i := ?_) (vs := ?_) ?_ ?_ ?_; rotate_left 3; (focus rfl); (focus ((conv => lhs; whnf) <;> rfl)); (conv => lhs; whnf) <;> rfl)); ((try simp only [List.setIfInBounds_toArray]); (try simp only [List.set_cons_succ]); (try simp only [List.set_cons_zero]))
      refine t_pure (i := 5) (v := ?_) rfl rfl (by kernel_rfl) (fun _ _ _ h => h) (heldE HM) (by rfl) ?_ ?_; rotate_left 1; (focus (refine h_ext (x := ?_) (i := ?_) (vs := ?_) ?_ ?_ ?_; rotate_left 3; (focus rfl); (focus ((conv => lhs; whnf) <;> rfl)); (conv => lhs; whnf) <;> rfl)); ((try simp only [List.setIfInBounds_toArray]); (try simp only [List.set_cons_succ]); (try simp only [List.set_cons_zero]))
      refine one_L (i := 7) (by kernel_rfl) rfl (by rfl) (fun K9 hK9 => ?_)
      refine o_st (c := ?_) (c' := ?_) (L' := ?_) HM rfl rfl rfl rfl ?_ ?_ ?_; rotate_left 3; (focus (repeat (first | exact At.here | (refine At.there (L' := ?_) ?_; rotate_left 1)))); (focus (first | (with_reducible assumption) | ((first | refine sa_z _ ?_ | refine sa_i _ _ ?_ | refine sa_mag _ ?_ | refine sa_arr _ ?_); (first | exact zA_size _ | exact Bg.intA_size _ _ | exact Bg.row_size _ _)) | exact sa_neg _ _ _ | assumption)); clear HM; intro w1 HM
      refine hK9 _ _ (heldN (by kernel_rfl)) ?_; clear hK9 K9
      refine t_pure (i := 8) (v := ?_) rfl rfl (by kernel_rfl) (fun _ _ _ h => h) (heldN (by kernel_rfl)) (by rfl) ?_ ?_; rotate_left 1; (focus (refine h_as (x := ?_) ?_ ?_; rotate_left 1; (focus rfl); ((conv => lhs; whnf) <;> rfl))); ((try simp only [List.setIfInBounds_toArray]); (try simp only [List.set_cons_succ]); (try simp only [List.set_cons_zero]))
      refine wpAnyL_done (by kernel_rfl) ?_ _
      (go_wp2_with fail; go_meet; (case rel => refine ⟨rfl, ?_⟩; refine HM.less ?_; (repeat (first | exact Sub.nil | refine Sub.keep ?_ | refine Sub.skip ?_))))
  case rest =>
    clear HM
    obtain ⟨rfl, HM⟩ := hcut
    go_wp2_with (first | first
      | ((with_reducible refine m_bld (v := ?_) ?_ ?_ ?_); rotate_left 1; (focus (first | exact Or.inl rfl | exact Or.inr ⟨_, _, _, rfl, rfl, rfl⟩)); (focus (first | (refine h_br (x := ?_) (y := ?_) (n := ?_) (d := ?_) ?_ ?_ ?_; rotate_left 4; (focus rfl); (focus rfl); (focus rfl)) | (refine h_br0 ?_; rfl))); ((try simp only [Act.put]); (try simp only [List.setIfInBounds_toArray]); (try simp only [List.set_cons_succ]); (try simp only [List.set_cons_zero])))
      | (go_at_call 15; ((with_reducible refine (valid_z 1 2 true l1 l2 o2 _).mono ?_); rintro e9 w2 ⟨rfl, hL⟩; replace HM := HM.call hL; clear hL))
      | (go_at_call 15; ((with_reducible refine (valid_z 0 0 false l0 l0 o0 _).mono ?_); rintro e9 w2 ⟨rfl, hL⟩; replace HM := HM.call hL; clear hL))
      | ((with_reducible refine m_cmpr .eql (1) (2) (1) (2) true (.inl rfl) (by simp) (l1) (l2) (l1) (l2) ?_ ?_ ?_ ?_); (focus (first | exact Or.inl rfl | exact Or.inr ⟨_, _, _, rfl, rfl, rfl⟩)); (focus ((conv => lhs; whnf) <;> rfl)); (focus ((conv => lhs; whnf) <;> rfl)); ((try simp only [Act.put]); (try simp only [List.setIfInBounds_toArray]); (try simp only [List.set_cons_succ]); (try simp only [List.set_cons_zero]))) | (first | ((with_reducible refine m_ld (b := ?_) (k := ?_) (c := ?_) (v := ?_) ?_ ?_ ?_ ?_ ?_); rotate_left 4; (focus (first | exact Or.inl rfl | exact Or.inr ⟨_, _, _, rfl, rfl, rfl⟩)); (focus ((conv => lhs; whnf) <;> rfl)); (focus (first | (refine HM.get ?_; ((repeat (first | exact Look.here | refine Look.there ?_)); done)) | (refine HM.ro (Hid.out ?_) ?_; (focus assumption); (focus simp)))); (focus (first | (with_reducible assumption) | exact la_z _ | exact la_i _ _ | exact la_mag _ | exact la_arr _ | exact la_fldz _ | exact la_fld _ _ | exact la_negz _ | exact la_neg _ _ | assumption | exact LA.one (by kernel_rfl) rfl)); ((try simp only [Act.put]); (try simp only [List.setIfInBounds_toArray]); (try simp only [List.set_cons_succ]); (try simp only [List.set_cons_zero]))) | ((with_reducible refine m_st (b := ?_) (k := ?_) (c := ?_) (c' := ?_) (L' := ?_) (v := ?_) HM ?_ ?_ ?_ ?_ ?_ ?_); rotate_left 6; (focus (first | exact Or.inl rfl | exact Or.inr ⟨_, _, _, rfl, rfl, rfl⟩)); (focus ((conv => lhs; whnf) <;> rfl)); (focus ((conv => lhs; whnf) <;> rfl)); (focus (repeat (first | exact At.here | (refine At.there (L' := ?_) ?_; rotate_left 1)))); (focus (first | (with_reducible assumption) | ((first | refine sa_z _ ?_ | refine sa_i _ _ ?_ | refine sa_mag _ ?_ | refine sa_arr _ ?_); (first | exact zA_size _ | exact Bg.intA_size _ _ | exact Bg.row_size _ _)) | exact sa_neg _ _ _ | assumption)); clear HM; intro w1 HM; ((try simp only [Act.put]); (try simp only [List.setIfInBounds_toArray]); (try simp only [List.set_cons_succ]); (try simp only [List.set_cons_zero]))) | ((with_reducible refine m_al (c := ?_) HM ?_ ?_ ?_); rotate_left 1; (focus (first | exact Or.inl rfl | exact Or.inr ⟨_, _, _, rfl, rfl, rfl⟩)); (focus (first | (with_reducible assumption) | exact za_int | exact za_mag | exact za_arr | assumption)); clear HM; intro bk w1 HM; ((try simp only [Act.put]); (try simp only [List.setIfInBounds_toArray]); (try simp only [List.set_cons_succ]); (try simp only [List.set_cons_zero]))) | ((with_reducible refine m_bx (c := ?_) (v := ?_) HM ?_ ?_ ?_ ?_); rotate_left 2; (focus (first | exact Or.inl rfl | exact Or.inr ⟨_, _, _, rfl, rfl, rfl⟩)); (focus ((conv => lhs; whnf) <;> rfl)); (focus ((conv => lhs; whnf) <;> rfl)); clear HM; intro bk w1 HM; ((try simp only [Act.put]); (try simp only [List.setIfInBounds_toArray]); (try simp only [List.set_cons_succ]); (try simp only [List.set_cons_zero])))))
    go_ret
    exact ⟨rfl, HM.low⟩
end Go.Proofs.Ytekfabhmopkapaa
