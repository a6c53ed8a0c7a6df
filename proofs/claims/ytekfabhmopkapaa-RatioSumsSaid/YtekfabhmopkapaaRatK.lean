/- ratio's Make. -/
import Derived.Test.YtekfabhmopkapaaRatV
namespace Go.Proofs.Ytekfabhmopkapaa
set_option maxRecDepth 8000
open Go.RowKit
theorem whole_iz (s : Bool) (M : Nat) (G x : Int) (hM : M < Bg.lim) (hG : G.natAbs < Bg.lim) (h0 : G ≠ 0) (hx : Hid (x = Bg.toZ s M / G)) (w : World) :
    Calls Try.prog 53 #[.agg (Bg.intA s M), .agg (Bg.zA G)] w fun r w' => r = .returned (.agg (Bg.zA x)) ∧ Below w.heap.size w w' := by
  rw [zA_int G]
  exact whole_n s _ M _ x hM hG (by omega) (Lib.hid (by rw [Bg.toZ_iv]; exact hx.out)) w
theorem fits_z (n d : Int) (f : Bool) (hn : n.natAbs < Bg.lim) (hd : d.natAbs < Bg.lim) (hf : Hid (f = Rt.short n.natAbs d.natAbs)) (w : World) :
    Calls Try.prog 54 #[.agg (Bg.rZ n d)] w fun r w' => r = .returned (.bool f) ∧ Below w.heap.size w w' := by
  rw [rZ_ratA]; exact fits_n _ _ _ _ f hn hd hf w
theorem ediv_lt {p G : Int} (hp : p.natAbs < Bg.lim) : (p / G).natAbs < Bg.lim := Nat.lt_of_le_of_lt (Int.natAbs_ediv_le_natAbs p G) hp
/-- What Make has found when the denominator is not 0. -/
structure Rt.MkSt (p q G x1 x2 n d e : Int) (f : Bool) : Prop where
  eg : G = Rt.sg p q
  e1 : x1 = p / G
  e2 : x2 = q / G
  ef : f = Rt.short x1.natAbs x2.natAbs
  no : f = false → n = 0 ∧ d = 0 ∧ e = 10
  yes : f = true → n = x1 ∧ d = x2 ∧ e = 0
theorem Rt.mkSt {p q n d e : Int} (h0 : q ≠ 0) (hr : (n, d, e) = Rt.mk p q) : ∃ G x1 x2 f, Rt.MkSt p q G x1 x2 n d e f := by
  refine ⟨_, _, _, _, rfl, rfl, rfl, rfl, ?_, ?_⟩
  · intro hf
    unfold Rt.mk at hr
    rw [if_neg h0, if_neg (by rw [hf]; simp)] at hr
    simpa using hr
  · intro hf
    unfold Rt.mk at hr
    rw [if_neg h0, if_pos hf] at hr
    simpa using hr
set_option maxHeartbeats 4000000 in
theorem make_n (s : Bool) (M : Nat) (t : Bool) (N : Nat) (n d e : Int) (hM : M < Bg.lim) (hN : N < Bg.lim) (hr : Hid ((n, d, e) = Rt.mk (Bg.toZ s M) (Bg.toZ t N))) (w : World) :
    Calls Try.prog 11 #[.agg (Bg.intA s M), .agg (Bg.intA t N)] w fun r w' => r = .returned (.tuple #[.agg (Bg.rZ n d), .int .i64 e]) ∧ Below w.heap.size w w' := by
  have HM := Mem.start w
  obtain ⟨p, hp⟩ : ∃ p, Hid (p = Bg.toZ s M) := ⟨_, rfl⟩
  obtain ⟨q, hq⟩ : ∃ p, Hid (p = Bg.toZ t N) := ⟨_, rfl⟩
  obtain ⟨g, hg⟩ : ∃ g, Hid (g = (Bg.toZ t N).sign) := ⟨_, rfl⟩
  have hz0 := za_rat
  have hs1 := sa_rz 0 0 (rZ_size 0 0)
  by_cases h0 : N = 0
  · have hq0 : Bg.toZ t N = 0 := by rw [h0]; cases t <;> rfl
    have hr2 := hr.out
    unfold Rt.mk at hr2
    rw [if_pos hq0] at hr2
    obtain ⟨rfl, rfl, rfl⟩ : n = 0 ∧ d = 0 ∧ e = 11 := by simpa using hr2
    obtain rfl : g = 0 := by rw [hg.out, hq0]; rfl
    clear hr2 hq0 h0
    go_enter Try.func11, Try.ntmps11
    go_wp2_with (first | first | ((with_reducible refine g_bld ?_); refine a_rbl ?_) | (go_at_call 50; ((with_reducible refine (sign_any t N hN 0 hg _).mono ?_); rintro e9 w2 ⟨rfl, hL⟩; replace HM := HM.call hL; clear hL)) | (first | ((with_reducible refine g_ld ?_); refine a_ld HM ?_) | ((with_reducible refine g_st ?_); refine a_st HM ?_; clear HM; intro w1 HM) | ((with_reducible refine g_al ?_); refine a_al HM ?_; clear HM; intro bk w1 HM) | ((with_reducible refine g_bx ?_); refine a_bx HM ?_; clear HM; intro bk w1 HM) | ((with_reducible refine g_bld ?_); refine a_bld ?_)))
    refine bodyPost_ret (r_ct rfl rfl (HM.get (by ((repeat (first | exact Look.here | refine Look.there ?_)); done))) (la_rz _ _)) rfl ⟨rfl, HM.low⟩
  · have hq0 : q ≠ 0 := by
      intro h; have := Bg.toZ_abs t N; rw [← hq.out, h] at this; simp at this; omega
    rw [← hp.out, ← hq.out] at hr
    obtain ⟨G, x1, x2, f, HS⟩ := Rt.mkSt hq0 hr.out
    replace HS := Lib.hid HS
    obtain ⟨g0, hg0⟩ : ∃ z : Int, Hid (z = (Nat.gcd M N : Nat)) := ⟨_, rfl⟩
    have hgc : Nat.gcd p.natAbs q.natAbs = Nat.gcd M N := by rw [hp.out, hq.out, Bg.toZ_abs, Bg.toZ_abs]
    have lg0 : g0.natAbs < Bg.lim := by
      rw [hg0.out, Int.natAbs_natCast]
      exact Nat.lt_of_le_of_lt (Nat.gcd_le_right _ (by omega)) hN
    have hG0 : Hid (G ≠ 0) := Lib.hid (by rw [HS.out.eg]; exact Rt.sg_ne hq0)
    have hGv : (g = -1 ∧ Hid (G = -g0)) ∨ (g = 1 ∧ G = g0) := by
      have hgs : g = q.sign := by rw [hg.out, hq.out]
      rw [HS.out.eg, hg0.out, ← hgc]
      unfold Rt.sg
      rcases Int.lt_or_gt_of_ne hq0 with h | h
      · exact .inl ⟨by rw [hgs]; exact Int.sign_eq_neg_one_of_neg h, Lib.hid (by rw [if_pos h])⟩
      · exact .inr ⟨by rw [hgs]; exact Int.sign_eq_one_of_pos h, by rw [if_neg (by omega)]⟩
    have lG : G.natAbs < Bg.lim := by
      rcases hGv with ⟨_, h⟩ | ⟨_, h⟩
      · rw [h.out, Int.natAbs_neg]; exact lg0
      · rw [h]; exact lg0
    have hx1 : Hid (x1 = Bg.toZ s M / G) := Lib.hid (by rw [HS.out.e1, hp.out])
    have hx2 : Hid (x2 = Bg.toZ t N / G) := Lib.hid (by rw [HS.out.e2, hq.out])
    have l1 : x1.natAbs < Bg.lim := by rw [hx1.out]; exact ediv_lt (by rw [Bg.toZ_abs]; exact hM)
    have l2 : x2.natAbs < Bg.lim := by rw [hx2.out]; exact ediv_lt (by rw [Bg.toZ_abs]; exact hN)
    have hf : Hid (f = Rt.short x1.natAbs x2.natAbs) := Lib.hid HS.out.ef
    have hs2 := sa_rz x1 x2 (rZ_size 0 0)
    have k1 := la_rz x1 x2
    clear hgc h0 hq0
    go_enter Try.func11, Try.ntmps11
    rcases hGv with ⟨rfl, hGn⟩ | ⟨rfl, rfl⟩
    case' inl =>
      go_upto_region 6 with (first | first | (go_at_call 50; ((with_reducible refine (sign_any t N hN _ hg _).mono ?_); rintro e9 w2 ⟨rfl, hL⟩; replace HM := HM.call hL; clear hL)) | (go_at_call 51; ((with_reducible refine (gcd_r s t M N g0 hM hN hg0 _).mono ?_); rintro e9 w2 ⟨rfl, hL⟩; replace HM := HM.call hL; clear hL)) | (go_at_call 52; ((with_reducible refine (neg_z g0 G lg0 hGn _).mono ?_); rintro e9 w2 ⟨rfl, hL⟩; replace HM := HM.call hL; clear hL)) | (first | ((with_reducible refine g_ld ?_); refine a_ld HM ?_) | ((with_reducible refine g_st ?_); refine a_st HM ?_; clear HM; intro w1 HM) | ((with_reducible refine g_al ?_); refine a_al HM ?_; clear HM; intro bk w1 HM) | ((with_reducible refine g_bx ?_); refine a_bx HM ?_; clear HM; intro bk w1 HM) | ((with_reducible refine g_bld ?_); refine a_bld ?_)))
    case' inr =>
      go_upto_region 6 with (first | first | (go_at_call 50; ((with_reducible refine (sign_any t N hN _ hg _).mono ?_); rintro e9 w2 ⟨rfl, hL⟩; replace HM := HM.call hL; clear hL)) | (go_at_call 51; ((with_reducible refine (gcd_r s t M N G hM hN hg0 _).mono ?_); rintro e9 w2 ⟨rfl, hL⟩; replace HM := HM.call hL; clear hL)) | (first | ((with_reducible refine g_ld ?_); refine a_ld HM ?_) | ((with_reducible refine g_st ?_); refine a_st HM ?_; clear HM; intro w1 HM) | ((with_reducible refine g_al ?_); refine a_al HM ?_; clear HM; intro bk w1 HM) | ((with_reducible refine g_bx ?_); refine a_bx HM ?_; clear HM; intro bk w1 HM) | ((with_reducible refine g_bld ?_); refine a_bld ?_)))
    all_goals
      obtain ⟨b4, rfl⟩ := HM.nm1
      go_cut [7] (fun v wc => ∃ b7 : Nat, v = .pointer (some ⟨b7, 0, none⟩) ∧ Mem w [] [(b7, Bg.rZ x1 x2), (b4, Bg.rZ 0 0)] wc)
      case first =>
        refine start_M [8] HM (by kernel_rfl) (fun w0x H9 => ?_)
        replace HM := H9; clear H9
        refine k_ld 0 [2, 5, 6, 8] (heldE HM) ?_
        refine k_ld 1 [2, 5, 6, 8] (heldE HM) ?_
        refine k_ld 3 [5, 6, 8] (heldE HM) ?_
        refine k_ld 4 [5, 6, 8] (heldE HM) ?_
        refine j_two 2 7 ?_ ?_
        · refine j_call2 (v := ?_) HM ?_ ?_; rotate_left 1; (focus (with_reducible (first | exact whole_iz s M G x1 hM lG hG0.out hx1 _ | exact whole_iz t N G x2 hN lG hG0.out hx2 _))); clear HM; intro w1 HM
          refine ⟨(heldE HM), ?_⟩
          refine j_two 5 7 ?_ ?_
          · refine j_call2 (v := ?_) HM ?_ ?_; rotate_left 1; (focus (with_reducible (first | exact whole_iz s M G x1 hM lG hG0.out hx1 _ | exact whole_iz t N G x2 hN lG hG0.out hx2 _))); clear HM; intro w1 HM
            refine ⟨(heldE HM), ?_⟩
            refine t_pure (i := 6) (v := .agg (Bg.rZ x1 x2)) rfl rfl (by kernel_rfl) (fun _ _ _ h => h) (heldE HM) (by rfl) ?_ ?_; (focus (exact h_br (by rfl) (by rfl) (by rfl))); ((try simp only [List.setIfInBounds_toArray]); (try simp only [List.set_cons_succ]); (try simp only [List.set_cons_zero]))
            refine j_one 7 fun K9 hK9 => ?_
            refine j_al HM ?_; clear HM; intro bk w1 HM
            refine hK9 _ _ (heldE HM) ?_; clear hK9 K9
            refine j_one 8 fun K9 hK9 => ?_
            refine j_st HM ?_; clear HM; intro w1 HM
            refine hK9 _ _ heldN ?_; clear hK9 K9
            refine wpAnyL_done (by kernel_rfl) ?_ _
            (go_wp2_with fail; go_meet; (case rel => refine ⟨_, rfl, ?_⟩; refine HM.less ?_; (repeat (first | exact Sub.nil | refine Sub.keep ?_ | refine Sub.skip ?_))))
          · refine j_al HM ?_; clear HM; intro bk w1 HM
            refine ⟨(heldE HM), ?_⟩
            refine j_one 5 fun K9 hK9 => ?_
            refine j_call2 (v := ?_) HM ?_ ?_; rotate_left 1; (focus (with_reducible (first | exact whole_iz s M G x1 hM lG hG0.out hx1 _ | exact whole_iz t N G x2 hN lG hG0.out hx2 _))); clear HM; intro w1 HM
            refine hK9 _ _ (heldE HM) ?_; clear hK9 K9
            refine t_pure (i := 6) (v := .agg (Bg.rZ x1 x2)) rfl rfl (by kernel_rfl) (fun _ _ _ h => h) (heldE HM) (by rfl) ?_ ?_; (focus (exact h_br (by rfl) (by rfl) (by rfl))); ((try simp only [List.setIfInBounds_toArray]); (try simp only [List.set_cons_succ]); (try simp only [List.set_cons_zero]))
            refine j_one 8 fun K9 hK9 => ?_
            refine j_st HM ?_; clear HM; intro w1 HM
            refine hK9 _ _ heldN ?_; clear hK9 K9
            refine wpAnyL_done (by kernel_rfl) ?_ _
            (go_wp2_with fail; go_meet; (case rel => refine ⟨_, rfl, ?_⟩; refine HM.less ?_; (repeat (first | exact Sub.nil | refine Sub.keep ?_ | refine Sub.skip ?_))))
        · refine j_al HM ?_; clear HM; intro bk w1 HM
          refine ⟨(heldE HM), ?_⟩
          refine j_one 2 fun K9 hK9 => ?_
          refine j_call2 (v := ?_) HM ?_ ?_; rotate_left 1; (focus (with_reducible (first | exact whole_iz s M G x1 hM lG hG0.out hx1 _ | exact whole_iz t N G x2 hN lG hG0.out hx2 _))); clear HM; intro w1 HM
          refine hK9 _ _ (heldE HM) ?_; clear hK9 K9
          refine j_one 5 fun K9 hK9 => ?_
          refine j_call2 (v := ?_) HM ?_ ?_; rotate_left 1; (focus (with_reducible (first | exact whole_iz s M G x1 hM lG hG0.out hx1 _ | exact whole_iz t N G x2 hN lG hG0.out hx2 _))); clear HM; intro w1 HM
          refine hK9 _ _ (heldE HM) ?_; clear hK9 K9
          refine t_pure (i := 6) (v := .agg (Bg.rZ x1 x2)) rfl rfl (by kernel_rfl) (fun _ _ _ h => h) (heldE HM) (by rfl) ?_ ?_; (focus (exact h_br (by rfl) (by rfl) (by rfl))); ((try simp only [List.setIfInBounds_toArray]); (try simp only [List.set_cons_succ]); (try simp only [List.set_cons_zero]))
          refine j_one 8 fun K9 hK9 => ?_
          refine j_st HM ?_; clear HM; intro w1 HM
          refine hK9 _ _ heldN ?_; clear hK9 K9
          refine wpAnyL_done (by kernel_rfl) ?_ _
          (go_wp2_with fail; go_meet; (case rel => refine ⟨_, rfl, ?_⟩; refine HM.less ?_; (repeat (first | exact Sub.nil | refine Sub.keep ?_ | refine Sub.skip ?_))))
      case rest =>
        clear HM
        obtain ⟨b7, rfl, HM⟩ := hcut
        cases f with
        | false =>
          obtain ⟨rfl, rfl, rfl⟩ := HS.out.no rfl
          go_wp2_with (first | first | ((with_reducible refine g_bld ?_); refine a_rbl ?_) | (go_at_call 54; ((with_reducible refine (fits_z x1 x2 false l1 l2 hf _).mono ?_); rintro e9 w2 ⟨rfl, hL⟩; replace HM := HM.call hL; clear hL)) | (first | ((with_reducible refine g_ld ?_); refine a_ld HM ?_) | ((with_reducible refine g_st ?_); refine a_st HM ?_; clear HM; intro w1 HM) | ((with_reducible refine g_al ?_); refine a_al HM ?_; clear HM; intro bk w1 HM) | ((with_reducible refine g_bx ?_); refine a_bx HM ?_; clear HM; intro bk w1 HM) | ((with_reducible refine g_bld ?_); refine a_bld ?_)))
          refine bodyPost_ret (r_ct (b := b4) (k := 0) rfl rfl (HM.get (by ((repeat (first | exact Look.here | refine Look.there ?_)); done))) (la_rz _ _)) rfl ⟨rfl, HM.low⟩
        | true =>
          obtain ⟨rfl, rfl, rfl⟩ := HS.out.yes rfl
          go_wp2_with (first | first | ((with_reducible refine g_bld ?_); refine a_rbl ?_) | (go_at_call 54; ((with_reducible refine (fits_z n d true l1 l2 hf _).mono ?_); rintro e9 w2 ⟨rfl, hL⟩; replace HM := HM.call hL; clear hL)) | (first | ((with_reducible refine g_ld ?_); refine a_ld HM ?_) | ((with_reducible refine g_st ?_); refine a_st HM ?_; clear HM; intro w1 HM) | ((with_reducible refine g_al ?_); refine a_al HM ?_; clear HM; intro bk w1 HM) | ((with_reducible refine g_bx ?_); refine a_bx HM ?_; clear HM; intro bk w1 HM) | ((with_reducible refine g_bld ?_); refine a_bld ?_)))
          refine bodyPost_ret (r_ct (b := b4) (k := 0) rfl rfl (HM.get (by ((repeat (first | exact Look.here | refine Look.there ?_)); done))) (la_rz _ _)) rfl ⟨rfl, HM.low⟩
end Go.Proofs.Ytekfabhmopkapaa
