/- The document's Add and Sub. -/
import Derived.Test.YtekfabhmopkapaaRefA3
namespace Go.Proofs.Ytekfabhmopkapaa
set_option maxRecDepth 8000
open Go.RowKit
theorem Bg.cmp_neg {a b : Nat} (h : a < b) : Bg.cmp a b = -1 := by unfold Bg.cmp; rw [if_pos h]
theorem Bg.cmp_nn {a b : Nat} (h : ¬ a < b) : ¬ Bg.cmp a b < 0 := by unfold Bg.cmp; rw [if_neg h]; split <;> decide
set_option maxRecDepth 20000 in
set_option maxHeartbeats 2000000 in
theorem radd_any (s t : Bool) (M N : Nat) (z v e : Int) (hM : M < Bg.lim) (hN : N < Bg.lim) (hzz : Hid (z = Bg.toZ s M + Bg.toZ t N)) (hv : Hid (v = Bg.resZ z)) (he : Hid (e = Bg.resE z)) (w : World) :
    Calls Try.prog 69 #[.agg (Bg.intA s M), .agg (Bg.intA t N)] w fun r w' => r = .returned (.tuple #[.agg (Bg.zA v), .int .i64 e]) ∧ Below w.heap.size w w' := by
  have HM := Mem.start w
  obtain ⟨x, hx⟩ : ∃ x, Hid (x = Bg.toZ s M) := ⟨_, rfl⟩
  obtain ⟨y, hy⟩ : ∃ y, Hid (y = Bg.toZ t N) := ⟨_, rfl⟩
  go_enter Try.func69, Try.ntmps69
  go_upto_region 1 with (first | fail | (first | ((with_reducible refine g_ld ?_); refine a_ld HM ?_) | ((with_reducible refine g_st ?_); refine a_st HM ?_; clear HM; intro w1 HM) | ((with_reducible refine g_al ?_); refine a_al HM ?_; clear HM; intro bk w1 HM) | ((with_reducible refine g_bx ?_); refine a_bx HM ?_; clear HM; intro bk w1 HM) | ((with_reducible refine g_bld ?_); refine a_bld ?_)))
  refine start_M [10, 11] HM (by kernel_rfl) (fun w0x H9 => ?_)
  replace HM := H9; clear H9
  refine k_fa 0 (heldE HM) ?_
  refine k_ld 1 [4, 9, 10, 11] (heldE HM) ?_
  refine k_fa 2 (heldE HM) ?_
  refine k_ld 3 [4, 9, 10, 11] (heldE HM) ?_
  refine k_fa 5 (heldE HM) ?_
  refine k_ld 6 [9, 10, 11] (heldE HM) ?_
  refine k_fa 7 (heldE HM) ?_
  refine k_ld 8 [9, 10, 11] (heldE HM) ?_
  refine j_one 4 fun K9 hK9 => ?_
  refine j_call2 (v := ?_) HM ?_ ?_; rotate_left 1; (focus (with_reducible (first | exact rcanon_any s M x hM hx _ | exact rcanon_any t N y hN hy _))); clear HM; intro w1 HM
  refine hK9 _ _ (heldE HM) ?_; clear hK9 K9
  refine j_one 9 fun K9 hK9 => ?_
  refine j_call2 (v := ?_) HM ?_ ?_; rotate_left 1; (focus (with_reducible (first | exact rcanon_any s M x hM hx _ | exact rcanon_any t N y hN hy _))); clear HM; intro w1 HM
  refine hK9 _ _ (heldE HM) ?_; clear hK9 K9
  refine j_one 10 fun K9 hK9 => ?_
  refine j_st HM ?_; clear HM; intro w1 HM
  refine hK9 _ _ heldN ?_; clear hK9 K9
  refine j_one 11 fun K9 hK9 => ?_
  refine j_st HM ?_; clear HM; intro w1 HM
  refine hK9 _ _ heldN ?_; clear hK9 K9
  refine wpAnyL_done (by kernel_rfl) ?_ _
  obtain ⟨br, rfl⟩ := HM.nm0
  rw [zA_int x, zA_int y] at HM
  have hA : x.natAbs < Bg.lim := by rw [hx.out, Bg.toZ_abs]; exact hM
  have hB : y.natAbs < Bg.lim := by rw [hy.out, Bg.toZ_abs]; exact hN
  have hzs : Hid (z = Bg.toZ (decide (x < 0)) x.natAbs + Bg.toZ (decide (y < 0)) y.natAbs) := Lib.hid (by rw [Bg.toZ_iv, Bg.toZ_iv, hzz.out, hx.out, hy.out])
  clear hzz hx hy
  generalize decide (x < 0) = sx at HM hzs
  generalize decide (y < 0) = sy at HM hzs
  generalize x.natAbs = A at HM hzs hA
  generalize y.natAbs = B at HM hzs hB
  by_cases hs : sx = sy
  · subst hs
    obtain ⟨c, hc⟩ : ∃ c, Hid (c = (A + B) % Bg.lim) := ⟨_, rfl⟩
    have hcl : c < Bg.lim := by rw [hc.out]; exact Nat.mod_lt _ (Bg.ppos 32)
    have hzc : z = Bg.toZ sx (A + B) := by rw [hzs.out]; cases sx <;> simp [Bg.toZ] <;> omega
    by_cases hf : A + B < Bg.lim
    · have hfd : Hid (true = decide (A + B < Bg.lim)) := Lib.hid (by simp [hf])
      have hce : c = A + B := by rw [hc.out, Nat.mod_eq_of_lt hf]
      have hzl : z.natAbs < Bg.lim := by rw [hzc, Bg.toZ_abs]; exact hf
      have hvc : Hid (v = Bg.toZ sx c) := Lib.hid (by rw [hv.out, hce, ← hzc]; unfold Bg.resZ; rw [if_pos hzl])
      have he0 : Hid (e = 0) := Lib.hid (by rw [he.out]; unfold Bg.resE; rw [if_pos hzl])
      clear hce hzc hf hzl
      cases sx
      all_goals
        go_wp2_with (first | first | (go_at_call 83; ((with_reducible refine (rsum_any A B c true hA hB hc hfd _).mono ?_); rintro e9 w2 ⟨rfl, hL⟩; replace HM := HM.call hL; clear hL)) | (go_at_call 81; ((with_reducible refine (rcanon_any _ c v hcl hvc _).mono ?_); rintro e9 w2 ⟨rfl, hL⟩; replace HM := HM.call hL; clear hL)) | (first | ((with_reducible refine g_ld ?_); refine a_ld HM ?_) | ((with_reducible refine g_st ?_); refine a_st HM ?_; clear HM; intro w1 HM) | ((with_reducible refine g_al ?_); refine a_al HM ?_; clear HM; intro bk w1 HM) | ((with_reducible refine g_bx ?_); refine a_bx HM ?_; clear HM; intro bk w1 HM) | ((with_reducible refine g_bld ?_); refine a_bld ?_)))
        refine bodyPost_ret (r_ct (b := br) (k := 0) rfl rfl (HM.get (by ((repeat (first | exact Look.here | refine Look.there ?_)); done))) (la_z _)) rfl ⟨?_, HM.low⟩
        rw [he0.out]
        rfl
    · have hfd : Hid (false = decide (A + B < Bg.lim)) := Lib.hid (by simp [hf])
      have hzl : ¬ z.natAbs < Bg.lim := by rw [hzc, Bg.toZ_abs]; exact hf
      have hv0 : Hid (v = 0) := Lib.hid (by rw [hv.out]; unfold Bg.resZ; rw [if_neg hzl])
      have he0 : Hid (e = 10) := Lib.hid (by rw [he.out]; unfold Bg.resE; rw [if_neg hzl])
      clear hzc hf hzl
      cases sx
      all_goals
        go_wp2_with (first | first | (go_at_call 83; ((with_reducible refine (rsum_any A B c false hA hB hc hfd _).mono ?_); rintro e9 w2 ⟨rfl, hL⟩; replace HM := HM.call hL; clear hL)) | (first | ((with_reducible refine g_ld ?_); refine a_ld HM ?_) | ((with_reducible refine g_st ?_); refine a_st HM ?_; clear HM; intro w1 HM) | ((with_reducible refine g_al ?_); refine a_al HM ?_; clear HM; intro bk w1 HM) | ((with_reducible refine g_bx ?_); refine a_bx HM ?_; clear HM; intro bk w1 HM) | ((with_reducible refine g_bld ?_); refine a_bld ?_)))
        refine bodyPost_ret (r_ct (b := br) (k := 0) rfl rfl (HM.get (by ((repeat (first | exact Look.here | refine Look.there ?_)); done))) (la_z _)) rfl ⟨?_, HM.low⟩
        rw [he0.out, hv0.out]
        rfl
  · obtain rfl : sy = !sx := by cases sx <;> cases sy <;> simp_all
    have hne : (sx == !sx) = false := by cases sx <;> rfl
    clear hs
    obtain ⟨g, hg⟩ : ∃ g, Hid (g = Bg.cmp A B) := ⟨_, rfl⟩
    by_cases hlt : A < B
    · have hg1 := Bg.cmp_neg hlt
      rw [← hg.out] at hg1
      subst hg1
      obtain ⟨d, hd⟩ : ∃ d, Hid (d = Bg.dif B A) := ⟨_, rfl⟩
      have hdl : d < Bg.lim := by rw [hd.out]; exact Bg.dif_lt hB hA
      have hzd : z = Bg.toZ (!sx) d := by rw [hzs.out, hd.out]; unfold Bg.dif; rw [if_pos (by omega)]; cases sx <;> simp [Bg.toZ] <;> omega
      have hzl : z.natAbs < Bg.lim := by rw [hzd, Bg.toZ_abs]; exact hdl
      have hvc : Hid (v = Bg.toZ (!sx) d) := Lib.hid (by rw [hv.out, ← hzd]; unfold Bg.resZ; rw [if_pos hzl])
      have he0 : Hid (e = 0) := Lib.hid (by rw [he.out]; unfold Bg.resE; rw [if_pos hzl])
      clear hzd hzl hlt
      cases sx
      all_goals
        go_upto_region 9 with (first | first | (go_at_call 88; ((with_reducible refine (rcompare_any A B (-1) hA hB hg _).mono ?_); rintro e9 w2 ⟨rfl, hL⟩; replace HM := HM.call hL; clear hL)) | (first | ((with_reducible refine g_ld ?_); refine a_ld HM ?_) | ((with_reducible refine g_st ?_); refine a_st HM ?_; clear HM; intro w1 HM) | ((with_reducible refine g_al ?_); refine a_al HM ?_; clear HM; intro bk w1 HM) | ((with_reducible refine g_bx ?_); refine a_bx HM ?_; clear HM; intro bk w1 HM) | ((with_reducible refine g_bld ?_); refine a_bld ?_)))
        refine start_M [8] HM (by kernel_rfl) (fun w0x H9 => ?_)
        replace HM := H9; clear H9
        refine k_fa 0 (heldE HM) ?_
        refine k_ld 1 [7, 8, 9] (heldE HM) ?_
        refine k_fa 2 (heldE HM) ?_
        refine k_ld 3 [6, 7, 8, 9] (heldE HM) ?_
        refine k_fa 4 (heldE HM) ?_
        refine k_ld 5 [6, 7, 8, 9] (heldE HM) ?_
        refine j_one 6 fun K9 hK9 => ?_
        refine j_call2 (v := ?_) HM ?_ ?_; rotate_left 1; (focus (with_reducible (first | exact rdif_any B A d hB hA hd _ | exact rcanon_any _ d v hdl hvc _))); clear HM; intro w1 HM
        refine hK9 _ _ (heldE HM) ?_; clear hK9 K9
        refine j_one 7 fun K9 hK9 => ?_
        refine j_call2 (v := ?_) HM ?_ ?_; rotate_left 1; (focus (with_reducible (first | exact rdif_any B A d hB hA hd _ | exact rcanon_any _ d v hdl hvc _))); clear HM; intro w1 HM
        refine hK9 _ _ (heldE HM) ?_; clear hK9 K9
        refine j_one 8 fun K9 hK9 => ?_
        refine j_st HM ?_; clear HM; intro w1 HM
        refine hK9 _ _ heldN ?_; clear hK9 K9
        refine k_mv 9 heldN ?_
        refine wpAnyL_done (by kernel_rfl) ?_ _
        go_wp2_with fail
        refine bodyPost_ret (r_ct (b := br) (k := 0) rfl rfl (HM.get (by ((repeat (first | exact Look.here | refine Look.there ?_)); done))) (la_z _)) rfl ⟨?_, HM.low⟩
        rw [he0.out]
        rfl
    · have hg1 := Bg.cmp_nn hlt
      rw [← hg.out] at hg1
      obtain ⟨d, hd⟩ : ∃ d, Hid (d = Bg.dif A B) := ⟨_, rfl⟩
      have hdl : d < Bg.lim := by rw [hd.out]; exact Bg.dif_lt hA hB
      have hzd : z = Bg.toZ sx d := by rw [hzs.out, hd.out]; unfold Bg.dif; rw [if_pos (by omega)]; cases sx <;> simp [Bg.toZ] <;> omega
      have hzl : z.natAbs < Bg.lim := by rw [hzd, Bg.toZ_abs]; exact hdl
      have hvc : Hid (v = Bg.toZ sx d) := Lib.hid (by rw [hv.out, ← hzd]; unfold Bg.resZ; rw [if_pos hzl])
      have he0 : Hid (e = 0) := Lib.hid (by rw [he.out]; unfold Bg.resE; rw [if_pos hzl])
      clear hzd hzl hlt
      cases sx
      all_goals
        go_upto_region 9 with (first | first | (go_at_call 88; ((with_reducible refine (rcompare_any A B g hA hB hg _).mono ?_); rintro e9 w2 ⟨rfl, hL⟩; replace HM := HM.call hL; clear hL)) | (first | ((with_reducible refine g_ld ?_); refine a_ld HM ?_) | ((with_reducible refine g_st ?_); refine a_st HM ?_; clear HM; intro w1 HM) | ((with_reducible refine g_al ?_); refine a_al HM ?_; clear HM; intro bk w1 HM) | ((with_reducible refine g_bx ?_); refine a_bx HM ?_; clear HM; intro bk w1 HM) | ((with_reducible refine g_bld ?_); refine a_bld ?_)))
        refine start_M [8] HM (by kernel_rfl) (fun w0x H9 => ?_)
        replace HM := H9; clear H9
        refine k_fa 0 (heldE HM) ?_
        refine k_ld 1 [7, 8, 9] (heldE HM) ?_
        refine k_fa 2 (heldE HM) ?_
        refine k_ld 3 [6, 7, 8, 9] (heldE HM) ?_
        refine k_fa 4 (heldE HM) ?_
        refine k_ld 5 [6, 7, 8, 9] (heldE HM) ?_
        refine j_one 6 fun K9 hK9 => ?_
        refine j_call2 (v := ?_) HM ?_ ?_; rotate_left 1; (focus (with_reducible (first | exact rdif_any A B d hA hB hd _ | exact rcanon_any _ d v hdl hvc _))); clear HM; intro w1 HM
        refine hK9 _ _ (heldE HM) ?_; clear hK9 K9
        refine j_one 7 fun K9 hK9 => ?_
        refine j_call2 (v := ?_) HM ?_ ?_; rotate_left 1; (focus (with_reducible (first | exact rdif_any A B d hA hB hd _ | exact rcanon_any _ d v hdl hvc _))); clear HM; intro w1 HM
        refine hK9 _ _ (heldE HM) ?_; clear hK9 K9
        refine j_one 8 fun K9 hK9 => ?_
        refine j_st HM ?_; clear HM; intro w1 HM
        refine hK9 _ _ heldN ?_; clear hK9 K9
        refine k_mv 9 heldN ?_
        refine wpAnyL_done (by kernel_rfl) ?_ _
        go_wp2_with fail
        refine bodyPost_ret (r_ct (b := br) (k := 0) rfl rfl (HM.get (by ((repeat (first | exact Look.here | refine Look.there ?_)); done))) (la_z _)) rfl ⟨?_, HM.low⟩
        rw [he0.out]
        rfl
end Go.Proofs.Ytekfabhmopkapaa
