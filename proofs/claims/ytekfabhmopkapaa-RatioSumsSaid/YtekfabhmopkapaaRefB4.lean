/- The document's long division. -/
import Derived.Test.YtekfabhmopkapaaRefB3
namespace Go.Proofs.Ytekfabhmopkapaa
set_option maxRecDepth 8000
open Go.RowKit
theorem run_build_int1 (N : Nat) (w : World) : (Instr.build 25 #[(1, .agg (Bg.row 32 N))]).run Try.prog w = .ok (.agg (Bg.intA false N)) w := by
  have hf := fill_int false N
  rw [intA_set0] at hf
  have hz := Bg.zeroInt
  have hs1 := Bg.row_size 32 N
  have hs2 := Bg.intA_size false 0
  have hz2 : ∀ w, (zeroValue 25).run Try.prog w = .ok (.agg (Bg.intA false 0)) w := fun w => by rw [← Bg.zeroInt]; kernel_rfl
  clear hz
  simp [Instr.build, hz2, go_sem, hs1, hs2, hf, Instr.fill, Value.cells]
theorem h_b1 {o : Oper} {a : Act} {x : Operand} {N : Nat} (ho : o.op = .build 25 #[(1, x)]) (hx : a.eval x = .agg (Bg.row 32 N)) : ∀ w, (execOp a.eval o).run Try.prog w = .ok (.value (.agg (Bg.intA false N))) w := fun w => by
  unfold execOp
  simp only [ho, Sem.run_bind, List.map_toArray, List.map_cons, List.map_nil, hx, run_build_int1, Result.andThen_ok, Sem.run_pure]
theorem Bg.dif_mod {X b : Nat} (hb : b < Bg.lim) (h1 : b ≤ X) (h2 : X < b + b) : Bg.dif (X % Bg.lim) b = X - b := by
  unfold Bg.dif
  rcases Nat.lt_or_ge X Bg.lim with h | h
  · rw [Nat.mod_eq_of_lt h, if_pos h1]
  · have e : X % Bg.lim = X - Bg.lim := by rw [Nat.mod_eq_sub_mod h, Nat.mod_eq_of_lt (by omega)]
    rw [e]
    split <;> omega
theorem Bg.cmp_lt0 {a b : Nat} : (0 ≤ Bg.cmp a b) ↔ b ≤ a := by
  unfold Bg.cmp
  split
  · constructor <;> intro h <;> omega
  · split <;> constructor <;> intro h <;> omega
set_option maxRecDepth 20000 in
set_option maxHeartbeats 4000000 in
theorem rdivide_any (a b q r : Nat) (hb0 : 0 < b) (ha : a < Bg.lim) (hb : b < Bg.lim) (hq : Hid (q = a / b)) (hr : Hid (r = a % b)) (w : World) :
    Calls Try.prog 80 #[.agg (Bg.row 32 a), .agg (Bg.row 32 b)] w fun e w' => e = .returned (.tuple #[.agg (Bg.row 32 q), .agg (Bg.row 32 r)]) ∧ Below w.heap.size w w' := by
  have HM := Mem.start w
  obtain ⟨u, hu⟩ : ∃ u, Hid (u = Bg.used a) := ⟨_, rfl⟩
  obtain ⟨v, hv⟩ : ∃ u, Hid (u = Bg.used b) := ⟨_, rfl⟩
  have hu2 := Bg.used_two ha
  have hv2 := Bg.used_two hb
  rw [← hu.out] at hu2
  rw [← hv.out] at hv2
  go_enter Try.func80, Try.ntmps80
  go_upto_region 1 with (first | fail | (first | ((with_reducible refine g_ld ?_); refine a_ld HM ?_) | ((with_reducible refine g_st ?_); refine a_st HM ?_; clear HM; intro w1 HM) | ((with_reducible refine g_al ?_); refine a_al HM ?_; clear HM; intro bk w1 HM) | ((with_reducible refine g_bx ?_); refine a_bx HM ?_; clear HM; intro bk w1 HM) | ((with_reducible refine g_bld ?_); refine a_bld ?_)))
  obtain ⟨br, rfl⟩ := HM.nm0
  obtain ⟨bq, rfl⟩ := HM.nm1
  obtain ⟨bb, rfl⟩ := HM.nm2
  obtain ⟨ba, rfl⟩ := HM.nm3
  by_cases hsm : a < 18446744073709551616 ∧ b < 18446744073709551616
  · as_aux_lemma =>
    obtain ⟨ha64, hb64⟩ := hsm
    have hu3 : (u : Int) ≤ 2 := by simp [ha64] at hu2; omega
    have hv3 : (v : Int) ≤ 2 := by simp [hb64] at hv2; omega
    have hq64 : q < 18446744073709551616 := by rw [hq.out]; exact Nat.lt_of_le_of_lt (Nat.div_le_self _ _) ha64
    have hr64 : r < 18446744073709551616 := by rw [hr.out]; exact Nat.lt_of_le_of_lt (Nat.mod_le _ _) ha64
    clear hu2 hv2
    go_upto_region 2 with (first | first | (go_at_call 84; ((with_reducible refine (limbs_as a u hu _).mono ?_); rintro e9 w2 ⟨rfl, hL⟩; replace HM := HM.call hL; clear hL)) | (go_at_call 84; ((with_reducible refine (limbs_as b v hv _).mono ?_); rintro e9 w2 ⟨rfl, hL⟩; replace HM := HM.call hL; clear hL)) | (first | ((with_reducible refine g_ld ?_); refine a_ld HM ?_) | ((with_reducible refine g_st ?_); refine a_st HM ?_; clear HM; intro w1 HM) | ((with_reducible refine g_al ?_); refine a_al HM ?_; clear HM; intro bk w1 HM) | ((with_reducible refine g_bx ?_); refine a_bx HM ?_; clear HM; intro bk w1 HM) | ((with_reducible refine g_bld ?_); refine a_bld ?_)))
    clear hu3 hv3
    refine start_M [12, 13] HM (by kernel_rfl) (fun w0x H9 => ?_)
    replace HM := H9; clear H9
    refine k_ld 0 [1, 3, 4, 5, 7, 9, 10, 11, 12, 13] (heldE HM) ?_
    refine k_ld 2 [3, 4, 5, 7, 9, 10, 11, 12, 13] (heldE HM) ?_
    refine k_ld 6 [7, 9, 10, 11, 12, 13] (heldE HM) ?_
    refine k_ld 8 [9, 10, 11, 12, 13] (heldE HM) ?_
    refine j_one 1 fun K9 hK9 => ?_
    refine j_call1 (v := ?_) HM ?_ ?_; rotate_left 1; (focus (with_reducible (first | exact rlow_any a ha64 _ | exact rlow_any b hb64 _ | exact rsmall_any q hq64 _ | exact rsmall_any r hr64 _))); clear HM; intro w1 HM
    refine hK9 _ _ (heldE HM) ?_; clear hK9 K9
    refine j_one 3 fun K9 hK9 => ?_
    refine j_call1 (v := ?_) HM ?_ ?_; rotate_left 1; (focus (with_reducible (first | exact rlow_any a ha64 _ | exact rlow_any b hb64 _ | exact rsmall_any q hq64 _ | exact rsmall_any r hr64 _))); clear HM; intro w1 HM
    refine hK9 _ _ (heldE HM) ?_; clear hK9 K9
    refine t_pure (i := 4) (v := .int .u64 (q : Nat)) rfl rfl (by kernel_rfl) (fun _ _ _ h => h) (heldE HM) (by rfl) ?_ ?_; (focus (exact h_bin (by rfl) (by rfl) (by rfl) (by intro w9; go_simp; rw [if_neg (by omega), show (a : Int) / (b : Int) = ((q : Nat) : Int) from by rw [hq.out]; rfl, IntWalk.u64_in _ (by omega)]))); ((try simp only [List.setIfInBounds_toArray]); (try simp only [List.set_cons_succ]); (try simp only [List.set_cons_zero]))
    refine j_one 5 fun K9 hK9 => ?_
    refine j_call1 (v := ?_) HM ?_ ?_; rotate_left 1; (focus (with_reducible (first | exact rlow_any a ha64 _ | exact rlow_any b hb64 _ | exact rsmall_any q hq64 _ | exact rsmall_any r hr64 _))); clear HM; intro w1 HM
    refine hK9 _ _ (heldE HM) ?_; clear hK9 K9
    refine j_one 7 fun K9 hK9 => ?_
    refine j_call1 (v := ?_) HM ?_ ?_; rotate_left 1; (focus (with_reducible (first | exact rlow_any a ha64 _ | exact rlow_any b hb64 _ | exact rsmall_any q hq64 _ | exact rsmall_any r hr64 _))); clear HM; intro w1 HM
    refine hK9 _ _ (heldE HM) ?_; clear hK9 K9
    refine j_one 9 fun K9 hK9 => ?_
    refine j_call1 (v := ?_) HM ?_ ?_; rotate_left 1; (focus (with_reducible (first | exact rlow_any a ha64 _ | exact rlow_any b hb64 _ | exact rsmall_any q hq64 _ | exact rsmall_any r hr64 _))); clear HM; intro w1 HM
    refine hK9 _ _ (heldE HM) ?_; clear hK9 K9
    refine t_pure (i := 10) (v := .int .u64 (r : Nat)) rfl rfl (by kernel_rfl) (fun _ _ _ h => h) (heldE HM) (by rfl) ?_ ?_; (focus (exact h_bin (by rfl) (by rfl) (by rfl) (by intro w9; go_simp; rw [if_neg (by omega), show (a : Int).tmod (b : Int) = ((r : Nat) : Int) from by rw [hr.out]; rfl]))); ((try simp only [List.setIfInBounds_toArray]); (try simp only [List.set_cons_succ]); (try simp only [List.set_cons_zero]))
    refine j_one 11 fun K9 hK9 => ?_
    refine j_call1 (v := ?_) HM ?_ ?_; rotate_left 1; (focus (with_reducible (first | exact rlow_any a ha64 _ | exact rlow_any b hb64 _ | exact rsmall_any q hq64 _ | exact rsmall_any r hr64 _))); clear HM; intro w1 HM
    refine hK9 _ _ (heldE HM) ?_; clear hK9 K9
    refine j_one 12 fun K9 hK9 => ?_
    refine j_st HM ?_; clear HM; intro w1 HM
    refine hK9 _ _ heldN ?_; clear hK9 K9
    refine j_one 13 fun K9 hK9 => ?_
    refine j_st HM ?_; clear HM; intro w1 HM
    refine hK9 _ _ heldN ?_; clear hK9 K9
    refine wpAnyL_done (by kernel_rfl) ?_ _
    go_wp2_with (first | fail | (first | ((with_reducible refine g_ld ?_); refine a_ld HM ?_) | ((with_reducible refine g_st ?_); refine a_st HM ?_; clear HM; intro w1 HM) | ((with_reducible refine g_al ?_); refine a_al HM ?_; clear HM; intro bk w1 HM) | ((with_reducible refine g_bx ?_); refine a_bx HM ?_; clear HM; intro bk w1 HM) | ((with_reducible refine g_bld ?_); refine a_bld ?_)))
    refine bodyPost_ret (r_cc (b := bq) (k := 0) (b2 := br) (k2 := 0) rfl rfl rfl (HM.get (by ((repeat (first | exact Look.here | refine Look.there ?_)); done))) (la_arr _) (HM.get (by ((repeat (first | exact Look.here | refine Look.there ?_)); done))) (la_arr _)) rfl ⟨rfl, HM.low⟩
  · obtain ⟨m, hm⟩ : ∃ m : Nat, Hid (m = Bg.bl a) := ⟨_, rfl⟩
    obtain ⟨nb, hnb⟩ : ∃ m : Nat, Hid (m = Bg.bl b) := ⟨_, rfl⟩
    have hbb := (Bg.bl_bounds hb).2 (by omega)
    have hab := (Bg.bl_bounds ha).1
    have hm24 : m ≤ 1024 := by rw [hm.out]; exact Bg.bl_1024 ha
    have hn24 : nb ≤ 1024 := by rw [hnb.out]; exact Bg.bl_1024 hb
    rw [← hnb.out] at hbb
    rw [← hm.out] at hab
    obtain ⟨n, rfl⟩ : ∃ n, nb = n + 1 := ⟨nb - 1, by omega⟩
    rw [Nat.add_sub_cancel] at hbb
    have hbn := hbb.2
    clear hbb
    unfold Bg.p2 at hbn hab
    have hmI : Hid ((m : Int) = (Bg.bl a : Int)) := Lib.hid (by rw [hm.out])
    have hnI : Hid (((n + 1 : Nat) : Int) = (Bg.bl b : Int)) := Lib.hid (by rw [hnb.out])
    have hbn := Lib.hid hbn
    have hab := Lib.hid hab
    have e1 : ((n + 1 : Nat) : Int) - 1 = (n : Int) := by omega
    go_cut [17] (fun v wc => v = .bool false ∧ Mem w [] [(br, Bg.row 32 0), (bq, Bg.row 32 0), (bb, Bg.row 32 b), (ba, Bg.row 32 a)] wc)
    case first =>
      by_cases hua : a < 18446744073709551616
      · have hu3 : (u : Int) ≤ 2 := by simp [hua] at hu2; omega
        have hv3 : decide ((v : Int) ≤ 2) = false := by have h : ¬ b < 18446744073709551616 := fun h => hsm ⟨hua, h⟩; simp [h] at hv2; simp; omega
        clear hsm hua hu2 hv2
        go_wp2_with (first | first | (go_at_call 84; ((with_reducible refine (limbs_as a u hu _).mono ?_); rintro e9 w2 ⟨rfl, hL⟩; replace HM := HM.call hL; clear hL)) | (go_at_call 84; ((with_reducible refine (limbs_as b v hv _).mono ?_); rintro e9 w2 ⟨rfl, hL⟩; replace HM := HM.call hL; clear hL)) | (first | ((with_reducible refine g_ld ?_); refine a_ld HM ?_) | ((with_reducible refine g_st ?_); refine a_st HM ?_; clear HM; intro w1 HM) | ((with_reducible refine g_al ?_); refine a_al HM ?_; clear HM; intro bk w1 HM) | ((with_reducible refine g_bx ?_); refine a_bx HM ?_; clear HM; intro bk w1 HM) | ((with_reducible refine g_bld ?_); refine a_bld ?_)))
        go_meet
        case rel => exact ⟨rfl, HM⟩
      · have hu3 : decide ((u : Int) ≤ 2) = false := by simp [hua] at hu2; simp; omega
        clear hsm hua hu2 hv2
        go_wp2_with (first | first | (go_at_call 84; ((with_reducible refine (limbs_as a u hu _).mono ?_); rintro e9 w2 ⟨rfl, hL⟩; replace HM := HM.call hL; clear hL)) | (first | ((with_reducible refine g_ld ?_); refine a_ld HM ?_) | ((with_reducible refine g_st ?_); refine a_st HM ?_; clear HM; intro w1 HM) | ((with_reducible refine g_al ?_); refine a_al HM ?_; clear HM; intro bk w1 HM) | ((with_reducible refine g_bx ?_); refine a_bx HM ?_; clear HM; intro bk w1 HM) | ((with_reducible refine g_bld ?_); refine a_bld ?_)))
        go_meet
        case rel => exact ⟨rfl, HM⟩
    case rest =>
      clear HM hsm hu2 hv2
      obtain ⟨rfl, HM⟩ := hcut
      go_step
      go_upto_region 3 with fail
      refine start_M [] HM (by kernel_rfl) (fun w0x H9 => ?_)
      replace HM := H9; clear H9
      refine k_ld 0 [] (heldE HM) ?_
      refine t_pure (i := 1) (v := .agg (Bg.intA false a)) rfl rfl (by kernel_rfl) (fun _ _ _ h => h) (heldE HM) (by rfl) ?_ ?_; (focus (exact h_b1 (by rfl) (by rfl))); ((try simp only [List.setIfInBounds_toArray]); (try simp only [List.set_cons_succ]); (try simp only [List.set_cons_zero]))
      refine k_ld 3 [] (heldE HM) ?_
      refine t_pure (i := 4) (v := .agg (Bg.intA false b)) rfl rfl (by kernel_rfl) (fun _ _ _ h => h) (heldE HM) (by rfl) ?_ ?_; (focus (exact h_b1 (by rfl) (by rfl))); ((try simp only [List.setIfInBounds_toArray]); (try simp only [List.set_cons_succ]); (try simp only [List.set_cons_zero]))
      refine j_one 2 fun K9 hK9 => ?_
      refine j_call1 (v := ?_) HM ?_ ?_; rotate_left 1; (focus (with_reducible (first | exact rbits_any false a _ ha hmI _ | exact rbits_any false b _ hb hnI _))); clear HM; intro w1 HM
      refine hK9 _ _ (heldE HM) ?_; clear hK9 K9
      refine j_one 5 fun K9 hK9 => ?_
      refine j_call1 (v := ?_) HM ?_ ?_; rotate_left 1; (focus (with_reducible (first | exact rbits_any false a _ ha hmI _ | exact rbits_any false b _ hb hnI _))); clear HM; intro w1 HM
      refine hK9 _ _ (heldE HM) ?_; clear hK9 K9
      refine t_pure (i := 6) (v := .int .i64 (n : Nat)) rfl rfl (by kernel_rfl) (fun _ _ _ h => h) (heldE HM) (by rfl) ?_ ?_; (focus (exact h_bin (by rfl) (by rfl) (by rfl) (by intro w9; go_simp; rw [IntWalk.i64_in _ (by omega)]; first | done | omega))); ((try simp only [List.setIfInBounds_toArray]); (try simp only [List.set_cons_succ]); (try simp only [List.set_cons_zero]))
      refine k_mv 7 (heldE HM) ?_
      refine k_mv 8 (heldE HM) ?_
      refine wpAnyL_done (by kernel_rfl) ?_ _
      clear e1
      by_cases hmn : m ≤ n
      · as_aux_lemma =>
        have hmnI : (m : Int) ≤ (n : Int) := by omega
        have hlt : a < b := by
          have h1 := hab.out
          have h2 := hbn.out
          have h3 := Nat.pow_le_pow_right (n := 2) (by decide) hmn
          omega
        have hQ0 : Hid (q = 0) := Lib.hid (by rw [hq.out, Nat.div_eq_of_lt hlt])
        have hR0 : Hid (r = a) := Lib.hid (by rw [hr.out, Nat.mod_eq_of_lt hlt])
        clear hlt hmn
        go_upto_region 5 with fail
        refine start_M [2, 3] HM (by kernel_rfl) (fun w0x H9 => ?_)
        replace HM := H9; clear H9
        refine k_ld 0 [2, 3] (heldE HM) ?_
        refine j_two 1 2 ?_ ?_
        · refine j_ld HM ?_
          refine ⟨(heldE HM), ?_⟩
          refine j_one 2 fun K9 hK9 => ?_
          refine j_st HM ?_; clear HM; intro w1 HM
          refine hK9 _ _ heldN ?_; clear hK9 K9
          refine j_one 3 fun K9 hK9 => ?_
          refine j_st HM ?_; clear HM; intro w1 HM
          refine hK9 _ _ heldN ?_; clear hK9 K9
          refine wpAnyL_done (by kernel_rfl) ?_ _
          (go_wp2_with fail; refine bodyPost_ret (r_cc (b := bq) (k := 0) (b2 := br) (k2 := 0) rfl rfl rfl (HM.get (by ((repeat (first | exact Look.here | refine Look.there ?_)); done))) (la_arr _) (HM.get (by ((repeat (first | exact Look.here | refine Look.there ?_)); done))) (la_arr _)) rfl ⟨?_, HM.low⟩; rw [hQ0.out, hR0.out])
        · refine j_st HM ?_; clear HM; intro w1 HM
          refine ⟨heldN, ?_⟩
          refine j_one 1 fun K9 hK9 => ?_
          refine j_ld HM ?_
          refine hK9 _ _ heldN ?_; clear hK9 K9
          refine j_one 3 fun K9 hK9 => ?_
          refine j_st HM ?_; clear HM; intro w1 HM
          refine hK9 _ _ heldN ?_; clear hK9 K9
          refine wpAnyL_done (by kernel_rfl) ?_ _
          (go_wp2_with fail; refine bodyPost_ret (r_cc (b := bq) (k := 0) (b2 := br) (k2 := 0) rfl rfl rfl (HM.get (by ((repeat (first | exact Look.here | refine Look.there ?_)); done))) (la_arr _) (HM.get (by ((repeat (first | exact Look.here | refine Look.there ?_)); done))) (la_arr _)) rfl ⟨?_, HM.low⟩; rw [hQ0.out, hR0.out])
      · obtain ⟨d, hd⟩ : ∃ d, Hid (m = n + d) := ⟨m - n, Lib.hid (by omega)⟩
        have hd1 : 1 ≤ d := by have := hd.out; omega
        have hd24 : d ≤ 1024 := by have := hd.out; omega
        have hmnI : ¬ (m : Int) ≤ (n : Int) := by omega
        have e1 : (m : Int) - (n : Int) = (d : Int) := by have := hd.out; omega
        obtain ⟨R0, hR0⟩ : ∃ x, Hid (x = a / 2 ^ d) := ⟨_, rfl⟩
        have HS0 : Hid (Bg.BdSt a b d 0 R0) := Lib.hid (by rw [hR0.out]; exact Bg.BdSt.start hbn.out (by rw [← hd.out]; exact hab.out))
        go_upto_region 7 with (first | (go_at_call 102; ((with_reducible refine (rshifted_any a d R0 ha hd24 hR0 _).mono ?_); rintro e9 w2 ⟨rfl, hL⟩; replace HM := HM.call hL; clear hL)) | (first | ((with_reducible refine g_ld ?_); refine a_ld HM ?_) | ((with_reducible refine g_st ?_); refine a_st HM ?_; clear HM; intro w1 HM) | ((with_reducible refine g_al ?_); refine a_al HM ?_; clear HM; intro bk w1 HM) | ((with_reducible refine g_bx ?_); refine a_bx HM ?_; clear HM; intro bk w1 HM) | ((with_reducible refine g_bld ?_); refine a_bld ?_)))
        clear hmn
        go_wp2_with fail
        go_loopw [8] (fun i wr => ∃ j Q R : Nat, j ≤ d ∧ i = .int .i64 (j - 1) ∧ Hid (Bg.BdSt a b j Q R) ∧ Mem w [] [(br, Bg.row 32 R), (bq, Bg.row 32 Q), (bb, Bg.row 32 b), (ba, Bg.row 32 a)] wr) (fun i _ => (intOf i + 1).toNat)
        case atStart => exact ⟨d, 0, R0, Nat.le_refl _, by go_num, HS0, HM⟩
        case round =>
          clear HM e1 hmnI HS0
          obtain ⟨j, Q, R, hjd, rfl, HS, HM⟩ := hrel
          cases j with
          | zero =>
            as_aux_lemma =>
            rw [show ((0 : Nat) : Int) - 1 = -1 from rfl]
            obtain ⟨h1, h2⟩ := HS.out.done
            have hQ0 : Hid (q = Q) := Lib.hid (by rw [hq.out, h1])
            have hR0 : Hid (r = R) := Lib.hid (by rw [hr.out, h2])
            clear h1 h2
            go_upto_region 15 with fail
            refine start_M [2, 3] HM (by kernel_rfl) (fun w0x H9 => ?_)
            replace HM := H9; clear H9
            refine k_ld 0 [2, 3] (heldE HM) ?_
            refine j_two 1 2 ?_ ?_
            · refine j_ld HM ?_
              refine ⟨(heldE HM), ?_⟩
              refine j_one 2 fun K9 hK9 => ?_
              refine j_st HM ?_; clear HM; intro w1 HM
              refine hK9 _ _ heldN ?_; clear hK9 K9
              refine j_one 3 fun K9 hK9 => ?_
              refine j_st HM ?_; clear HM; intro w1 HM
              refine hK9 _ _ heldN ?_; clear hK9 K9
              refine wpAnyL_done (by kernel_rfl) ?_ _
              (go_wp2_with fail; refine bodyPost_ret (r_cc (b := bq) (k := 0) (b2 := br) (k2 := 0) rfl rfl rfl (HM.get (by ((repeat (first | exact Look.here | refine Look.there ?_)); done))) (la_arr _) (HM.get (by ((repeat (first | exact Look.here | refine Look.there ?_)); done))) (la_arr _)) rfl ⟨?_, HM.low⟩; rw [hQ0.out, hR0.out])
            · refine j_st HM ?_; clear HM; intro w1 HM
              refine ⟨heldN, ?_⟩
              refine j_one 1 fun K9 hK9 => ?_
              refine j_ld HM ?_
              refine hK9 _ _ heldN ?_; clear hK9 K9
              refine j_one 3 fun K9 hK9 => ?_
              refine j_st HM ?_; clear HM; intro w1 HM
              refine hK9 _ _ heldN ?_; clear hK9 K9
              refine wpAnyL_done (by kernel_rfl) ?_ _
              (go_wp2_with fail; refine bodyPost_ret (r_cc (b := bq) (k := 0) (b2 := br) (k2 := 0) rfl rfl rfl (HM.get (by ((repeat (first | exact Look.here | refine Look.there ?_)); done))) (la_arr _) (HM.get (by ((repeat (first | exact Look.here | refine Look.there ?_)); done))) (la_arr _)) rfl ⟨?_, HM.low⟩; rw [hQ0.out, hR0.out])
          | succ j =>
            as_aux_lemma =>
            have e1 : ((j + 1 : Nat) : Int) - 1 = (j : Int) := by omega
            rw [e1]
            clear e1
            obtain ⟨k, hk⟩ : ∃ k, Hid (k = j / 32) := ⟨_, rfl⟩
            obtain ⟨s, hs⟩ : ∃ k, Hid (k = j % 32) := ⟨_, rfl⟩
            have hk32 : k < 32 := by have := hk.out; omega
            have hs32 : s < 32 := by have := hs.out; omega
            have hjk : Hid (32 * k + s = j) := Lib.hid (by rw [hk.out, hs.out]; omega)
            have e2 : (j : Int) / 32 = (k : Int) := by rw [hk.out]; simp
            have e3 : (j : Int) % 32 = (s : Int) := by rw [hs.out]; simp
            obtain ⟨x, hx⟩ : ∃ x, Hid (x = Bg.limb a k) := ⟨_, rfl⟩
            have hxl : x < 4294967296 := by rw [hx.out]; exact Bg.limb_lt _ _
            obtain ⟨y, hy⟩ : ∃ y, Hid (y = x / 2 ^ s) := ⟨_, rfl⟩
            have hyl : y < 4294967296 := by rw [hy.out]; exact Nat.lt_of_le_of_lt (Nat.div_le_self _ _) hxl
            obtain ⟨c, hc⟩ : ∃ c, Hid (c = a / 2 ^ j % 2) := ⟨_, rfl⟩
            have hc1 : c ≤ 1 := by rw [hc.out]; omega
            have hand : Hid (y &&& 1 = c) := Lib.hid (by rw [hc.out, hy.out, hx.out, Bg.bit_at a k s hs32, hjk.out])
            have hRb : R < b := by rw [HS.out.r]; exact Nat.mod_lt _ hb0
            have hRl : R < Bg.lim := by omega
            obtain ⟨X, hX⟩ : ∃ X, Hid (X = 2 * R + c) := ⟨_, rfl⟩
            obtain ⟨Z, hZ⟩ : ∃ X, Hid (X = (2 * R + c) % Bg.lim) := ⟨_, rfl⟩
            have hZl : Z < Bg.lim := by rw [hZ.out]; exact Nat.mod_lt _ (Bg.ppos 32)
            obtain ⟨F, hF⟩ : ∃ F, Hid (F = decide (Bg.lim ≤ 2 * R + c)) := ⟨_, rfl⟩
            have hf1 : LA 22 (Bg.row 32 a) k (.int .u32 (x : Nat)) := by rw [hx.out]; exact la_lim a k hk32
            have hq0 : (0 : Int) ≤ (k : Int) := by omega
            have hq1 : (k : Int) < 32 := by omega
            have hq2 : (0 : Int) ≤ (j : Int) := by omega
            go_upto_region 11 with fail
            refine start_M [14] HM (by kernel_rfl) (fun w0x H9 => ?_)
            replace HM := H9; clear H9
            refine k_ld 0 [10, 11, 12, 13, 14, 15] (heldE HM) ?_
            refine k_mv 1 (heldE HM) ?_
            refine t_pure (i := 2) (v := .int .i64 (k : Nat)) rfl rfl (by kernel_rfl) (fun _ _ _ h => h) (heldE HM) (by rfl) ?_ ?_; (focus (exact h_bin (by rfl) (by rfl) (by rfl) (by intro w9; go_simp; rw [IntWalk.i64_in _ (by omega)]))); ((try simp only [List.setIfInBounds_toArray]); (try simp only [List.set_cons_succ]); (try simp only [List.set_cons_zero]))
            refine k_ia 3 (heldE HM) ?_
            refine k_ld 4 [8, 9, 10, 11, 12, 13, 14, 15] (heldE HM) ?_
            refine k_mv 5 (heldE HM) ?_
            refine t_pure (i := 6) (v := .int .i64 (s : Nat)) rfl rfl (by kernel_rfl) (fun _ _ _ h => h) (heldE HM) (by rfl) ?_ ?_; (focus (exact h_bin (by rfl) (by rfl) (by rfl) (by intro w9; go_simp; rw [show (j : Int).tmod 32 = ((s : Nat) : Int) from by rw [hs.out]; rfl]))); ((try simp only [List.setIfInBounds_toArray]); (try simp only [List.set_cons_succ]); (try simp only [List.set_cons_zero]))
            refine k_cv 7 (heldE HM) ?_
            refine t_pure (i := 8) (v := .int .u32 (y : Nat)) rfl rfl (by kernel_rfl) (fun _ _ _ h => h) (heldE HM) (by rfl) ?_ ?_; (focus (exact h_bin (by rfl) (by rfl) (by rfl) (by intro w9; go_simp; rw [hy.out]; simp))); ((try simp only [List.setIfInBounds_toArray]); (try simp only [List.set_cons_succ]); (try simp only [List.set_cons_zero]))
            refine t_pure (i := 9) (v := .int .u32 (c : Nat)) rfl rfl (by kernel_rfl) (fun _ _ _ h => h) (heldE HM) (by rfl) ?_ ?_; (focus (exact h_bin (by rfl) (by rfl) (by rfl) (by intro w9; go_simp; rw [show (1 : Int) = ((1 : Nat) : Int) from rfl, u32_and_nat _ 1 hyl (by decide), hand.out]))); ((try simp only [List.setIfInBounds_toArray]); (try simp only [List.set_cons_succ]); (try simp only [List.set_cons_zero]))
            refine j_one 10 fun K9 hK9 => ?_
            refine j_call2 (v := ?_) HM ?_ ?_; rotate_left 1; (focus (with_reducible (first | exact rdouble_any R c Z F hRl hc1 hZ hF _))); clear HM; intro w1 HM
            refine hK9 _ _ (heldE HM) ?_; clear hK9 K9
            refine k_mv 11 (heldE HM) ?_
            refine k_ext 12 (heldE HM) ?_
            refine k_ext 13 (heldE HM) ?_
            refine j_one 14 fun K9 hK9 => ?_
            refine j_st HM ?_; clear HM; intro w1 HM
            refine hK9 _ _ heldN ?_; clear hK9 K9
            refine k_mv 15 heldN ?_
            refine wpAnyL_done (by kernel_rfl) ?_ _
            clear hf1 hq0 hq1
            by_cases hge : b ≤ X
            · have hXb : X < b + b := by rw [hX.out]; omega
              obtain ⟨D, hD⟩ : ∃ D, Hid (D = Bg.dif Z b) := ⟨_, rfl⟩
              have hDX : D = X - b := by rw [hD.out, hZ.out, ← hX.out]; exact Bg.dif_mod hb hge hXb
              have HS2 := (HS.out.more hb0 (x := X) (by rw [hX.out, hc.out]) hge).1
              obtain ⟨hbs, hbl⟩ := Bg.bit_set Q k s hs32 (by rw [hjk.out]; exact HS.out.free)
              rw [hjk.out] at hbs
              rw [← hbs, ← hDX] at HS2
              replace HS2 := Lib.hid HS2
              have HGE := Lib.hid hge
              clear hbs hDX hge hXb HS
              go_upto_region 12 with fail
              go_cut [75] (fun v wc => v = .bool true ∧ Mem w [] [(br, Bg.row 32 Z), (bq, Bg.row 32 Q), (bb, Bg.row 32 b), (ba, Bg.row 32 a)] wc)
              case first =>
                by_cases hFl : Bg.lim ≤ 2 * R + c
                · obtain rfl : F = true := by rw [hF.out]; simp [hFl]
                  clear hFl
                  go_wp2_with (first | fail | (first | ((with_reducible refine g_ld ?_); refine a_ld HM ?_) | ((with_reducible refine g_st ?_); refine a_st HM ?_; clear HM; intro w1 HM) | ((with_reducible refine g_al ?_); refine a_al HM ?_; clear HM; intro bk w1 HM) | ((with_reducible refine g_bx ?_); refine a_bx HM ?_; clear HM; intro bk w1 HM) | ((with_reducible refine g_bld ?_); refine a_bld ?_)))
                  go_meet
                  case rel => exact ⟨rfl, HM⟩
                · obtain rfl : F = false := by rw [hF.out]; simp [hFl]
                  obtain ⟨g, hg⟩ : ∃ g, Hid (g = Bg.cmp Z b) := ⟨_, rfl⟩
                  have hg0 : 0 ≤ g := by
                    rw [hg.out, Bg.cmp_lt0, hZ.out, Nat.mod_eq_of_lt (by omega), ← hX.out]; exact HGE.out
                  clear hFl
                  go_wp2_with (first | (go_at_call 88; ((with_reducible refine (rcompare_any Z b g hZl hb hg _).mono ?_); rintro e9 w2 ⟨rfl, hL⟩; replace HM := HM.call hL; clear hL)) | (first | ((with_reducible refine g_ld ?_); refine a_ld HM ?_) | ((with_reducible refine g_st ?_); refine a_st HM ?_; clear HM; intro w1 HM) | ((with_reducible refine g_al ?_); refine a_al HM ?_; clear HM; intro bk w1 HM) | ((with_reducible refine g_bx ?_); refine a_bx HM ?_; clear HM; intro bk w1 HM) | ((with_reducible refine g_bld ?_); refine a_bld ?_)))
                  go_meet
                  case rel => exact ⟨rfl, HM⟩
              case rest =>
                clear HM
                obtain ⟨rfl, HM⟩ := hcut
                go_step
                have hx2 := Bg.limb_lt Q k
                obtain ⟨y2, hy2⟩ : ∃ y2, Hid (y2 = Bg.limb Q k) := ⟨_, rfl⟩
                rw [← hy2.out] at HS2 hbl
                have hy2l : y2 < 4294967296 := by rw [hy2.out]; exact hx2
                have hf2 : LA 22 (Bg.row 32 Q) k (.int .u32 (y2 : Nat)) := by rw [hy2.out]; exact la_lim Q k hk32
                have h2s : 2 ^ s < 2 ^ 32 := Nat.pow_lt_pow_right (by omega) hs32
                have hf3 : SA 22 (Bg.row 32 Q) k (.int .u32 (bits .or .u32 (y2 : Int) ((2 : Int) ^ s % 4294967296))) (Bg.row 32 (Bg.setL Q k (y2 ||| 2 ^ s))) := by
                  rw [show ((2 : Int) ^ s % 4294967296) = ((2 ^ s : Nat) : Int) from by
                    rw [show (2 : Int) ^ s = ((2 ^ s : Nat) : Int) from by simp]
                    generalize 2 ^ s = tt at h2s ⊢
                    omega, u32_or_nat _ _ hy2l h2s]
                  exact sa_lim Q k (y2 ||| 2 ^ s) hbl hk32
                clear h2s
                have hq0 : (0 : Int) ≤ (k : Int) := by omega
                have hq1 : (k : Int) < 32 := by omega
                go_upto_region 14 with (first | (go_at_call 82; ((with_reducible refine (rdif_any Z b D hZl hb hD _).mono ?_); rintro e9 w2 ⟨rfl, hL⟩; replace HM := HM.call hL; clear hL)) | (first | ((with_reducible refine g_ld ?_); refine a_ld HM ?_) | ((with_reducible refine g_st ?_); refine a_st HM ?_; clear HM; intro w1 HM) | ((with_reducible refine g_al ?_); refine a_al HM ?_; clear HM; intro bk w1 HM) | ((with_reducible refine g_bx ?_); refine a_bx HM ?_; clear HM; intro bk w1 HM) | ((with_reducible refine g_bld ?_); refine a_bld ?_)))
                clear hx2
                have e2 : (j : Int) / 32 = (k : Int) := by rw [hk.out]; simp
                have e3 : (j : Int).tmod 32 = (s : Int) := by rw [hs.out]; rfl
                go_upto_region 9 with (first | fail | (first | ((with_reducible refine g_ld ?_); refine a_ld HM ?_) | ((with_reducible refine g_st ?_); refine a_st HM ?_; clear HM; intro w1 HM) | ((with_reducible refine g_al ?_); refine a_al HM ?_; clear HM; intro bk w1 HM) | ((with_reducible refine g_bx ?_); refine a_bx HM ?_; clear HM; intro bk w1 HM) | ((with_reducible refine g_bld ?_); refine a_bld ?_)))
                clear hf2 hf3 e2 e3 hq0 hq1
                go_wp2_with fail
                go_roundw
                case rel => exact ⟨j, _, D, by omega, rfl, HS2, HM⟩
                case measure => simp [intOf]
            · have hZX : Z = X := by rw [hZ.out, ← hX.out, Nat.mod_eq_of_lt (by omega)]
              obtain rfl : F = false := by rw [hF.out, ← hX.out]; simp; omega
              have HS2 := HS.out.less hb0 (x := X) (by rw [hX.out, hc.out]) (by omega)
              rw [← hZX] at HS2
              replace HS2 := Lib.hid HS2
              obtain ⟨g, hg⟩ : ∃ g, Hid (g = Bg.cmp Z b) := ⟨_, rfl⟩
              have hg0 : ¬ 0 ≤ g := by rw [hg.out, Bg.cmp_lt0, hZX]; exact hge
              clear hge hZX
              go_wp2_with (first | (go_at_call 88; ((with_reducible refine (rcompare_any Z b g hZl hb hg _).mono ?_); rintro e9 w2 ⟨rfl, hL⟩; replace HM := HM.call hL; clear hL)) | (first | ((with_reducible refine g_ld ?_); refine a_ld HM ?_) | ((with_reducible refine g_st ?_); refine a_st HM ?_; clear HM; intro w1 HM) | ((with_reducible refine g_al ?_); refine a_al HM ?_; clear HM; intro bk w1 HM) | ((with_reducible refine g_bx ?_); refine a_bx HM ?_; clear HM; intro bk w1 HM) | ((with_reducible refine g_bld ?_); refine a_bld ?_)))
              go_roundw
              case rel => exact ⟨j, Q, Z, by omega, rfl, HS2, HM⟩
              case measure => simp [intOf]
end Go.Proofs.Ytekfabhmopkapaa
