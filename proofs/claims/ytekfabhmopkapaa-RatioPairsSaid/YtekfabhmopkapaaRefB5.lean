/- The document's DivMod and Gcd. -/
import Derived.Test.YtekfabhmopkapaaRefB4
import Derived.Test.YtekfabhmopkapaaEngB
namespace Go.Proofs.Ytekfabhmopkapaa
set_option maxRecDepth 8000
open Go.RowKit
theorem Mem.swap {w0 w : World} {X : List Nat} {p q : Nat × Array Value} {L : List (Nat × Array Value)} (h : Mem w0 X (p :: q :: L) w) : Mem w0 X (q :: p :: L) w :=
  ⟨h.only, fun x hx => h.blk x ((List.Perm.swap p q L).mem_iff.1 hx), fun x hx => h.own x ((List.Perm.swap p q L).mem_iff.1 hx), (((List.Perm.swap q p L).map _).nodup_iff).1 h.nod⟩
section
variable {P : Program} {md : Region.Mode} {ops : Array Oper} {Q : Exit → Act → World → Prop} {S1 S2 : World → Prop} {K : List Nat}
/-- Three may come up now: each is walked. -/
theorem three_L {i j k : Nat} {fuel : Nat} {listed : Array Bool} {a : Act} {w : World} (hr : (Region.ready md ops listed == [i, j, k]) = true)
    (h1 : wpOp P ops Q i (fun a' w' => Held S1 S2 K (listed.setIfInBounds i true) w' ∧ wpAnyL P md ops Q S1 S2 K fuel (listed.setIfInBounds i true) a' w') a w)
    (h2 : wpOp P ops Q j (fun a' w' => Held S1 S2 K (listed.setIfInBounds j true) w' ∧ wpAnyL P md ops Q S1 S2 K fuel (listed.setIfInBounds j true) a' w') a w)
    (h3 : wpOp P ops Q k (fun a' w' => Held S1 S2 K (listed.setIfInBounds k true) w' ∧ wpAnyL P md ops Q S1 S2 K fuel (listed.setIfInBounds k true) a' w') a w) : wpAnyL P md ops Q S1 S2 K (fuel + 1) listed a w := by
  have hr' : Region.ready md ops listed = [i, j, k] := by simpa using hr
  refine ⟨fun h0 => (by rw [h0] at hr'; cases hr'), ?_⟩
  rw [hr']
  intro l hk
  rcases List.mem_cons.1 hk with rfl | hk
  · exact h1
  rcases List.mem_cons.1 hk with rfl | hk
  · exact h2
  · obtain rfl : l = k := by simpa using hk
    exact h3
end
theorem Bg.dm_raw {s t : Bool} {M N : Nat} (h0 : 0 < N) : Bg.toZ (!(s == t)) (Bg.dmQ s M N) = Bg.toZ s M / Bg.toZ t N ∧ (Bg.dmR s M N : Int) = Bg.toZ s M % Bg.toZ t N := by
  have e : ∀ a b : Bool, (!(a == b)) = (a != b) := by decide
  rw [e]
  by_cases hM : M = 0
  · subst hM
    have h1 : Bg.dmQ s 0 N = 0 := by unfold Bg.dmQ; simp
    have h2 : Bg.dmR s 0 N = 0 := by unfold Bg.dmR; simp
    rw [h1, h2]
    cases s <;> cases t <;> simp [Bg.toZ]
  · exact Bg.dm_eq h0 (by simp [hM]) (by simp; intro _; omega)
set_option maxRecDepth 20000 in
set_option maxHeartbeats 4000000 in
theorem rdivMod_zero (s t : Bool) (M : Nat) (hM : M < Bg.lim) (w : World) :
    Calls Try.prog 56 #[.agg (Bg.intA s M), .agg (Bg.intA t 0)] w fun e w' => e = .returned (.tuple #[.agg (Bg.zA 0), .agg (Bg.zA 0), .int .i64 11]) ∧ Below w.heap.size w w' := by
  have hL0 : 0 < Bg.lim := Nat.lt_of_le_of_lt (Nat.zero_le _) hM
  have HM := Mem.start w
  go_enter Try.func56, Try.ntmps56
  go_wp2_with (first | (go_at_call 74; ((with_reducible refine (zero_as 0 true hL0 (by decide) _).mono ?_); rintro e9 w2 ⟨rfl, hL⟩; replace HM := HM.call hL; clear hL)) | (first | ((with_reducible refine g_ld ?_); refine a_ld HM ?_) | ((with_reducible refine g_st ?_); refine a_st HM ?_; clear HM; intro w1 HM) | ((with_reducible refine g_al ?_); refine a_al HM ?_; clear HM; intro bk w1 HM) | ((with_reducible refine g_bx ?_); refine a_bx HM ?_; clear HM; intro bk w1 HM) | ((with_reducible refine g_bld ?_); refine a_bld ?_)))
  refine bodyPost_ret (r_cct rfl rfl rfl (HM.get (by ((repeat (first | exact Look.here | refine Look.there ?_)); done))) (la_z _) (HM.get (by ((repeat (first | exact Look.here | refine Look.there ?_)); done))) (la_z _)) rfl ⟨rfl, HM.low⟩
set_option maxRecDepth 20000 in
set_option maxHeartbeats 4000000 in
theorem rdivMod_any (s t : Bool) (M N : Nat) (x y : Int) (hM : M < Bg.lim) (hN : N < Bg.lim) (h0 : 0 < N) (hx : Hid (x = Bg.toZ s M / Bg.toZ t N)) (hy : Hid (y = Bg.toZ s M % Bg.toZ t N)) (w : World) :
    Calls Try.prog 56 #[.agg (Bg.intA s M), .agg (Bg.intA t N)] w fun e w' => e = .returned (.tuple #[.agg (Bg.zA x), .agg (Bg.zA y), .int .i64 0]) ∧ Below w.heap.size w w' := by
  have HM := Mem.start w
  obtain ⟨q, hq⟩ : ∃ q, Hid (q = M / N) := ⟨_, rfl⟩
  obtain ⟨r, hr⟩ : ∃ r, Hid (r = M % N) := ⟨_, rfl⟩
  obtain ⟨Q, hQ⟩ : ∃ Q, Hid (Q = Bg.dmQ s M N) := ⟨_, rfl⟩
  obtain ⟨R, hR⟩ : ∃ R, Hid (R = Bg.dmR s M N) := ⟨_, rfl⟩
  have hrN : r < N := by rw [hr.out]; exact Nat.mod_lt _ h0
  have hql : q < Bg.lim := by rw [hq.out]; exact Nat.lt_of_le_of_lt (Nat.div_le_self _ _) hM
  have hrl : r < Bg.lim := by omega
  have hz0 : Hid (false = decide (N = 0)) := Lib.hid (by simp; omega)
  have hxQ : Hid (x = Bg.toZ (!(s == t)) Q) := Lib.hid (by rw [hx.out, hQ.out, (Bg.dm_raw h0).1])
  have hyR : Hid (y = Bg.toZ false R) := Lib.hid (by rw [hy.out, hR.out, ← (Bg.dm_raw h0).2]; simp [Bg.toZ])
  have hq1 : s = true → r ≠ 0 → q + 1 < Bg.lim := by
    intro _ hr0
    rw [hr.out] at hr0
    have h1 : 2 ≤ N := by
      rcases Nat.lt_or_ge N 2 with h | h
      · exfalso; have : N = 1 := by omega
        rw [this, Nat.mod_one] at hr0; exact hr0 rfl
      · exact h
    have h2 : M / N ≤ M / 2 := Nat.div_le_div_left h1 (by decide)
    rw [hq.out]; have := Bg.p2_pos 1; omega
  have hQR : (s = true ∧ r ≠ 0 → Q = q + 1 ∧ R = N - r) ∧ (¬ (s = true ∧ r ≠ 0) → Q = q ∧ R = r) := by
    constructor
    · rintro ⟨h1, h2⟩
      rw [hQ.out, hR.out, hq.out, hr.out]
      rw [hr.out] at h2
      unfold Bg.dmQ Bg.dmR
      simp [h1, h2]
    · intro h
      rw [hQ.out, hR.out, hq.out, hr.out]
      rw [hr.out] at h
      unfold Bg.dmQ Bg.dmR
      have h2 : (s && decide (M % N ≠ 0)) = false := by cases s <;> simp_all
      rw [h2]
      exact ⟨rfl, rfl⟩
  replace hQR := Lib.hid hQR
  replace hq1 := Lib.hid hq1
  clear hx hy
  go_enter Try.func56, Try.ntmps56
  go_upto_region 4 with (first | first
    | (go_at_call 74; ((with_reducible refine (zero_as N false hN hz0.out _).mono ?_); rintro e9 w2 ⟨rfl, hL⟩; replace HM := HM.call hL; clear hL))
    | (go_at_call 80; ((with_reducible refine (rdivide_any M N q r h0 hM hN hq hr _).mono ?_); rintro e9 w2 ⟨rfl, hL⟩; replace HM := HM.call hL; clear hL)) | (first | ((with_reducible refine g_ld ?_); refine a_ld HM ?_) | ((with_reducible refine g_st ?_); refine a_st HM ?_; clear HM; intro w1 HM) | ((with_reducible refine g_al ?_); refine a_al HM ?_; clear HM; intro bk w1 HM) | ((with_reducible refine g_bx ?_); refine a_bx HM ?_; clear HM; intro bk w1 HM) | ((with_reducible refine g_bld ?_); refine a_bld ?_)))
  obtain ⟨b8, rfl⟩ := HM.nm0
  obtain ⟨b7, rfl⟩ := HM.nm1
  obtain ⟨b5, rfl⟩ := HM.nm2
  obtain ⟨b4, rfl⟩ := HM.nm3
  have hQl : Q < Bg.lim := by
    by_cases h : s = true ∧ r ≠ 0
    · rw [(hQR.out.1 h).1]; exact hq1.out h.1 h.2
    · rw [(hQR.out.2 h).1]; exact hql
  have hRl : R < Bg.lim := by
    by_cases h : s = true ∧ r ≠ 0
    · rw [(hQR.out.1 h).2]; omega
    · rw [(hQR.out.2 h).2]; exact hrl
  cases s with
  | false =>
    obtain ⟨rfl, rfl⟩ := hQR.out.2 (by simp)
    clear hQR
    go_upto_region 9 with (first | fail | (first | ((with_reducible refine g_ld ?_); refine a_ld HM ?_) | ((with_reducible refine g_st ?_); refine a_st HM ?_; clear HM; intro w1 HM) | ((with_reducible refine g_al ?_); refine a_al HM ?_; clear HM; intro bk w1 HM) | ((with_reducible refine g_bx ?_); refine a_bx HM ?_; clear HM; intro bk w1 HM) | ((with_reducible refine g_bld ?_); refine a_bld ?_)))
    refine start_M [9, 10] HM (by kernel_rfl) (fun w0x H9 => ?_)
    replace HM := H9; clear H9
    refine k_fa 0 (heldE HM) ?_
    refine k_ld 1 [4, 6, 8, 9, 10, 11] (heldE HM) ?_
    refine k_fa 2 (heldE HM) ?_
    refine k_ld 3 [4, 6, 8, 9, 10, 11] (heldE HM) ?_
    refine t_pure (i := 4) (v := .bool (!(false == t))) rfl rfl (by kernel_rfl) (fun _ _ _ h => h) (heldE HM) (by rfl) ?_ ?_; (focus (exact h_bin (by rfl) (by rfl) (by rfl) (by intro w9; cases t <;> (go_simp; try rfl)))); ((try simp only [List.setIfInBounds_toArray]); (try simp only [List.set_cons_succ]); (try simp only [List.set_cons_zero]))
    refine k_ld 5 [6, 8, 9, 10, 11] (heldE HM) ?_
    refine k_ld 7 [8, 9, 10, 11] (heldE HM) ?_
    refine j_one 6 fun K9 hK9 => ?_
    refine j_call2 (v := ?_) HM ?_ ?_; rotate_left 1; (focus (with_reducible (first | exact rcanon_any (!(false == t)) Q x hQl hxQ _ | exact rcanon_any false R y hRl hyR _))); clear HM; intro w1 HM
    refine hK9 _ _ (heldE HM) ?_; clear hK9 K9
    refine j_one 8 fun K9 hK9 => ?_
    refine j_call2 (v := ?_) HM ?_ ?_; rotate_left 1; (focus (with_reducible (first | exact rcanon_any (!(false == t)) Q x hQl hxQ _ | exact rcanon_any false R y hRl hyR _))); clear HM; intro w1 HM
    refine hK9 _ _ (heldE HM) ?_; clear hK9 K9
    refine j_one 9 fun K9 hK9 => ?_
    refine j_st HM ?_; clear HM; intro w1 HM
    refine hK9 _ _ heldN ?_; clear hK9 K9
    refine j_one 10 fun K9 hK9 => ?_
    refine j_st HM ?_; clear HM; intro w1 HM
    refine hK9 _ _ heldN ?_; clear hK9 K9
    refine k_mv 11 heldN ?_
    refine wpAnyL_done (by kernel_rfl) ?_ _
    go_wp2_with fail
    refine bodyPost_ret (r_cct (b := b4) (k := 0) (b2 := b5) (k2 := 0) rfl rfl rfl (HM.get (by ((repeat (first | exact Look.here | refine Look.there ?_)); done))) (la_z _) (HM.get (by ((repeat (first | exact Look.here | refine Look.there ?_)); done))) (la_z _)) rfl ⟨rfl, HM.low⟩
  | true =>
    by_cases hr0 : r = 0
    · obtain ⟨rfl, rfl⟩ := hQR.out.2 (by simp [hr0])
      have hz1 : Hid (true = decide (R = 0)) := Lib.hid (by simp [hr0])
      clear hQR hr0
      go_upto_region 9 with (first | (go_at_call 74; ((with_reducible refine (zero_as R true hrl hz1.out _).mono ?_); rintro e9 w2 ⟨rfl, hL⟩; replace HM := HM.call hL; clear hL)) | (first | ((with_reducible refine g_ld ?_); refine a_ld HM ?_) | ((with_reducible refine g_st ?_); refine a_st HM ?_; clear HM; intro w1 HM) | ((with_reducible refine g_al ?_); refine a_al HM ?_; clear HM; intro bk w1 HM) | ((with_reducible refine g_bx ?_); refine a_bx HM ?_; clear HM; intro bk w1 HM) | ((with_reducible refine g_bld ?_); refine a_bld ?_)))
      refine start_M [9, 10] HM (by kernel_rfl) (fun w0x H9 => ?_)
      replace HM := H9; clear H9
      refine k_fa 0 (heldE HM) ?_
      refine k_ld 1 [4, 6, 8, 9, 10, 11] (heldE HM) ?_
      refine k_fa 2 (heldE HM) ?_
      refine k_ld 3 [4, 6, 8, 9, 10, 11] (heldE HM) ?_
      refine t_pure (i := 4) (v := .bool (!(true == t))) rfl rfl (by kernel_rfl) (fun _ _ _ h => h) (heldE HM) (by rfl) ?_ ?_; (focus (exact h_bin (by rfl) (by rfl) (by rfl) (by intro w9; cases t <;> (go_simp; try rfl)))); ((try simp only [List.setIfInBounds_toArray]); (try simp only [List.set_cons_succ]); (try simp only [List.set_cons_zero]))
      refine k_ld 5 [6, 8, 9, 10, 11] (heldE HM) ?_
      refine k_ld 7 [8, 9, 10, 11] (heldE HM) ?_
      refine j_one 6 fun K9 hK9 => ?_
      refine j_call2 (v := ?_) HM ?_ ?_; rotate_left 1; (focus (with_reducible (first | exact rcanon_any (!(true == t)) Q x hQl hxQ _ | exact rcanon_any false R y hRl hyR _))); clear HM; intro w1 HM
      refine hK9 _ _ (heldE HM) ?_; clear hK9 K9
      refine j_one 8 fun K9 hK9 => ?_
      refine j_call2 (v := ?_) HM ?_ ?_; rotate_left 1; (focus (with_reducible (first | exact rcanon_any (!(true == t)) Q x hQl hxQ _ | exact rcanon_any false R y hRl hyR _))); clear HM; intro w1 HM
      refine hK9 _ _ (heldE HM) ?_; clear hK9 K9
      refine j_one 9 fun K9 hK9 => ?_
      refine j_st HM ?_; clear HM; intro w1 HM
      refine hK9 _ _ heldN ?_; clear hK9 K9
      refine j_one 10 fun K9 hK9 => ?_
      refine j_st HM ?_; clear HM; intro w1 HM
      refine hK9 _ _ heldN ?_; clear hK9 K9
      refine k_mv 11 heldN ?_
      refine wpAnyL_done (by kernel_rfl) ?_ _
      go_wp2_with fail
      refine bodyPost_ret (r_cct (b := b4) (k := 0) (b2 := b5) (k2 := 0) rfl rfl rfl (HM.get (by ((repeat (first | exact Look.here | refine Look.there ?_)); done))) (la_z _) (HM.get (by ((repeat (first | exact Look.here | refine Look.there ?_)); done))) (la_z _)) rfl ⟨rfl, HM.low⟩
    · obtain ⟨hQq, hRr⟩ := hQR.out.1 ⟨rfl, hr0⟩
      have hz1 : Hid (false = decide (r = 0)) := Lib.hid (by simp [hr0])
      have hz2 : Hid (R = Bg.dif N r) := Lib.hid (by rw [hRr]; unfold Bg.dif; rw [if_pos (by omega)])
      have hz3 : Hid (Q = (q + 1) % Bg.lim) := Lib.hid (by rw [hQq, Nat.mod_eq_of_lt (by omega)])
      have hz4 : Hid (true = decide (q + 1 < Bg.lim)) := Lib.hid (by simp; omega)
      have h1l : 1 < Bg.lim := small_lim (by decide)
      have hs1 : SA 22 (Bg.row 32 0) 0 (.int .u32 1) (Bg.row 32 1) := by
        have h := sa_lim 0 0 1 (by decide) (by decide)
        rw [Bg.setL_low] at h
        exact h
      clear hQR hr0 hQq hRr
      go_upto_region 9 with (first | first
        | (go_at_call 74; ((with_reducible refine (zero_as r false hrl hz1.out _).mono ?_); rintro e9 w2 ⟨rfl, hL⟩; replace HM := HM.call hL; clear hL))
        | (go_at_call 82; ((with_reducible refine (rdif_any N r R hN hrl hz2 _).mono ?_); rintro e9 w2 ⟨rfl, hL⟩; replace HM := HM.call hL; clear hL))
        | (go_at_call 83; ((with_reducible refine (rsum_any q 1 Q true hql h1l hz3 hz4 _).mono ?_); rintro e9 w2 ⟨rfl, hL⟩; replace HM := HM.call hL; clear hL)) | (first | ((with_reducible refine g_ld ?_); refine a_ld HM ?_) | ((with_reducible refine g_st ?_); refine a_st HM ?_; clear HM; intro w1 HM) | ((with_reducible refine g_al ?_); refine a_al HM ?_; clear HM; intro bk w1 HM) | ((with_reducible refine g_bx ?_); refine a_bx HM ?_; clear HM; intro bk w1 HM) | ((with_reducible refine g_bld ?_); refine a_bld ?_)))
      refine start_M [9, 10] HM (by kernel_rfl) (fun w0x H9 => ?_)
      replace HM := H9; clear H9
      refine k_fa 0 (heldE HM) ?_
      refine k_ld 1 [4, 6, 8, 9, 10, 11] (heldE HM) ?_
      refine k_fa 2 (heldE HM) ?_
      refine k_ld 3 [4, 6, 8, 9, 10, 11] (heldE HM) ?_
      refine t_pure (i := 4) (v := .bool (!(true == t))) rfl rfl (by kernel_rfl) (fun _ _ _ h => h) (heldE HM) (by rfl) ?_ ?_; (focus (exact h_bin (by rfl) (by rfl) (by rfl) (by intro w9; cases t <;> (go_simp; try rfl)))); ((try simp only [List.setIfInBounds_toArray]); (try simp only [List.set_cons_succ]); (try simp only [List.set_cons_zero]))
      refine k_ld 5 [6, 8, 9, 10, 11] (heldE HM) ?_
      refine k_ld 7 [8, 9, 10, 11] (heldE HM) ?_
      refine j_one 6 fun K9 hK9 => ?_
      refine j_call2 (v := ?_) HM ?_ ?_; rotate_left 1; (focus (with_reducible (first | exact rcanon_any (!(true == t)) Q x hQl hxQ _ | exact rcanon_any false R y hRl hyR _))); clear HM; intro w1 HM
      refine hK9 _ _ (heldE HM) ?_; clear hK9 K9
      refine j_one 8 fun K9 hK9 => ?_
      refine j_call2 (v := ?_) HM ?_ ?_; rotate_left 1; (focus (with_reducible (first | exact rcanon_any (!(true == t)) Q x hQl hxQ _ | exact rcanon_any false R y hRl hyR _))); clear HM; intro w1 HM
      refine hK9 _ _ (heldE HM) ?_; clear hK9 K9
      refine j_one 9 fun K9 hK9 => ?_
      refine j_st HM ?_; clear HM; intro w1 HM
      refine hK9 _ _ heldN ?_; clear hK9 K9
      refine j_one 10 fun K9 hK9 => ?_
      refine j_st HM ?_; clear HM; intro w1 HM
      refine hK9 _ _ heldN ?_; clear hK9 K9
      refine k_mv 11 heldN ?_
      refine wpAnyL_done (by kernel_rfl) ?_ _
      go_wp2_with fail
      refine bodyPost_ret (r_cct (b := b4) (k := 0) (b2 := b5) (k2 := 0) rfl rfl rfl (HM.get (by ((repeat (first | exact Look.here | refine Look.there ?_)); done))) (la_z _) (HM.get (by ((repeat (first | exact Look.here | refine Look.there ?_)); done))) (la_z _)) rfl ⟨rfl, HM.low⟩
set_option maxRecDepth 20000 in
set_option maxHeartbeats 4000000 in
theorem rgcd_any (s t : Bool) (M N : Nat) (z : Int) (hM : M < Bg.lim) (hN : N < Bg.lim) (hz : Hid (z = (Nat.gcd M N : Nat))) (w : World) :
    Calls Try.prog 55 #[.agg (Bg.intA s M), .agg (Bg.intA t N)] w fun e w' => e = .returned (.agg (Bg.zA z)) ∧ Below w.heap.size w w' := by
  have HM := Mem.start w
  go_enter Try.func55, Try.ntmps55
  go_upto_region 1 with (first | fail | (first | ((with_reducible refine g_ld ?_); refine a_ld HM ?_) | ((with_reducible refine g_st ?_); refine a_st HM ?_; clear HM; intro w1 HM) | ((with_reducible refine g_al ?_); refine a_al HM ?_; clear HM; intro bk w1 HM) | ((with_reducible refine g_bx ?_); refine a_bx HM ?_; clear HM; intro bk w1 HM) | ((with_reducible refine g_bld ?_); refine a_bld ?_)))
  obtain ⟨br, rfl⟩ := HM.nm0
  go_cut [5, 6] (fun p q wc => ∃ bm bn : Nat, p = .pointer (some ⟨bm, 0, none⟩) ∧ q = .pointer (some ⟨bn, 0, none⟩) ∧ Mem w [] [(bn, Bg.row 32 N), (bm, Bg.row 32 M), (br, Bg.zA 0)] wc)
  case first =>
    refine start_M [6, 7] HM (by kernel_rfl) (fun w0x H9 => ?_)
    replace HM := H9; clear H9
    refine k_fa 0 (heldE HM) ?_
    refine k_ld 1 [6, 7] (heldE HM) ?_
    refine k_fa 2 (heldE HM) ?_
    refine three_L (i := 3) (j := 4) (k := 5) (by kernel_rfl) (op_L rfl (by rfl) ?_) (op_L rfl (by rfl) ?_) (op_L rfl (by rfl) ?_)
    · refine j_ld HM ?_
      refine ⟨(heldE HM), ?_⟩
      refine j_two 4 5 ?_ ?_
      · refine j_al HM ?_; clear HM; intro bk w1 HM
        refine ⟨(heldE HM), ?_⟩
        refine j_one 5 fun K9 hK9 => ?_
        refine j_al HM ?_; clear HM; intro bk w1 HM
        refine hK9 _ _ (heldE HM) ?_; clear hK9 K9
        refine j_one 6 fun K9 hK9 => ?_
        refine j_st HM ?_; clear HM; intro w1 HM
        refine hK9 _ _ heldN ?_; clear hK9 K9
        refine j_one 7 fun K9 hK9 => ?_
        refine j_st HM ?_; clear HM; intro w1 HM
        refine hK9 _ _ heldN ?_; clear hK9 K9
        refine wpAnyL_done (by kernel_rfl) ?_ _
        (go_wp2_with fail; go_meet; (case rel => refine ⟨_, _, rfl, rfl, ?_⟩; first | (refine HM.less ?_; (repeat (first | exact Sub.nil | refine Sub.keep ?_ | refine Sub.skip ?_)); done) | (refine HM.swap.less ?_; (repeat (first | exact Sub.nil | refine Sub.keep ?_ | refine Sub.skip ?_)); done)))
      · refine j_al HM ?_; clear HM; intro bk w1 HM
        refine ⟨(heldE HM), ?_⟩
        refine j_one 4 fun K9 hK9 => ?_
        refine j_al HM ?_; clear HM; intro bk w1 HM
        refine hK9 _ _ (heldE HM) ?_; clear hK9 K9
        refine j_one 6 fun K9 hK9 => ?_
        refine j_st HM ?_; clear HM; intro w1 HM
        refine hK9 _ _ heldN ?_; clear hK9 K9
        refine j_one 7 fun K9 hK9 => ?_
        refine j_st HM ?_; clear HM; intro w1 HM
        refine hK9 _ _ heldN ?_; clear hK9 K9
        refine wpAnyL_done (by kernel_rfl) ?_ _
        (go_wp2_with fail; go_meet; (case rel => refine ⟨_, _, rfl, rfl, ?_⟩; first | (refine HM.less ?_; (repeat (first | exact Sub.nil | refine Sub.keep ?_ | refine Sub.skip ?_)); done) | (refine HM.swap.less ?_; (repeat (first | exact Sub.nil | refine Sub.keep ?_ | refine Sub.skip ?_)); done)))
    · refine j_al HM ?_; clear HM; intro bk w1 HM
      refine ⟨(heldE HM), ?_⟩
      refine j_two 3 5 ?_ ?_
      · refine j_ld HM ?_
        refine ⟨(heldE HM), ?_⟩
        refine j_one 5 fun K9 hK9 => ?_
        refine j_al HM ?_; clear HM; intro bk w1 HM
        refine hK9 _ _ (heldE HM) ?_; clear hK9 K9
        refine j_one 6 fun K9 hK9 => ?_
        refine j_st HM ?_; clear HM; intro w1 HM
        refine hK9 _ _ heldN ?_; clear hK9 K9
        refine j_one 7 fun K9 hK9 => ?_
        refine j_st HM ?_; clear HM; intro w1 HM
        refine hK9 _ _ heldN ?_; clear hK9 K9
        refine wpAnyL_done (by kernel_rfl) ?_ _
        (go_wp2_with fail; go_meet; (case rel => refine ⟨_, _, rfl, rfl, ?_⟩; first | (refine HM.less ?_; (repeat (first | exact Sub.nil | refine Sub.keep ?_ | refine Sub.skip ?_)); done) | (refine HM.swap.less ?_; (repeat (first | exact Sub.nil | refine Sub.keep ?_ | refine Sub.skip ?_)); done)))
      · refine j_al HM ?_; clear HM; intro bk w1 HM
        refine ⟨(heldE HM), ?_⟩
        refine j_two 3 6 ?_ ?_
        · refine j_ld HM ?_
          refine ⟨(heldE HM), ?_⟩
          refine j_one 6 fun K9 hK9 => ?_
          refine j_st HM ?_; clear HM; intro w1 HM
          refine hK9 _ _ heldN ?_; clear hK9 K9
          refine j_one 7 fun K9 hK9 => ?_
          refine j_st HM ?_; clear HM; intro w1 HM
          refine hK9 _ _ heldN ?_; clear hK9 K9
          refine wpAnyL_done (by kernel_rfl) ?_ _
          (go_wp2_with fail; go_meet; (case rel => refine ⟨_, _, rfl, rfl, ?_⟩; first | (refine HM.less ?_; (repeat (first | exact Sub.nil | refine Sub.keep ?_ | refine Sub.skip ?_)); done) | (refine HM.swap.less ?_; (repeat (first | exact Sub.nil | refine Sub.keep ?_ | refine Sub.skip ?_)); done)))
        · refine j_st HM ?_; clear HM; intro w1 HM
          refine ⟨heldN, ?_⟩
          refine j_one 3 fun K9 hK9 => ?_
          refine j_ld HM ?_
          refine hK9 _ _ heldN ?_; clear hK9 K9
          refine j_one 7 fun K9 hK9 => ?_
          refine j_st HM ?_; clear HM; intro w1 HM
          refine hK9 _ _ heldN ?_; clear hK9 K9
          refine wpAnyL_done (by kernel_rfl) ?_ _
          (go_wp2_with fail; go_meet; (case rel => refine ⟨_, _, rfl, rfl, ?_⟩; first | (refine HM.less ?_; (repeat (first | exact Sub.nil | refine Sub.keep ?_ | refine Sub.skip ?_)); done) | (refine HM.swap.less ?_; (repeat (first | exact Sub.nil | refine Sub.keep ?_ | refine Sub.skip ?_)); done)))
    · refine j_al HM ?_; clear HM; intro bk w1 HM
      refine ⟨(heldE HM), ?_⟩
      refine j_two 3 4 ?_ ?_
      · refine j_ld HM ?_
        refine ⟨(heldE HM), ?_⟩
        refine j_one 4 fun K9 hK9 => ?_
        refine j_al HM ?_; clear HM; intro bk w1 HM
        refine hK9 _ _ (heldE HM) ?_; clear hK9 K9
        refine j_one 6 fun K9 hK9 => ?_
        refine j_st HM ?_; clear HM; intro w1 HM
        refine hK9 _ _ heldN ?_; clear hK9 K9
        refine j_one 7 fun K9 hK9 => ?_
        refine j_st HM ?_; clear HM; intro w1 HM
        refine hK9 _ _ heldN ?_; clear hK9 K9
        refine wpAnyL_done (by kernel_rfl) ?_ _
        (go_wp2_with fail; go_meet; (case rel => refine ⟨_, _, rfl, rfl, ?_⟩; first | (refine HM.less ?_; (repeat (first | exact Sub.nil | refine Sub.keep ?_ | refine Sub.skip ?_)); done) | (refine HM.swap.less ?_; (repeat (first | exact Sub.nil | refine Sub.keep ?_ | refine Sub.skip ?_)); done)))
      · refine j_al HM ?_; clear HM; intro bk w1 HM
        refine ⟨(heldE HM), ?_⟩
        refine j_two 3 6 ?_ ?_
        · refine j_ld HM ?_
          refine ⟨(heldE HM), ?_⟩
          refine j_one 6 fun K9 hK9 => ?_
          refine j_st HM ?_; clear HM; intro w1 HM
          refine hK9 _ _ heldN ?_; clear hK9 K9
          refine j_one 7 fun K9 hK9 => ?_
          refine j_st HM ?_; clear HM; intro w1 HM
          refine hK9 _ _ heldN ?_; clear hK9 K9
          refine wpAnyL_done (by kernel_rfl) ?_ _
          (go_wp2_with fail; go_meet; (case rel => refine ⟨_, _, rfl, rfl, ?_⟩; first | (refine HM.less ?_; (repeat (first | exact Sub.nil | refine Sub.keep ?_ | refine Sub.skip ?_)); done) | (refine HM.swap.less ?_; (repeat (first | exact Sub.nil | refine Sub.keep ?_ | refine Sub.skip ?_)); done)))
        · refine j_st HM ?_; clear HM; intro w1 HM
          refine ⟨heldN, ?_⟩
          refine j_one 3 fun K9 hK9 => ?_
          refine j_ld HM ?_
          refine hK9 _ _ heldN ?_; clear hK9 K9
          refine j_one 7 fun K9 hK9 => ?_
          refine j_st HM ?_; clear HM; intro w1 HM
          refine hK9 _ _ heldN ?_; clear hK9 K9
          refine wpAnyL_done (by kernel_rfl) ?_ _
          (go_wp2_with fail; go_meet; (case rel => refine ⟨_, _, rfl, rfl, ?_⟩; first | (refine HM.less ?_; (repeat (first | exact Sub.nil | refine Sub.keep ?_ | refine Sub.skip ?_)); done) | (refine HM.swap.less ?_; (repeat (first | exact Sub.nil | refine Sub.keep ?_ | refine Sub.skip ?_)); done)))
  case rest =>
    clear HM
    obtain ⟨bm, bn, rfl, rfl, HM⟩ := hcut
    go_wp2_with fail
    go_loopg [] (N + 1) (fun g wr => ∃ A B : Nat, B + 1 ≤ g ∧ Hid (Nat.gcd A B = Nat.gcd M N) ∧ A < Bg.lim ∧ B < Bg.lim ∧ Mem w [] [(bn, Bg.row 32 B), (bm, Bg.row 32 A), (br, Bg.zA 0)] wr)
    case atStart => exact ⟨M, N, Nat.le_refl _, Lib.hid rfl, hM, hN, HM⟩
    case round =>
      clear HM
      obtain ⟨A, B, hBg, HG, hA, hB, HM⟩ := hrel
      cases gk with
      | zero => omega
      | succ g =>
        by_cases hB0 : B = 0
        · have hz1 : Hid (true = decide (B = 0)) := Lib.hid (by simp [hB0])
          have hv : Hid (z = Bg.toZ false A) := Lib.hid (by rw [hz.out, ← HG.out, hB0, Nat.gcd_zero_right]; simp [Bg.toZ])
          clear hB0
          go_wp2_with (first | first
            | (go_at_call 74; ((with_reducible refine (zero_as B true hB hz1.out _).mono ?_); rintro e9 w2 ⟨rfl, hL⟩; replace HM := HM.call hL; clear hL))
            | (go_at_call 81; ((with_reducible refine (rcanon_any false A z hA hv _).mono ?_); rintro e9 w2 ⟨rfl, hL⟩; replace HM := HM.call hL; clear hL)) | (first | ((with_reducible refine g_ld ?_); refine a_ld HM ?_) | ((with_reducible refine g_st ?_); refine a_st HM ?_; clear HM; intro w1 HM) | ((with_reducible refine g_al ?_); refine a_al HM ?_; clear HM; intro bk w1 HM) | ((with_reducible refine g_bx ?_); refine a_bx HM ?_; clear HM; intro bk w1 HM) | ((with_reducible refine g_bld ?_); refine a_bld ?_)))
          refine bodyPost_ret (r_c (b := br) (k := 0) rfl rfl (HM.get (by ((repeat (first | exact Look.here | refine Look.there ?_)); done))) (la_z _)) rfl ⟨rfl, HM.low⟩
        · have hz1 : Hid (false = decide (B = 0)) := Lib.hid (by simp [hB0])
          have hB1 : 0 < B := by omega
          obtain ⟨q, hq⟩ : ∃ q, Hid (q = A / B) := ⟨_, rfl⟩
          obtain ⟨r, hr⟩ : ∃ r, Hid (r = A % B) := ⟨_, rfl⟩
          have hrB : r < B := by rw [hr.out]; exact Nat.mod_lt _ hB1
          have HG2 : Hid (Nat.gcd B r = Nat.gcd M N) := Lib.hid (by rw [hr.out, ← HG.out, Nat.gcd_comm A B, Nat.gcd_rec B A, Nat.gcd_comm])
          clear hB0
          go_upto_region 4 with (first | first
            | (go_at_call 74; ((with_reducible refine (zero_as B false hB hz1.out _).mono ?_); rintro e9 w2 ⟨rfl, hL⟩; replace HM := HM.call hL; clear hL))
            | (go_at_call 80; ((with_reducible refine (rdivide_any A B q r hB1 hA hB hq hr _).mono ?_); rintro e9 w2 ⟨rfl, hL⟩; replace HM := HM.call hL; clear hL)) | (first | ((with_reducible refine g_ld ?_); refine a_ld HM ?_) | ((with_reducible refine g_st ?_); refine a_st HM ?_; clear HM; intro w1 HM) | ((with_reducible refine g_al ?_); refine a_al HM ?_; clear HM; intro bk w1 HM) | ((with_reducible refine g_bx ?_); refine a_bx HM ?_; clear HM; intro bk w1 HM) | ((with_reducible refine g_bld ?_); refine a_bld ?_)))
          refine start_M [2, 3] HM (by kernel_rfl) (fun w0x H9 => ?_)
          replace HM := H9; clear H9
          refine k_ld 0 [2, 3] (heldE HM) ?_
          refine j_two 1 2 ?_ ?_
          · refine j_ld HM ?_
            refine ⟨(heldE HM), ?_⟩
            refine j_one 2 fun K9 hK9 => ?_
            refine j_st HM ?_; clear HM; intro w1 HM
            refine hK9 _ _ heldN ?_; clear hK9 K9
            refine j_one 3 fun K9 hK9 => ?_
            refine j_st HM ?_; clear HM; intro w1 HM
            refine hK9 _ _ heldN ?_; clear hK9 K9
            refine wpAnyL_done (by kernel_rfl) ?_ _
            (go_wp2_with fail; go_roundg g; (case rel => exact ⟨B, r, by omega, HG2, hB, by omega, HM.less (by (repeat (first | exact Sub.nil | refine Sub.keep ?_ | refine Sub.skip ?_)))⟩); (case measure => omega))
          · refine j_st HM ?_; clear HM; intro w1 HM
            refine ⟨heldN, ?_⟩
            refine j_one 1 fun K9 hK9 => ?_
            refine j_ld HM ?_
            refine hK9 _ _ heldN ?_; clear hK9 K9
            refine j_one 3 fun K9 hK9 => ?_
            refine j_st HM ?_; clear HM; intro w1 HM
            refine hK9 _ _ heldN ?_; clear hK9 K9
            refine wpAnyL_done (by kernel_rfl) ?_ _
            (go_wp2_with fail; go_roundg g; (case rel => exact ⟨B, r, by omega, HG2, hB, by omega, HM.less (by (repeat (first | exact Sub.nil | refine Sub.keep ?_ | refine Sub.skip ?_)))⟩); (case measure => omega))
end Go.Proofs.Ytekfabhmopkapaa
