/- The document's double, shifted, low and small. -/
import Derived.Test.YtekfabhmopkapaaRefB1
import Derived.Test.YtekfabhmopkapaaRefMath
namespace Go.Proofs.Ytekfabhmopkapaa
set_option maxRecDepth 8000
open Go.RowKit
set_option maxRecDepth 20000 in
set_option maxHeartbeats 2000000 in
theorem rdouble_any (N c z : Nat) (f : Bool) (hN : N < Bg.lim) (hc : c ≤ 1) (hz : Hid (z = (2 * N + c) % Bg.lim)) (hf : Hid (f = decide (Bg.lim ≤ 2 * N + c))) (w : World) :
    Calls Try.prog 103 #[.agg (Bg.row 32 N), .int .u32 (c : Nat)] w fun e w' => e = .returned (.tuple #[.agg (Bg.row 32 z), .bool f]) ∧ Below w.heap.size w w' := by
  have HM := Mem.start w
  go_enter Try.func103, Try.ntmps103
  go_upto_region 1 with (first | fail | (first | ((with_reducible refine g_ld ?_); refine a_ld HM ?_) | ((with_reducible refine g_st ?_); refine a_st HM ?_; clear HM; intro w1 HM) | ((with_reducible refine g_al ?_); refine a_al HM ?_; clear HM; intro bk w1 HM) | ((with_reducible refine g_bx ?_); refine a_bx HM ?_; clear HM; intro bk w1 HM) | ((with_reducible refine g_bld ?_); refine a_bld ?_)))
  obtain ⟨br, rfl⟩ := HM.nm0
  obtain ⟨bm, rfl⟩ := HM.nm1
  go_wp2_with fail
  go_loopw [1, 6] (fun cc i wr => ∃ i0 R b : Nat, i0 ≤ 32 ∧ i = .int .i64 (i0 : Nat) ∧ cc = .int .u32 (b : Nat) ∧ Hid (Bg.DbSt N c i0 R b) ∧ Mem w [] [(br, Bg.row 32 0), (bm, Bg.row 32 R)] wr) (fun _ i _ => (32 - intOf i).toNat)
  case atStart => exact ⟨0, N, c, by omega, rfl, rfl, Lib.hid (Bg.DbSt.start hc), HM⟩
  case round =>
    clear HM
    obtain ⟨i0, R, b, hi32, rfl, rfl, HS, HM⟩ := hrel
    have hb1 := HS.out.b
    by_cases hlt : i0 < 32
    · have ht : (i0 : Int) < 32 := by omega
      obtain ⟨x, hx⟩ : ∃ x, Hid (x = Bg.limb N i0) := ⟨_, rfl⟩
      have hxl : x < 4294967296 := by rw [hx.out]; exact Bg.limb_lt _ _
      obtain ⟨hlx, hs2⟩ := HS.out.step
      rw [← hx.out] at hlx hs2
      have HS2 := Lib.hid hs2
      obtain ⟨y, hy⟩ : ∃ y, Hid (y = x * 2 % 4294967296) := ⟨_, rfl⟩
      rw [← hy.out] at HS2
      have hyl : y < 4294967296 := by rw [hy.out]; exact Nat.mod_lt _ (by decide)
      have hyb : y + b < 4294967296 := by have := hy.out; omega
      have hor : y ||| b = y + b := by rw [hy.out]; exact Bg.or_bit hb1
      have hf1 : LA 22 (Bg.row 32 R) i0 (.int .u32 (x : Nat)) := by rw [← hlx]; exact la_lim R i0 hlt
      have hf2 := sa_lim R i0 (y + b) hyb hlt
      have HO := Lib.hid hor
      have hq0 : (0 : Int) ≤ (i0 : Int) := by omega
      clear hlx hs2 hor
      go_upto_region 4 with fail
      refine start_M [12] HM (by kernel_rfl) (fun w0x H9 => ?_)
      replace HM := H9; clear H9
      refine k_mv 0 (heldE HM) ?_
      refine k_mv 1 (heldE HM) ?_
      refine k_ia 2 (heldE HM) ?_
      refine k_ld 3 [4, 6, 11, 12, 13] (heldE HM) ?_
      refine t_pure (i := 4) (v := .int .u32 (y : Nat)) rfl rfl (by kernel_rfl) (fun _ _ _ h => h) (heldE HM) (by rfl) ?_ ?_; (focus (exact h_bin (by rfl) (by rfl) (by rfl) (by intro w9; go_simp; rw [IntKind.wrap_u32, hy.out]; simp))); ((try simp only [List.setIfInBounds_toArray]); (try simp only [List.set_cons_succ]); (try simp only [List.set_cons_zero]))
      refine k_mv 5 (heldE HM) ?_
      refine t_pure (i := 6) (v := .int .u32 ((y + b : Nat) : Int)) rfl rfl (by kernel_rfl) (fun _ _ _ h => h) (heldE HM) (by rfl) ?_ ?_; (focus (exact h_bin (by rfl) (by rfl) (by rfl) (by intro w9; go_simp; rw [u32_or_nat _ _ hyl (by omega), HO.out]; first | done | (simp; done) | omega))); ((try simp only [List.setIfInBounds_toArray]); (try simp only [List.set_cons_succ]); (try simp only [List.set_cons_zero]))
      refine k_mv 7 (heldE HM) ?_
      refine k_ia 8 (heldE HM) ?_
      refine k_ld 9 [10, 11, 12, 13] (heldE HM) ?_
      refine t_pure (i := 10) (v := .int .u32 ((x / 2147483648 : Nat) : Int)) rfl rfl (by kernel_rfl) (fun _ _ _ h => h) (heldE HM) (by rfl) ?_ ?_; (focus (exact h_bin (by rfl) (by rfl) (by rfl) (by intro w9; go_simp))); ((try simp only [List.setIfInBounds_toArray]); (try simp only [List.set_cons_succ]); (try simp only [List.set_cons_zero]))
      refine k_ia 11 (heldE HM) ?_
      refine j_one 12 fun K9 hK9 => ?_
      refine j_st HM ?_; clear HM; intro w1 HM
      refine hK9 _ _ heldN ?_; clear hK9 K9
      refine k_mv 13 heldN ?_
      refine wpAnyL_done (by kernel_rfl) ?_ _
      go_wp2_with fail
      go_roundw
      case rel => exact ⟨i0 + 1, _, x / 2147483648, hlt, by go_num, rfl, HS2, HM⟩
      case measure => simp [intOf]; omega
    · obtain rfl : i0 = 32 := by omega
      obtain ⟨h1, h2⟩ := HS.out.done hN
      have HZ : Hid (z = R) := Lib.hid (by rw [hz.out, h1])
      have HF : Hid (f = decide (b = 1)) := Lib.hid (by rw [hf.out]; exact decide_eq_decide.2 h2.symm)
      clear h1 h2
      rcases (show b = 0 ∨ b = 1 by omega) with rfl | rfl
      all_goals
        go_wp2_with (first | fail | (first | ((with_reducible refine g_ld ?_); refine a_ld HM ?_) | ((with_reducible refine g_st ?_); refine a_st HM ?_; clear HM; intro w1 HM) | ((with_reducible refine g_al ?_); refine a_al HM ?_; clear HM; intro bk w1 HM) | ((with_reducible refine g_bx ?_); refine a_bx HM ?_; clear HM; intro bk w1 HM) | ((with_reducible refine g_bld ?_); refine a_bld ?_)))
        refine bodyPost_ret (r_ct (b := br) (k := 0) rfl rfl (HM.get (by ((repeat (first | exact Look.here | refine Look.there ?_)); done))) (la_arr _)) rfl ⟨?_, HM.low⟩
        rw [HZ.out, HF.out]
        rfl
set_option maxRecDepth 20000 in
set_option maxHeartbeats 2000000 in
theorem rshifted_any (N n z : Nat) (hN : N < Bg.lim) (hn : n ≤ 1024) (hz : Hid (z = N / 2 ^ n)) (w : World) :
    Calls Try.prog 102 #[.agg (Bg.row 32 N), .int .i64 (n : Nat)] w fun e w' => e = .returned (.agg (Bg.row 32 z)) ∧ Below w.heap.size w w' := by
  have HM := Mem.start w
  obtain ⟨k, hk⟩ : ∃ k, Hid (k = n / 32) := ⟨_, rfl⟩
  obtain ⟨r, hr⟩ : ∃ r, Hid (r = n % 32) := ⟨_, rfl⟩
  have hk32 : k ≤ 32 := by rw [hk.out]; omega
  have hr32 : r < 32 := by rw [hr.out]; omega
  have hnk : Hid (n = 32 * k + r) := Lib.hid (by rw [hk.out, hr.out]; omega)
  have e1 : (n : Int) / 32 = (k : Int) := by rw [hk.out]; simp
  have e2 : (n : Int) % 32 = (r : Int) := by rw [hr.out]; simp
  go_enter Try.func102, Try.ntmps102
  go_upto_region 3 with (first | fail | (first | ((with_reducible refine g_ld ?_); refine a_ld HM ?_) | ((with_reducible refine g_st ?_); refine a_st HM ?_; clear HM; intro w1 HM) | ((with_reducible refine g_al ?_); refine a_al HM ?_; clear HM; intro bk w1 HM) | ((with_reducible refine g_bx ?_); refine a_bx HM ?_; clear HM; intro bk w1 HM) | ((with_reducible refine g_bld ?_); refine a_bld ?_)))
  obtain ⟨bo, rfl⟩ := HM.nm0
  obtain ⟨br, rfl⟩ := HM.nm1
  obtain ⟨bm, rfl⟩ := HM.nm2
  have hzl : Hid (z < Bg.pw (32 - k)) := Lib.hid (by rw [hz.out, hnk.out]; exact Bg.shifted_lt hN hk32)
  clear e1 e2
  go_wp2_with fail
  go_loopw [8] (fun i wr => ∃ i0 : Nat, i0 + k ≤ 32 ∧ i = .int .i64 (i0 : Nat) ∧ Mem w [] [(bo, Bg.row 32 (z % Bg.pw i0)), (br, Bg.row 32 0), (bm, Bg.row 32 N)] wr) (fun i _ => (32 - intOf i).toNat)
  case atStart => exact ⟨0, by omega, rfl, by rw [Bg.pw_zero, Nat.mod_one]; exact HM⟩
  case round =>
    clear HM
    obtain ⟨i0, hi0, rfl, HM⟩ := hrel
    obtain ⟨ik, hik⟩ : ∃ x, Hid (x = i0 + k) := ⟨_, rfl⟩
    have e5 : (i0 : Int) + (k : Int) = (ik : Int) := by have := hik.out; omega
    have hik32 : ik ≤ 32 := by have := hik.out; omega
    by_cases hlt : ik < 32
    · have ht : (ik : Int) < 32 := by omega
      have hi32 : i0 < 32 := by have := hik.out; omega
      obtain ⟨x, hx⟩ : ∃ x, Hid (x = Bg.limb N ik) := ⟨_, rfl⟩
      have hxl : x < 4294967296 := by rw [hx.out]; exact Bg.limb_lt _ _
      obtain ⟨y, hy⟩ : ∃ y, Hid (y = x / 2 ^ r) := ⟨_, rfl⟩
      have hyl : y < 4294967296 := by rw [hy.out]; exact Nat.lt_of_le_of_lt (Nat.div_le_self _ _) hxl
      have hlz := Bg.shifted_limb N k r i0 hr32
      rw [← hnk.out, ← hz.out, show k + i0 = ik from by have := hik.out; omega, ← hx.out, ← hy.out] at hlz
      replace hlz := Lib.hid hlz
      have hf1 : LA 22 (Bg.row 32 N) ik (.int .u32 (x : Nat)) := by rw [hx.out]; exact la_lim N ik hlt
      have hf2 : SA 22 (Bg.row 32 (z % Bg.pw i0)) i0 (.int .u32 ((x : Int) / 2 ^ r)) (Bg.row 32 (Bg.setL (z % Bg.pw i0) i0 y)) := by
        have h := sa_lim (z % Bg.pw i0) i0 y hyl hi32
        rwa [show ((y : Nat) : Int) = (x : Int) / 2 ^ r from by rw [hy.out]; simp] at h
      have hq0 : (0 : Int) ≤ (i0 : Int) := by omega
      have hq1 : (i0 : Int) < 32 := by omega
      have hq2 : (0 : Int) ≤ (ik : Int) := by omega
      go_upto_region 7 with (first | fail | (first | ((with_reducible refine g_ld ?_); refine a_ld HM ?_) | ((with_reducible refine g_st ?_); refine a_st HM ?_; clear HM; intro w1 HM) | ((with_reducible refine g_al ?_); refine a_al HM ?_; clear HM; intro bk w1 HM) | ((with_reducible refine g_bx ?_); refine a_bx HM ?_; clear HM; intro bk w1 HM) | ((with_reducible refine g_bld ?_); refine a_bld ?_)))
      clear hf1 hf2
      rcases Nat.eq_zero_or_pos r with hr0 | hr0
      · have e2 : Bg.setL (z % Bg.pw i0) i0 y = z % Bg.pw (i0 + 1) := by
          have h := hlz.out
          rw [if_pos hr0] at h
          rw [hy.out, hr0, Nat.pow_zero, Nat.div_one, ← h, Bg.low_set]
        rw [e2] at HM
        clear e2
        subst hr0
        go_wp2_with fail
        go_roundw
        case rel => exact ⟨i0 + 1, by have := hik.out; omega, by go_num, HM⟩
        case measure => simp [intOf]; omega
      · have hrp : (0 : Int) < (r : Int) := by omega
        have hl := hlz.out
        rw [if_neg (by omega)] at hl
        by_cases hlt2 : ik + 1 < 32
        · have ht2 : (ik : Int) + 1 < 32 := by omega
          obtain ⟨u, hu⟩ : ∃ u, Hid (u = Bg.limb N (ik + 1)) := ⟨_, rfl⟩
          have hul : u < 4294967296 := by rw [hu.out]; exact Bg.limb_lt _ _
          obtain ⟨v, hv⟩ : ∃ v, Hid (v = u * 2 ^ (32 - r) % 4294967296) := ⟨_, rfl⟩
          have hvl : v < 4294967296 := by rw [hv.out]; exact Nat.mod_lt _ (by decide)
          rw [← hu.out, ← hv.out] at hl
          have hl0 : LA 22 (Bg.row 32 (Bg.setL (z % Bg.pw i0) i0 y)) i0 (.int .u32 (y : Nat)) := by
            have h := la_lim (Bg.setL (z % Bg.pw i0) i0 y) i0 hi32
            rwa [Bg.setL_limb _ _ _ _ hyl, if_pos rfl] at h
          have hl1 : LA 22 (Bg.row 32 N) (ik + 1) (.int .u32 (u : Nat)) := by rw [hu.out]; exact la_lim N (ik + 1) hlt2
          have hol : y ||| v < 4294967296 := by have := Nat.or_lt_two_pow (n := 32) (x := y) (y := v) (by omega) (by omega); omega
          have hso := sa_lim (Bg.setL (z % Bg.pw i0) i0 y) i0 (y ||| v) hol hi32
          rw [Bg.setL_twice _ _ _ _ hyl, ← hl, Bg.low_set] at hso
          replace hl := Lib.hid hl
          have hq3 : (0 : Int) ≤ (ik : Int) + 1 := by omega
          go_upto_region 8 with fail
          rw [hl.out] at hso
          refine start_M [14] HM (by kernel_rfl) (fun w0x H9 => ?_)
          replace HM := H9; clear H9
          refine k_mv 0 (heldE HM) ?_
          refine k_ia 1 (heldE HM) ?_
          refine k_ld 2 [12, 13, 14] (heldE HM) ?_
          refine k_mv 3 (heldE HM) ?_
          refine k_mv 4 (heldE HM) ?_
          refine t_pure (i := 5) (v := .int .i64 (ik : Nat)) rfl rfl (by kernel_rfl) (fun _ _ _ h => h) (heldE HM) (by rfl) ?_ ?_; (focus (exact h_bin (by rfl) (by rfl) (by rfl) (by intro w9; go_simp; rw [IntWalk.i64_in _ (by omega)]))); ((try simp only [List.setIfInBounds_toArray]); (try simp only [List.set_cons_succ]); (try simp only [List.set_cons_zero]))
          refine k_add 6 (heldE HM) ?_
          refine k_ia 7 (heldE HM) ?_
          refine k_ld 8 [11, 12, 13, 14] (heldE HM) ?_
          refine k_mv 9 (heldE HM) ?_
          refine t_pure (i := 10) (v := .int .u64 ((32 - r : Nat) : Int)) rfl rfl (by kernel_rfl) (fun _ _ _ h => h) (heldE HM) (by rfl) ?_ ?_; (focus (exact h_bin (by rfl) (by rfl) (by rfl) (by intro w9; go_simp; rw [IntWalk.u64_in _ (by omega)]; first | done | omega))); ((try simp only [List.setIfInBounds_toArray]); (try simp only [List.set_cons_succ]); (try simp only [List.set_cons_zero]))
          refine t_pure (i := 11) (v := .int .u32 (v : Nat)) rfl rfl (by kernel_rfl) (fun _ _ _ h => h) (heldE HM) (by rfl) ?_ ?_; (focus (exact h_bin (by rfl) (by rfl) (by rfl) (by intro w9; go_simp; rw [hv.out, IntKind.wrap_u32]; simp))); ((try simp only [List.setIfInBounds_toArray]); (try simp only [List.set_cons_succ]); (try simp only [List.set_cons_zero]))
          refine t_pure (i := 12) (v := .int .u32 ((y ||| v : Nat) : Int)) rfl rfl (by kernel_rfl) (fun _ _ _ h => h) (heldE HM) (by rfl) ?_ ?_; (focus (exact h_bin (by rfl) (by rfl) (by rfl) (by intro w9; go_simp; rw [u32_or_nat _ _ hyl hvl]))); ((try simp only [List.setIfInBounds_toArray]); (try simp only [List.set_cons_succ]); (try simp only [List.set_cons_zero]))
          refine k_ia 13 (heldE HM) ?_
          refine j_one 14 fun K9 hK9 => ?_
          refine j_st HM ?_; clear HM; intro w1 HM
          refine hK9 _ _ heldN ?_; clear hK9 K9
          refine wpAnyL_done (by kernel_rfl) ?_ _
          go_wp2_with fail
          go_roundw
          case rel => exact ⟨i0 + 1, by have := hik.out; omega, by go_num, HM⟩
          case measure => simp [intOf]; omega
        · have ht2 : ¬ (ik : Int) + 1 < 32 := by omega
          have e2 : Bg.setL (z % Bg.pw i0) i0 y = z % Bg.pw (i0 + 1) := by
            rw [Bg.limb_top hN (show 32 ≤ ik + 1 by omega), Nat.zero_mul, Nat.zero_mod, Nat.or_zero] at hl
            rw [← hl, Bg.low_set]
          rw [e2] at HM
          clear e2 hl
          go_wp2_with fail
          go_roundw
          case rel => exact ⟨i0 + 1, by have := hik.out; omega, by go_num, HM⟩
          case measure => simp [intOf]; omega
    · have ht : ¬ (ik : Int) < 32 := by omega
      have hz2 : z % Bg.pw i0 = z := Nat.mod_eq_of_lt (by rw [show i0 = 32 - k from by have := hik.out; omega]; exact hzl.out)
      rw [hz2] at HM
      clear hz2
      go_wp2_with (first | fail | (first | ((with_reducible refine g_ld ?_); refine a_ld HM ?_) | ((with_reducible refine g_st ?_); refine a_st HM ?_; clear HM; intro w1 HM) | ((with_reducible refine g_al ?_); refine a_al HM ?_; clear HM; intro bk w1 HM) | ((with_reducible refine g_bx ?_); refine a_bx HM ?_; clear HM; intro bk w1 HM) | ((with_reducible refine g_bld ?_); refine a_bld ?_)))
      refine bodyPost_ret (r_c (b := br) (k := 0) rfl rfl (HM.get (by ((repeat (first | exact Look.here | refine Look.there ?_)); done))) (la_arr _)) rfl ⟨rfl, HM.low⟩
set_option maxRecDepth 20000 in
set_option maxHeartbeats 1000000 in
theorem rlow_any (N : Nat) (hN : N < 18446744073709551616) (w : World) :
    Calls Try.prog 101 #[.agg (Bg.row 32 N)] w fun e w' => e = .returned (.int .u64 (N : Nat)) ∧ Below w.heap.size w w' := by
  have HM := Mem.start w
  have ho : bits .or .u64 (((Bg.limb N 1 : Nat) : Int) * 4294967296) ((Bg.limb N 0 : Nat) : Int) = ((Bg.limb N 1 * 4294967296 + Bg.limb N 0 : Nat) : Int) := div_or _ _ (Bg.limb_lt N 1) (Bg.limb_lt N 0)
  rw [← Bg.two_limbs hN] at ho
  have h0l := Bg.limb_lt N 0
  have h1l := Bg.limb_lt N 1
  have hc0 : LA 22 (Bg.row 32 N) 0 (.int .u32 (Bg.limb N 0 : Nat)) := la_lim N 0 (by decide)
  have hc1 : LA 22 (Bg.row 32 N) 1 (.int .u32 (Bg.limb N 1 : Nat)) := la_lim N 1 (by decide)
  generalize Bg.limb N 0 = l0 at hc0 h0l ho
  generalize Bg.limb N 1 = l1 at hc1 h1l ho
  go_enter Try.func101, Try.ntmps101
  go_wp2_with (first | fail | (first | ((with_reducible refine g_ld ?_); refine a_ld HM ?_) | ((with_reducible refine g_st ?_); refine a_st HM ?_; clear HM; intro w1 HM) | ((with_reducible refine g_al ?_); refine a_al HM ?_; clear HM; intro bk w1 HM) | ((with_reducible refine g_bx ?_); refine a_bx HM ?_; clear HM; intro bk w1 HM) | ((with_reducible refine g_bld ?_); refine a_bld ?_)))
  go_ret
  exact ⟨rfl, HM.low⟩
theorem sa_twom (U : Nat) (hU : U < 18446744073709551616) : SA 22 (Bg.row 32 0) 0 (.int .u32 ((U : Int) % 4294967296)) (Bg.row 32 (U % 4294967296)) ∧ SA 22 (Bg.row 32 (U % 4294967296)) 1 (.int .u32 ((U : Int) / 4294967296)) (Bg.row 32 U) := by
  constructor
  · have := sa_lim 0 0 (U % 4294967296) (Nat.mod_lt _ (by decide)) (by decide)
    rw [Bg.setL_low] at this
    exact this
  · have := sa_lim (U % 4294967296) 1 (U / 4294967296) (by omega) (by decide)
    rw [Bg.setL_top _ _ _ (by rw [Bg.pw_one]; omega), Bg.pw_one, show U % 4294967296 + U / 4294967296 * 4294967296 = U from by omega] at this
    exact this
set_option maxRecDepth 20000 in
set_option maxHeartbeats 1000000 in
theorem rsmall_any (N : Nat) (hN : N < 18446744073709551616) (w : World) :
    Calls Try.prog 100 #[.int .u64 (N : Nat)] w fun e w' => e = .returned (.agg (Bg.row 32 N)) ∧ Below w.heap.size w w' := by
  have HM := Mem.start w
  obtain ⟨h1, h2⟩ := sa_twom N hN
  have e4 : (N : Int) / 4294967296 % 4294967296 = (N : Int) / 4294967296 := by omega
  go_enter Try.func100, Try.ntmps100
  go_wp2_with (first | fail | (first | ((with_reducible refine g_ld ?_); refine a_ld HM ?_) | ((with_reducible refine g_st ?_); refine a_st HM ?_; clear HM; intro w1 HM) | ((with_reducible refine g_al ?_); refine a_al HM ?_; clear HM; intro bk w1 HM) | ((with_reducible refine g_bx ?_); refine a_bx HM ?_; clear HM; intro bk w1 HM) | ((with_reducible refine g_bld ?_); refine a_bld ?_)))
  refine bodyPost_ret (r_c rfl rfl (HM.get (by ((repeat (first | exact Look.here | refine Look.there ?_)); done))) (la_arr _)) rfl ⟨rfl, HM.low⟩
end Go.Proofs.Ytekfabhmopkapaa
