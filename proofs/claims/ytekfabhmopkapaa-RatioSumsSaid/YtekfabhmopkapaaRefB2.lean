/- The document's Mul. -/
import Derived.Test.YtekfabhmopkapaaRefB1
import Derived.Test.YtekfabhmopkapaaEngA
import Derived.Test.YtekfabhmopkapaaKnMath
namespace Go.Proofs.Ytekfabhmopkapaa
set_option maxRecDepth 8000
open Go.RowKit
theorem za_64 : ZA 109 (Bg.row 64 0) := ⟨.agg (Bg.row 64 0), rfl, fun w => by rw [← zero64]; kernel_rfl⟩
theorem la_64 (N i : Nat) (h : i < 64) : LA 22 (Bg.row 64 N) i (.int .u32 (Bg.limb N i : Nat)) := LA.one (by kernel_rfl) (Bg.row_at 64 N i h)
theorem sa_64 (N i x : Nat) (hx : x < 4294967296) (hi : i < 64) : SA 22 (Bg.row 64 N) i (.int .u32 (x : Nat)) (Bg.row 64 (Bg.setL N i x)) := by
  have h := SA.one (T := 22) (c := Bg.row 64 N) (k := i) (v := .int .u32 (x : Nat)) (by kernel_rfl) rfl (by rw [Bg.row_size]; exact hi)
  rwa [Bg.row_set 64 N i x hx] at h
theorem Bg.toZ_mul (s t : Bool) (M N : Nat) : Bg.toZ s M * Bg.toZ t N = Bg.toZ (s != t) (M * N) := by
  cases s <;> cases t <;> simp [Bg.toZ, Int.natCast_mul, Int.neg_mul, Int.mul_neg]
set_option maxRecDepth 20000 in
set_option maxHeartbeats 4000000 in
theorem rmul_any (s t : Bool) (M N : Nat) (z v e : Int) (hM : M < Bg.lim) (hN : N < Bg.lim) (hzz : Hid (z = Bg.toZ s M * Bg.toZ t N)) (hv : Hid (v = Bg.resZ z)) (he : Hid (e = Bg.resE z)) (w : World) :
    Calls Try.prog 89 #[.agg (Bg.intA s M), .agg (Bg.intA t N)] w fun r w' => r = .returned (.tuple #[.agg (Bg.zA v), .int .i64 e]) ∧ Below w.heap.size w w' := by
  have HM := Mem.start w
  obtain ⟨n, hn⟩ : ∃ u, Hid (u = Bg.used M) := ⟨_, rfl⟩
  obtain ⟨k, hk⟩ : ∃ u, Hid (u = Bg.used N) := ⟨_, rfl⟩
  have hn32 : n ≤ 32 := by rw [hn.out]; exact Bg.used_le M
  have hk32 : k ≤ 32 := by rw [hk.out]; exact Bg.used_le N
  have hMn : Hid (M < Bg.pw n) := Lib.hid (by rw [hn.out]; exact Bg.used_lt hM)
  have hNk : Hid (N < Bg.pw k) := Lib.hid (by rw [hk.out]; exact Bg.used_lt hN)
  have hz64 := za_64
  go_enter Try.func89, Try.ntmps89
  go_upto_region 2 with (first | fail | (first | ((with_reducible refine g_ld ?_); refine a_ld HM ?_) | ((with_reducible refine g_st ?_); refine a_st HM ?_; clear HM; intro w1 HM) | ((with_reducible refine g_al ?_); refine a_al HM ?_; clear HM; intro bk w1 HM) | ((with_reducible refine g_bx ?_); refine a_bx HM ?_; clear HM; intro bk w1 HM) | ((with_reducible refine g_bld ?_); refine a_bld ?_)))
  clear hz64
  obtain ⟨bo, rfl⟩ := HM.nm0
  obtain ⟨br, rfl⟩ := HM.nm1
  obtain ⟨bb, rfl⟩ := HM.nm2
  obtain ⟨ba, rfl⟩ := HM.nm3
  refine start_M [] HM (by kernel_rfl) (fun w0x H9 => ?_)
  replace HM := H9; clear H9
  refine k_fa 0 (heldE HM) ?_
  refine k_ld 1 [] (heldE HM) ?_
  refine k_fa 3 (heldE HM) ?_
  refine k_ld 4 [] (heldE HM) ?_
  refine j_one 2 fun K9 hK9 => ?_
  refine j_call1 (v := ?_) HM ?_ ?_; rotate_left 1; (focus (with_reducible (first | exact limbs_as M n hn _ | exact limbs_as N k hk _))); clear HM; intro w1 HM
  refine hK9 _ _ (heldE HM) ?_; clear hK9 K9
  refine j_one 5 fun K9 hK9 => ?_
  refine j_call1 (v := ?_) HM ?_ ?_; rotate_left 1; (focus (with_reducible (first | exact limbs_as M n hn _ | exact limbs_as N k hk _))); clear HM; intro w1 HM
  refine hK9 _ _ (heldE HM) ?_; clear hK9 K9
  refine k_mv 6 (heldE HM) ?_
  refine k_mv 7 (heldE HM) ?_
  refine wpAnyL_done (by kernel_rfl) ?_ _
  go_wp2_with fail
  go_loopw [9] (fun i wr => ∃ i0 S : Nat, i0 ≤ n ∧ i = .int .i64 (i0 : Nat) ∧ Hid (Bg.MulSt M N k i0 S) ∧ Mem w [] [(bo, Bg.row 64 S), (br, Bg.zA 0), (bb, Bg.intA t N), (ba, Bg.intA s M)] wr) (fun i _ => (n - intOf i).toNat)
  case atStart => exact ⟨0, 0, Nat.zero_le _, rfl, Lib.hid (Bg.MulSt.zero M N k), HM⟩
  case round =>
    clear HM
    obtain ⟨i0, S, hi0, rfl, HS, HM⟩ := hrel
    by_cases hin : i0 < n
    · as_aux_lemma =>
      have ht : (i0 : Int) < (n : Int) := by omega
      go_wp2_with fail
      go_loopw [10, 11] (fun c j wr => ∃ j0 T c0 : Nat, j0 ≤ k ∧ j = .int .i64 (j0 : Nat) ∧ c = .int .u64 (c0 : Nat) ∧ Hid (Bg.RowSt M N k i0 j0 T c0) ∧ Mem w [] [(bo, Bg.row 64 T), (br, Bg.zA 0), (bb, Bg.intA t N), (ba, Bg.intA s M)] wr) (fun _ j _ => (k - intOf j).toNat)
      case atStart => exact ⟨0, S, 0, Nat.zero_le _, rfl, rfl, Lib.hid HS.out.row, HM⟩
      case round =>
        clear HM
        obtain ⟨j0, T, c0, hj0, rfl, rfl, HR, HM⟩ := hrel
        have hcl := HR.out.le
        by_cases hjn : j0 < k
        · have ht2 : (j0 : Int) < (k : Int) := by omega
          obtain ⟨x, hx⟩ : ∃ x, Hid (x = Bg.limb M i0) := ⟨_, rfl⟩
          obtain ⟨y, hy⟩ : ∃ x, Hid (x = Bg.limb N j0) := ⟨_, rfl⟩
          obtain ⟨ij, hij⟩ : ∃ x, Hid (x = i0 + j0) := ⟨_, rfl⟩
          obtain ⟨u, hu⟩ : ∃ x, Hid (x = Bg.limb T ij) := ⟨_, rfl⟩
          have hxl : x < 4294967296 := by rw [hx.out]; exact Bg.limb_lt _ _
          have hyl : y < 4294967296 := by rw [hy.out]; exact Bg.limb_lt _ _
          have hul : u < 4294967296 := by rw [hu.out]; exact Bg.limb_lt _ _
          have hij64 : ij < 64 := by rw [hij.out]; omega
          obtain ⟨P, hP⟩ : ∃ P, Hid (P = x * y) := ⟨_, rfl⟩
          have hPl : P ≤ 18446744065119617025 := by rw [hP.out]; exact Bg.col_mul hxl hyl
          obtain ⟨V, hV⟩ : ∃ V, Hid (V = P + u + c0) := ⟨_, rfl⟩
          have hVl : V < 18446744073709551616 := by rw [hV.out]; omega
          have HR2 := HR.out.step hjn
          rw [← hij.out, ← hu.out, ← hx.out, ← hy.out, show Bg.col x y u c0 = V from by unfold Bg.col; rw [hV.out, hP.out]] at HR2
          replace HR2 := Lib.hid HR2
          have hf1 : LA 22 (Bg.intA s M) (1 + i0) (.int .u32 (x : Nat)) := by rw [hx.out]; exact la_limi s M i0 (by omega)
          have hf2 : LA 22 (Bg.intA t N) (1 + j0) (.int .u32 (y : Nat)) := by rw [hy.out]; exact la_limi t N j0 (by omega)
          have hf3 : LA 22 (Bg.row 64 T) ij (.int .u32 (u : Nat)) := by rw [hu.out]; exact la_64 T ij hij64
          have hf4 : SA 22 (Bg.row 64 T) ij (.int .u32 ((V : Int) % 4294967296)) (Bg.row 64 (Bg.setL T ij (V % 4294967296))) := sa_64 T ij (V % 4294967296) (Nat.mod_lt _ (by decide)) hij64
          have e5 : (i0 : Int) + (j0 : Int) = (ij : Int) := by have := hij.out; omega
          have hq0 : (0 : Int) ≤ (i0 : Int) := by omega
          have hq1 : (i0 : Int) < 32 := by omega
          have hq2 : (0 : Int) ≤ (j0 : Int) := by omega
          have hq3 : (j0 : Int) < 32 := by omega
          have hq4 : (0 : Int) ≤ (ij : Int) := by omega
          have hq5 : (ij : Int) < 64 := by omega
          go_upto_region 10 with fail
          refine start_M [] HM (by kernel_rfl) (fun w0x H9 => ?_)
          replace HM := H9; clear H9
          refine k_mv 0 (heldE HM) ?_
          refine k_fa 1 (heldE HM) ?_
          refine k_ia 2 (heldE HM) ?_
          refine k_ld 3 [] (heldE HM) ?_
          refine k_cv 4 (heldE HM) ?_
          refine k_mv 5 (heldE HM) ?_
          refine k_fa 6 (heldE HM) ?_
          refine k_ia 7 (heldE HM) ?_
          refine k_ld 8 [] (heldE HM) ?_
          refine k_cv 9 (heldE HM) ?_
          refine t_pure (i := 10) (v := .int .u64 (P : Nat)) rfl rfl (by kernel_rfl) (fun _ _ _ h => h) (heldE HM) (by rfl) ?_ ?_; (focus (exact h_bin (by rfl) (by rfl) (by rfl) (by intro w9; go_simp; rw [show (x : Int) * (y : Int) = (P : Int) from by rw [hP.out]; simp, IntWalk.u64_in _ (by omega)]))); ((try simp only [List.setIfInBounds_toArray]); (try simp only [List.set_cons_succ]); (try simp only [List.set_cons_zero]))
          refine k_mv 11 (heldE HM) ?_
          refine k_mv 12 (heldE HM) ?_
          refine t_pure (i := 13) (v := .int .i64 (ij : Nat)) rfl rfl (by kernel_rfl) (fun _ _ _ h => h) (heldE HM) (by rfl) ?_ ?_; (focus (exact h_bin (by rfl) (by rfl) (by rfl) (by intro w9; go_simp; rw [IntWalk.i64_in _ (by omega)]))); ((try simp only [List.setIfInBounds_toArray]); (try simp only [List.set_cons_succ]); (try simp only [List.set_cons_zero]))
          refine k_ia 14 (heldE HM) ?_
          refine k_ld 15 [] (heldE HM) ?_
          refine k_cv 16 (heldE HM) ?_
          refine t_pure (i := 17) (v := .int .u64 ((P + u : Nat) : Int)) rfl rfl (by kernel_rfl) (fun _ _ _ h => h) (heldE HM) (by rfl) ?_ ?_; (focus (exact h_bin (by rfl) (by rfl) (by rfl) (by intro w9; go_simp; rw [IntWalk.u64_in _ (by omega)]; first | done | omega))); ((try simp only [List.setIfInBounds_toArray]); (try simp only [List.set_cons_succ]); (try simp only [List.set_cons_zero]))
          refine k_mv 18 (heldE HM) ?_
          refine t_pure (i := 19) (v := .int .u64 (V : Nat)) rfl rfl (by kernel_rfl) (fun _ _ _ h => h) (heldE HM) (by rfl) ?_ ?_; (focus (exact h_bin (by rfl) (by rfl) (by rfl) (by have := hV.out; intro w9; go_simp; rw [IntWalk.u64_in _ (by omega)]; first | done | omega))); ((try simp only [List.setIfInBounds_toArray]); (try simp only [List.set_cons_succ]); (try simp only [List.set_cons_zero]))
          refine k_mv 20 (heldE HM) ?_
          refine wpAnyL_done (by kernel_rfl) ?_ _
          clear hf1 hf2 hf3
          go_upto_region 12 with (first | fail | (first | ((with_reducible refine g_ld ?_); refine a_ld HM ?_) | ((with_reducible refine g_st ?_); refine a_st HM ?_; clear HM; intro w1 HM) | ((with_reducible refine g_al ?_); refine a_al HM ?_; clear HM; intro bk w1 HM) | ((with_reducible refine g_bx ?_); refine a_bx HM ?_; clear HM; intro bk w1 HM) | ((with_reducible refine g_bld ?_); refine a_bld ?_)))
          clear hf4
          go_wp2_with fail
          go_roundw
          case rel => exact ⟨j0 + 1, _, V / 4294967296, hjn, by go_num, by simp, HR2, HM⟩
          case measure => simp [intOf]; omega
        · obtain rfl : k = j0 := by omega
          have HS2 := Lib.hid (HR.out.done hNk.out)
          obtain ⟨ik, hik⟩ : ∃ x, Hid (x = i0 + k) := ⟨_, rfl⟩
          rw [← hik.out] at HS2
          have hij64 : ik < 64 := by rw [hik.out]; omega
          have hf4 : SA 22 (Bg.row 64 T) ik (.int .u32 (c0 : Nat)) (Bg.row 64 (Bg.setL T ik c0)) := sa_64 T ik c0 hcl hij64
          have e4 : (c0 : Int) % 4294967296 = (c0 : Int) := by omega
          have e5 : (i0 : Int) + (k : Int) = (ik : Int) := by have := hik.out; omega
          have hq4 : (0 : Int) ≤ (ik : Int) := by omega
          have hq5 : (ik : Int) < 64 := by omega
          go_upto_region 5 with (first | fail | (first | ((with_reducible refine g_ld ?_); refine a_ld HM ?_) | ((with_reducible refine g_st ?_); refine a_st HM ?_; clear HM; intro w1 HM) | ((with_reducible refine g_al ?_); refine a_al HM ?_; clear HM; intro bk w1 HM) | ((with_reducible refine g_bx ?_); refine a_bx HM ?_; clear HM; intro bk w1 HM) | ((with_reducible refine g_bld ?_); refine a_bld ?_)))
          clear hf4 e4 e5 hq4 hq5
          go_wp2_with fail
          go_roundw
          case rel => exact ⟨i0 + 1, _, hin, by go_num, HS2, HM⟩
          case measure => simp [intOf]; omega
    · as_aux_lemma =>
      obtain rfl : n = i0 := by omega
      obtain ⟨P, hP⟩ : ∃ P, Hid (P = M * N) := ⟨_, rfl⟩
      obtain rfl : S = P := by rw [hP.out]; exact HS.out.done hMn.out
      have hzP : Hid (z = Bg.toZ (s != t) S) := Lib.hid (by rw [hzz.out, Bg.toZ_mul, ← hP.out])
      have hhi : S / Bg.lim < Bg.lim := by rw [hP.out]; exact Bg.mul_fits hM hN
      replace hhi := Lib.hid hhi
      have habs : Hid (z.natAbs = S) := Lib.hid (by rw [hzP.out, Bg.toZ_abs])
      clear HS hzz
      go_upto_region 15 with (first | fail | (first | ((with_reducible refine g_ld ?_); refine a_ld HM ?_) | ((with_reducible refine g_st ?_); refine a_st HM ?_; clear HM; intro w1 HM) | ((with_reducible refine g_al ?_); refine a_al HM ?_; clear HM; intro bk w1 HM) | ((with_reducible refine g_bx ?_); refine a_bx HM ?_; clear HM; intro bk w1 HM) | ((with_reducible refine g_bld ?_); refine a_bld ?_)))
      obtain ⟨bm, rfl⟩ := HM.nm0
      go_wp2_with fail
      go_loopw [14] (fun i wr => ∃ i0 : Nat, i0 ≤ 32 ∧ i = .int .i64 (i0 : Nat) ∧ Hid (S / Bg.lim % Bg.pw i0 = 0) ∧ Mem w [] [(bm, Bg.row 32 (S % Bg.pw i0)), (bo, Bg.row 64 S), (br, Bg.zA 0), (bb, Bg.intA t N), (ba, Bg.intA s M)] wr) (fun i _ => (32 - intOf i).toNat)
      case atStart => exact ⟨0, by omega, rfl, Lib.hid (by rw [Bg.pw_zero, Nat.mod_one]), by rw [Bg.pw_zero, Nat.mod_one]; exact HM⟩
      case round =>
        clear HM
        obtain ⟨i0, hi32, rfl, HH, HM⟩ := hrel
        by_cases hlt : i0 < 32
        · have ht : (i0 : Int) < 32 := by omega
          obtain ⟨x, hx⟩ : ∃ x, Hid (x = Bg.limb S (32 + i0)) := ⟨_, rfl⟩
          have hxl : x < 4294967296 := by rw [hx.out]; exact Bg.limb_lt _ _
          obtain ⟨ik, hik⟩ : ∃ x, Hid (x = 32 + i0) := ⟨_, rfl⟩
          have hf1 : LA 22 (Bg.row 64 S) ik (.int .u32 (x : Nat)) := by rw [hx.out, ← hik.out]; exact la_64 S ik (by have := hik.out; omega)
          have e5 : (32 : Int) + (i0 : Int) = (ik : Int) := by have := hik.out; omega
          have hq4 : (0 : Int) ≤ (ik : Int) := by omega
          have hq5 : (ik : Int) < 64 := by omega
          have hxd : x = Bg.limb (S / Bg.pw 32) i0 := by rw [hx.out, Bg.limb_div]
          by_cases hx0 : x = 0
          · have hf2 := la_64 S i0 (by omega)
            have hf3 := sa_lim (S % Bg.pw i0) i0 (Bg.limb S i0) (Bg.limb_lt _ _) hlt
            rw [Bg.low_set] at hf3
            have HH2 : Hid (S / Bg.lim % Bg.pw (i0 + 1) = 0) := Lib.hid (by rw [Bg.low_succ, HH.out, show Bg.limb (S / Bg.lim) i0 = 0 from by rw [← hx0, hxd]; rfl, Nat.zero_mul])
            have hq0 : (0 : Int) ≤ (i0 : Int) := by omega
            have hq1 : (i0 : Int) < 64 := by omega
            have hne : ((x : Int) != 0) = false := by rw [hx0]; rfl
            clear hxd
            subst hx0
            go_upto_region 17 with (first | fail | (first | ((with_reducible refine g_ld ?_); refine a_ld HM ?_) | ((with_reducible refine g_st ?_); refine a_st HM ?_; clear HM; intro w1 HM) | ((with_reducible refine g_al ?_); refine a_al HM ?_; clear HM; intro bk w1 HM) | ((with_reducible refine g_bx ?_); refine a_bx HM ?_; clear HM; intro bk w1 HM) | ((with_reducible refine g_bld ?_); refine a_bld ?_)))
            clear hf1 hf2 hf3 e5 hq4 hq5 hq0 hq1 hne
            go_wp2_with fail
            go_roundw
            case rel => exact ⟨i0 + 1, hlt, by go_num, HH2, HM⟩
            case measure => simp [intOf]; omega
          · have hne : ((x : Int) != 0) = true := by simp; omega
            have hbig : ¬ z.natAbs < Bg.lim := by
              intro h
              rw [habs.out] at h
              have : S / Bg.pw 32 = 0 := Nat.div_eq_of_lt h
              rw [this] at hxd
              apply hx0
              rw [hxd]; unfold Bg.limb; simp
            have hv0 : Hid (v = 0) := Lib.hid (by rw [hv.out]; unfold Bg.resZ; rw [if_neg hbig])
            have he0 : Hid (e = 10) := Lib.hid (by rw [he.out]; unfold Bg.resE; rw [if_neg hbig])
            clear hxd hbig
            go_wp2_with (first | fail | (first | ((with_reducible refine g_ld ?_); refine a_ld HM ?_) | ((with_reducible refine g_st ?_); refine a_st HM ?_; clear HM; intro w1 HM) | ((with_reducible refine g_al ?_); refine a_al HM ?_; clear HM; intro bk w1 HM) | ((with_reducible refine g_bx ?_); refine a_bx HM ?_; clear HM; intro bk w1 HM) | ((with_reducible refine g_bld ?_); refine a_bld ?_)))
            refine bodyPost_ret (r_ct (b := br) (k := 0) rfl rfl (HM.get (by ((repeat (first | exact Look.here | refine Look.there ?_)); done))) (la_z _)) rfl ⟨?_, HM.low⟩
            rw [hv0.out, he0.out]
            rfl
        · obtain rfl : i0 = 32 := by omega
          have hS0 : S / Bg.lim = 0 := by have h := HH.out; rwa [Nat.mod_eq_of_lt (show S / Bg.lim < Bg.pw 32 from hhi.out)] at h
          have hSl : S < Bg.lim := by rw [Bg.div_zero] at hS0; exact hS0
          rw [Nat.mod_eq_of_lt (show S < Bg.pw 32 from hSl)] at HM
          have hv0 : Hid (v = z) := Lib.hid (by rw [hv.out]; unfold Bg.resZ; rw [if_pos (by rw [habs.out]; exact hSl)])
          have he0 : Hid (e = 0) := Lib.hid (by rw [he.out]; unfold Bg.resE; rw [if_pos (by rw [habs.out]; exact hSl)])
          clear hS0
          have hzP2 : Hid (z = Bg.toZ (!(s == t)) S) := Lib.hid (by rw [hzP.out]; cases s <;> cases t <;> rfl)
          go_wp2_with (first | (go_at_call 81; ((with_reducible refine (rcanon_any (!(s == t)) S z hSl hzP2 _).mono ?_); rintro e9 w2 ⟨rfl, hL⟩; replace HM := HM.call hL; clear hL)) | (first | ((with_reducible refine g_ld ?_); refine a_ld HM ?_) | ((with_reducible refine g_st ?_); refine a_st HM ?_; clear HM; intro w1 HM) | ((with_reducible refine g_al ?_); refine a_al HM ?_; clear HM; intro bk w1 HM) | ((with_reducible refine g_bx ?_); refine a_bx HM ?_; clear HM; intro bk w1 HM) | ((with_reducible refine g_bld ?_); refine a_bld ?_)))
          refine bodyPost_ret (r_ct (b := br) (k := 0) rfl rfl (HM.get (by ((repeat (first | exact Look.here | refine Look.there ?_)); done))) (la_z _)) rfl ⟨?_, HM.low⟩
          rw [hv0.out, he0.out]
          rfl
end Go.Proofs.Ytekfabhmopkapaa
