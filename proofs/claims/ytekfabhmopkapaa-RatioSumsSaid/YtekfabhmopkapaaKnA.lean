/- Long division, the walk: bigint's divide where the divisor has two limbs or more. -/
import Derived.Test.YtekfabhmopkapaaKnG
import Derived.Test.YtekfabhmopkapaaMakeI
import Derived.Test.YtekfabhmopkapaaEngC
namespace Go.Proofs.Ytekfabhmopkapaa
set_option maxRecDepth 8000
open Go.RowKit
theorem lz32_any (x s : Nat) (h0 : x < 4294967296) (hs : Hid (s + Lib.bitLen x = 32)) (w : World) :
    Calls Try.prog 94 #[.int .u32 (x : Nat)] w fun e w' => e = .returned (.int .i64 (s : Nat)) ∧ w' = w := by
  have hb : Lib.bitLen x ≤ 32 := bitLen_32 h0
  have HL := Lib.hid (len32_any (x : Int) w (by omega) (by omega))
  rw [Int.toNat_natCast] at HL
  generalize Lib.bitLen x = l at hs hb HL
  go_enter Try.func94, Try.ntmps94
  go_wp2_with (go_at_call 106; refine HL.out.mono ?_; rintro e w' ⟨rfl, rfl⟩)
  go_ret
  refine ⟨?_, rfl⟩
  have := hs.out
  rw [show (s : Int) = 32 - (l : Nat) from by omega]
  rfl
/-- What the shift is good for. -/
structure Norm (b n s V : Nat) : Prop where
  sl : s < 32
  v : V = b * 2 ^ s
  lt : V < Bg.pw n
  hi : 2147483648 * Bg.pw (n - 1) ≤ V
theorem norm_mk {b n s : Nat} (hb : b < Bg.lim) (hn : n = Bg.used b) (h2 : 2 ≤ n) (hs : s + Lib.bitLen (Bg.limb b (n - 1)) = 32) : Norm b n s (b * 2 ^ s) := by
  have hx := Bg.limb_lt b (n - 1)
  obtain ⟨h3, h4⟩ := bitLen_bounds hx
  have ht : Bg.limb b (n - 1) ≠ 0 := by
    rw [hn]
    rcases Bg.top_limb b 32 with h | h
    · exfalso; unfold Bg.used at hn; omega
    · exact h
  have h5 := h4 ht
  have h6 := bitLen_pos ht
  have hlt := Bg.used_lt hb
  rw [← hn] at hlt
  have e := Bg.low_succ b (n - 1)
  rw [show n - 1 + 1 = n from by omega, Nat.mod_eq_of_lt hlt] at e
  have hm : b % Bg.pw (n - 1) < Bg.pw (n - 1) := Nat.mod_lt _ (Bg.ppos _)
  have hp := Bg.p32 (n - 1)
  rw [show n - 1 + 1 = n from by omega] at hp
  generalize Lib.bitLen (Bg.limb b (n - 1)) = l at *
  generalize Bg.limb b (n - 1) = x at *
  have e1 : Bg.p2 l * 2 ^ s = 4294967296 := by
    unfold Bg.p2; rw [← Nat.pow_add, show l + s = 32 from by omega]
  have e2 : Bg.p2 (l - 1) * 2 ^ s = 2147483648 := by
    unfold Bg.p2; rw [← Nat.pow_add, show l - 1 + s = 31 from by omega]
  refine ⟨by omega, rfl, ?_, ?_⟩
  · have h7 : b < (x + 1) * Bg.pw (n - 1) := by rw [Nat.add_mul, Nat.one_mul]; omega
    have h8 : b * 2 ^ s < (x + 1) * Bg.pw (n - 1) * 2 ^ s := Nat.mul_lt_mul_of_pos_right h7 (Nat.two_pow_pos _)
    have h9 : (x + 1) * Bg.pw (n - 1) * 2 ^ s ≤ Bg.p2 l * Bg.pw (n - 1) * 2 ^ s := Nat.mul_le_mul_right _ (Nat.mul_le_mul_right _ h3)
    have e3 : Bg.p2 l * Bg.pw (n - 1) * 2 ^ s = Bg.pw n := by rw [hp, Nat.mul_assoc, Nat.mul_comm (Bg.pw (n - 1)), ← Nat.mul_assoc, e1, Nat.mul_comm]
    omega
  · have h7 : Bg.p2 (l - 1) * Bg.pw (n - 1) ≤ b := by
      have := Nat.mul_le_mul_right (Bg.pw (n - 1)) h5
      omega
    have h8 := Nat.mul_le_mul_right (2 ^ s) h7
    rw [Nat.mul_assoc, Nat.mul_comm (Bg.pw (n - 1)), ← Nat.mul_assoc, e2] at h8
    exact h8
theorem dividend_lt {a m b n s V : Nat} (ha : a < Bg.pw m) (hN : Norm b n s V) (hn : 1 ≤ n) (hmn : n ≤ m) : a * 2 ^ s < V * Bg.pw (m - n + 1) ∧ a * 2 ^ s < Bg.pw (m + 1) := by
  have h1 : 2 ^ s ≤ 2 ^ 31 := Nat.pow_le_pow_right (by decide) (by have := hN.sl; omega)
  have h2 : a * 2 ^ s < Bg.pw m * 2 ^ s := Nat.mul_lt_mul_of_pos_right ha (Nat.two_pow_pos _)
  have h3 : Bg.pw m * 2 ^ s ≤ Bg.pw m * 2147483648 := Nat.mul_le_mul_left _ h1
  constructor
  · have h4 := Nat.mul_le_mul_right (Bg.pw (m - n + 1)) hN.hi
    rw [Nat.mul_assoc, ← Bg.padd, show n - 1 + (m - n + 1) = m from by omega] at h4
    omega
  · rw [Bg.p32]
    omega
theorem row33_zero : #[Value.int .u32 0, .int .u32 0, .int .u32 0, .int .u32 0, .int .u32 0, .int .u32 0, .int .u32 0, .int .u32 0, .int .u32 0, .int .u32 0, .int .u32 0, .int .u32 0, .int .u32 0, .int .u32 0, .int .u32 0, .int .u32 0, .int .u32 0, .int .u32 0, .int .u32 0, .int .u32 0, .int .u32 0, .int .u32 0, .int .u32 0, .int .u32 0, .int .u32 0, .int .u32 0, .int .u32 0, .int .u32 0, .int .u32 0, .int .u32 0, .int .u32 0, .int .u32 0, .int .u32 0] = Bg.row 33 0 := by
  kernel_rfl
theorem za_33 : ZA 99 (Bg.row 33 0) := ⟨.agg (Bg.row 33 0), rfl, fun w => by rw [← row33_zero]; kernel_rfl⟩
theorem la_33 (N i : Nat) (h : i < 33) : LA 22 (Bg.row 33 N) i (.int .u32 (Bg.limb N i : Nat)) := LA.one (by kernel_rfl) (Bg.row_at 33 N i h)
theorem sa_33 (N i x : Nat) (hx : x < 4294967296) (hi : i < 33) : SA 22 (Bg.row 33 N) i (.int .u32 (x : Nat)) (Bg.row 33 (Bg.setL N i x)) := by
  have h := SA.one (T := 22) (c := Bg.row 33 N) (k := i) (v := .int .u32 (x : Nat)) (by kernel_rfl) rfl (by rw [Bg.row_size]; exact hi)
  rwa [Bg.row_set 33 N i x hx] at h
theorem add32_b (x y c : Nat) (hx : x < 4294967296) (hy : y < 4294967296) (hc : c ≤ 1) (w : World) :
    Calls Try.prog 96 #[.int .u32 (x : Nat), .int .u32 (y : Nat), .int .u32 (c : Nat)] w fun e w' => e = .returned (.tuple #[.int .u32 ((x + y + c) % 4294967296 : Nat), .int .u32 ((x + y + c) / 4294967296 : Nat)]) ∧ Below w.heap.size w w' :=
  (add32_any x y c hx hy hc w).mono (fun _ _ h => ⟨h.1, h.2 ▸ Below.refl _ _⟩)
set_option maxRecDepth 100000 in
set_option maxHeartbeats 8000000 in
theorem divide_long (ba bb a b : Nat) (ha : a < Bg.lim) (hb : b < Bg.lim) (hn2 : 4294967296 ≤ b) (hlt : ¬ a < b) (w : World) (hA : Blk w ba (Bg.row 32 a)) (hB : Blk w bb (Bg.row 32 b)) :
    Calls Try.prog 76 #[.pointer (some ⟨ba, 0, none⟩), .pointer (some ⟨bb, 0, none⟩)] w fun e w' => e = .returned (.tuple #[.agg (Bg.row 32 (a / b)), .agg (Bg.row 32 (a % b))]) ∧ Below w.heap.size w w' := by
  have HM := Mem.start w
  have HA := Lib.hid hA
  have HB := Lib.hid hB
  clear hA hB
  obtain ⟨n, hn⟩ : ∃ n, Hid (n = Bg.used b) := ⟨_, rfl⟩
  obtain ⟨m, hm⟩ : ∃ m, Hid (m = Bg.used a) := ⟨_, rfl⟩
  have h2n : 2 ≤ n := by
    rw [hn.out]
    have h1 := Bg.used_lt hb
    rcases Nat.lt_or_ge (Bg.used b) 2 with h | h
    · exfalso
      have := Bg.pmono (show Bg.used b ≤ 1 by omega)
      rw [Bg.pw_one] at this
      omega
    · exact h
  have hnm : n ≤ m := by
    rw [hn.out, hm.out]
    have h1 := Bg.used_lt ha
    rcases Bg.used_ge b with h | h
    · omega
    · rcases Nat.lt_or_ge (Bg.used a) (Bg.used b) with h3 | h3
      · exfalso
        have := Bg.pmono (show Bg.used a ≤ Bg.used b - 1 by omega)
        omega
      · exact h3
  have hm32 : m ≤ 32 := by rw [hm.out]; exact Bg.used_le a
  have haw : Hid (a < Bg.pw m) := Lib.hid (by rw [hm.out]; exact Bg.used_lt ha)
  obtain ⟨x, hx⟩ : ∃ x, Hid (x = Bg.limb b (n - 1)) := ⟨_, rfl⟩
  have hxl : x < 4294967296 := by rw [hx.out]; exact Bg.limb_lt _ _
  obtain ⟨s, hs⟩ : ∃ s, Hid (s + Lib.bitLen x = 32) := ⟨32 - Lib.bitLen x, Lib.hid (by have := bitLen_32 hxl; omega)⟩
  obtain ⟨V, hV⟩ : ∃ V, Hid (V = b * 2 ^ s) := ⟨_, rfl⟩
  have HN : Hid (Norm b n s V) := Lib.hid (by rw [hV.out]; exact norm_mk hb hn.out h2n (by rw [← hx.out]; exact hs.out))
  have hs32 := HN.out.sl
  obtain ⟨c, hcm⟩ : ∃ c, Hid (c = Bg.cmp a b) := ⟨_, rfl⟩
  have hc0 : ¬ c < 0 := by rw [hcm.out]; unfold Bg.cmp; rw [if_neg hlt]; split <;> decide
  have HUA := Lib.hid (fun w1 h1 => used_any ba a w1 h1)
  have HUB := Lib.hid (fun w1 h1 => used_any bb b w1 h1)
  rw [← hm.out] at HUA
  rw [← hn.out] at HUB
  have hn1 : ((n : Int) == 1) = false := by simp; omega
  have hbx : LA 22 (Bg.row 32 b) (n - 1) (.int .u32 (x : Nat)) := by rw [hx.out]; exact la_lim b (n - 1) (by omega)
  have e1 : ((n : Int) - 1).toNat = n - 1 := by omega
  have hz33 := za_33
  go_enter Try.func76, Try.ntmps76
  go_upto_region 11 with (first | first
    | (go_at_call 92; ((with_reducible refine (HUB.out _ (HM.ro HB.out (by simp))).mono ?_); rintro e9 w9 ⟨rfl, rfl⟩))
    | (go_at_call 92; ((with_reducible refine (HUA.out _ (HM.ro HA.out (by simp))).mono ?_); rintro e9 w9 ⟨rfl, rfl⟩))
    | (go_at_call 90; ((with_reducible refine (compare_b ba bb a b c ha hb hcm _ (HM.ro HA.out (by simp)) (HM.ro HB.out (by simp))).mono ?_); rintro e9 w2 ⟨rfl, hL⟩; replace HM := HM.call hL; clear hL))
    | (go_at_call 94; ((with_reducible refine (lz32_any x s hxl hs _).mono ?_); rintro e9 w9 ⟨rfl, rfl⟩)) | (first | ((with_reducible refine g_ld ?_); refine a_ld HM ?_) | ((with_reducible refine g_st ?_); refine a_st HM ?_; clear HM; intro w1 HM) | ((with_reducible refine g_al ?_); refine a_al HM ?_; clear HM; intro bk w1 HM) | ((with_reducible refine g_bx ?_); refine a_bx HM ?_; clear HM; intro bk w1 HM) | ((with_reducible refine g_bld ?_); refine a_bld ?_)))
  obtain ⟨bv, rfl⟩ := HM.nm0
  obtain ⟨bu, rfl⟩ := HM.nm1
  obtain ⟨br, rfl⟩ := HM.nm2
  obtain ⟨bq, rfl⟩ := HM.nm3
  clear hz33 hbx e1 hn1 hc0
  go_wp2_with fail
  go_loopw [11] (fun i wr => ∃ k : Nat, k ≤ n ∧ i = .int .i64 (k - 1) ∧ Mem w [] [(bv, Bg.row 32 (Bg.hi V k)), (bu, Bg.row 33 0), (br, Bg.row 32 0), (bq, Bg.row 32 0)] wr) (fun i _ => (intOf i + 1).toNat)
  case atStart => exact ⟨n, Nat.le_refl _, rfl, by rw [Bg.hi_top HN.out.lt]; exact HM⟩
  case round =>
    clear HM
    obtain ⟨k, hk, rfl, HM⟩ := hrel
    cases k with
    | zero =>
      rw [Bg.hi_zero] at HM
      rw [show ((0 : Nat) : Int) - 1 = -1 from rfl]
      obtain ⟨D, hD⟩ : ∃ D, Hid (D = a * 2 ^ s) := ⟨_, rfl⟩
      have HD : Hid (D < V * Bg.pw (m - n + 1) ∧ D < Bg.pw (m + 1)) := Lib.hid (by rw [hD.out]; exact dividend_lt haw.out HN.out (by omega) hnm)
      go_wp2_with fail
      go_loopw [12] (fun i wr => ∃ k : Nat, k ≤ m + 1 ∧ i = .int .i64 (k - 1) ∧ Mem w [] [(bv, Bg.row 32 V), (bu, Bg.row 33 (Bg.hi D k)), (br, Bg.row 32 0), (bq, Bg.row 32 0)] wr) (fun i _ => (intOf i + 1).toNat)
      case atStart => exact ⟨m + 1, Nat.le_refl _, by go_num, by rw [Bg.hi_top HD.out.2]; exact HM⟩
      case round =>
        clear HM
        obtain ⟨k, hk, rfl, HM⟩ := hrel
        cases k with
        | zero =>
          rw [Bg.hi_zero] at HM
          rw [show ((0 : Nat) : Int) - 1 = -1 from rfl]
          obtain ⟨p1, hp1⟩ : ∃ p, Hid (p + 1 = n) := ⟨n - 1, Lib.hid (by omega)⟩
          obtain ⟨p2, hp2⟩ : ∃ p, Hid (p + 2 = n) := ⟨n - 2, Lib.hid (by omega)⟩
          obtain ⟨h, hh⟩ : ∃ h, Hid (h = Bg.limb V p1) := ⟨_, rfl⟩
          obtain ⟨nx, hnx⟩ : ∃ nx, Hid (nx = Bg.limb V p2) := ⟨_, rfl⟩
          have hhl : h < 4294967296 := by rw [hh.out]; exact Bg.limb_lt _ _
          have hnl : nx < 4294967296 := by rw [hnx.out]; exact Bg.limb_lt _ _
          have hhg : 2147483648 ≤ h := by
            have h1 := HN.out.hi
            have h2 := HN.out.lt
            rw [hh.out]
            have e1 := hp1.out
            rw [← e1] at h1 h2
            rw [show p1 + 1 - 1 = p1 from rfl] at h1
            have e2 := Bg.div_limb V p1
            rw [Nat.div_eq_of_lt h2] at e2
            have e3 : 2147483648 ≤ V / Bg.pw p1 := (Nat.le_div_iff_mul_le (Bg.ppos _)).2 h1
            omega
          have hl1 : LA 22 (Bg.row 32 V) p1 (.int .u32 (h : Nat)) := by rw [hh.out]; exact la_lim V p1 (by have := hp1.out; omega)
          have hl2 : LA 22 (Bg.row 32 V) p2 (.int .u32 (nx : Nat)) := by rw [hnx.out]; exact la_lim V p2 (by have := hp2.out; omega)
          have hb1 : (0 : Int) ≤ (p1 : Int) := by omega
          have hb2 : (p1 : Int) < 32 := by have := hp1.out; omega
          have hb3 : (0 : Int) ≤ (p2 : Int) := by omega
          have hb4 : (p2 : Int) < 32 := by have := hp2.out; omega
          go_upto_region 24 with fail
          refine start_M [] HM (by kernel_rfl) (fun w0x H9 => ?_)
          replace HM := H9; clear H9
          refine k_mv 0 (heldE HM) ?_
          refine t_pure (i := 1) (v := .int .i64 (p1 : Nat)) rfl rfl (by kernel_rfl) (fun _ _ _ h => h) (heldE HM) (by rfl) ?_ ?_; (focus (exact h_bin (by rfl) (by rfl) (by rfl) (by have := hp1.out; intro w9; go_simp; rw [IntWalk.i64_in _ (by omega)]; omega))); ((try simp only [List.setIfInBounds_toArray]); (try simp only [List.set_cons_succ]); (try simp only [List.set_cons_zero]))
          refine k_ia 2 (heldE HM) ?_
          refine k_ld 3 [] (heldE HM) ?_
          refine k_cv 4 (heldE HM) ?_
          refine k_mv 5 (heldE HM) ?_
          refine t_pure (i := 6) (v := .int .i64 (p2 : Nat)) rfl rfl (by kernel_rfl) (fun _ _ _ h => h) (heldE HM) (by rfl) ?_ ?_; (focus (exact h_bin (by rfl) (by rfl) (by rfl) (by have := hp2.out; intro w9; go_simp; rw [IntWalk.i64_in _ (by omega)]; omega))); ((try simp only [List.setIfInBounds_toArray]); (try simp only [List.set_cons_succ]); (try simp only [List.set_cons_zero]))
          refine k_ia 7 (heldE HM) ?_
          refine k_ld 8 [] (heldE HM) ?_
          refine k_cv 9 (heldE HM) ?_
          refine k_mv 10 (heldE HM) ?_
          refine k_mv 11 (heldE HM) ?_
          refine wpAnyL_done (by kernel_rfl) ?_ _
          clear hl1 hl2 hb1 hb2 hb3 hb4
          go_wp2_with fail
          go_loopw [15] (fun i wr => ∃ k U Q : Nat, k ≤ m - n + 1 ∧ i = .int .i64 (k - 1) ∧ Hid (Bg.DvSt D V n k U Q) ∧ Mem w [] [(bv, Bg.row 32 V), (bu, Bg.row 33 U), (br, Bg.row 32 0), (bq, Bg.row 32 Q)] wr) (fun i _ => (intOf i + 1).toNat)
          case atStart => exact ⟨m - n + 1, D, 0, Nat.le_refl _, by go_num, Lib.hid (Bg.DvSt.start HD.out.1), HM⟩
          case round =>
            clear HM
            obtain ⟨k, U, Q, hk, rfl, HS, HM⟩ := hrel
            cases k with
            | zero =>
              as_aux_lemma =>
                rw [show ((0 : Nat) : Int) - 1 = -1 from rfl]
                obtain ⟨hQ, hU⟩ := HS.out.done
                obtain ⟨W, hW⟩ : ∃ W, Hid (W = U / 2 ^ s) := ⟨_, rfl⟩
                have hQ2 : Q = a / b := by rw [hQ, hD.out, hV.out, Nat.mul_div_mul_right _ _ (Nat.two_pow_pos _)]
                have hW2 : W = a % b := by rw [hW.out, hU, hD.out, hV.out, Nat.mul_mod_mul_right, Nat.mul_div_cancel _ (Nat.two_pow_pos _)]
                have hWl : W < Bg.pw n := by
                  have h1 := HS.out.lt
                  rw [Bg.pw_zero, Nat.mul_one] at h1
                  have h2 := HN.out.lt
                  have h3 : U / 2 ^ s ≤ U := Nat.div_le_self _ _
                  rw [hW.out]; omega
                replace hQ2 := Lib.hid hQ2
                replace hW2 := Lib.hid hW2
                replace hWl := Lib.hid hWl
                clear hQ hU hk HD
                go_wp2_with fail
                go_loopw [281] (fun i wr => ∃ i0 : Nat, i0 ≤ n ∧ i = .int .i64 (i0 : Nat) ∧ Mem w [] [(bv, Bg.row 32 V), (bu, Bg.row 33 U), (br, Bg.row 32 (W % Bg.pw i0)), (bq, Bg.row 32 Q)] wr) (fun i _ => (n - intOf i).toNat)
                case atStart => exact ⟨0, Nat.zero_le _, rfl, by rw [Bg.pw_zero, Nat.mod_one]; exact HM⟩
                case round =>
                  clear HM
                  obtain ⟨i0, hi0, rfl, HM⟩ := hrel
                  by_cases hin : i0 < n
                  · have ht : (i0 : Int) < (n : Int) := by omega
                    obtain ⟨y, hy⟩ : ∃ v, Hid (v = Bg.limb U i0 / 2 ^ s) := ⟨_, rfl⟩
                    have hyu := Bg.limb_lt U i0
                    have hyl : y < 4294967296 := by rw [hy.out]; exact Nat.lt_of_le_of_lt (Nat.div_le_self _ _) hyu
                    have hf1 := la_33 U i0 (by omega)
                    have hf2 : SA 22 (Bg.row 32 (W % Bg.pw i0)) i0 (.int .u32 (((Bg.limb U i0 : Nat) : Int) / 2 ^ s)) (Bg.row 32 (Bg.setL (W % Bg.pw i0) i0 y)) := by
                      have h := sa_lim (W % Bg.pw i0) i0 y hyl (by omega)
                      rwa [show ((y : Nat) : Int) = ((Bg.limb U i0 : Nat) : Int) / 2 ^ s from by rw [hy.out]; simp] at h
                    have hq0 : (0 : Int) ≤ (i0 : Int) := by omega
                    have hq1 : (i0 : Int) < 32 := by omega
                    have hq2 : (i0 : Int) < 33 := by omega
                    go_upto_region 58 with (first | fail | (first | ((with_reducible refine g_ld ?_); refine a_ld HM ?_) | ((with_reducible refine g_st ?_); refine a_st HM ?_; clear HM; intro w1 HM) | ((with_reducible refine g_al ?_); refine a_al HM ?_; clear HM; intro bk w1 HM) | ((with_reducible refine g_bx ?_); refine a_bx HM ?_; clear HM; intro bk w1 HM) | ((with_reducible refine g_bld ?_); refine a_bld ?_)))
                    clear hf1 hf2
                    rcases Nat.eq_zero_or_pos s with hs0 | hs0
                    · have e2 : Bg.setL (W % Bg.pw i0) i0 y = W % Bg.pw (i0 + 1) := by
                        rw [hy.out, ← Bg.low_set W i0, hW.out, hs0, Nat.pow_zero, Nat.div_one, Nat.div_one]
                      rw [e2] at HM
                      clear e2
                      subst hs0
                      go_wp2_with fail
                      go_roundw
                      case rel => exact ⟨i0 + 1, hin, by go_num, HM⟩
                      case measure => simp [intOf]; omega
                    · go_upto_region 59 with fail
                      have hl0 : LA 22 (Bg.row 32 (Bg.setL (W % Bg.pw i0) i0 y)) i0 (.int .u32 (y : Nat)) := by
                        have h := la_lim (Bg.setL (W % Bg.pw i0) i0 y) i0 (by omega)
                        rwa [Bg.setL_limb _ _ _ _ hyl, if_pos rfl] at h
                      have hl1 := la_33 U (i0 + 1) (by omega)
                      obtain ⟨z, hz⟩ : ∃ z, Hid (z = Bg.limb U (i0 + 1) * 2 ^ (32 - s) % 4294967296) := ⟨_, rfl⟩
                      have hzl : z < 4294967296 := by rw [hz.out]; exact Nat.mod_lt _ (by decide)
                      have hol : y ||| z < 4294967296 := by have := Nat.or_lt_two_pow (n := 32) (x := y) (y := z) (by omega) (by omega); omega
                      have hso := sa_lim (Bg.setL (W % Bg.pw i0) i0 y) i0 (y ||| z) hol (by omega)
                      have e2 : Bg.setL (Bg.setL (W % Bg.pw i0) i0 y) i0 (y ||| z) = W % Bg.pw (i0 + 1) := by
                        rw [Bg.setL_twice _ _ _ _ hyl, hy.out, hz.out, ← Bg.shr_or U i0 s hs32 hs0, ← hW.out, Bg.low_set]
                      rw [e2] at hso
                      clear e2
                      have hsh : (32 : Int) - (s : Int) = ((32 - s : Nat) : Int) := by omega
                      have hq3 : (0 : Int) ≤ (i0 : Int) + 1 := by omega
                      have hq4 : (i0 : Int) + 1 < 33 := by omega
                      refine start_M [12] HM (by kernel_rfl) (fun w0x H9 => ?_)
                      replace HM := H9; clear H9
                      refine k_mv 0 (heldE HM) ?_
                      refine k_ia 1 (heldE HM) ?_
                      refine k_ld 2 [10, 11, 12] (heldE HM) ?_
                      refine k_mv 3 (heldE HM) ?_
                      refine k_add 4 (heldE HM) ?_
                      refine k_ia 5 (heldE HM) ?_
                      refine k_ld 6 [9, 10, 11, 12] (heldE HM) ?_
                      refine k_mv 7 (heldE HM) ?_
                      refine k_sub 8 (heldE HM) ?_
                      refine t_pure (i := 9) (v := .int .u32 (z : Nat)) rfl rfl (by kernel_rfl) (fun _ _ _ h => h) (heldE HM) (by rfl) ?_ ?_; (focus (exact h_bin (by rfl) (by rfl) (by rfl) (by intro w9; go_simp; rw [hz.out, IntKind.wrap_u32]; simp))); ((try simp only [List.setIfInBounds_toArray]); (try simp only [List.set_cons_succ]); (try simp only [List.set_cons_zero]))
                      refine t_pure (i := 10) (v := .int .u32 ((y ||| z : Nat) : Int)) rfl rfl (by kernel_rfl) (fun _ _ _ h => h) (heldE HM) (by rfl) ?_ ?_; (focus (exact h_bin (by rfl) (by rfl) (by rfl) (by intro w9; go_simp; rw [u32_or_nat _ _ hyl hzl]))); ((try simp only [List.setIfInBounds_toArray]); (try simp only [List.set_cons_succ]); (try simp only [List.set_cons_zero]))
                      refine k_ia 11 (heldE HM) ?_
                      refine j_one 12 fun K9 hK9 => ?_
                      refine j_st HM ?_; clear HM; intro w1 HM
                      refine hK9 _ _ heldN ?_; clear hK9 K9
                      refine wpAnyL_done (by kernel_rfl) ?_ _
                      go_wp2_with fail
                      go_roundw
                      case rel => exact ⟨i0 + 1, hin, by go_num, HM⟩
                      case measure => simp [intOf]; omega
                  · obtain rfl : i0 = n := by omega
                    rw [Nat.mod_eq_of_lt hWl.out] at HM
                    go_upto_region 61 with fail
                    have hlq := la_mag Q
                    have hlr := la_mag W
                    refine start_M [2, 3] HM (by kernel_rfl) (fun w0x H9 => ?_)
                    replace HM := H9; clear H9
                    refine k_ld 0 [2, 3] (heldE HM) ?_
                    refine j_two 1 2 ?_ ?_
                    · refine j_ld HM ?_
                      refine ⟨(heldE HM), ?_⟩
                      refine j_one 2 fun K9 hK9 => ?_
                      refine j_st HM ?_; clear HM; intro w1 HM
                      refine hK9 _ _ heldN ?_; clear hK9 K9
                      refine j_one 3 fun K9 hK9 => ?_
                      refine j_st HM ?_; clear HM; intro w1 HM
                      refine hK9 _ _ heldN ?_; clear hK9 K9
                      refine wpAnyL_done (by kernel_rfl) ?_ _
                      (go_wp2_with fail; refine bodyPost_ret (r_cc (b := bq) (k := 0) (b2 := br) (k2 := 0) rfl rfl rfl (HM.get (by ((repeat (first | exact Look.here | refine Look.there ?_)); done))) (la_mag _) (HM.get (by ((repeat (first | exact Look.here | refine Look.there ?_)); done))) (la_mag _)) rfl ⟨?_, HM.low⟩; rw [hQ2.out, hW2.out])
                    · refine j_st HM ?_; clear HM; intro w1 HM
                      refine ⟨heldN, ?_⟩
                      refine j_one 1 fun K9 hK9 => ?_
                      refine j_ld HM ?_
                      refine hK9 _ _ heldN ?_; clear hK9 K9
                      refine j_one 3 fun K9 hK9 => ?_
                      refine j_st HM ?_; clear HM; intro w1 HM
                      refine hK9 _ _ heldN ?_; clear hK9 K9
                      refine wpAnyL_done (by kernel_rfl) ?_ _
                      (go_wp2_with fail; refine bodyPost_ret (r_cc (b := bq) (k := 0) (b2 := br) (k2 := 0) rfl rfl rfl (HM.get (by ((repeat (first | exact Look.here | refine Look.there ?_)); done))) (la_mag _) (HM.get (by ((repeat (first | exact Look.here | refine Look.there ?_)); done))) (la_mag _)) rfl ⟨?_, HM.low⟩; rw [hQ2.out, hW2.out])
            | succ k =>
              have e1 : ((k + 1 : Nat) : Int) - 1 = (k : Int) := by omega
              rw [e1]
              clear e1
              as_aux_lemma =>
                obtain ⟨b0, hb0⟩ : ∃ b, Hid (b = k + n) := ⟨_, rfl⟩
                obtain ⟨b1, hb1⟩ : ∃ b, Hid (b + 1 = k + n) := ⟨k + n - 1, Lib.hid (by omega)⟩
                obtain ⟨b2, hb2⟩ : ∃ b, Hid (b + 2 = k + n) := ⟨k + n - 2, Lib.hid (by omega)⟩
                obtain ⟨x0, hx0⟩ : ∃ x, Hid (x = Bg.limb U b0) := ⟨_, rfl⟩
                obtain ⟨x1, hx1⟩ : ∃ x, Hid (x = Bg.limb U b1) := ⟨_, rfl⟩
                obtain ⟨x2, hx2⟩ : ∃ x, Hid (x = Bg.limb U b2) := ⟨_, rfl⟩
                have hl0 : x0 < 4294967296 := by rw [hx0.out]; exact Bg.limb_lt _ _
                have hl1 : x1 < 4294967296 := by rw [hx1.out]; exact Bg.limb_lt _ _
                have hl2 : x2 < 4294967296 := by rw [hx2.out]; exact Bg.limb_lt _ _
                have hy0 : b0 < 33 := by have := hb0.out; omega
                have hy1 : b1 < 33 := by have := hb1.out; omega
                have hy2 : b2 < 33 := by have := hb2.out; omega
                have hf0 : LA 22 (Bg.row 33 U) b0 (.int .u32 (x0 : Nat)) := by rw [hx0.out]; exact la_33 U b0 hy0
                have hf1 : LA 22 (Bg.row 33 U) b1 (.int .u32 (x1 : Nat)) := by rw [hx1.out]; exact la_33 U b1 hy1
                obtain ⟨X, hX⟩ : ∃ X, Hid (X = x0 * 4294967296 + x1) := ⟨_, rfl⟩
                have HF : Hid (Bg.GuF U V n k h nx X x2) := Lib.hid (Bg.GuF.mk2 (by omega) HN.out.lt HS.out
                  (by rw [hh.out, show n - 1 = p1 from by have := hp1.out; omega]) (by rw [hnx.out, show n - 2 = p2 from by have := hp2.out; omega])
                  (by rw [hX.out, hx0.out, hx1.out, hb0.out, show k + n - 1 = b1 from by have := hb1.out; omega]) (by rw [hx2.out, show k + n - 2 = b2 from by have := hb2.out; omega]))
                have hq0 : (0 : Int) ≤ (b0 : Int) := by omega
                have hq1 : (b0 : Int) < 33 := by omega
                have hq2 : (0 : Int) ≤ (b1 : Int) := by omega
                have hq3 : (b1 : Int) < 33 := by omega
                have hj0 : (0 : Int) ≤ (k : Int) := by omega
                go_upto_region 28 with fail
                refine start_M [] HM (by kernel_rfl) (fun w0x H9 => ?_)
                replace HM := H9; clear H9
                refine k_mv 0 (heldE HM) ?_
                refine k_mv 1 (heldE HM) ?_
                refine t_pure (i := 2) (v := .int .i64 (b0 : Nat)) rfl rfl (by kernel_rfl) (fun _ _ _ h => h) (heldE HM) (by rfl) ?_ ?_; (focus (exact h_bin (by rfl) (by rfl) (by rfl) (by have := hb0.out; intro w9; go_simp; rw [IntWalk.i64_in _ (by omega)]; first | done | omega))); ((try simp only [List.setIfInBounds_toArray]); (try simp only [List.set_cons_succ]); (try simp only [List.set_cons_zero]))
                refine k_ia 3 (heldE HM) ?_
                refine k_ld 4 [] (heldE HM) ?_
                refine k_cv 5 (heldE HM) ?_
                refine t_pure (i := 6) (v := .int .u64 ((x0 * 4294967296 : Nat) : Int)) rfl rfl (by kernel_rfl) (fun _ _ _ h => h) (heldE HM) (by rfl) ?_ ?_; (focus (exact h_bin (by rfl) (by rfl) (by rfl) (by intro w9; go_simp; rw [IntWalk.u64_in _ (by omega)]))); ((try simp only [List.setIfInBounds_toArray]); (try simp only [List.set_cons_succ]); (try simp only [List.set_cons_zero]))
                refine k_mv 7 (heldE HM) ?_
                refine k_mv 8 (heldE HM) ?_
                refine t_pure (i := 9) (v := .int .i64 (b0 : Nat)) rfl rfl (by kernel_rfl) (fun _ _ _ h => h) (heldE HM) (by rfl) ?_ ?_; (focus (exact h_bin (by rfl) (by rfl) (by rfl) (by have := hb0.out; intro w9; go_simp; rw [IntWalk.i64_in _ (by omega)]; first | done | omega))); ((try simp only [List.setIfInBounds_toArray]); (try simp only [List.set_cons_succ]); (try simp only [List.set_cons_zero]))
                refine t_pure (i := 10) (v := .int .i64 (b1 : Nat)) rfl rfl (by kernel_rfl) (fun _ _ _ h => h) (heldE HM) (by rfl) ?_ ?_; (focus (exact h_bin (by rfl) (by rfl) (by rfl) (by have := hb1.out; have := hb0.out; intro w9; go_simp; rw [IntWalk.i64_in _ (by omega)]; omega))); ((try simp only [List.setIfInBounds_toArray]); (try simp only [List.set_cons_succ]); (try simp only [List.set_cons_zero]))
                refine k_ia 11 (heldE HM) ?_
                refine k_ld 12 [] (heldE HM) ?_
                refine k_cv 13 (heldE HM) ?_
                refine t_pure (i := 14) (v := .int .u64 (X : Nat)) rfl rfl (by kernel_rfl) (fun _ _ _ h => h) (heldE HM) (by rfl) ?_ ?_; (focus (exact h_bin (by rfl) (by rfl) (by rfl) (by intro w9; go_simp; rw [hX.out]; exact div_or x0 x1 hl0 hl1))); ((try simp only [List.setIfInBounds_toArray]); (try simp only [List.set_cons_succ]); (try simp only [List.set_cons_zero]))
                refine k_mv 15 (heldE HM) ?_
                refine wpAnyL_done (by kernel_rfl) ?_ _
                clear hf0 hf1 hq0 hq1 hq2 hq3
                go_upto_region 29 with fail
                have hXl : X < 18446744073709551616 := by rw [hX.out]; omega
                obtain ⟨g, hg⟩ : ∃ g, Hid (g = X / h) := ⟨_, rfl⟩
                obtain ⟨r, hr⟩ : ∃ r, Hid (r = X % h) := ⟨_, rfl⟩
                have hgl : g < 18446744073709551616 := by rw [hg.out]; exact Nat.lt_of_le_of_lt (Nat.div_le_self _ _) hXl
                refine start_M [] HM (by kernel_rfl) (fun w0x H9 => ?_)
                replace HM := H9; clear H9
                refine k_mv 0 (heldE HM) ?_
                refine k_mv 1 (heldE HM) ?_
                refine t_pure (i := 2) (v := .int .u64 (g : Nat)) rfl rfl (by kernel_rfl) (fun _ _ _ h => h) (heldE HM) (by rfl) ?_ ?_; (focus (exact h_bin (by rfl) (by rfl) (by rfl) (by intro w9; go_simp; rw [if_neg (by omega), show (X : Int) / (h : Int) = ((g : Nat) : Int) from by rw [hg.out]; rfl, IntWalk.u64_in _ (by omega)]))); ((try simp only [List.setIfInBounds_toArray]); (try simp only [List.set_cons_succ]); (try simp only [List.set_cons_zero]))
                refine k_mv 3 (heldE HM) ?_
                refine k_mv 4 (heldE HM) ?_
                refine t_pure (i := 5) (v := .int .u64 (r : Nat)) rfl rfl (by kernel_rfl) (fun _ _ _ h => h) (heldE HM) (by rfl) ?_ ?_; (focus (exact h_bin (by rfl) (by rfl) (by rfl) (by intro w9; go_simp; rw [if_neg (by omega), show (X : Int).tmod (h : Int) = ((r : Nat) : Int) from by rw [hr.out]; rfl]))); ((try simp only [List.setIfInBounds_toArray]); (try simp only [List.set_cons_succ]); (try simp only [List.set_cons_zero]))
                refine k_mv 6 (heldE HM) ?_
                refine k_mv 7 (heldE HM) ?_
                refine wpAnyL_done (by kernel_rfl) ?_ _
                have HG : Hid (Bg.GuSt U V n k h nx X x2 g r) := Lib.hid (by rw [hg.out, hr.out]; exact Bg.GuSt.start HF.out hhg hhl)
                clear hg hr
                go_upto_block 7 with fail
                go_cut [17, 18] from 145 to 279 (fun i i2 wc => ∃ g r : Nat, i = .int .u64 (g : Nat) ∧ i2 = .int .u64 (r : Nat) ∧ Hid (Bg.GuEnd U V k g) ∧ Mem w [] [(bv, Bg.row 32 V), (bu, Bg.row 33 U), (br, Bg.row 32 0), (bq, Bg.row 32 Q)] wc)
                case first =>
                  as_aux_lemma =>
                    go_wp2_with fail
                    go_loopw [17, 18] (fun i i2 wr => ∃ g r : Nat, i = .int .u64 (g : Nat) ∧ i2 = .int .u64 (r : Nat) ∧ Hid (Bg.GuSt U V n k h nx X x2 g r) ∧ Mem w [] [(bv, Bg.row 32 V), (bu, Bg.row 33 U), (br, Bg.row 32 0), (bq, Bg.row 32 Q)] wr) (fun i _ _ => (intOf i).toNat)
                    case atStart => exact ⟨g, r, rfl, rfl, HG, HM⟩
                    case round =>
                      clear HM HG hgl
                      obtain ⟨g, r, rfl, rfl, HG, HM⟩ := hrel
                      have hgg := HG.out.g
                      have hrr := HG.out.r
                      have hh0 : 0 < h := by omega
                      by_cases hgm : 4294967295 < g
                      · have ht : (4294967295 : Int) < (g : Int) := by omega
                        have HT : Hid (4294967296 ≤ g ∨ r * 4294967296 + x2 < g * nx) := Lib.hid (.inl (by omega))
                        by_cases hrm : 4294967295 < r + h
                        · have ht2 : (4294967295 : Int) < (r : Int) + (h : Int) := by omega
                          go_wp2_with (first | fail | (first | ((with_reducible refine g_ld ?_); refine a_ld HM ?_) | ((with_reducible refine g_st ?_); refine a_st HM ?_; clear HM; intro w1 HM) | ((with_reducible refine g_al ?_); refine a_al HM ?_; clear HM; intro bk w1 HM) | ((with_reducible refine g_bx ?_); refine a_bx HM ?_; clear HM; intro bk w1 HM) | ((with_reducible refine g_bld ?_); refine a_bld ?_)))
                          go_meet
                          case rel => exact ⟨g - 1, r + h, by go_num, by go_num, Lib.hid (HG.out.leave HF.out hh0 hnl HT.out (by omega)), HM⟩
                        · have ht2 : ¬ (4294967295 : Int) < (r : Int) + (h : Int) := by omega
                          go_wp2_with (first | fail | (first | ((with_reducible refine g_ld ?_); refine a_ld HM ?_) | ((with_reducible refine g_st ?_); refine a_st HM ?_; clear HM; intro w1 HM) | ((with_reducible refine g_al ?_); refine a_al HM ?_; clear HM; intro bk w1 HM) | ((with_reducible refine g_bx ?_); refine a_bx HM ?_; clear HM; intro bk w1 HM) | ((with_reducible refine g_bld ?_); refine a_bld ?_)))
                          go_roundw
                          case rel => exact ⟨g - 1, r + h, by go_num, by go_num, Lib.hid (HG.out.next HF.out hh0 HT.out (by omega)), HM⟩
                          case measure => simp [intOf]; omega
                      · have ht : ¬ (4294967295 : Int) < (g : Int) := by omega
                        obtain ⟨P, hP⟩ : ∃ P, Hid (P = g * nx) := ⟨_, rfl⟩
                        obtain ⟨R, hR⟩ : ∃ R, Hid (R = r * 4294967296 + x2) := ⟨_, rfl⟩
                        have hPl : P < 18446744073709551616 := by
                          have h1 : g * nx ≤ 4294967295 * 4294967295 := Nat.mul_le_mul (by omega) (by omega)
                          rw [hP.out]; omega
                        have hRl : R < 18446744073709551616 := by rw [hR.out]; omega
                        have hf2 : LA 22 (Bg.row 33 U) b2 (.int .u32 (x2 : Nat)) := by rw [hx2.out]; exact la_33 U b2 hy2
                        have hmul : (g : Int) * (nx : Int) = (P : Int) := by rw [hP.out]; simp
                        have hor : bits .or .u64 ((r : Int) * 4294967296) (x2 : Int) = (R : Int) := by rw [hR.out]; exact div_or r x2 hrr hl2
                        have hbs : (k : Int) + (n : Int) - 2 = (b2 : Int) := by have := hb2.out; omega
                        have hq0 : (0 : Int) ≤ (b2 : Int) := by omega
                        have hq1 : (b2 : Int) < 33 := by omega
                        by_cases hRP : R < P
                        · have ht3 : (R : Int) < (P : Int) := by omega
                          have HT : Hid (4294967296 ≤ g ∨ r * 4294967296 + x2 < g * nx) := Lib.hid (.inr (by rw [← hP.out, ← hR.out]; exact hRP))
                          go_upto_region 31 with (first | fail | (first | ((with_reducible refine g_ld ?_); refine a_ld HM ?_) | ((with_reducible refine g_st ?_); refine a_st HM ?_; clear HM; intro w1 HM) | ((with_reducible refine g_al ?_); refine a_al HM ?_; clear HM; intro bk w1 HM) | ((with_reducible refine g_bx ?_); refine a_bx HM ?_; clear HM; intro bk w1 HM) | ((with_reducible refine g_bld ?_); refine a_bld ?_)))
                          clear hmul hor hbs hf2 hq0 hq1 ht3 ht
                          have hg1 := (HG.out.low HF.out hh0 HT.out).2
                          by_cases hrm : 4294967295 < r + h
                          · have ht2 : (4294967295 : Int) < (r : Int) + (h : Int) := by omega
                            go_wp2_with (first | fail | (first | ((with_reducible refine g_ld ?_); refine a_ld HM ?_) | ((with_reducible refine g_st ?_); refine a_st HM ?_; clear HM; intro w1 HM) | ((with_reducible refine g_al ?_); refine a_al HM ?_; clear HM; intro bk w1 HM) | ((with_reducible refine g_bx ?_); refine a_bx HM ?_; clear HM; intro bk w1 HM) | ((with_reducible refine g_bld ?_); refine a_bld ?_)))
                            go_meet
                            case rel => exact ⟨g - 1, r + h, by go_num, by go_num, Lib.hid (HG.out.leave HF.out hh0 hnl HT.out (by omega)), HM⟩
                          · have ht2 : ¬ (4294967295 : Int) < (r : Int) + (h : Int) := by omega
                            go_wp2_with (first | fail | (first | ((with_reducible refine g_ld ?_); refine a_ld HM ?_) | ((with_reducible refine g_st ?_); refine a_st HM ?_; clear HM; intro w1 HM) | ((with_reducible refine g_al ?_); refine a_al HM ?_; clear HM; intro bk w1 HM) | ((with_reducible refine g_bx ?_); refine a_bx HM ?_; clear HM; intro bk w1 HM) | ((with_reducible refine g_bld ?_); refine a_bld ?_)))
                            go_roundw
                            case rel => exact ⟨g - 1, r + h, by go_num, by go_num, Lib.hid (HG.out.next HF.out hh0 HT.out (by omega)), HM⟩
                            case measure => simp [intOf]; omega
                        · have ht3 : ¬ (R : Int) < (P : Int) := by omega
                          go_wp2_with (first | fail | (first | ((with_reducible refine g_ld ?_); refine a_ld HM ?_) | ((with_reducible refine g_st ?_); refine a_st HM ?_; clear HM; intro w1 HM) | ((with_reducible refine g_al ?_); refine a_al HM ?_; clear HM; intro bk w1 HM) | ((with_reducible refine g_bx ?_); refine a_bx HM ?_; clear HM; intro bk w1 HM) | ((with_reducible refine g_bld ?_); refine a_bld ?_)))
                          go_meet
                          case rel => exact ⟨g, r, rfl, rfl, Lib.hid (HG.out.stop HF.out hh0 (by omega) (by rw [← hP.out, ← hR.out]; omega)), HM⟩
                case rest =>
                  clear HM HG hgl
                  obtain ⟨g, r, rfl, rfl, HE, HM⟩ := hcut
                  have hgl := HE.out.lt
                  have HU := Lib.hid (HS.out.fits HN.out.lt)
                  go_wp2_with fail
                  go_loopw [196, 19, 20] (fun i i2 i3 wr => ∃ i0 U2 cy bw : Nat, i0 ≤ n ∧ i = .int .i64 (i0 : Nat) ∧ i2 = .int .u32 (bw : Nat) ∧ i3 = .int .u64 (cy : Nat) ∧ Hid (Bg.MsSt U V g n k i0 U2 cy bw) ∧ Mem w [] [(bv, Bg.row 32 V), (bu, Bg.row 33 U2), (br, Bg.row 32 0), (bq, Bg.row 32 Q)] wr) (fun i _ _ _ => (n - intOf i).toNat)
                  case atStart => exact ⟨0, U, 0, 0, Nat.zero_le _, rfl, rfl, rfl, Lib.hid (Bg.MsSt.start HU.out), HM⟩
                  case round =>
                    clear HM
                    obtain ⟨i0, U2, cy, bw, hi0, rfl, rfl, rfl, HT, HM⟩ := hrel
                    have hcy := HT.out.c
                    have hbw := HT.out.b
                    by_cases hin : i0 < n
                    · have ht : (i0 : Int) < (n : Int) := by omega
                      obtain ⟨v, hv⟩ : ∃ v, Hid (v = Bg.limb V i0) := ⟨_, rfl⟩
                      have hvl : v < 4294967296 := by rw [hv.out]; exact Bg.limb_lt _ _
                      obtain ⟨ik, hik⟩ : ∃ y, Hid (y = k + i0) := ⟨_, rfl⟩
                      have hik33 : ik < 33 := by have := hik.out; omega
                      obtain ⟨y, hy⟩ : ∃ v, Hid (v = Bg.limb U2 ik) := ⟨_, rfl⟩
                      have hyl : y < 4294967296 := by rw [hy.out]; exact Bg.limb_lt _ _
                      obtain ⟨P, hP⟩ : ∃ x, Hid (x = g * v) := ⟨_, rfl⟩
                      have hPl : P ≤ 18446744065119617025 := by
                        have h1 : g * v ≤ 4294967295 * 4294967295 := Nat.mul_le_mul (by omega) (by omega)
                        rw [hP.out]; omega
                      obtain ⟨tt, htt⟩ : ∃ x, Hid (x = P + cy) := ⟨_, rfl⟩
                      have htl : tt < 18446744073709551616 := by rw [htt.out]; omega
                      obtain ⟨t0, ht0⟩ : ∃ x, Hid (x = tt % 4294967296) := ⟨_, rfl⟩
                      obtain ⟨t1, ht1⟩ : ∃ x, Hid (x = tt / 4294967296) := ⟨_, rfl⟩
                      have ht0l : t0 < 4294967296 := by rw [ht0.out]; exact Nat.mod_lt _ (by decide)
                      have HB := Lib.hid (sub32_any y t0 bw hyl ht0l hbw)
                      obtain ⟨d, hd⟩ : ∃ x, Hid (x = (y + 4294967296 - t0 + 4294967296 - bw) % 4294967296) := ⟨_, rfl⟩
                      obtain ⟨bw2, hbw2⟩ : ∃ x, Hid (x = Bg.brw y t0 bw) := ⟨_, rfl⟩
                      have hq := Bg.brw_eq y t0 bw hyl ht0l hbw
                      rw [← hd.out, ← hbw2.out] at HB hq
                      have hdl : d < 4294967296 := by rw [hd.out]; exact Nat.mod_lt _ (by decide)
                      have hb2l : bw2 ≤ 1 := by omega
                      have HT2 := Lib.hid (HT.out.step hin (t := tt) (d := d) (b2 := bw2) (by rw [htt.out, hP.out, hv.out]) htl hdl hb2l (by rw [← hik.out, ← hy.out, ← ht0.out]; omega))
                      rw [← hik.out, ← ht1.out] at HT2
                      have hf1 : LA 22 (Bg.row 32 V) i0 (.int .u32 (v : Nat)) := by rw [hv.out]; exact la_lim V i0 (by omega)
                      have hf2 : LA 22 (Bg.row 33 U2) ik (.int .u32 (y : Nat)) := by rw [hy.out]; exact la_33 U2 ik hik33
                      have hf3 := sa_33 U2 ik d hdl hik33
                      have e1 : (g : Int) * (v : Int) = (P : Int) := by rw [hP.out]; simp
                      have e2 : (P : Int) + (cy : Int) = (tt : Int) := by rw [htt.out]; simp
                      have e3 : (tt : Int) / 4294967296 = (t1 : Int) := by rw [ht1.out]; simp
                      have e4 : (tt : Int) % 4294967296 = (t0 : Int) := by rw [ht0.out]; simp
                      have e5 : (i0 : Int) + (k : Int) = (ik : Int) := by have := hik.out; omega
                      have hq0 : (0 : Int) ≤ (i0 : Int) := by omega
                      have hq1 : (i0 : Int) < 32 := by omega
                      have hq2 : (0 : Int) ≤ (ik : Int) := by omega
                      have hq3 : (ik : Int) < 33 := by omega
                      clear hq
                      as_aux_lemma =>
                        go_upto_region 42 with (first | (go_at_call 95; ((with_reducible refine (HB.out _).mono ?_); rintro e9 w9 ⟨rfl, rfl⟩)) | (first | ((with_reducible refine g_ld ?_); refine a_ld HM ?_) | ((with_reducible refine g_st ?_); refine a_st HM ?_; clear HM; intro w1 HM) | ((with_reducible refine g_al ?_); refine a_al HM ?_; clear HM; intro bk w1 HM) | ((with_reducible refine g_bx ?_); refine a_bx HM ?_; clear HM; intro bk w1 HM) | ((with_reducible refine g_bld ?_); refine a_bld ?_)))
                        clear e1 e2 e3 e4 e5 hq0 hq1 hq2 hq3 hf1 hf2 hf3
                        go_wp2_with fail
                        go_roundw
                        case rel => exact ⟨i0 + 1, _, t1, bw2, hin, by go_num, rfl, rfl, HT2, HM⟩
                        case measure => simp [intOf]; omega
                    · obtain rfl : i0 = n := by omega
                      obtain ⟨y, hy⟩ : ∃ v, Hid (v = Bg.limb U2 b0) := ⟨_, rfl⟩
                      have hyl : y < 4294967296 := by rw [hy.out]; exact Bg.limb_lt _ _
                      have HB := Lib.hid (sub32_any y cy bw hyl hcy hbw)
                      obtain ⟨d, hd⟩ : ∃ x, Hid (x = (y + 4294967296 - cy + 4294967296 - bw) % 4294967296) := ⟨_, rfl⟩
                      obtain ⟨bw2, hbw2⟩ : ∃ x, Hid (x = Bg.brw y cy bw) := ⟨_, rfl⟩
                      have hq := Bg.brw_eq y cy bw hyl hcy hbw
                      rw [← hd.out, ← hbw2.out] at HB hq
                      have hdl : d < 4294967296 := by rw [hd.out]; exact Nat.mod_lt _ (by decide)
                      have hb2l : bw2 ≤ 1 := by omega
                      have HT2 := Lib.hid (HT.out.last HN.out.lt (d := d) (b2 := bw2) hdl (by rw [← hb0.out, ← hy.out]; omega))
                      rw [← hb0.out] at HT2
                      have hf2 : LA 22 (Bg.row 33 U2) b0 (.int .u32 (y : Nat)) := by rw [hy.out]; exact la_33 U2 b0 hy0
                      have hf3 := sa_33 U2 b0 d hdl hy0
                      have e4 : (cy : Int) % 4294967296 = (cy : Int) := by omega
                      have e5 : (k : Int) + (i0 : Int) = (b0 : Int) := by have := hb0.out; omega
                      have hq2 : (0 : Int) ≤ (b0 : Int) := by omega
                      have hq3 : (b0 : Int) < 33 := by omega
                      clear hq
                      go_upto_region 44 with (first | (go_at_call 95; ((with_reducible refine (HB.out _).mono ?_); rintro e9 w9 ⟨rfl, rfl⟩)) | (first | ((with_reducible refine g_ld ?_); refine a_ld HM ?_) | ((with_reducible refine g_st ?_); refine a_st HM ?_; clear HM; intro w1 HM) | ((with_reducible refine g_al ?_); refine a_al HM ?_; clear HM; intro bk w1 HM) | ((with_reducible refine g_bx ?_); refine a_bx HM ?_; clear HM; intro bk w1 HM) | ((with_reducible refine g_bld ?_); refine a_bld ?_)))
                      clear e4 hf2 hf3 HB
                      obtain ⟨U3, hU3⟩ : ∃ x, Hid (x = Bg.setL U2 b0 d) := ⟨_, rfl⟩
                      rw [← hU3.out] at HM HT2
                      rw [hb0.out] at HT2
                      have hV0 : 0 < V := by have h1 := HN.out.hi; have h2 := Bg.ppos (i0 - 1); omega
                      obtain ⟨G, hG⟩ : ∃ x, Hid (x = U / Bg.pw k / V) := ⟨_, rfl⟩
                      have HR := Lib.hid (Bg.round_right HT2.out.1 HT2.out.2 HE.out.ge HE.out.le hV0)
                      rw [← hG.out] at HR
                      have hk32 : k < 32 := by omega
                      have hq4 : (k : Int) < 32 := by omega
                      have hGl : G < 4294967296 := by rw [hG.out]; exact HS.out.digit
                      have HS2 : ∀ U', U' + U / Bg.pw k / V * V * Bg.pw k = U → Bg.DvSt D V i0 k U' (Bg.setL Q k G) := by rw [hG.out]; exact fun U' h => HS.out.step h
                      replace HS2 := Lib.hid HS2
                      have hfq := sa_lim Q k G hGl hk32
                      have e4 : (G : Int) % 4294967296 = (G : Int) := by omega
                      rcases (show bw2 = 0 ∨ bw2 = 1 by omega) with h0 | h0
                      · subst h0
                        as_aux_lemma =>
                          have hgG : g = G := HR.out.1 rfl
                          have HS3 := Lib.hid (HS2.out U3 (by have h1 := HT2.out.1; rw [hgG, hG.out] at h1; omega))
                          subst hgG
                          clear HB HR HS2 hq2 hq3 e5
                          go_upto_region 53 with fail
                          go_upto_region 27 with (first | fail | (first | ((with_reducible refine g_ld ?_); refine a_ld HM ?_) | ((with_reducible refine g_st ?_); refine a_st HM ?_; clear HM; intro w1 HM) | ((with_reducible refine g_al ?_); refine a_al HM ?_; clear HM; intro bk w1 HM) | ((with_reducible refine g_bx ?_); refine a_bx HM ?_; clear HM; intro bk w1 HM) | ((with_reducible refine g_bld ?_); refine a_bld ?_)))
                          go_wp2_with fail
                          go_roundw
                          case rel => exact ⟨k, U3, _, by omega, rfl, HS3, HM⟩
                          case measure => simp [intOf]
                      · subst h0
                        have hgG : g = G + 1 := HR.out.2 rfl
                        have eg : (g : Int) - 1 = (G : Int) := by omega
                        clear HB HR hq2 hq3 e5 e4
                        go_wp2_with fail
                        go_loopw [247, 23] (fun i i2 wr => ∃ i1 U4 c2 : Nat, i1 ≤ i0 ∧ i = .int .i64 (i1 : Nat) ∧ i2 = .int .u32 (c2 : Nat) ∧ Hid (Bg.AbSt U3 V i0 k i1 U4 c2) ∧ Mem w [] [(bv, Bg.row 32 V), (bu, Bg.row 33 U4), (br, Bg.row 32 0), (bq, Bg.row 32 Q)] wr) (fun i _ _ => (i0 - intOf i).toNat)
                        case atStart => exact ⟨0, U3, 0, Nat.zero_le _, rfl, rfl, Lib.hid (Bg.AbSt.start HT2.out.2), HM⟩
                        case round =>
                          clear HM eg
                          obtain ⟨i1, U4, c2, hi1, rfl, rfl, HA2, HM⟩ := hrel
                          have hc2 := HA2.out.c
                          by_cases hin : i1 < i0
                          · have ht : (i1 : Int) < (i0 : Int) := by omega
                            as_aux_lemma =>
                              obtain ⟨v, hv⟩ : ∃ v, Hid (v = Bg.limb V i1) := ⟨_, rfl⟩
                              have hvl : v < 4294967296 := by rw [hv.out]; exact Bg.limb_lt _ _
                              obtain ⟨ik, hik⟩ : ∃ y, Hid (y = k + i1) := ⟨_, rfl⟩
                              have hik33 : ik < 33 := by have := hik.out; omega
                              obtain ⟨y, hy⟩ : ∃ v, Hid (v = Bg.limb U4 ik) := ⟨_, rfl⟩
                              have hyl : y < 4294967296 := by rw [hy.out]; exact Bg.limb_lt _ _
                              have HB := Lib.hid (add32_b y v c2 hyl hvl hc2)
                              have HA3 := HA2.out.step hin
                              rw [← hik.out, ← hy.out, ← hv.out] at HA3
                              obtain ⟨d, hd⟩ : ∃ x, Hid (x = (y + v + c2) % 4294967296) := ⟨_, rfl⟩
                              obtain ⟨c3, hc3⟩ : ∃ x, Hid (x = (y + v + c2) / 4294967296) := ⟨_, rfl⟩
                              rw [← hd.out, ← hc3.out] at HB HA3
                              replace HA3 := Lib.hid HA3
                              have hdl : d < 4294967296 := by rw [hd.out]; exact Nat.mod_lt _ (by decide)
                              have hf1 : LA 22 (Bg.row 32 V) i1 (.int .u32 (v : Nat)) := by rw [hv.out]; exact la_lim V i1 (by omega)
                              have hf2 : LA 22 (Bg.row 33 U4) ik (.int .u32 (y : Nat)) := by rw [hy.out]; exact la_33 U4 ik hik33
                              have hf3 := sa_33 U4 ik d hdl hik33
                              have hq0 : (0 : Int) ≤ (i1 : Int) := by omega
                              have hq1 : (i1 : Int) < 32 := by omega
                              have hq2 : (0 : Int) ≤ (ik : Int) := by omega
                              have hq3 : (ik : Int) < 33 := by omega
                              go_upto_region 50 with fail
                              refine start_M [17] HM (by kernel_rfl) (fun w0x H9 => ?_)
                              replace HM := H9; clear H9
                              refine k_mv 0 (heldE HM) ?_
                              refine k_mv 1 (heldE HM) ?_
                              refine t_pure (i := 2) (v := .int .i64 (ik : Nat)) rfl rfl (by kernel_rfl) (fun _ _ _ h => h) (heldE HM) (by rfl) ?_ ?_; (focus (exact h_bin (by rfl) (by rfl) (by rfl) (by have := hik.out; intro w9; go_simp; rw [IntWalk.i64_in _ (by omega)]; first | done | omega))); ((try simp only [List.setIfInBounds_toArray]); (try simp only [List.set_cons_succ]); (try simp only [List.set_cons_zero]))
                              refine k_mv 3 (heldE HM) ?_
                              refine k_mv 4 (heldE HM) ?_
                              refine t_pure (i := 5) (v := .int .i64 (ik : Nat)) rfl rfl (by kernel_rfl) (fun _ _ _ h => h) (heldE HM) (by rfl) ?_ ?_; (focus (exact h_bin (by rfl) (by rfl) (by rfl) (by have := hik.out; intro w9; go_simp; rw [IntWalk.i64_in _ (by omega)]; first | done | omega))); ((try simp only [List.setIfInBounds_toArray]); (try simp only [List.set_cons_succ]); (try simp only [List.set_cons_zero]))
                              refine k_ia 6 (heldE HM) ?_
                              refine k_ld 7 [12, 13, 14, 15, 16, 17, 18] (heldE HM) ?_
                              refine k_mv 8 (heldE HM) ?_
                              refine k_ia 9 (heldE HM) ?_
                              refine k_ld 10 [12, 13, 14, 15, 16, 17, 18] (heldE HM) ?_
                              refine k_mv 11 (heldE HM) ?_
                              refine j_one 12 fun K9 hK9 => ?_
                              refine j_call3 (v := ?_) HM ?_ ?_; rotate_left 1; (focus (with_reducible (exact (HB.out _)))); clear HM; intro w1 HM
                              refine hK9 _ _ (heldE HM) ?_; clear hK9 K9
                              refine k_mv 13 (heldE HM) ?_
                              refine k_ext 14 (heldE HM) ?_
                              refine k_ext 15 (heldE HM) ?_
                              refine k_ia 16 (heldE HM) ?_
                              refine j_one 17 fun K9 hK9 => ?_
                              refine j_st HM ?_; clear HM; intro w1 HM
                              refine hK9 _ _ heldN ?_; clear hK9 K9
                              refine k_mv 18 heldN ?_
                              refine wpAnyL_done (by kernel_rfl) ?_ _
                              clear hq0 hq1 hq2 hq3 hf1 hf2 hf3 HB
                              go_wp2_with fail
                              go_roundw
                              case rel => exact ⟨i1 + 1, _, c3, hin, by go_num, rfl, HA3, HM⟩
                              case measure => simp [intOf]; omega
                          · obtain rfl : i0 = i1 := by omega
                            as_aux_lemma =>
                              obtain ⟨y, hy⟩ : ∃ v, Hid (v = Bg.limb U4 b0) := ⟨_, rfl⟩
                              have hyl : y < 4294967296 := by rw [hy.out]; exact Bg.limb_lt _ _
                              obtain ⟨d, hd⟩ : ∃ x, Hid (x = (y + c2) % 4294967296) := ⟨_, rfl⟩
                              have hdl : d < 4294967296 := by rw [hd.out]; exact Nat.mod_lt _ (by decide)
                              have HA3 := HA2.out.last HN.out.lt (d := d) (by rw [hd.out, hy.out, hb0.out])
                              rw [← hb0.out] at HA3
                              obtain ⟨e, hA3, hA4⟩ := HA3
                              have hU5 := Bg.round_back (by have := HT2.out.1; rwa [Nat.one_mul] at this) (by rw [hgG, hG.out]) (by rw [← hb0.out]; exact hA3) (by rw [← hb0.out]; exact hA4) HU.out
                              have HS3 := Lib.hid (HS2.out _ hU5)
                              have hf2 : LA 22 (Bg.row 33 U4) b0 (.int .u32 (y : Nat)) := by rw [hy.out]; exact la_33 U4 b0 hy0
                              have e4 : (G : Int) % 4294967296 = (G : Int) := by omega
                              have e5 : (k : Int) + (i0 : Int) = (b0 : Int) := by have := hb0.out; omega
                              have e6 : ((y : Int) + (c2 : Int)) % 4294967296 = (d : Int) := by rw [hd.out]; simp
                              have hf3 : SA 22 (Bg.row 33 U4) b0 (.int .u32 (((y : Int) + (c2 : Int)) % 4294967296)) (Bg.row 33 (Bg.setL U4 b0 d)) := by rw [e6]; exact sa_33 U4 b0 d hdl hy0
                              have hq2 : (0 : Int) ≤ (b0 : Int) := by omega
                              have hq3 : (b0 : Int) < 33 := by omega
                              clear hA3 hA4 hU5 HS2 e6
                              go_upto_region 53 with (first | fail | (first | ((with_reducible refine g_ld ?_); refine a_ld HM ?_) | ((with_reducible refine g_st ?_); refine a_st HM ?_; clear HM; intro w1 HM) | ((with_reducible refine g_al ?_); refine a_al HM ?_; clear HM; intro bk w1 HM) | ((with_reducible refine g_bx ?_); refine a_bx HM ?_; clear HM; intro bk w1 HM) | ((with_reducible refine g_bld ?_); refine a_bld ?_)))
                              go_upto_region 27 with (first | fail | (first | ((with_reducible refine g_ld ?_); refine a_ld HM ?_) | ((with_reducible refine g_st ?_); refine a_st HM ?_; clear HM; intro w1 HM) | ((with_reducible refine g_al ?_); refine a_al HM ?_; clear HM; intro bk w1 HM) | ((with_reducible refine g_bx ?_); refine a_bx HM ?_; clear HM; intro bk w1 HM) | ((with_reducible refine g_bld ?_); refine a_bld ?_)))
                              go_wp2_with fail
                              go_roundw
                              case rel => exact ⟨k, _, _, by omega, rfl, HS3, HM⟩
                              case measure => simp [intOf]
        | succ k =>
          as_aux_lemma =>
            have e1 : ((k + 1 : Nat) : Int) - 1 = (k : Int) := by omega
            rw [e1]
            clear e1
            have hk0 : (0 : Int) ≤ (k : Int) := by omega
            have hk1 : (k : Int) < 33 := by omega
            have hk2 : k < 33 := by omega
            have hxb := Bg.limb_lt a k
            obtain ⟨y, hy⟩ : ∃ y, Hid (y = Bg.limb a k * 2 ^ s % 4294967296) := ⟨_, rfl⟩
            have hyl : y < 4294967296 := by rw [hy.out]; exact Nat.mod_lt _ (by decide)
            have hss : SA 22 (Bg.row 33 (Bg.hi D (k + 1))) k (.int .u32 (((Bg.limb a k : Nat) : Int) * 2 ^ s % 4294967296)) (Bg.row 33 (Bg.setL (Bg.hi D (k + 1)) k y)) := by
              have h := sa_33 (Bg.hi D (k + 1)) k y hyl hk2
              rwa [show ((y : Nat) : Int) = ((Bg.limb a k : Nat) : Int) * 2 ^ s % 4294967296 from by rw [hy.out]; simp] at h
            rcases Nat.lt_or_ge k m with hkm | hkm
            case' inl =>
              have hlb := la_lim a k (by omega)
              have hq4 : (k : Int) < 32 := by omega
              have hq5 : (k : Int) < (m : Int) := by omega
              go_upto_region 22 with (first | fail | (first | ((with_reducible refine g_ld ?_); refine a_ld HM ?_) | ((with_reducible refine g_st ?_); refine a_st HM ?_; clear HM; intro w1 HM) | ((with_reducible refine g_al ?_); refine a_al HM ?_; clear HM; intro bk w1 HM) | ((with_reducible refine g_bx ?_); refine a_bx HM ?_; clear HM; intro bk w1 HM) | ((with_reducible refine g_bld ?_); refine a_bld ?_)))
              clear hq4 hq5 hlb
            case' inr =>
              have hq5 : ¬ (k : Int) < (m : Int) := by omega
              have e2 : Bg.row 33 (Bg.hi D (k + 1)) = Bg.row 33 (Bg.setL (Bg.hi D (k + 1)) k y) := by
                obtain rfl : k = m := by omega
                have e3 : Bg.limb a k = 0 := by unfold Bg.limb; rw [Nat.div_eq_of_lt haw.out, Nat.zero_mod]
                rw [hy.out, e3, Bg.hi_top HD.out.2, Nat.zero_mul, Nat.zero_mod, Bg.setL_top _ _ _ (Bg.ppos _), Nat.zero_mul]
              rw [e2] at HM
              clear e2
              go_upto_region 22 with fail
              clear hq5
            all_goals clear hss
            all_goals
              rcases Nat.eq_zero_or_pos s with hs0 | hs0
              · have e2 : Bg.setL (Bg.hi D (k + 1)) k y = Bg.hi D k := by
                  have e : D = a := by rw [hD.out, hs0, Nat.pow_zero, Nat.mul_one]
                  rw [hy.out, hs0, Nat.pow_zero, Nat.mul_one, Nat.mod_eq_of_lt hxb, e, Bg.hi_set]
                rw [e2] at HM
                clear e2
                subst hs0
                cases k with
                | zero =>
                  go_wp2_with fail
                  go_roundw
                  case rel => exact ⟨0, by omega, rfl, HM⟩
                  case measure => simp [intOf]
                | succ k =>
                  go_wp2_with fail
                  go_roundw
                  case rel => exact ⟨k + 1, by omega, by go_num, HM⟩
                  case measure => simp [intOf]; omega
              · cases k with
                | zero =>
                  have e2 : Bg.setL (Bg.hi D 1) 0 y = Bg.hi D 0 := by
                    rw [hy.out, ← Bg.shl_zero a s hs32, ← hD.out, Bg.hi_set]
                  rw [e2] at HM
                  clear e2
                  go_wp2_with fail
                  go_roundw
                  case rel => exact ⟨0, by omega, rfl, HM⟩
                  case measure => simp [intOf]
                | succ k =>
                  go_upto_region 23 with fail
                  have hlb1 := la_lim a k (by omega)
                  have hly := la_33 (Bg.setL (Bg.hi D (k + 1 + 1)) (k + 1) y) (k + 1) hk2
                  rw [Bg.setL_limb _ _ _ _ hyl, if_pos rfl] at hly
                  have hx1 := Bg.limb_lt a k
                  obtain ⟨z, hz⟩ : ∃ z, Hid (z = Bg.limb a k / 2 ^ (32 - s)) := ⟨_, rfl⟩
                  have hzl : z < 4294967296 := by rw [hz.out]; exact Nat.lt_of_le_of_lt (Nat.div_le_self _ _) hx1
                  have hol : y ||| z < 4294967296 := by have := Nat.or_lt_two_pow (n := 32) (x := y) (y := z) (by omega) (by omega); omega
                  have hso := sa_33 (Bg.setL (Bg.hi D (k + 1 + 1)) (k + 1) y) (k + 1) (y ||| z) hol hk2
                  have e2 : Bg.setL (Bg.setL (Bg.hi D (k + 1 + 1)) (k + 1) y) (k + 1) (y ||| z) = Bg.hi D (k + 1) := by
                    rw [Bg.setL_twice _ _ _ _ hyl, hy.out, hz.out, ← Bg.shl_or a k s hs32 hs0, ← hD.out, Bg.hi_set]
                  rw [e2] at hso
                  clear e2
                  have hsh : (32 : Int) - (s : Int) = ((32 - s : Nat) : Int) := by omega
                  have hq0 : (0 : Int) ≤ (k : Int) + 1 := by omega
                  have hq1 : (k : Int) + 1 < 33 := by omega
                  have hq2 : (0 : Int) ≤ (k : Int) := by omega
                  have hq3 : (k : Int) < 32 := by omega
                  refine start_M [14] HM (by kernel_rfl) (fun w0x H9 => ?_)
                  replace HM := H9; clear H9
                  refine k_mv 0 (heldE HM) ?_
                  refine k_ia 1 (heldE HM) ?_
                  refine k_ld 2 [12, 13, 14] (heldE HM) ?_
                  refine k_mv 3 (heldE HM) ?_
                  refine k_mv 4 (heldE HM) ?_
                  refine t_pure (i := 5) (v := .int .i64 (k : Nat)) rfl rfl (by kernel_rfl) (fun _ _ _ h => h) (heldE HM) (by rfl) ?_ ?_; (focus (exact h_bin (by rfl) (by rfl) (by rfl) (by intro w9; go_simp; rw [IntWalk.i64_in _ (by omega)]))); ((try simp only [List.setIfInBounds_toArray]); (try simp only [List.set_cons_succ]); (try simp only [List.set_cons_zero]))
                  refine k_pv 6 (heldE HM) ?_
                  refine k_ia 7 (heldE HM) ?_
                  refine k_ld 8 [11, 12, 13, 14] (heldE HM) ?_
                  refine k_mv 9 (heldE HM) ?_
                  refine k_sub 10 (heldE HM) ?_
                  refine t_pure (i := 11) (v := .int .u32 (z : Nat)) rfl rfl (by kernel_rfl) (fun _ _ _ h => h) (heldE HM) (by rfl) ?_ ?_; (focus (exact h_bin (by rfl) (by rfl) (by rfl) (by intro w9; go_simp; rw [hz.out]; simp))); ((try simp only [List.setIfInBounds_toArray]); (try simp only [List.set_cons_succ]); (try simp only [List.set_cons_zero]))
                  refine t_pure (i := 12) (v := .int .u32 ((y ||| z : Nat) : Int)) rfl rfl (by kernel_rfl) (fun _ _ _ h => h) (heldE HM) (by rfl) ?_ ?_; (focus (exact h_bin (by rfl) (by rfl) (by rfl) (by intro w9; go_simp; rw [u32_or_nat _ _ hyl hzl]))); ((try simp only [List.setIfInBounds_toArray]); (try simp only [List.set_cons_succ]); (try simp only [List.set_cons_zero]))
                  refine k_ia 13 (heldE HM) ?_
                  refine j_one 14 fun K9 hK9 => ?_
                  refine j_st HM ?_; clear HM; intro w1 HM
                  refine hK9 _ _ heldN ?_; clear hK9 K9
                  refine wpAnyL_done (by kernel_rfl) ?_ _
                  go_wp2_with fail
                  go_roundw
                  case rel => exact ⟨k + 1, by omega, by go_num, HM⟩
                  case measure => simp [intOf]; omega
    | succ k =>
      as_aux_lemma =>
        have e1 : ((k + 1 : Nat) : Int) - 1 = (k : Int) := by omega
        rw [e1]
        clear e1
        have hk0 : (0 : Int) ≤ (k : Int) := by omega
        have hk1 : (k : Int) < 32 := by omega
        have hk2 : k < 32 := by omega
        have hlb := la_lim b k hk2
        have hxb := Bg.limb_lt b k
        obtain ⟨y, hy⟩ : ∃ y, Hid (y = Bg.limb b k * 2 ^ s % 4294967296) := ⟨_, rfl⟩
        have hyl : y < 4294967296 := by rw [hy.out]; exact Nat.mod_lt _ (by decide)
        have hss : SA 22 (Bg.row 32 (Bg.hi V (k + 1))) k (.int .u32 (((Bg.limb b k : Nat) : Int) * 2 ^ s % 4294967296)) (Bg.row 32 (Bg.setL (Bg.hi V (k + 1)) k y)) := by
          have h := sa_lim (Bg.hi V (k + 1)) k y hyl hk2
          rwa [show ((y : Nat) : Int) = ((Bg.limb b k : Nat) : Int) * 2 ^ s % 4294967296 from by rw [hy.out]; simp] at h
        go_upto_region 15 with (first | fail | (first | ((with_reducible refine g_ld ?_); refine a_ld HM ?_) | ((with_reducible refine g_st ?_); refine a_st HM ?_; clear HM; intro w1 HM) | ((with_reducible refine g_al ?_); refine a_al HM ?_; clear HM; intro bk w1 HM) | ((with_reducible refine g_bx ?_); refine a_bx HM ?_; clear HM; intro bk w1 HM) | ((with_reducible refine g_bld ?_); refine a_bld ?_)))
        clear hss hlb
        rcases Nat.eq_zero_or_pos s with hs0 | hs0
        · have e2 : Bg.setL (Bg.hi V (k + 1)) k y = Bg.hi V k := by
            have e : V = b := by rw [hV.out, hs0, Nat.pow_zero, Nat.mul_one]
            rw [hy.out, hs0, Nat.pow_zero, Nat.mul_one, Nat.mod_eq_of_lt hxb, e, Bg.hi_set]
          rw [e2] at HM
          clear e2
          subst hs0
          cases k with
          | zero =>
            go_wp2_with fail
            go_roundw
            case rel => exact ⟨0, by omega, rfl, HM⟩
            case measure => simp [intOf]
          | succ k =>
            go_wp2_with fail
            go_roundw
            case rel => exact ⟨k + 1, by omega, by go_num, HM⟩
            case measure => simp [intOf]; omega
        · cases k with
          | zero =>
            have e2 : Bg.setL (Bg.hi V 1) 0 y = Bg.hi V 0 := by
              rw [hy.out, ← Bg.shl_zero b s hs32, ← hV.out, Bg.hi_set]
            rw [e2] at HM
            clear e2
            go_wp2_with fail
            go_roundw
            case rel => exact ⟨0, by omega, rfl, HM⟩
            case measure => simp [intOf]
          | succ k =>
            go_upto_region 16 with fail
            have hlb1 := la_lim b k (by omega)
            have hly := la_lim (Bg.setL (Bg.hi V (k + 1 + 1)) (k + 1) y) (k + 1) hk2
            rw [Bg.setL_limb _ _ _ _ hyl, if_pos rfl] at hly
            have hx1 := Bg.limb_lt b k
            obtain ⟨z, hz⟩ : ∃ z, Hid (z = Bg.limb b k / 2 ^ (32 - s)) := ⟨_, rfl⟩
            have hzl : z < 4294967296 := by rw [hz.out]; exact Nat.lt_of_le_of_lt (Nat.div_le_self _ _) hx1
            have hol : y ||| z < 4294967296 := by have := Nat.or_lt_two_pow (n := 32) (x := y) (y := z) (by omega) (by omega); omega
            have hso := sa_lim (Bg.setL (Bg.hi V (k + 1 + 1)) (k + 1) y) (k + 1) (y ||| z) hol hk2
            have e2 : Bg.setL (Bg.setL (Bg.hi V (k + 1 + 1)) (k + 1) y) (k + 1) (y ||| z) = Bg.hi V (k + 1) := by
              rw [Bg.setL_twice _ _ _ _ hyl, hy.out, hz.out, ← Bg.shl_or b k s hs32 hs0, ← hV.out, Bg.hi_set]
            rw [e2] at hso
            clear e2
            have hsh : (32 : Int) - (s : Int) = ((32 - s : Nat) : Int) := by omega
            have hq0 : (0 : Int) ≤ (k : Int) + 1 := by omega
            have hq1 : (k : Int) + 1 < 32 := by omega
            have hq2 : (0 : Int) ≤ (k : Int) := by omega
            have hq3 : (k : Int) < 32 := by omega
            refine start_M [14] HM (by kernel_rfl) (fun w0x H9 => ?_)
            replace HM := H9; clear H9
            refine k_mv 0 (heldE HM) ?_
            refine k_ia 1 (heldE HM) ?_
            refine k_ld 2 [12, 13, 14] (heldE HM) ?_
            refine k_mv 3 (heldE HM) ?_
            refine k_mv 4 (heldE HM) ?_
            refine t_pure (i := 5) (v := .int .i64 (k : Nat)) rfl rfl (by kernel_rfl) (fun _ _ _ h => h) (heldE HM) (by rfl) ?_ ?_; (focus (exact h_bin (by rfl) (by rfl) (by rfl) (by intro w9; go_simp; rw [IntWalk.i64_in _ (by omega)]))); ((try simp only [List.setIfInBounds_toArray]); (try simp only [List.set_cons_succ]); (try simp only [List.set_cons_zero]))
            refine k_pv 6 (heldE HM) ?_
            refine k_ia 7 (heldE HM) ?_
            refine k_ld 8 [11, 12, 13, 14] (heldE HM) ?_
            refine k_mv 9 (heldE HM) ?_
            refine k_sub 10 (heldE HM) ?_
            refine t_pure (i := 11) (v := .int .u32 (z : Nat)) rfl rfl (by kernel_rfl) (fun _ _ _ h => h) (heldE HM) (by rfl) ?_ ?_; (focus (exact h_bin (by rfl) (by rfl) (by rfl) (by intro w9; go_simp; rw [hz.out]; simp))); ((try simp only [List.setIfInBounds_toArray]); (try simp only [List.set_cons_succ]); (try simp only [List.set_cons_zero]))
            refine t_pure (i := 12) (v := .int .u32 ((y ||| z : Nat) : Int)) rfl rfl (by kernel_rfl) (fun _ _ _ h => h) (heldE HM) (by rfl) ?_ ?_; (focus (exact h_bin (by rfl) (by rfl) (by rfl) (by intro w9; go_simp; rw [u32_or_nat _ _ hyl hzl]))); ((try simp only [List.setIfInBounds_toArray]); (try simp only [List.set_cons_succ]); (try simp only [List.set_cons_zero]))
            refine k_ia 13 (heldE HM) ?_
            refine j_one 14 fun K9 hK9 => ?_
            refine j_st HM ?_; clear HM; intro w1 HM
            refine hK9 _ _ heldN ?_; clear hK9 K9
            refine wpAnyL_done (by kernel_rfl) ?_ _
            go_wp2_with fail
            go_roundw
            case rel => exact ⟨k + 1, by omega, by go_num, HM⟩
            case measure => simp [intOf]; omega
end Go.Proofs.Ytekfabhmopkapaa
