/- The document's magnitudes: compare, sum, difference. -/
import Derived.Test.YtekfabhmopkapaaRefA1
import Derived.Test.YtekfabhmopkapaaEngA
namespace Go.Proofs.Ytekfabhmopkapaa
set_option maxRecDepth 8000
open Go.RowKit
set_option maxRecDepth 20000 in
set_option maxHeartbeats 1000000 in
theorem rcompare_any (a b : Nat) (g : Int) (ha : a < Bg.lim) (hb : b < Bg.lim) (hg : Hid (g = Bg.cmp a b)) (w : World) :
    Calls Try.prog 88 #[.agg (Bg.row 32 a), .agg (Bg.row 32 b)] w fun e w' => e = .returned (.int .i64 g) ∧ Below w.heap.size w w' := by
  have HM := Mem.start w
  go_enter Try.func88, Try.ntmps88
  go_upto_region 1 with (first | ((with_reducible refine g_ld ?_); refine a_ld HM ?_) | ((with_reducible refine g_st ?_); refine a_st HM ?_; clear HM; intro w1 HM) | ((with_reducible refine g_al ?_); refine a_al HM ?_; clear HM; intro bk w1 HM) | ((with_reducible refine g_bx ?_); refine a_bx HM ?_; clear HM; intro bk w1 HM) | ((with_reducible refine g_bld ?_); refine a_bld ?_))
  obtain ⟨bb, rfl⟩ := HM.nm0
  obtain ⟨ba, rfl⟩ := HM.nm1
  go_wp2_with fail
  go_loopw [5] (fun i wr => ∃ k : Nat, k ≤ 32 ∧ i = .int .i64 (k - 1) ∧ Hid (a / Bg.pw k = b / Bg.pw k) ∧ Mem w [] [(bb, Bg.row 32 b), (ba, Bg.row 32 a)] wr) (fun i _ => (intOf i + 1).toNat)
  case atStart => exact ⟨32, by omega, rfl, Lib.hid (by rw [Nat.div_eq_of_lt (show a < Bg.pw 32 from ha), Nat.div_eq_of_lt (show b < Bg.pw 32 from hb)]), HM⟩
  case round =>
    obtain ⟨k, hk, rfl, HE, HM⟩ := hrel
    cases k with
    | zero =>
      go_wp2_with fail
      go_ret
      refine ⟨?_, HM.low⟩
      rw [hg.out, Bg.cmp_same HE.out]
      rfl
    | succ k =>
      have e1 : ((k + 1 : Nat) : Int) - 1 = (k : Int) := by omega
      rw [e1]
      clear e1
      have hk0 : (0 : Int) ≤ (k : Int) := by omega
      have hk1 : (k : Int) < 32 := by omega
      have hk2 : k < 32 := by omega
      have hla := la_lim a k hk2
      have hlb := la_lim b k hk2
      go_upto_region 4 with fail
      rcases Nat.lt_trichotomy (Bg.limb a k) (Bg.limb b k) with hl | hl | hl
      · have HR := Lib.hid (Bg.cmp_lt HE.out hl)
        refine start_M [] HM (by kernel_rfl) (fun w0x H9 => ?_)
        replace HM := H9; clear H9
        refine k_mv 0 (heldE HM) ?_
        refine k_ia 1 (heldE HM) ?_
        refine k_ld 2 [] (heldE HM) ?_
        refine k_mv 3 (heldE HM) ?_
        refine k_ia 4 (heldE HM) ?_
        refine k_ld 5 [] (heldE HM) ?_
        refine k_bin 6 (heldE HM) ?_
        refine wpAnyL_done (by kernel_rfl) ?_ _
        go_wp2_with fail
        go_ret
        exact ⟨by rw [hg.out, HR.out]; rfl, HM.low⟩
      · have HR := Lib.hid (Bg.cmp_eq HE.out hl)
        rw [hl] at hla
        clear hl
        refine start_M [] HM (by kernel_rfl) (fun w0x H9 => ?_)
        replace HM := H9; clear H9
        refine k_mv 0 (heldE HM) ?_
        refine k_ia 1 (heldE HM) ?_
        refine k_ld 2 [] (heldE HM) ?_
        refine k_mv 3 (heldE HM) ?_
        refine k_ia 4 (heldE HM) ?_
        refine k_ld 5 [] (heldE HM) ?_
        refine k_bin 6 (heldE HM) ?_
        refine wpAnyL_done (by kernel_rfl) ?_ _
        go_upto_region 6 with fail
        refine start_M [] HM (by kernel_rfl) (fun w0x H9 => ?_)
        replace HM := H9; clear H9
        refine k_mv 0 (heldE HM) ?_
        refine k_ia 1 (heldE HM) ?_
        refine k_ld 2 [] (heldE HM) ?_
        refine k_mv 3 (heldE HM) ?_
        refine k_ia 4 (heldE HM) ?_
        refine k_ld 5 [] (heldE HM) ?_
        refine k_bin 6 (heldE HM) ?_
        refine wpAnyL_done (by kernel_rfl) ?_ _
        go_wp2_with fail
        go_roundw
        case rel => exact ⟨k, by omega, rfl, HR, HM⟩
        case measure => simp [intOf]
      · have HR := Lib.hid (Bg.cmp_gt HE.out hl)
        have hn : ¬ Bg.limb a k < Bg.limb b k := by omega
        refine start_M [] HM (by kernel_rfl) (fun w0x H9 => ?_)
        replace HM := H9; clear H9
        refine k_mv 0 (heldE HM) ?_
        refine k_ia 1 (heldE HM) ?_
        refine k_ld 2 [] (heldE HM) ?_
        refine k_mv 3 (heldE HM) ?_
        refine k_ia 4 (heldE HM) ?_
        refine k_ld 5 [] (heldE HM) ?_
        refine k_bin 6 (heldE HM) ?_
        refine wpAnyL_done (by kernel_rfl) ?_ _
        go_upto_region 6 with fail
        refine start_M [] HM (by kernel_rfl) (fun w0x H9 => ?_)
        replace HM := H9; clear H9
        refine k_mv 0 (heldE HM) ?_
        refine k_ia 1 (heldE HM) ?_
        refine k_ld 2 [] (heldE HM) ?_
        refine k_mv 3 (heldE HM) ?_
        refine k_ia 4 (heldE HM) ?_
        refine k_ld 5 [] (heldE HM) ?_
        refine k_bin 6 (heldE HM) ?_
        refine wpAnyL_done (by kernel_rfl) ?_ _
        go_wp2_with fail
        go_ret
        exact ⟨by rw [hg.out, HR.out]; rfl, HM.low⟩
theorem sa_mod (s k v : Nat) (hk : k < 32) : SA 22 (Bg.row 32 s) k (.int .u32 ((v : Int) % 4294967296)) (Bg.row 32 (Bg.setL s k (v % 4294967296))) :=
  sa_lim s k (v % 4294967296) (Nat.mod_lt _ (by decide)) hk
set_option maxRecDepth 20000 in
set_option maxHeartbeats 1000000 in
theorem rsum_any (a b z : Nat) (f : Bool) (ha : a < Bg.lim) (hb : b < Bg.lim) (hz : Hid (z = (a + b) % Bg.lim)) (hf : Hid (f = decide (a + b < Bg.lim))) (w : World) :
    Calls Try.prog 83 #[.agg (Bg.row 32 a), .agg (Bg.row 32 b)] w fun e w' => e = .returned (.tuple #[.agg (Bg.row 32 z), .bool f]) ∧ Below w.heap.size w w' := by
  have HM := Mem.start w
  go_enter Try.func83, Try.ntmps83
  go_upto_region 2 with (first | ((with_reducible refine g_ld ?_); refine a_ld HM ?_) | ((with_reducible refine g_st ?_); refine a_st HM ?_; clear HM; intro w1 HM) | ((with_reducible refine g_al ?_); refine a_al HM ?_; clear HM; intro bk w1 HM) | ((with_reducible refine g_bx ?_); refine a_bx HM ?_; clear HM; intro bk w1 HM) | ((with_reducible refine g_bld ?_); refine a_bld ?_))
  obtain ⟨bo, rfl⟩ := HM.nm0
  obtain ⟨br, rfl⟩ := HM.nm1
  obtain ⟨bb, rfl⟩ := HM.nm2
  obtain ⟨ba, rfl⟩ := HM.nm3
  go_wp2_with fail
  go_loopw [7, 8] (fun c i wr => ∃ k q s : Nat, k ≤ 32 ∧ i = .int .i64 (k : Nat) ∧ c = .int .u64 (q : Nat) ∧ Hid (Bg.AddSt a b k s q) ∧ Mem w [] [(bo, Bg.row 32 s), (br, Bg.row 32 0), (bb, Bg.row 32 b), (ba, Bg.row 32 a)] wr) (fun _ i _ => 32 - (intOf i).toNat)
  case atStart => exact ⟨0, 0, 0, by omega, rfl, rfl, Lib.hid (Bg.AddSt.zero a b), HM⟩
  case round =>
    obtain ⟨k, q, s, hk, rfl, rfl, HS, HM⟩ := hrel
    by_cases hlt : k < 32
    · have hla := la_lim a k hlt
      have hlb := la_lim b k hlt
      have hxa := Bg.limb_lt a k
      have hxb := Bg.limb_lt b k
      have hq := HS.out.le
      have hk0 : (0 : Int) ≤ (k : Int) := by omega
      have hk1 : (k : Int) < 32 := by omega
      go_upto_region 6 with fail
      refine start_M [] HM (by kernel_rfl) (fun w0x H9 => ?_)
      replace HM := H9; clear H9
      refine k_mv 0 (heldE HM) ?_
      refine k_ia 1 (heldE HM) ?_
      refine k_ld 2 [] (heldE HM) ?_
      refine k_cv 3 (heldE HM) ?_
      refine k_mv 4 (heldE HM) ?_
      refine k_ia 5 (heldE HM) ?_
      refine k_ld 6 [] (heldE HM) ?_
      refine k_cv 7 (heldE HM) ?_
      refine k_add 8 (heldE HM) ?_
      refine k_mv 9 (heldE HM) ?_
      refine k_add 10 (heldE HM) ?_
      refine k_mv 11 (heldE HM) ?_
      refine wpAnyL_done (by kernel_rfl) ?_ _
      obtain ⟨v, hv⟩ : ∃ v : Nat, v = Bg.limb a k + Bg.limb b k + q := ⟨_, rfl⟩
      rw [show ((Bg.limb a k : Nat) : Int) + (Bg.limb b k : Nat) + (q : Nat) = (v : Nat) from by omega]
      have hv2 : v < 18446744073709551616 := by omega
      have HV := Lib.hid hv
      have hss := sa_mod s k v hlt
      clear hla hlb hxa hxb hq hv
      go_wp2_with (first | fail | (first | ((with_reducible refine g_ld ?_); refine a_ld HM ?_) | ((with_reducible refine g_st ?_); refine a_st HM ?_; clear HM; intro w1 HM) | ((with_reducible refine g_al ?_); refine a_al HM ?_; clear HM; intro bk w1 HM) | ((with_reducible refine g_bx ?_); refine a_bx HM ?_; clear HM; intro bk w1 HM) | ((with_reducible refine g_bld ?_); refine a_bld ?_)))
      clear hss
      go_roundw
      case rel => exact ⟨k + 1, v / 4294967296, _, by omega, by go_num, rfl, by rw [HV.out]; exact Lib.hid HS.out.step, HM⟩
      case measure => simp [intOf]; omega
    · obtain rfl : k = 32 := by omega
      have hd := HS.out.done ha hb
      have hq := HS.out.le
      have hq2 : ((q : Int) == 0) = f := by
        rw [hf.out, beq_zero]
        exact decide_eq_decide.2 hd.2
      have HZ : Hid (s = z) := Lib.hid (by rw [hz.out]; exact hd.1)
      clear hd hq hlt
      go_wp2_with (first | fail | (first | ((with_reducible refine g_ld ?_); refine a_ld HM ?_) | ((with_reducible refine g_st ?_); refine a_st HM ?_; clear HM; intro w1 HM) | ((with_reducible refine g_al ?_); refine a_al HM ?_; clear HM; intro bk w1 HM) | ((with_reducible refine g_bx ?_); refine a_bx HM ?_; clear HM; intro bk w1 HM) | ((with_reducible refine g_bld ?_); refine a_bld ?_)))
      refine bodyPost_ret (r_ct (b := br) (k := 0) rfl rfl (HM.get (by ((repeat (first | exact Look.here | refine Look.there ?_)); done))) (la_arr _)) rfl ⟨?_, HM.low⟩
      rw [← HZ.out]
      rfl
set_option maxRecDepth 20000 in
set_option maxHeartbeats 1000000 in
theorem rdif_any (a b z : Nat) (ha : a < Bg.lim) (hb : b < Bg.lim) (hz : Hid (z = Bg.dif a b)) (w : World) :
    Calls Try.prog 82 #[.agg (Bg.row 32 a), .agg (Bg.row 32 b)] w fun e w' => e = .returned (.agg (Bg.row 32 z)) ∧ Below w.heap.size w w' := by
  have HM := Mem.start w
  go_enter Try.func82, Try.ntmps82
  go_upto_region 2 with (first | ((with_reducible refine g_ld ?_); refine a_ld HM ?_) | ((with_reducible refine g_st ?_); refine a_st HM ?_; clear HM; intro w1 HM) | ((with_reducible refine g_al ?_); refine a_al HM ?_; clear HM; intro bk w1 HM) | ((with_reducible refine g_bx ?_); refine a_bx HM ?_; clear HM; intro bk w1 HM) | ((with_reducible refine g_bld ?_); refine a_bld ?_))
  obtain ⟨bo, rfl⟩ := HM.nm0
  obtain ⟨br, rfl⟩ := HM.nm1
  obtain ⟨bb, rfl⟩ := HM.nm2
  obtain ⟨ba, rfl⟩ := HM.nm3
  go_wp2_with fail
  go_loopw [6, 7] (fun c i wr => ∃ k q s : Nat, k ≤ 32 ∧ i = .int .i64 (k : Nat) ∧ c = .int .u64 (q : Nat) ∧ Hid (Bg.SubSt a b k s q) ∧ Mem w [] [(bo, Bg.row 32 s), (br, Bg.row 32 0), (bb, Bg.row 32 b), (ba, Bg.row 32 a)] wr) (fun _ i _ => 32 - (intOf i).toNat)
  case atStart => exact ⟨0, 0, 0, by omega, rfl, rfl, Lib.hid (Bg.SubSt.zero a b), HM⟩
  case round =>
    obtain ⟨k, q, s, hk, rfl, rfl, HS, HM⟩ := hrel
    by_cases hlt : k < 32
    · have hla := la_lim a k hlt
      have hlb := la_lim b k hlt
      have hxa := Bg.limb_lt a k
      have hxb := Bg.limb_lt b k
      have hq := HS.out.le
      have hk0 : (0 : Int) ≤ (k : Int) := by omega
      have hk1 : (k : Int) < 32 := by omega
      go_upto_region 6 with fail
      refine start_M [] HM (by kernel_rfl) (fun w0x H9 => ?_)
      replace HM := H9; clear H9
      refine k_mv 0 (heldE HM) ?_
      refine k_ia 1 (heldE HM) ?_
      refine k_ld 2 [] (heldE HM) ?_
      refine k_cv 3 (heldE HM) ?_
      refine k_mv 4 (heldE HM) ?_
      refine k_ia 5 (heldE HM) ?_
      refine k_ld 6 [] (heldE HM) ?_
      refine k_cv 7 (heldE HM) ?_
      refine k_sub 8 (heldE HM) ?_
      refine k_mv 9 (heldE HM) ?_
      refine k_sub 10 (heldE HM) ?_
      refine k_mv 11 (heldE HM) ?_
      refine wpAnyL_done (by kernel_rfl) ?_ _
      obtain ⟨v, hv⟩ : ∃ v : Nat, v = if Bg.limb a k < Bg.limb b k + q then Bg.limb a k + 18446744073709551616 - Bg.limb b k - q else Bg.limb a k - Bg.limb b k - q := ⟨_, rfl⟩
      rw [show IntKind.u64.wrap (IntKind.u64.wrap (((Bg.limb a k : Nat) : Int) - (Bg.limb b k : Nat)) - (q : Nat)) = (v : Nat) from by rw [IntKind.wrap_u64, IntKind.wrap_u64, hv]; split <;> omega]
      have hv2 : v < 18446744073709551616 := by rw [hv]; split <;> omega
      have HV := Lib.hid (show Bg.limb a k + v / 9223372036854775808 * 4294967296 = Bg.limb b k + q + v % 4294967296 ∧ v / 9223372036854775808 ≤ 1 from by rw [hv]; split <;> omega)
      have hss := sa_mod s k v hlt
      clear hla hlb hxa hxb hq hv
      go_wp2_with (first | fail | (first | ((with_reducible refine g_ld ?_); refine a_ld HM ?_) | ((with_reducible refine g_st ?_); refine a_st HM ?_; clear HM; intro w1 HM) | ((with_reducible refine g_al ?_); refine a_al HM ?_; clear HM; intro bk w1 HM) | ((with_reducible refine g_bx ?_); refine a_bx HM ?_; clear HM; intro bk w1 HM) | ((with_reducible refine g_bld ?_); refine a_bld ?_)))
      clear hss
      go_roundw
      case rel => exact ⟨k + 1, v / 9223372036854775808, _, by omega, by go_num, rfl, Lib.hid (HS.out.step (Nat.mod_lt _ (by decide)) HV.out.2 HV.out.1), HM⟩
      case measure => simp [intOf]; omega
    · obtain rfl : k = 32 := by omega
      have hd := HS.out.done ha hb
      have HZ : Hid (s = z) := Lib.hid (by rw [hz.out]; exact hd)
      clear hd hlt
      go_wp2_with (first | fail | (first | ((with_reducible refine g_ld ?_); refine a_ld HM ?_) | ((with_reducible refine g_st ?_); refine a_st HM ?_; clear HM; intro w1 HM) | ((with_reducible refine g_al ?_); refine a_al HM ?_; clear HM; intro bk w1 HM) | ((with_reducible refine g_bx ?_); refine a_bx HM ?_; clear HM; intro bk w1 HM) | ((with_reducible refine g_bld ?_); refine a_bld ?_)))
      refine bodyPost_ret (r_c (b := br) (k := 0) rfl rfl (HM.get (by ((repeat (first | exact Look.here | refine Look.there ?_)); done))) (la_arr _)) rfl ⟨?_, HM.low⟩
      rw [← HZ.out]
end Go.Proofs.Ytekfabhmopkapaa
