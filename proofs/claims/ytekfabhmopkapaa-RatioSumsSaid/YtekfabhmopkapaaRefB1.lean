/- The document's Sub, Cmp, Bits and ToInt. -/
import Derived.Test.YtekfabhmopkapaaRefA4
import Derived.Test.YtekfabhmopkapaaEngC
namespace Go.Proofs.Ytekfabhmopkapaa
set_option maxRecDepth 8000
open Go.RowKit
theorem limbs_as (N u : Nat) (h : Hid (u = Bg.used N)) (w : World) :
    Calls Try.prog 84 #[.agg (Bg.row 32 N)] w fun e w' => e = .returned (.int .i64 (u : Nat)) ∧ Below w.heap.size w w' := by
  rw [h.out]; exact limbs_any N w
theorem radd_iz (s : Bool) (M : Nat) (y z v e : Int) (hM : M < Bg.lim) (hy : y.natAbs < Bg.lim) (hz : Hid (z = Bg.toZ s M + y)) (hv : Hid (v = Bg.resZ z)) (he : Hid (e = Bg.resE z)) (w : World) :
    Calls Try.prog 69 #[.agg (Bg.intA s M), .agg (Bg.zA y)] w fun r w' => r = .returned (.tuple #[.agg (Bg.zA v), .int .i64 e]) ∧ Below w.heap.size w w' := by
  rw [zA_int y]
  exact radd_any s _ M _ z v e hM hy (Lib.hid (by rw [Bg.toZ_iv]; exact hz.out)) hv he w
set_option maxRecDepth 20000 in
set_option maxHeartbeats 2000000 in
theorem rcmp_any (s t : Bool) (M N : Nat) (g : Int) (hM : M < Bg.lim) (hN : N < Bg.lim) (hg : Hid (g = (Bg.toZ s M - Bg.toZ t N).sign)) (w : World) :
    Calls Try.prog 91 #[.agg (Bg.intA s M), .agg (Bg.intA t N)] w fun e w' => e = .returned (.int .i64 g) ∧ Below w.heap.size w w' := by
  have HM := Mem.start w
  obtain ⟨a, ha⟩ : ∃ a, Hid (a = (Bg.toZ s M).sign) := ⟨_, rfl⟩
  obtain ⟨b, hb⟩ : ∃ b, Hid (b = (Bg.toZ t N).sign) := ⟨_, rfl⟩
  obtain ⟨c, hc⟩ : ∃ c, Hid (c = Bg.cmp M N) := ⟨_, rfl⟩
  have hav : Hid (a = -1 ∨ a = 0 ∨ a = 1) := Lib.hid (by
    rw [ha.out]
    rcases Int.lt_trichotomy (Bg.toZ s M) 0 with h | h | h
    · exact .inl (Int.sign_eq_neg_one_of_neg h)
    · right; left; rw [h]; rfl
    · right; right; exact Int.sign_eq_one_of_pos h)
  have hcv : Hid (c = -1 ∨ c = 0 ∨ c = 1) := Lib.hid (by
    rw [hc.out]; unfold Bg.cmp
    split
    · exact .inl rfl
    · split
      · exact .inr (.inr rfl)
      · exact .inr (.inl rfl))
  go_enter Try.func91, Try.ntmps91
  go_upto_region 1 with (first | fail | (first | ((with_reducible refine g_ld ?_); refine a_ld HM ?_) | ((with_reducible refine g_st ?_); refine a_st HM ?_; clear HM; intro w1 HM) | ((with_reducible refine g_al ?_); refine a_al HM ?_; clear HM; intro bk w1 HM) | ((with_reducible refine g_bx ?_); refine a_bx HM ?_; clear HM; intro bk w1 HM) | ((with_reducible refine g_bld ?_); refine a_bld ?_)))
  refine start_M [] HM (by kernel_rfl) (fun w0x H9 => ?_)
  replace HM := H9; clear H9
  refine k_ld 0 [] (heldE HM) ?_
  refine k_ld 2 [] (heldE HM) ?_
  refine j_one 1 fun K9 hK9 => ?_
  refine j_call1 (v := ?_) HM ?_ ?_; rotate_left 1; (focus (with_reducible (first | exact rsign_num s M a hM ha _ | exact rsign_num t N b hN hb _))); clear HM; intro w1 HM
  refine hK9 _ _ (heldE HM) ?_; clear hK9 K9
  refine j_one 3 fun K9 hK9 => ?_
  refine j_call1 (v := ?_) HM ?_ ?_; rotate_left 1; (focus (with_reducible (first | exact rsign_num s M a hM ha _ | exact rsign_num t N b hN hb _))); clear HM; intro w1 HM
  refine hK9 _ _ (heldE HM) ?_; clear hK9 K9
  refine k_mv 4 (heldE HM) ?_
  refine k_mv 5 (heldE HM) ?_
  refine wpAnyL_done (by kernel_rfl) ?_ _
  by_cases hab : a = b
  · have HE : Hid (g = a * c) := Lib.hid (by
      have h := Bg.cmp_sign (Bg.toZ s M) (Bg.toZ t N) (by rw [← ha.out, ← hb.out]; exact hab)
      rw [Bg.toZ_abs, Bg.toZ_abs, ← ha.out, ← hc.out] at h
      rw [hg.out, h])
    subst hab
    go_wp2_with (first | (go_at_call 88; ((with_reducible refine (rcompare_any M N c hM hN hc _).mono ?_); rintro e9 w2 ⟨rfl, hL⟩; replace HM := HM.call hL; clear hL)) | (first | ((with_reducible refine g_ld ?_); refine a_ld HM ?_) | ((with_reducible refine g_st ?_); refine a_st HM ?_; clear HM; intro w1 HM) | ((with_reducible refine g_al ?_); refine a_al HM ?_; clear HM; intro bk w1 HM) | ((with_reducible refine g_bx ?_); refine a_bx HM ?_; clear HM; intro bk w1 HM) | ((with_reducible refine g_bld ?_); refine a_bld ?_)))
    go_ret
    refine ⟨congrArg Ending.returned (congrArg (Value.int IntKind.i64) ?_), HM.low⟩
    rw [HE.out]
    rcases hav.out with h | h | h <;> rcases hcv.out with k | k | k <;> rw [h, k] <;> kernel_rfl
  · have HE : Hid (g = if a < b then -1 else 1) := Lib.hid (by
      rw [hg.out, Bg.cmp_other _ _ (by rw [← ha.out, ← hb.out]; exact hab), ← ha.out, ← hb.out])
    by_cases hlt : a < b
    · have HL := Lib.hid hlt
      go_wp2_with fail
      go_ret
      refine ⟨?_, HM.low⟩
      rw [HE.out, if_pos HL.out]
      rfl
    · have HL := Lib.hid hlt
      have hgt : b < a := by omega
      go_wp2_with fail
      go_ret
      refine ⟨?_, HM.low⟩
      rw [HE.out, if_neg (by have := HL.out; omega)]
      rfl
set_option maxRecDepth 20000 in
set_option maxHeartbeats 2000000 in
theorem rbits_any (s : Bool) (N : Nat) (n : Int) (_hN : N < Bg.lim) (hn : Hid (n = (Bg.bl N : Int))) (w : World) :
    Calls Try.prog 58 #[.agg (Bg.intA s N)] w fun e w' => e = .returned (.int .i64 n) ∧ Below w.heap.size w w' := by
  have HM := Mem.start w
  obtain ⟨u, hu⟩ : ∃ u, Hid (u = Bg.used N) := ⟨_, rfl⟩
  have hu32 : u ≤ 32 := by rw [hu.out]; exact Bg.used_le N
  go_enter Try.func58, Try.ntmps58
  by_cases h0 : u = 0
  · have hn0 : Hid (n = 0) := Lib.hid (by rw [hn.out]; unfold Bg.bl; rw [← hu.out, if_pos h0]; rfl)
    subst h0
    go_wp2_with (first | (go_at_call 84; ((with_reducible refine (limbs_as N 0 hu _).mono ?_); rintro e9 w2 ⟨rfl, hL⟩; replace HM := HM.call hL; clear hL)) | (first | ((with_reducible refine g_ld ?_); refine a_ld HM ?_) | ((with_reducible refine g_st ?_); refine a_st HM ?_; clear HM; intro w1 HM) | ((with_reducible refine g_al ?_); refine a_al HM ?_; clear HM; intro bk w1 HM) | ((with_reducible refine g_bx ?_); refine a_bx HM ?_; clear HM; intro bk w1 HM) | ((with_reducible refine g_bld ?_); refine a_bld ?_)))
    go_ret
    exact ⟨by rw [hn0.out]; rfl, HM.low⟩
  · obtain ⟨p, rfl⟩ : ∃ p, u = p + 1 := ⟨u - 1, by omega⟩
    obtain ⟨x, hx⟩ : ∃ x, Hid (x = Bg.limb N p) := ⟨_, rfl⟩
    have hxl : x < 4294967296 := by rw [hx.out]; exact Bg.limb_lt _ _
    have hl : LA 22 (Bg.intA s N) (1 + p) (.int .u32 (x : Nat)) := by rw [hx.out]; exact la_limi s N p (by omega)
    obtain ⟨B, hB⟩ : ∃ B : Nat, Hid (B = 32 * p + Lib.bitLen x) := ⟨_, rfl⟩
    have hnB : Hid (n = (B : Int)) := Lib.hid (by rw [hn.out]; unfold Bg.bl; rw [← hu.out, if_neg (by omega), Nat.add_sub_cancel, ← hx.out, hB.out])
    have hbx : Lib.bitLen x ≤ 32 := bitLen_32 hxl
    have hB2 : B ≤ 1056 := by rw [hB.out]; omega
    have e1 : ((p + 1 : Nat) : Int) - 1 = (p : Int) := by omega
    have hne : (((p + 1 : Nat) : Int) == 0) = false := by simp; omega
    have hq0 : (0 : Int) ≤ (p : Int) := by omega
    have hq1 : (p : Int) < 32 := by omega
    go_upto_block 0 with (first | (go_at_call 84; ((with_reducible refine (limbs_as N (p + 1) hu _).mono ?_); rintro e9 w2 ⟨rfl, hL⟩; replace HM := HM.call hL; clear hL)) | (first | ((with_reducible refine g_ld ?_); refine a_ld HM ?_) | ((with_reducible refine g_st ?_); refine a_st HM ?_; clear HM; intro w1 HM) | ((with_reducible refine g_al ?_); refine a_al HM ?_; clear HM; intro bk w1 HM) | ((with_reducible refine g_bx ?_); refine a_bx HM ?_; clear HM; intro bk w1 HM) | ((with_reducible refine g_bld ?_); refine a_bld ?_)))
    clear e1 hne hl hq0 hq1
    go_wp2_with fail
    go_loopw [4, 5] (fun i j wr => ∃ k v : Nat, i = .int .i64 (k : Nat) ∧ j = .int .u32 (v : Nat) ∧ v < 4294967296 ∧ k + Lib.bitLen v = B ∧ Hid (Below w.heap.size w wr)) (fun _ j _ => (intOf j).toNat)
    case atStart => exact ⟨32 * p, x, by go_num, rfl, hxl, by rw [hB.out], HM.low⟩
    case round =>
      clear HM
      obtain ⟨k, v, rfl, rfl, hv, hk, HL⟩ := hrel
      cases v with
      | zero =>
        have hkB : k = B := by rw [← hk, show Lib.bitLen 0 = 0 from rfl]; rfl
        go_wp2_with fail
        go_ret
        exact ⟨by rw [hnB.out, hkB]; rfl, HL.out⟩
      | succ v =>
        have h1 := Lib.bitLen_half (v + 1) (by omega) (by omega)
        have hgt : (0 : Int) < ((v + 1 : Nat) : Int) := by omega
        have hk2 : k < 2000 := by omega
        go_wp2_with fail
        go_roundw
        case rel => exact ⟨k + 1, (v + 1) / 2, by go_num, by simp, by omega, by omega, HL⟩
        case measure => simp [intOf]; omega
theorem Bg.used_two {N : Nat} (hN : N < Bg.lim) : (2 < Bg.used N) = ¬ N < 18446744073709551616 := by
  have hp : Bg.pw 2 = 18446744073709551616 := by rw [show (2 : Nat) = 0 + 1 + 1 from rfl, Bg.p32, Bg.p32, Bg.pw_zero]
  have h1 := Bg.used_lt hN
  apply propext
  constructor
  · intro h h2
    rcases Bg.used_ge N with h3 | h3
    · omega
    · have := Bg.pmono (show 2 ≤ Bg.used N - 1 by omega)
      omega
  · intro h
    rcases Nat.lt_or_ge 2 (Bg.used N) with h3 | h3
    · exact h3
    · have := Bg.pmono h3
      omega
end Go.Proofs.Ytekfabhmopkapaa
