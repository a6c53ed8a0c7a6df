/- The law SolverWeighs, walked. -/
import Derived.Test.YtadnddffdedjgaaSyN
import Derived.Test.YtadnddffdedjgaaRfP
namespace Go.Proofs.Ytadnddffdedjgaa
set_option maxRecDepth 8000
open Go.RowKit
theorem swsolve_f (us hs as_ : Value) (U : List Int) (H : List (List Int)) (A : List Int) (f : Nat → Rat) (w : World) (hR : RdN w us hs U H) (hA : RdI w as_ A) (he : Sv.err U H A = 0) (hf : Sv.Px U H A f) :
    Calls Try.prog 12 #[.agg #[us, hs], as_] w fun e w' => ∃ s, e = .returned (.tuple #[s, .int .i64 0]) ∧ Below w.heap.size w w' ∧ Hid (RdS 66 w' s (qrows U.length f)) := by
  refine (ssolve_any us hs as_ U H A w hR hA 0 (Lib.hid he.symm)).mono ?_
  rintro e w' ⟨s, rfl, hL, HS⟩
  obtain ⟨-, g, hg, hR1⟩ := HS.out.resolve_left (fun h => h.1 rfl)
  obtain ⟨hk, hc⟩ := Sv.err_spec he
  refine ⟨s, rfl, hL, Lib.hid ?_⟩
  have e : qrows U.length f = qrows U.length g := So.ol_congr fun i hi => by rw [Ns.Pr.uniq (Sv.chk_spec hk).1.ok hc hf.1 hg.1 i hi]
  rw [e]; exact hR1
theorem swsolve_c (us hs as_ : Value) (U : List Int) (H : List (List Int)) (A : List Int) (w : World) (hR : RdN w us hs U H) (hA : RdI w as_ A) (he : Sv.err U H A = 351) :
    Calls Try.prog 12 #[.agg #[us, hs], as_] w fun e w' => e = .returned (.tuple #[.slice none 0 0, .int .i64 351]) ∧ Below w.heap.size w w' := by
  refine (ssolve_any us hs as_ U H A w hR hA 351 (Lib.hid he.symm)).mono ?_
  rintro e w' ⟨s, rfl, hL, HS⟩
  obtain ⟨_, rfl⟩ := HS.out.resolve_right (fun h => absurd h.1 (by decide))
  exact ⟨rfl, hL⟩
theorem sw_f (us hs : Value) (U : List Int) (H : List (List Int)) (m : Nat) (G : Nat → Nat → Rat) (w : World) (hR : RdN w us hs U H) (hm : m < U.length) (hk : Ns.chk U H = 0) (hc : ¬ Ns.Circ U.length (Ns.gu U) (Ns.gh H)) (hG : Sv.Gs U H G) :
    Calls Try.prog 25 #[.agg #[us, hs], .int .i64 (m : Nat)] w fun e w' => ∃ s, e = .returned (.tuple #[s, .int .i64 0]) ∧ Below w.heap.size w w' ∧ Hid (RdS 66 w' s (qrows U.length fun k => G k m)) := by
  refine (sweights_any us hs U H (m : Nat) G w hR 0 (Lib.hid (Sv.werr_none hk ⟨by omega, by omega⟩ hc).symm) (fun _ => hG)).mono ?_
  rintro e w' ⟨s, rfl, hL, HS⟩
  obtain ⟨-, m2, e, _, hR2⟩ := HS.out.resolve_left (fun h => h.1 rfl)
  obtain rfl : m = m2 := by omega
  exact ⟨s, rfl, hL, Lib.hid hR2⟩
theorem sw_c (us hs : Value) (U : List Int) (H : List (List Int)) (w : World) (hR : RdN w us hs U H) (hm : 0 < U.length) (hk : Ns.chk U H = 0) (hc : Ns.Circ U.length (Ns.gu U) (Ns.gh H)) :
    Calls Try.prog 25 #[.agg #[us, hs], .int .i64 0] w fun e w' => e = .returned (.tuple #[.slice none 0 0, .int .i64 351]) ∧ Below w.heap.size w w' := by
  refine (sweights_any us hs U H 0 (fun _ _ => 0) w hR 351 (Lib.hid (Sv.werr_circ hk ⟨by omega, by omega⟩ hc).symm) (fun h => absurd h (by decide))).mono ?_
  rintro e w' ⟨s, rfl, hL, HS⟩
  obtain ⟨_, rfl⟩ := HS.out.resolve_right (fun h => absurd h.1 (by decide))
  exact ⟨rfl, hL⟩
theorem Sv.werr_zero {U : List Int} {H : List (List Int)} {i : Int} (hk : Ns.chk U H = 0) (h : werr U H i = 0) : ¬ Ns.Circ U.length (Ns.gu U) (Ns.gh H) := fun hc => by
  by_cases hi : 0 ≤ i ∧ i < U.length
  · rw [werr_circ hk hi hc] at h; exact absurd h (by decide)
  · rw [werr_idx hk hi] at h; exact absurd h (by decide)
theorem Sv.g_any {U : List Int} {H : List (List Int)} (hG : Ns.Good U H) : ∃ G, ¬ Ns.Circ U.length (Ns.gu U) (Ns.gh H) → Sv.Gs U H G := by
  by_cases hc : Ns.Circ U.length (Ns.gu U) (Ns.gh H)
  · exact ⟨fun _ _ => 0, fun h => absurd hc h⟩
  · obtain ⟨G, h⟩ := Sv.gs_exists hG hc
    exact ⟨G, fun _ => h⟩
set_option maxRecDepth 100000 in
set_option maxHeartbeats 8000000 in
theorem weighs_any (A : Option Addr) (xs : List Int) (c0 : Nat) (i : Int) (free : Bool) (W : World) (hI : IntsAt W A xs) (hxl : xs.length ≤ 9223372036854775807) (_ : -9223372036854775808 ≤ i) (_ : i < 9223372036854775808) :
    Calls Try.prog 8 #[.slice A xs.length c0, .int .i64 i, .bool free] W fun e w' => e = .returned (.bool true) ∧ Below W.heap.size W w' := by
  have HM := Mem.start W
  have HI := Lib.hid hI
  have zn := za_nest
  clear hI
  go_enter Try.func8, Try.ntmps8
  go_upto_region 2 with (first | (go_at_call 15; (with_reducible refine (snew_any _ _ _ _).mono ?_); rintro e9 w2 ⟨tb, rfl, HM1⟩; replace HM := HM.join HM1; clear HM1) | (first | ((with_reducible refine g_ld ?_); refine a_ld HM ?_) | ((with_reducible refine g_st ?_); refine a_st HM ?_; clear HM; intro w1 HM) | ((with_reducible refine g_al ?_); refine a_al HM ?_; clear HM; intro bk w1 HM) | ((with_reducible refine g_bx ?_); refine a_bx HM ?_; clear HM; intro bk w1 HM) | ((with_reducible refine g_bld ?_); refine a_bld ?_)))
  replace HM : Mem W [] [(tb, #[Value.slice A xs.length c0, Value.int IntKind.i64 0])] w2 := HM
  have HC : Hid (TapeC W 0 #[.slice A xs.length c0, .int .i64 0]) := ⟨A, xs, c0, 0, rfl, by omega, by omega, HI.out, hxl⟩
  clear HI
  go_upto_region 3 with (first | first | (go_at_call 16; refine (snest_any 4 free tb 0 _ [] W _ HM HC (by omega) (by omega)).mono ?_; rintro e9 w2 ⟨n, bu, bh, U, H, rb, c1, rfl, hn, hUL, hRL, HMD, HC1, HM1⟩; replace HM := HM1; replace HC := HC1; clear HM1 HC1) | ((with_reducible refine g_st ?_); refine a_st (v := .agg #[_, _]) HM ?_ (hv := sa_nest _ _ rfl rfl); clear HM; intro w1 HM) | (first | ((with_reducible refine g_ld ?_); refine a_ld HM ?_) | ((with_reducible refine g_st ?_); refine a_st HM ?_; clear HM; intro w1 HM) | ((with_reducible refine g_al ?_); refine a_al HM ?_; clear HM; intro bk w1 HM) | ((with_reducible refine g_bx ?_); refine a_bx HM ?_; clear HM; intro bk w1 HM) | ((with_reducible refine g_bld ?_); refine a_bld ?_)))
  obtain ⟨b8, rfl⟩ := HM.nm0
  have n0 := la_n0 (.slice (some ⟨bu, 0, none⟩) n n) (.slice (some ⟨bh, 0, none⟩) n n)
  have n2 := la_nest (.slice (some ⟨bu, 0, none⟩) n n) (.slice (some ⟨bh, 0, none⟩) n n)
  go_upto_region 4 with (first | (go_at_call 17; refine (sassets_any n true tb _ c1 ((b8, #[.slice (some ⟨bu, 0, none⟩) n n, .slice (some ⟨bh, 0, none⟩) n n]) :: (bu, rowsOf (U.map ic)) :: (bh, rowsOf ((rv n rb).map vc)) :: (NR rb H ++ [])) W _ HM.pick HC (by omega) (by omega)).mono ?_; rintro e9 w2 ⟨ba, As, c2, rfl, hAL, HAP, HC2, HM1⟩; replace HM := HM1; clear HM1 HC2) | (first | ((with_reducible refine g_ld ?_); refine a_ld HM ?_) | ((with_reducible refine g_st ?_); refine a_st HM ?_; clear HM; intro w1 HM) | ((with_reducible refine g_al ?_); refine a_al HM ?_; clear HM; intro bk w1 HM) | ((with_reducible refine g_bx ?_); refine a_bx HM ?_; clear HM; intro bk w1 HM) | ((with_reducible refine g_bld ?_); refine a_bld ?_)))
  have inA := Sv.asset_in HAP.out
  subst hUL
  have hG := HMD.out.good
  have hgood := hG.good
  have hchk := Sv.chk_ok hgood (A := As) (by omega) inA
  have hN : RdN w2 (.slice (some ⟨bu, 0, none⟩) U.length U.length) (.slice (some ⟨bh, 0, none⟩) U.length U.length) U H := rdN_own HM rfl hG.sh.2 hRL HMD.out.lens (by simp) (by simp) (fun q hq => by simp [hq])
  have hAS : RdI w2 (.slice (some ⟨ba, 0, none⟩) U.length U.length) As := by
    have := (own_ints (b := ba) (A := As)).rd HM (by simp)
    rwa [hAL] at this
  have hbx : Rbk w2 b8 #[.slice (some ⟨bu, 0, none⟩) U.length U.length, .slice (some ⟨bh, 0, none⟩) U.length U.length] := (HM.get (by ((repeat (first | exact Look.here | refine Look.there ?_)); done))).rbk
  have HB2 := Lib.hid HM.low
  have hn8 : U.length ≤ 8 := by omega
  obtain ⟨G, hGs⟩ := Sv.g_any hG
  obtain ⟨r, hr⟩ : ∃ r, Hid (r = Sv.werr U H i) := ⟨_, Lib.hid rfl⟩
  have hGr : r = 0 → Sv.Gs U H G := fun h => hGs (Sv.werr_zero hgood (hr.out.symm.trans h))
  have V1 := fun w' (hB : Below w2.heap.size w2 w') => sweights_any _ _ U H i G w' (hN.below hB) r hr hGr
  have V2 := fun w' (hB : Below w2.heap.size w2 w') => rweights_any _ _ U H i G w' (hN.below hB) r hr hGr
  have HAB : Hid (∀ i, i < U.length → (Ns.gu As i).natAbs ≤ 1000000000) := Lib.hid (fun i hi => by
    rw [Ns.gu_at (List.getElem?_eq_getElem (show i < As.length by omega))]
    obtain ⟨h1, h2, _⟩ := HAP.out _ (List.getElem_mem (show i < As.length by omega))
    omega)
  have HBX := Lib.hid hbx
  have HGR := Lib.hid hGr
  have HIN := Lib.hid inA
  have HNN := Lib.hid hN
  have HAS := Lib.hid hAS
  have HGS := Lib.hid hGs
  clear hbx HM hn HAP HMD hGr hGs hRL inA hN hAS
  have HM := Mem.start w2
  go_upto_region 5 with (first | (go_at_call 25; refine (V1 _ HM.low).mono ?_; rintro e9 w5 ⟨s1, rfl, hL1, HS1⟩; replace HM := HM.call hL1) | (first | ((with_reducible refine g_ld ?_); refine a_ld HM ?_) | ((with_reducible refine g_st ?_); refine a_st HM ?_; clear HM; intro w1 HM) | ((with_reducible refine g_al ?_); refine a_al HM ?_; clear HM; intro bk w1 HM) | ((with_reducible refine g_bx ?_); refine a_bx HM ?_; clear HM; intro bk w1 HM) | ((with_reducible refine g_bld ?_); refine a_bld ?_)))
  go_upto_region 6 with (first | (go_at_call 26; refine (V2 _ HM.low).mono ?_; rintro e9 w6 ⟨s2, rfl, hL2, HS2⟩; replace HM := HM.call hL2) | (first | ((with_reducible refine g_ld ?_); refine a_ld HM ?_) | ((with_reducible refine g_st ?_); refine a_st HM ?_; clear HM; intro w1 HM) | ((with_reducible refine g_al ?_); refine a_al HM ?_; clear HM; intro bk w1 HM) | ((with_reducible refine g_bx ?_); refine a_bx HM ?_; clear HM; intro bk w1 HM) | ((with_reducible refine g_bld ?_); refine a_bld ?_)))
  obtain ⟨m0, f0, hm0, hR1, hR2, hfit0⟩ := Sv.Wans.both (fun _ => hn8) HGR.out (Sv.Wans.below HS1.out hL2) HS2.out
  have E := fun w' (hB : Below w6.heap.size w6 w') => same_any s1 s2 m0 f0 w' (RdS.below hR1 hB) (RdS.below hR2 hB) hm0 hfit0
  have HBX6 := Lib.hid (HM.rro HBX.out (by simp))
  have HB6 := Lib.hid (below_seq HB2.out HM.low)
  have HN6 := Lib.hid (HNN.out.below HM.low)
  have HA6 := Lib.hid (HAS.out.below HM.low)
  clear V1 V2 hL1 hL2 HS1 HS2 hR1 hR2 hfit0 hm0 HBX HB2 HNN HAS HM hr HGR
  have HM := Mem.start w6
  go_upto_region 8 with (first | (go_at_call 14; ((with_reducible refine (E _ HM.low).mono ?_); rintro e9 w2 ⟨rfl, hL⟩; replace HM := HM.call hL; clear hL)) | (first | ((with_reducible refine g_ld ?_); refine a_ld HM ?_) | ((with_reducible refine g_st ?_); refine a_st HM ?_; clear HM; intro w1 HM) | ((with_reducible refine g_al ?_); refine a_al HM ?_; clear HM; intro bk w1 HM) | ((with_reducible refine g_bx ?_); refine a_bx HM ?_; clear HM; intro bk w1 HM) | ((with_reducible refine g_bld ?_); refine a_bld ?_)))
  clear E
  have hA6 := HA6.out
  rw [← hAL] at hA6
  by_cases hcc : Ns.Circ U.length (Ns.gu U) (Ns.gh H)
  · have he := Sv.err_circ hchk hcc
    have S1 := fun w' (hB : Below w6.heap.size w6 w') => swsolve_c _ _ _ U H As w' (HN6.out.below hB) (HA6.out.below hB) he
    have V := fun (hm : 0 < U.length) w' (hB : Below w6.heap.size w6 w') => sw_c _ _ U H w' (HN6.out.below hB) hm hgood hcc
    clear he hcc hchk hG hgood hA6
    go_wp2_with (first | fail | (first | ((with_reducible refine g_ld ?_); refine a_ld HM ?_) | ((with_reducible refine g_st ?_); refine a_st HM ?_; clear HM; intro w1 HM) | ((with_reducible refine g_al ?_); refine a_al HM ?_; clear HM; intro bk w1 HM) | ((with_reducible refine g_bx ?_); refine a_bx HM ?_; clear HM; intro bk w1 HM) | ((with_reducible refine g_bld ?_); refine a_bld ?_)))
    go_loopw [6, 14] (fun rv iv wr => rv = .bool false ∧ iv = .int .i64 0 ∧ Mem w6 [] [] wr) (fun _ _ _ => 0)
    case atStart => exact ⟨rfl, rfl, HM⟩
    case round =>
      clear HM
      obtain ⟨rfl, rfl, HM⟩ := hrel
      by_cases hz : 0 < U.length
      · have hz1 : (0 : Int) < U.length := by omega
        have V0 := V hz
        clear V
        go_wp2_with (first | first | (go_at_call 25; ((with_reducible refine (V0 _ HM.low).mono ?_); rintro e9 w2 ⟨rfl, hL⟩; replace HM := HM.call hL; clear hL)) | (go_at_call 12; ((with_reducible refine (S1 _ HM.low).mono ?_); rintro e9 w2 ⟨rfl, hL⟩; replace HM := HM.call hL; clear hL)) | (go_at_call 11; ((with_reducible refine (awake35_any _).mono ?_); rintro e9 w2 ⟨rfl, hL⟩; replace HM := HM.call hL; clear hL)) | (first | ((with_reducible refine g_ld ?_); refine a_ld HM ?_) | ((with_reducible refine g_st ?_); refine a_st HM ?_; clear HM; intro w1 HM) | ((with_reducible refine g_al ?_); refine a_al HM ?_; clear HM; intro bk w1 HM) | ((with_reducible refine g_bx ?_); refine a_bx HM ?_; clear HM; intro bk w1 HM) | ((with_reducible refine g_bld ?_); refine a_bld ?_)))
        go_ret
        exact ⟨rfl, below_seq HB6.out HM.low⟩
      · have hz1 : ¬ (0 : Int) < U.length := by omega
        clear V
        go_wp2_with (first | (go_at_call 11; ((with_reducible refine (awake35_any _).mono ?_); rintro e9 w2 ⟨rfl, hL⟩; replace HM := HM.call hL; clear hL)) | (first | ((with_reducible refine g_ld ?_); refine a_ld HM ?_) | ((with_reducible refine g_st ?_); refine a_st HM ?_; clear HM; intro w1 HM) | ((with_reducible refine g_al ?_); refine a_al HM ?_; clear HM; intro bk w1 HM) | ((with_reducible refine g_bx ?_); refine a_bx HM ?_; clear HM; intro bk w1 HM) | ((with_reducible refine g_bld ?_); refine a_bld ?_)))
        go_ret
        exact ⟨rfl, below_seq HB6.out HM.low⟩
  have he := Sv.err_none hchk hcc
  have hgs := HGS.out hcc
  obtain ⟨f, hf⟩ := Sv.px_exists hG hcc (Sv.gu_abs hAL HIN.out)
  have S1 := fun w' (hB : Below w6.heap.size w6 w') => swsolve_f _ _ _ U H As f w' (HN6.out.below hB) (HA6.out.below hB) he hf
  have V := fun (m : Nat) (hm : m < U.length) w' (hB : Below w6.heap.size w6 w') => sw_f _ _ U H m G w' (HN6.out.below hB) hm hgood hcc hgs
  have HCD : Hid (∀ i, i < U.length → Ns.Cd U.length (fun k => G k i)) := Lib.hid (fun i hi => Ns.cd_weights hG.ok hcc hgs hi)
  have HSUM : Hid (∀ i, i < U.length → Mx.sm U.length (fun k => (Ns.gu As k : Rat) * G k i) = f i) := Lib.hid (fun i hi => Ns.weights_sum hG.ok hcc hgs hf.1 hi)
  have HPOS : Hid (∀ k, k < U.length → ∀ i, i < U.length → 0 ≤ G k i) := Lib.hid (fun k hk => Ns.weights_nonneg hG.ok hcc hgs hk)
  have HFT := Lib.hid hf.2
  clear he hcc hchk hG hgood hf hgs HIN HGS hA6
  have ze := Ex.za
  go_wp2_with (first | fail | (first | ((with_reducible refine g_ld ?_); refine a_ld HM ?_) | ((with_reducible refine g_st ?_); refine a_st HM ?_; clear HM; intro w1 HM) | ((with_reducible refine g_al ?_); refine a_al HM ?_; clear HM; intro bk w1 HM) | ((with_reducible refine g_bx ?_); refine a_bx HM ?_; clear HM; intro bk w1 HM) | ((with_reducible refine g_bld ?_); refine a_bld ?_)))
  go_loopw [6, 14] (fun rv iv wr => ∃ k : Nat, rv = .bool false ∧ iv = .int .i64 (k : Nat) ∧ k ≤ U.length ∧ Mem w6 [] [] wr) (fun _ iv _ => U.length - (intOf iv).toNat)
  case atStart => exact ⟨0, rfl, rfl, by omega, HM⟩
  case round =>
    clear HM
    obtain ⟨k, rfl, rfl, hk, HM⟩ := hrel
    by_cases hkt : k < U.length
    · have hkt1 : (k : Int) < U.length := by omega
      have VK := V k hkt
      go_upto_region 12 with (first | (go_at_call 25; refine (VK _ HM.low).mono ?_; rintro e9 w7 ⟨s3, rfl, hL3, HS3⟩; replace HM := HM.call hL3) | (first | ((with_reducible refine g_ld ?_); refine a_ld HM ?_) | ((with_reducible refine g_st ?_); refine a_st HM ?_; clear HM; intro w1 HM) | ((with_reducible refine g_al ?_); refine a_al HM ?_; clear HM; intro bk w1 HM) | ((with_reducible refine g_bx ?_); refine a_bx HM ?_; clear HM; intro bk w1 HM) | ((with_reducible refine g_bld ?_); refine a_bld ?_)))
      go_upto_region 13 with (first | (go_at_call 12; refine (S1 _ HM.low).mono ?_; rintro e9 w8 ⟨s4, rfl, hL4, HS4⟩; replace HM := HM.call hL4) | (first | ((with_reducible refine g_ld ?_); refine a_ld HM ?_) | ((with_reducible refine g_st ?_); refine a_st HM ?_; clear HM; intro w1 HM) | ((with_reducible refine g_al ?_); refine a_al HM ?_; clear HM; intro bk w1 HM) | ((with_reducible refine g_bx ?_); refine a_bx HM ?_; clear HM; intro bk w1 HM) | ((with_reducible refine g_bld ?_); refine a_bld ?_)))
      have HW8 := Lib.hid (RdS.below HS3.out hL4)
      have HM8 := Lib.hid HM
      have HN8 := Lib.hid (HN6.out.below HM.low)
      have HA8 := Lib.hid (HA6.out.below HM.low)
      have HBX8 := Lib.hid (HM.rro HBX6.out (by simp))
      obtain ⟨Aw, pw, rfl⟩ := HW8.out.form66
      obtain ⟨Ap, pp, rfl⟩ := HS4.out.form66
      have kpp : ∃ b off cs, Ap = some ⟨b, off, none⟩ ∧ Hid (Rbk w8 b cs) ∧ LA 42 cs (off + k * 66) (.agg (Rt.qA (f k))) := HS4.out.at66 hkt
      obtain ⟨bq, oq, csq, rfl, HBQ, kq⟩ := kpp
      obtain ⟨y, hy⟩ : ∃ x, Hid (x = f k) := ⟨_, Lib.hid rfl⟩
      rw [← hy.out] at kq
      have fy : Rt.Fit y := by rw [hy.out]; exact HFT.out k hkt
      have HSF : Hid (∀ m, m ≤ U.length → Rt.Fit (Mx.sm m fun q => (Ns.gu As q : Rat) * G q k)) := Lib.hid (fun m hm => Ns.cd_sum (HCD.out k hkt) hn8 (fun i hi => by have := HAB.out i hi; omega) hm)
      clear HM hL3 hL4 HS3 HS4 VK
      have HM := Mem.start w8
      have s0 := Ex.sa0 0
      have I0 := fun w => int_ex 0 0 (by decide) (by decide) (Lib.hid rfl) w
      go_upto_region 20 with (first | (go_at_call 18; ((with_reducible refine (I0 _).mono ?_); rintro e9 w2 ⟨rfl, hL⟩; replace HM := HM.call hL; clear hL)) | (first | ((with_reducible refine g_ld ?_); refine a_ld HM ?_) | ((with_reducible refine g_st ?_); refine a_st HM ?_; clear HM; intro w1 HM) | ((with_reducible refine g_al ?_); refine a_al HM ?_; clear HM; intro bk w1 HM) | ((with_reducible refine g_bx ?_); refine a_bx HM ?_; clear HM; intro bk w1 HM) | ((with_reducible refine g_bld ?_); refine a_bld ?_)))
      obtain ⟨b19, rfl⟩ := HM.nm0
      clear I0 s0
      go_wp2_with (first | fail | (first | ((with_reducible refine g_ld ?_); refine a_ld HM ?_) | ((with_reducible refine g_st ?_); refine a_st HM ?_; clear HM; intro w1 HM) | ((with_reducible refine g_al ?_); refine a_al HM ?_; clear HM; intro bk w1 HM) | ((with_reducible refine g_bx ?_); refine a_bx HM ?_; clear HM; intro bk w1 HM) | ((with_reducible refine g_bld ?_); refine a_bld ?_)))
      go_loopw [6, 20] (fun rv iv wr => ∃ (m : Nat) (S : Rat), rv = .bool false ∧ iv = .int .i64 (m : Nat) ∧ m ≤ U.length ∧ Hid (S = Mx.sm m fun q => (Ns.gu As q : Rat) * G q k) ∧ Mem w8 [] [(b19, Ex.A (.ok S))] wr) (fun _ iv _ => U.length - (intOf iv).toNat)
      case atStart => exact ⟨0, 0, rfl, rfl, by omega, Lib.hid rfl, HM⟩
      case round =>
        clear HM
        obtain ⟨m, S, rfl, rfl, hm, HSV, HM⟩ := hrel
        have fS : Rt.Fit S := by rw [HSV.out]; exact HSF.out m hm
        by_cases hmt : m < U.length
        · have hmt1 : (m : Int) < U.length := by omega
          obtain ⟨bp, offp, csp, rfl, HBP, kp⟩ := HW8.out.at66 hmt
          obtain ⟨x, hx⟩ : ∃ x, Hid (x = G m k) := ⟨_, Lib.hid rfl⟩
          rw [← hx.out] at kp
          have fx : Rt.Fit x := by
            have := Ns.cd_self (HCD.out k hkt) hmt
            rw [hx.out]; exact this
          obtain ⟨g, hg⟩ : ∃ g, Hid (g = x.num.sign) := ⟨_, Lib.hid rfl⟩
          have hg0 : ¬ g < 0 := by rw [hg.out]; exact num_sign_nonneg (by rw [hx.out]; exact HPOS.out m hmt k hkt)
          have SG := fun w => sign_ex x g fx hg w
          obtain ⟨a, ha⟩ : ∃ a, As[m]? = some a := ⟨_, List.getElem?_eq_getElem (by omega)⟩
          obtain ⟨bA, offA, csA, e, HBA, ka⟩ := HA8.out.at_ ha
          injection e with e
          injection e with e1 e2
          subst e1 e2
          rw [Nat.zero_add] at ka
          have ea := Ns.gu_at ha
          have hab := HAB.out m hmt
          rw [ea] at hab
          obtain ⟨xa, hxa⟩ : ∃ x, Hid (x = (a : Rat)) := ⟨_, Lib.hid rfl⟩
          obtain ⟨z, hz⟩ : ∃ z, Hid (z = x * xa) := ⟨_, Lib.hid rfl⟩
          obtain ⟨S2, hS2⟩ : ∃ s, Hid (s = S + z) := ⟨_, Lib.hid rfl⟩
          have hS2v : S2 = Mx.sm (m + 1) fun q => (Ns.gu As q : Rat) * G q k := by
            rw [hS2.out, Mx.sm, ← HSV.out, hz.out, hxa.out, hx.out, ea, Rat.mul_comm]
          have HS2V := Lib.hid hS2v
          have fz : Rt.Fit z := by
            have := Ns.cd_one (HCD.out k hkt) hmt (c := a) (by omega)
            rw [hz.out, hxa.out, hx.out, Rat.mul_comm]; exact this
          have fS2 : Rt.Fit S2 := by rw [hS2v]; exact HSF.out _ (by omega)
          have fxa : Rt.Fit xa := by
            rw [hxa.out, Rt.int_divInt]
            exact (Rt.Bd.divInt (i := 30) (j := 1) (by decide) (Bg.p2_small 30 1073741824 (by unfold Bg.p2; rfl) (by omega)) (Bg.p2_small 1 2 (by unfold Bg.p2; rfl) (by decide))).fit
          have IT := fun w => int_ex a xa (by omega) (by omega) hxa w
          have ML := fun w => mul_ex (.ok x) (.ok xa) fx fxa (.ok z) (Lib.hid (Ex.mul_eq hz.out fz)) w
          have AD := fun w => add_ex (.ok S) (.ok z) fS fz (.ok S2) (Lib.hid (Ex.add_eq hS2.out fS2)) w
          have k8 := Ex.laA S
          have s8 := Ex.saA S S2
          clear ha ea hS2v
          go_upto_region 25 with (first | first | (go_at_call 20; ((with_reducible refine (of_ex x _).mono ?_); rintro e9 w2 ⟨rfl, hL⟩; replace HM := HM.call hL; clear hL)) | (go_at_call 19; ((with_reducible refine (SG _).mono ?_); rintro e9 w2 ⟨rfl, hL⟩; replace HM := HM.call hL; clear hL)) | (first | ((with_reducible refine g_ld ?_); refine a_ld HM ?_) | ((with_reducible refine g_st ?_); refine a_st HM ?_; clear HM; intro w1 HM) | ((with_reducible refine g_al ?_); refine a_al HM ?_; clear HM; intro bk w1 HM) | ((with_reducible refine g_bx ?_); refine a_bx HM ?_; clear HM; intro bk w1 HM) | ((with_reducible refine g_bld ?_); refine a_bld ?_)))
          refine start_M [13] HM (by kernel_rfl) (fun w0x H9 => ?_)
          replace HM := H9; clear H9
          refine k_ld 0 [12, 13] (heldE HM) ?_
          refine k_mv 1 (heldE HM) ?_
          refine k_mv 2 (heldE HM) ?_
          refine k_ia 3 (heldE HM) ?_
          refine k_ld 4 [5, 10, 11, 12, 13] (heldE HM) ?_
          refine k_mv 6 (heldE HM) ?_
          refine k_mv 7 (heldE HM) ?_
          refine k_ia 8 (heldE HM) ?_
          refine k_ld 9 [10, 11, 12, 13] (heldE HM) ?_
          refine j_one 5 fun K9 hK9 => ?_
          refine j_call1 (v := ?_) HM ?_ ?_; rotate_left 1; (focus (with_reducible (first | exact IT _ | exact of_ex _ _ | exact ML _ | exact AD _))); clear HM; intro w1 HM
          refine hK9 _ _ (heldE HM) ?_; clear hK9 K9
          refine j_one 10 fun K9 hK9 => ?_
          refine j_call1 (v := ?_) HM ?_ ?_; rotate_left 1; (focus (with_reducible (first | exact IT _ | exact of_ex _ _ | exact ML _ | exact AD _))); clear HM; intro w1 HM
          refine hK9 _ _ (heldE HM) ?_; clear hK9 K9
          refine j_one 11 fun K9 hK9 => ?_
          refine j_call2 (v := ?_) HM ?_ ?_; rotate_left 1; (focus (with_reducible (first | exact IT _ | exact of_ex _ _ | exact ML _ | exact AD _))); clear HM; intro w1 HM
          refine hK9 _ _ (heldE HM) ?_; clear hK9 K9
          refine j_one 12 fun K9 hK9 => ?_
          refine j_call2 (v := ?_) HM ?_ ?_; rotate_left 1; (focus (with_reducible (first | exact IT _ | exact of_ex _ _ | exact ML _ | exact AD _))); clear HM; intro w1 HM
          refine hK9 _ _ (heldE HM) ?_; clear hK9 K9
          refine j_one 13 fun K9 hK9 => ?_
          refine j_st HM ?_; clear HM; intro w1 HM
          refine hK9 _ _ heldN ?_; clear hK9 K9
          refine wpAnyL_done (by kernel_rfl) ?_ _
          go_wp2_with fail
          go_roundw
          case rel => exact ⟨m + 1, S2, rfl, by go_num, by omega, HS2V, HM⟩
          case measure => simp [intOf]; omega
        · obtain rfl : m = U.length := by omega
          obtain rfl : y = S := by rw [hy.out, HSV.out]; exact (HSUM.out k hkt).symm
          have kE := Ex.lae y
          have kV := Ex.lav y
          go_upto_region 26 with (first | fail | (first | ((with_reducible refine g_ld ?_); refine a_ld HM ?_) | ((with_reducible refine g_st ?_); refine a_st HM ?_; clear HM; intro w1 HM) | ((with_reducible refine g_al ?_); refine a_al HM ?_; clear HM; intro bk w1 HM) | ((with_reducible refine g_bx ?_); refine a_bx HM ?_; clear HM; intro bk w1 HM) | ((with_reducible refine g_bld ?_); refine a_bld ?_)))
          refine start_M [] HM (by kernel_rfl) (fun w0x H9 => ?_)
          replace HM := H9; clear H9
          refine k_fa 0 (heldE HM) ?_
          refine k_ld 1 [] (heldE HM) ?_
          refine k_bin 2 (heldE HM) ?_
          refine k_mv 3 (heldE HM) ?_
          refine k_fa 4 (heldE HM) ?_
          refine k_ld 5 [] (heldE HM) ?_
          refine k_mv 6 (heldE HM) ?_
          refine k_mv 7 (heldE HM) ?_
          refine k_ia 8 (heldE HM) ?_
          refine k_ld 9 [] (heldE HM) ?_
          refine t_eq (i := 10) (v := ?_) [] rfl rfl rfl (by kernel_rfl) (fun _ _ _ h => h) (heldE HM) ?_ ?_; rotate_left 1; (focus ((refine y_cmpq .neq (y) (y) false (.inr rfl) (by simp) (fy) (fy) (x := ?_) (y := ?_) (t := ?_) ?_ ?_ ?_ ?_; rotate_left 3; (focus rfl); (focus rfl); (focus ((conv => lhs; whnf) <;> rfl)); ((conv => lhs; whnf) <;> rfl)))); ((try simp only [List.setIfInBounds_toArray]); (try simp only [List.set_cons_succ]); (try simp only [List.set_cons_zero]))
          refine k_pick 11 (heldE HM) ?_
          refine wpAnyL_done (by kernel_rfl) ?_ _
          go_wp2_with fail
          go_roundw
          case rel => exact ⟨k + 1, rfl, by go_num, by omega, HM8.out.call HM.low⟩
          case measure => simp [intOf]; omega
    · obtain rfl : k = U.length := by omega
      go_wp2_with (first | (go_at_call 11; ((with_reducible refine (awake35_any _).mono ?_); rintro e9 w2 ⟨rfl, hL⟩; replace HM := HM.call hL; clear hL)) | (first | ((with_reducible refine g_ld ?_); refine a_ld HM ?_) | ((with_reducible refine g_st ?_); refine a_st HM ?_; clear HM; intro w1 HM) | ((with_reducible refine g_al ?_); refine a_al HM ?_; clear HM; intro bk w1 HM) | ((with_reducible refine g_bx ?_); refine a_bx HM ?_; clear HM; intro bk w1 HM) | ((with_reducible refine g_bld ?_); refine a_bld ?_)))
      go_ret
      exact ⟨rfl, below_seq HB6.out HM.low⟩
end Go.Proofs.Ytadnddffdedjgaa
