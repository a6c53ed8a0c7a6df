/- The law SolverOfMadeFunds, walked. -/
import Derived.Test.YtadnddffdedjgaaSyO
import Derived.Test.YtadnddffdedjgaaRfN
namespace Go.Proofs.Ytadnddffdedjgaa
set_option maxRecDepth 8000
open Go.RowKit
theorem ssolve_f (us hs as_ : Value) (U : List Int) (H : List (List Int)) (A : List Int) (f : Nat → Rat) (w : World) (hR : RdN w us hs U H) (hA : RdI w as_ A) (he : Sv.err U H A = 0) (hf : Sv.Px U H A f) :
    Calls Try.prog 12 #[.agg #[us, hs], as_] w fun e w' => ∃ s, e = .returned (.tuple #[s, .int .i64 0]) ∧ Below w.heap.size w w' ∧ Hid (RdS 66 w' s (qrows U.length f)) := by
  refine (ssolve_any us hs as_ U H A w hR hA 0 (Lib.hid he.symm)).mono ?_
  rintro e w' ⟨s, rfl, hL, HS⟩
  obtain ⟨-, g, hg, hR1⟩ := HS.out.resolve_left (fun h => h.1 rfl)
  obtain ⟨hk, hc⟩ := Sv.err_spec he
  refine ⟨s, rfl, hL, Lib.hid ?_⟩
  have e : qrows U.length f = qrows U.length g := So.ol_congr fun i hi => by rw [Ns.Pr.uniq (Sv.chk_spec hk).1.ok hc hf.1 hg.1 i hi]
  rw [e]; exact hR1
theorem rSolve_f (us hs as_ : Value) (U : List Int) (H : List (List Int)) (A : List Int) (f : Nat → Rat) (w : World) (hR : RdN w us hs U H) (hA : RdI w as_ A) (he : Sv.err U H A = 0) (hf : Sv.Px U H A f) :
    Calls Try.prog 13 #[.agg #[us, hs], as_] w fun e w' => ∃ s, e = .returned (.tuple #[s, .int .i64 0]) ∧ Below w.heap.size w w' ∧ Hid (RdS 66 w' s (qrows U.length f)) := by
  refine (rSolve_any us hs as_ U H A w hR hA 0 (Lib.hid he.symm)).mono ?_
  rintro e w' ⟨s, rfl, hL, HS⟩
  obtain ⟨-, g, hg, hR1⟩ := HS.out.resolve_left (fun h => h.1 rfl)
  obtain ⟨hk, hc⟩ := Sv.err_spec he
  refine ⟨s, rfl, hL, Lib.hid ?_⟩
  have e : qrows U.length f = qrows U.length g := So.ol_congr fun i hi => by rw [Ns.Pr.uniq (Sv.chk_spec hk).1.ok hc hf.1 hg.1 i hi]
  rw [e]; exact hR1
theorem ssolve_c (us hs as_ : Value) (U : List Int) (H : List (List Int)) (A : List Int) (w : World) (hR : RdN w us hs U H) (hA : RdI w as_ A) (he : Sv.err U H A = 351) :
    Calls Try.prog 12 #[.agg #[us, hs], as_] w fun e w' => e = .returned (.tuple #[.slice none 0 0, .int .i64 351]) ∧ Below w.heap.size w w' := by
  refine (ssolve_any us hs as_ U H A w hR hA 351 (Lib.hid he.symm)).mono ?_
  rintro e w' ⟨s, rfl, hL, HS⟩
  obtain ⟨_, rfl⟩ := HS.out.resolve_right (fun h => absurd h.1 (by decide))
  exact ⟨rfl, hL⟩
theorem rSolve_c (us hs as_ : Value) (U : List Int) (H : List (List Int)) (A : List Int) (w : World) (hR : RdN w us hs U H) (hA : RdI w as_ A) (he : Sv.err U H A = 351) :
    Calls Try.prog 13 #[.agg #[us, hs], as_] w fun e w' => e = .returned (.tuple #[.slice none 0 0, .int .i64 351]) ∧ Below w.heap.size w w' := by
  refine (rSolve_any us hs as_ U H A w hR hA 351 (Lib.hid he.symm)).mono ?_
  rintro e w' ⟨s, rfl, hL, HS⟩
  obtain ⟨_, rfl⟩ := HS.out.resolve_right (fun h => absurd h.1 (by decide))
  exact ⟨rfl, hL⟩
set_option maxRecDepth 100000 in
set_option maxHeartbeats 8000000 in
theorem mdf_any (A : Option Addr) (xs : List Int) (c0 : Nat) (free : Bool) (W : World) (hI : IntsAt W A xs) (hxl : xs.length ≤ 9223372036854775807) :
    Calls Try.prog 9 #[.slice A xs.length c0, .bool free] W fun e w' => e = .returned (.bool true) ∧ Below W.heap.size W w' := by
  have HM := Mem.start W
  have HI := Lib.hid hI
  have zn := za_nest
  clear hI
  go_enter Try.func9, Try.ntmps9
  go_upto_region 2 with (first | (go_at_call 15; (with_reducible refine (snew_any _ _ _ _).mono ?_); rintro e9 w2 ⟨tb, rfl, HM1⟩; replace HM := HM.join HM1; clear HM1) | (first | ((with_reducible refine g_ld ?_); refine a_ld HM ?_) | ((with_reducible refine g_st ?_); refine a_st HM ?_; clear HM; intro w1 HM) | ((with_reducible refine g_al ?_); refine a_al HM ?_; clear HM; intro bk w1 HM) | ((with_reducible refine g_bx ?_); refine a_bx HM ?_; clear HM; intro bk w1 HM) | ((with_reducible refine g_bld ?_); refine a_bld ?_)))
  replace HM : Mem W [] [(tb, #[Value.slice A xs.length c0, Value.int IntKind.i64 0])] w2 := HM
  have HC : Hid (TapeC W 0 #[.slice A xs.length c0, .int .i64 0]) := ⟨A, xs, c0, 0, rfl, by omega, by omega, HI.out, hxl⟩
  clear HI
  go_upto_region 3 with (first | first | (go_at_call 16; refine (snest_any 5 free tb 0 _ [] W _ HM HC (by omega) (by omega)).mono ?_; rintro e9 w2 ⟨n, bu, bh, U, H, rb, c1, rfl, hn, hUL, hRL, HMD, HC1, HM1⟩; replace HM := HM1; replace HC := HC1; clear HM1 HC1) | ((with_reducible refine g_st ?_); refine a_st (v := .agg #[_, _]) HM ?_ (hv := sa_nest _ _ rfl rfl); clear HM; intro w1 HM) | (first | ((with_reducible refine g_ld ?_); refine a_ld HM ?_) | ((with_reducible refine g_st ?_); refine a_st HM ?_; clear HM; intro w1 HM) | ((with_reducible refine g_al ?_); refine a_al HM ?_; clear HM; intro bk w1 HM) | ((with_reducible refine g_bx ?_); refine a_bx HM ?_; clear HM; intro bk w1 HM) | ((with_reducible refine g_bld ?_); refine a_bld ?_)))
  obtain ⟨b6, rfl⟩ := HM.nm0
  have n0 := la_n0 (.slice (some ⟨bu, 0, none⟩) n n) (.slice (some ⟨bh, 0, none⟩) n n)
  have n2 := la_nest (.slice (some ⟨bu, 0, none⟩) n n) (.slice (some ⟨bh, 0, none⟩) n n)
  go_upto_region 4 with (first | (go_at_call 17; refine (sassets_any n true tb _ c1 ((b6, #[.slice (some ⟨bu, 0, none⟩) n n, .slice (some ⟨bh, 0, none⟩) n n]) :: (bu, rowsOf (U.map ic)) :: (bh, rowsOf ((rv n rb).map vc)) :: (NR rb H ++ [])) W _ HM.pick HC (by omega) (by omega)).mono ?_; rintro e9 w2 ⟨ba, As, c2, rfl, hAL, HAP, HC2, HM1⟩; replace HM := HM1; clear HM1 HC2) | (first | ((with_reducible refine g_ld ?_); refine a_ld HM ?_) | ((with_reducible refine g_st ?_); refine a_st HM ?_; clear HM; intro w1 HM) | ((with_reducible refine g_al ?_); refine a_al HM ?_; clear HM; intro bk w1 HM) | ((with_reducible refine g_bx ?_); refine a_bx HM ?_; clear HM; intro bk w1 HM) | ((with_reducible refine g_bld ?_); refine a_bld ?_)))
  have inA := Sv.asset_in HAP.out
  subst hUL
  have hchk := Sv.chk_ok HMD.out.good.good (A := As) (by omega) inA
  have hN : RdN w2 (.slice (some ⟨bu, 0, none⟩) U.length U.length) (.slice (some ⟨bh, 0, none⟩) U.length U.length) U H := rdN_own HM rfl HMD.out.good.sh.2 hRL HMD.out.lens (by simp) (by simp) (fun q hq => by simp [hq])
  have hAS : RdI w2 (.slice (some ⟨ba, 0, none⟩) U.length U.length) As := by
    have := (own_ints (b := ba) (A := As)).rd HM (by simp)
    rwa [hAL] at this
  have hbx : Rbk w2 b6 #[.slice (some ⟨bu, 0, none⟩) U.length U.length, .slice (some ⟨bh, 0, none⟩) U.length U.length] := (HM.get (by ((repeat (first | exact Look.here | refine Look.there ?_)); done))).rbk
  have HBX := Lib.hid hbx
  have HN1 := Lib.hid hN
  have HB2 := Lib.hid HM.low
  have hn8 : U.length ≤ 8 := by omega
  have hcase : (free = true ∧ Ns.Circ U.length (Ns.gu U) (Ns.gh H)) ∨ (free = false ∧ ¬ Ns.Circ U.length (Ns.gu U) (Ns.gh H)) ∨ (free = true ∧ ¬ Ns.Circ U.length (Ns.gu U) (Ns.gh H)) := by
    cases free
    · exact .inr (.inl ⟨rfl, (Sv.made_err HMD.out (A := As) (by omega) inA).2⟩)
    · by_cases h : Ns.Circ U.length (Ns.gu U) (Ns.gh H)
      · exact .inl ⟨rfl, h⟩
      · exact .inr (.inr ⟨rfl, h⟩)
  clear hbx HM hn
  have HM := Mem.start w2
  rcases hcase with ⟨rfl, hcc⟩ | hcase
  · have he := Sv.err_circ hchk hcc
    have S1 := fun w' (hB : Below w2.heap.size w2 w') => ssolve_c _ _ _ U H As w' (hN.below hB) (hAS.below hB) he
    have S2 := fun w' (hB : Below w2.heap.size w2 w') => rSolve_c _ _ _ U H As w' (hN.below hB) (hAS.below hB) he
    have E := fun w' => same_any (.slice none 0 0) (.slice none 0 0) 0 (fun _ => 0) w' (Sv.rdS_nil 66 w' _) (Sv.rdS_nil 66 w' _) (by omega) (fun i hi => by omega)
    have K := fun w' (hB : Below w2.heap.size w2 w') => rcircle_any _ _ U H w' (hN.below hB) HMD.out.good 351 (fun h => absurd hcc h) (fun _ => rfl)
    clear hcc he hN hAS hchk inA HMD HAP HN1
    go_wp2_with (first | first | (go_at_call 12; ((with_reducible refine (S1 _ HM.low).mono ?_); rintro e9 w2 ⟨rfl, hL⟩; replace HM := HM.call hL; clear hL)) | (go_at_call 13; ((with_reducible refine (S2 _ HM.low).mono ?_); rintro e9 w2 ⟨rfl, hL⟩; replace HM := HM.call hL; clear hL)) | (go_at_call 14; ((with_reducible refine (E _).mono ?_); rintro e9 w2 ⟨rfl, hL⟩; replace HM := HM.call hL; clear hL)) | (go_at_call 27; ((with_reducible refine (K _ HM.low).mono ?_); rintro e9 w2 ⟨rfl, hL⟩; replace HM := HM.call hL; clear hL)) | (go_at_call 11; ((with_reducible refine (awake35_any _).mono ?_); rintro e9 w2 ⟨rfl, hL⟩; replace HM := HM.call hL; clear hL)) | (first | ((with_reducible refine g_ld ?_); refine a_ld HM ?_) | ((with_reducible refine g_st ?_); refine a_st HM ?_; clear HM; intro w1 HM) | ((with_reducible refine g_al ?_); refine a_al HM ?_; clear HM; intro bk w1 HM) | ((with_reducible refine g_bx ?_); refine a_bx HM ?_; clear HM; intro bk w1 HM) | ((with_reducible refine g_bld ?_); refine a_bld ?_)))
    go_ret
    exact ⟨rfl, below_seq HB2.out HM.low⟩
  have hnc : ¬ Ns.Circ U.length (Ns.gu U) (Ns.gh H) := by rcases hcase with ⟨_, h⟩ | ⟨_, h⟩ <;> exact h
  have hfree : free = false ∨ free = true := by rcases hcase with ⟨h, _⟩ | ⟨h, _⟩ <;> simp [h]
  have he := Sv.err_none hchk hnc
  have hok := HMD.out.good.ok
  obtain ⟨f, hf⟩ := Sv.px_exists HMD.out.good hnc (Sv.gu_abs hAL inA)
  have S1 := fun w' (hB : Below w2.heap.size w2 w') => ssolve_f _ _ _ U H As f w' (hN.below hB) (hAS.below hB) he hf
  have S2 := fun w' (hB : Below w2.heap.size w2 w') => rSolve_f _ _ _ U H As f w' (hN.below hB) (hAS.below hB) he hf
  have HAB : Hid (∀ i, i < U.length → (Ns.gu As i).natAbs ≤ 1000000000) := Lib.hid (fun i hi => by
    rw [Ns.gu_at (List.getElem?_eq_getElem (show i < As.length by omega))]
    obtain ⟨h1, h2, _⟩ := HAP.out _ (List.getElem_mem (show i < As.length by omega))
    omega)
  have HUB : Hid (∀ i, i < U.length → (Ns.gu U i).natAbs ≤ 1000000) := Lib.hid (fun i hi => by
    have h1 := HMD.out.small i hi
    have h2 := hok.u0 i hi
    omega)
  have HHB : Hid (∀ i j, i < U.length → j < U.length → (Ns.gh H i j).natAbs ≤ 1000000) := Lib.hid (fun i j hi hj => by
    have h1 := HMD.out.small j hj
    have h2 := hok.h0 i j hi hj
    have h3 := hok.le hi hj
    omega)
  have HCB : Hid (Ns.Cb U.length f Ns.bigger) := Lib.hid (Ns.cd_cb (Ns.cd hok hnc (Sv.gu_abs hAL inA) hf.1))
  have HF := Lib.hid hf
  have RS := fun ps w' (hB : Below w2.heap.size w2 w') (hP : RdS 66 w' ps (qrows U.length f)) => residual_any _ _ _ ps U H As f w' (hN.below hB) (hAS.below hB) hchk hP
    (fun i hi => HCB.out.self hi) (fun i hi k hk => HCB.out.rs hn8 HUB.out HHB.out HAB.out hi hk) (fun i hi => HCB.out.mul hi (HUB.out i hi)) (fun i hi j hj => HCB.out.mul hj (HHB.out i j hi hj))
  have HU0 : Hid (∀ i, i < U.length → 0 ≤ Ns.gu U i) := Lib.hid hok.u0
  have HRF : Hid (∀ i, i < U.length → Rt.Fit (Sv.rs U H As f i U.length)) := Lib.hid (fun i hi => HCB.out.rs hn8 HUB.out HHB.out HAB.out hi (Nat.le_refl _))
  have HFT : Hid (∀ i, i < U.length → Rt.Fit (f i)) := Lib.hid hf.2
  clear hcase hnc he hN hAS hchk inA HMD HAP hok hf HAB HUB HHB HCB hRL hAL
  go_upto_region 5 with (first | (go_at_call 12; refine (S1 _ HM.low).mono ?_; rintro e9 w5 ⟨s1, rfl, hL1, HS1⟩; replace HM := HM.call hL1) | (first | ((with_reducible refine g_ld ?_); refine a_ld HM ?_) | ((with_reducible refine g_st ?_); refine a_st HM ?_; clear HM; intro w1 HM) | ((with_reducible refine g_al ?_); refine a_al HM ?_; clear HM; intro bk w1 HM) | ((with_reducible refine g_bx ?_); refine a_bx HM ?_; clear HM; intro bk w1 HM) | ((with_reducible refine g_bld ?_); refine a_bld ?_)))
  go_upto_region 6 with (first | (go_at_call 13; refine (S2 _ HM.low).mono ?_; rintro e9 w6 ⟨s2, rfl, hL2, HS2⟩; replace HM := HM.call hL2) | (first | ((with_reducible refine g_ld ?_); refine a_ld HM ?_) | ((with_reducible refine g_st ?_); refine a_st HM ?_; clear HM; intro w1 HM) | ((with_reducible refine g_al ?_); refine a_al HM ?_; clear HM; intro bk w1 HM) | ((with_reducible refine g_bx ?_); refine a_bx HM ?_; clear HM; intro bk w1 HM) | ((with_reducible refine g_bld ?_); refine a_bld ?_)))
  have HS3 : Hid (RdS 66 w6 s1 (qrows U.length f)) := Lib.hid (RdS.below HS1.out hL2)
  have E := fun w' (hB : Below w6.heap.size w6 w') => same_any s1 s2 U.length f w' (RdS.below HS3.out hB) (RdS.below HS2.out hB) hn8 HFT.out
  have R3 := fun w' (hB : Below w6.heap.size w6 w') (hB2 : Below w2.heap.size w2 w') => RS s1 w' hB2 (RdS.below HS3.out hB)
  have HBX6 := Lib.hid (HM.rro HBX.out (by simp))
  have HB6 := Lib.hid (below_seq HB2.out HM.low)
  have HL6 := Lib.hid HM.low
  have HN6 := Lib.hid (HN1.out.below HM.low)
  clear S1 S2 hL1 hL2 HS1 HBX HB2 HN1 HM RS
  have HM := Mem.start w6
  obtain ⟨A1, p1, rfl⟩ := HS3.out.form66
  have R4 := fun w' (hB : Below w6.heap.size w6 w') => R3 w' hB (below_seq HL6.out hB)
  clear R3
  rcases hfree with rfl | rfl
  all_goals
    go_upto_region 10 with (first | (go_at_call 14; ((with_reducible refine (E _ HM.low).mono ?_); rintro e9 w2 ⟨rfl, hL⟩; replace HM := HM.call hL; clear hL)) | (first | ((with_reducible refine g_ld ?_); refine a_ld HM ?_) | ((with_reducible refine g_st ?_); refine a_st HM ?_; clear HM; intro w1 HM) | ((with_reducible refine g_al ?_); refine a_al HM ?_; clear HM; intro bk w1 HM) | ((with_reducible refine g_bx ?_); refine a_bx HM ?_; clear HM; intro bk w1 HM) | ((with_reducible refine g_bld ?_); refine a_bld ?_)))
    go_upto_region 11 with (first | (go_at_call 28; refine (R4 _ HM.low).mono ?_; rintro e9 w7 ⟨s3, rfl, hL3, HS4⟩; replace HM := HM.call hL3) | (first | ((with_reducible refine g_ld ?_); refine a_ld HM ?_) | ((with_reducible refine g_st ?_); refine a_st HM ?_; clear HM; intro w1 HM) | ((with_reducible refine g_al ?_); refine a_al HM ?_; clear HM; intro bk w1 HM) | ((with_reducible refine g_bx ?_); refine a_bx HM ?_; clear HM; intro bk w1 HM) | ((with_reducible refine g_bld ?_); refine a_bld ?_)))
    obtain ⟨A3, p3, rfl⟩ := HS4.out.form66
    have HBX8 : Hid (Rbk w7 b6 #[.slice (some ⟨bu, 0, none⟩) U.length U.length, .slice (some ⟨bh, 0, none⟩) U.length U.length]) := Lib.hid (HM.rro HBX6.out (by simp))
    have HN8 := Lib.hid (HN6.out.below HM.low)
    have HB8 := Lib.hid (below_seq HB6.out HM.low)
    have HS5 := Lib.hid (RdS.below HS3.out HM.low)
    clear HM HBX6 HN6 HB6 hL3 R4 E HS3 HS2 HL6
    have HM := Mem.start w7
    go_wp2_with (first | fail | (first | ((with_reducible refine g_ld ?_); refine a_ld HM ?_) | ((with_reducible refine g_st ?_); refine a_st HM ?_; clear HM; intro w1 HM) | ((with_reducible refine g_al ?_); refine a_al HM ?_; clear HM; intro bk w1 HM) | ((with_reducible refine g_bx ?_); refine a_bx HM ?_; clear HM; intro bk w1 HM) | ((with_reducible refine g_bld ?_); refine a_bld ?_)))
    go_loopw [14] (fun iv wr => ∃ i : Nat, iv = .int .i64 (i : Nat) ∧ i ≤ U.length ∧ Mem w7 [] [] wr) (fun iv _ => U.length - (intOf iv).toNat)
    case atStart => exact ⟨0, rfl, by omega, HM⟩
    case round =>
      clear HM
      obtain ⟨i, rfl, hi2, HM⟩ := hrel
      by_cases hit : i < U.length
      · have hit1 : (i : Int) < U.length := by omega
        obtain ⟨u, hu⟩ : ∃ u, U[i]? = some u := ⟨_, List.getElem?_eq_getElem hit⟩
        obtain ⟨bU, offU, csU, e, HBU, ku⟩ := HN8.out.u.at_ hu
        injection e with e
        injection e with e1 e2
        subst e1 e2
        rw [Nat.zero_add] at ku
        have eu := Ns.gu_at hu
        clear hu
        obtain ⟨c1', o1, cs1, rfl, HBP1, kp1⟩ := HS4.out.at66 hit
        obtain ⟨c2', o2, cs2, rfl, HBP2, kp2⟩ := HS5.out.at66 hit
        obtain ⟨x, hx⟩ : ∃ x, Hid (x = Sv.rs U H As f i U.length) := ⟨_, Lib.hid rfl⟩
        obtain ⟨y, hy⟩ : ∃ y, Hid (y = f i) := ⟨_, Lib.hid rfl⟩
        rw [← hx.out] at kp1
        rw [← hy.out] at kp2
        have fx : Rt.Fit x := by rw [hx.out]; exact HRF.out i hit
        have fy : Rt.Fit y := by rw [hy.out]; exact HFT.out i hit
        obtain ⟨n, hn⟩ : ∃ n, Hid (n = x.num.sign) := ⟨_, Lib.hid rfl⟩
        obtain ⟨m, hm⟩ : ∃ m, Hid (m = y.num.sign) := ⟨_, Lib.hid rfl⟩
        have SG := fun w => sign_ex x n fx hn w
        have SH := fun w => sign_ex y m fy hm w
        have hu9 := HU0.out i hit
        rw [eu] at hu9
        by_cases hu0 : 0 < u
        · have hup : decide (0 < u) = true := decide_eq_true hu0
          have hue : (u == 0) = false := beq_eq_false_iff_ne.2 (by omega)
          have hx0 : x = 0 := by rw [hx.out]; exact Ns.pr_rs HF.out.1 hit (by rw [eu]; exact hu0)
          obtain rfl : n = 0 := by rw [hn.out, hx0]; rfl
          clear eu hx0
          go_wp2_with (first | first | (go_at_call 20; ((with_reducible refine (of_ex _ _).mono ?_); rintro e9 w2 ⟨rfl, hL⟩; replace HM := HM.call hL; clear hL)) | (go_at_call 19; ((with_reducible refine (SG _).mono ?_); rintro e9 w2 ⟨rfl, hL⟩; replace HM := HM.call hL; clear hL)) | (first | ((with_reducible refine g_ld ?_); refine a_ld HM ?_) | ((with_reducible refine g_st ?_); refine a_st HM ?_; clear HM; intro w1 HM) | ((with_reducible refine g_al ?_); refine a_al HM ?_; clear HM; intro bk w1 HM) | ((with_reducible refine g_bx ?_); refine a_bx HM ?_; clear HM; intro bk w1 HM) | ((with_reducible refine g_bld ?_); refine a_bld ?_)))
          go_roundw
          case rel => exact ⟨i + 1, by go_num, by omega, HM⟩
          case measure => simp [intOf]; omega
        · obtain rfl : u = 0 := by omega
          have hy0 : y = 0 := by rw [hy.out]; exact Ns.pr_none HF.out.1 hit eu
          obtain rfl : m = 0 := by rw [hm.out, hy0]; rfl
          clear eu hy0 hu0 hu9
          by_cases hn0 : n = 0
          · obtain rfl := hn0
            go_wp2_with (first | first | (go_at_call 20; ((with_reducible refine (of_ex _ _).mono ?_); rintro e9 w2 ⟨rfl, hL⟩; replace HM := HM.call hL; clear hL)) | (go_at_call 19; ((with_reducible refine (SG _).mono ?_); rintro e9 w2 ⟨rfl, hL⟩; replace HM := HM.call hL; clear hL)) | (go_at_call 19; ((with_reducible refine (SH _).mono ?_); rintro e9 w2 ⟨rfl, hL⟩; replace HM := HM.call hL; clear hL)) | (first | ((with_reducible refine g_ld ?_); refine a_ld HM ?_) | ((with_reducible refine g_st ?_); refine a_st HM ?_; clear HM; intro w1 HM) | ((with_reducible refine g_al ?_); refine a_al HM ?_; clear HM; intro bk w1 HM) | ((with_reducible refine g_bx ?_); refine a_bx HM ?_; clear HM; intro bk w1 HM) | ((with_reducible refine g_bld ?_); refine a_bld ?_)))
            go_roundw
            case rel => exact ⟨i + 1, by go_num, by omega, HM⟩
            case measure => simp [intOf]; omega
          · have hn1 : (n != 0) = true := bne_iff_ne.2 hn0
            go_wp2_with (first | first | (go_at_call 20; ((with_reducible refine (of_ex _ _).mono ?_); rintro e9 w2 ⟨rfl, hL⟩; replace HM := HM.call hL; clear hL)) | (go_at_call 19; ((with_reducible refine (SG _).mono ?_); rintro e9 w2 ⟨rfl, hL⟩; replace HM := HM.call hL; clear hL)) | (go_at_call 19; ((with_reducible refine (SH _).mono ?_); rintro e9 w2 ⟨rfl, hL⟩; replace HM := HM.call hL; clear hL)) | (first | ((with_reducible refine g_ld ?_); refine a_ld HM ?_) | ((with_reducible refine g_st ?_); refine a_st HM ?_; clear HM; intro w1 HM) | ((with_reducible refine g_al ?_); refine a_al HM ?_; clear HM; intro bk w1 HM) | ((with_reducible refine g_bx ?_); refine a_bx HM ?_; clear HM; intro bk w1 HM) | ((with_reducible refine g_bld ?_); refine a_bld ?_)))
            go_roundw
            case rel => exact ⟨i + 1, by go_num, by omega, HM⟩
            case measure => simp [intOf]; omega
      · obtain rfl : i = U.length := by omega
        go_wp2_with (first | (go_at_call 11; ((with_reducible refine (awake35_any _).mono ?_); rintro e9 w2 ⟨rfl, hL⟩; replace HM := HM.call hL; clear hL)) | (first | ((with_reducible refine g_ld ?_); refine a_ld HM ?_) | ((with_reducible refine g_st ?_); refine a_st HM ?_; clear HM; intro w1 HM) | ((with_reducible refine g_al ?_); refine a_al HM ?_; clear HM; intro bk w1 HM) | ((with_reducible refine g_bx ?_); refine a_bx HM ?_; clear HM; intro bk w1 HM) | ((with_reducible refine g_bld ?_); refine a_bld ?_)))
        go_ret
        exact ⟨rfl, below_seq HB8.out HM.low⟩
end Go.Proofs.Ytadnddffdedjgaa
