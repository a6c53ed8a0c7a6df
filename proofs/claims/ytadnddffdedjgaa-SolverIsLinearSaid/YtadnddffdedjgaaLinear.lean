/- The law SolverIsLinear, walked. -/
import Derived.Test.YtadnddffdedjgaaSyN
namespace Go.Proofs.Ytadnddffdedjgaa
set_option maxRecDepth 8000
open Go.RowKit
theorem Ns.Pr.congr {n : Nat} {u : Nat → Int} {h : Nat → Nat → Int} {a b : Nat → Int} {f : Nat → Rat} (hf : Ns.Pr n u h a f) (e : ∀ i, i < n → b i = a i) : Ns.Pr n u h b f := fun i hi => by
  rw [hf i hi]; unfold Ns.rhs; rw [e i hi]
set_option maxRecDepth 100000 in
set_option maxHeartbeats 8000000 in
theorem linear_any (A : Option Addr) (xs : List Int) (c0 : Nat) (W : World) (hI : IntsAt W A xs) (hxl : xs.length ≤ 9223372036854775807) :
    Calls Try.prog 5 #[.slice A xs.length c0] W fun e w' => e = .returned (.bool true) ∧ Below W.heap.size W w' := by
  have HM := Mem.start W
  have HI := Lib.hid hI
  have zn := za_nest
  have zi := za_i
  have eli : elemB 22 3 1 8 = true := by kernel_rfl
  clear hI
  go_enter Try.func5, Try.ntmps5
  go_upto_region 2 with (first | (go_at_call 15; (with_reducible refine (snew_any _ _ _ _).mono ?_); rintro e9 w2 ⟨tb, rfl, HM1⟩; replace HM := HM.join HM1; clear HM1) | (first | ((with_reducible refine g_ld ?_); refine a_ld HM ?_) | ((with_reducible refine g_st ?_); refine a_st HM ?_; clear HM; intro w1 HM) | ((with_reducible refine g_al ?_); refine a_al HM ?_; clear HM; intro bk w1 HM) | ((with_reducible refine g_bx ?_); refine a_bx HM ?_; clear HM; intro bk w1 HM) | ((with_reducible refine g_bld ?_); refine a_bld ?_)))
  replace HM : Mem W [] [(tb, #[Value.slice A xs.length c0, Value.int IntKind.i64 0])] w2 := HM
  have HC : Hid (TapeC W 0 #[.slice A xs.length c0, .int .i64 0]) := ⟨A, xs, c0, 0, rfl, by omega, by omega, HI.out, hxl⟩
  clear HI
  go_upto_region 3 with (first | first | (go_at_call 16; refine (snest_any 4 false tb 0 _ [] W _ HM HC (by omega) (by omega)).mono ?_; rintro e9 w2 ⟨n, bu, bh, U, H, rb, c1, rfl, hn, hUL, hRL, HMD, HC1, HM1⟩; replace HM := HM1; replace HC := HC1; clear HM1 HC1) | ((with_reducible refine g_st ?_); refine a_st (v := .agg #[_, _]) HM ?_ (hv := sa_nest _ _ rfl rfl); clear HM; intro w1 HM) | (first | ((with_reducible refine g_ld ?_); refine a_ld HM ?_) | ((with_reducible refine g_st ?_); refine a_st HM ?_; clear HM; intro w1 HM) | ((with_reducible refine g_al ?_); refine a_al HM ?_; clear HM; intro bk w1 HM) | ((with_reducible refine g_bx ?_); refine a_bx HM ?_; clear HM; intro bk w1 HM) | ((with_reducible refine g_bld ?_); refine a_bld ?_)))
  obtain ⟨b4, rfl⟩ := HM.nm0
  have n0 := la_n0 (.slice (some ⟨bu, 0, none⟩) n n) (.slice (some ⟨bh, 0, none⟩) n n)
  have n2 := la_nest (.slice (some ⟨bu, 0, none⟩) n n) (.slice (some ⟨bh, 0, none⟩) n n)
  replace HM : Mem W [] ((b4, #[.slice (some ⟨bu, 0, none⟩) n n, .slice (some ⟨bh, 0, none⟩) n n]) :: (tb, c1) :: (bu, rowsOf (U.map ic)) :: (bh, rowsOf ((rv n rb).map vc)) :: (NR rb H ++ [])) _ := HM.pick
  refine start_M2 [] HM ((Sub.keep Sub.nil)) (by kernel_rfl) (fun w0x H9 => ?_)
  replace HM := H9; clear H9
  refine k_mv 0 (heldF HM) ?_
  refine k_fa 1 (heldF HM) ?_
  refine k_ld 2 [] (heldF HM) ?_
  refine k_pv 3 (heldF HM) ?_
  refine k_mv 5 (heldF HM) ?_
  refine k_fa 6 (heldF HM) ?_
  refine k_ld 7 [] (heldF HM) ?_
  refine k_pv 8 (heldF HM) ?_
  refine j_one 4 fun K9 hK9 => ?_
  refine o_callg (sassets_any n true tb _ c1 ((b4, #[.slice (some ⟨bu, 0, none⟩) n n, .slice (some ⟨bh, 0, none⟩) n n]) :: (bu, rowsOf (U.map ic)) :: (bh, rowsOf ((rv n rb).map vc)) :: (NR rb H ++ [])) W _ HM.pick HC (by omega) (by omega)) rfl ?_ ?_; (focus (refine h_call3 (ts := ?_) (x1 := ?_) (x2 := ?_) (x3 := ?_) ?_ (by kernel_rfl) ?_ ?_ ?_; rotate_left 4; (focus rfl); (focus rfl); (focus rfl); rfl)); rintro e9 w1 ⟨ba, Aa, c2, rfl, hAL, HAP, HC2, HM1⟩; replace HM : Mem W [] ((b4, #[.slice (some ⟨bu, 0, none⟩) n n, .slice (some ⟨bh, 0, none⟩) n n]) :: (tb, c2) :: (ba, rowsOf (Aa.map ic)) :: (bu, rowsOf (U.map ic)) :: (bh, rowsOf ((rv n rb).map vc)) :: (NR rb H ++ [])) _ := HM1.pick; clear HM1; refine ⟨_, rfl, ?_⟩
  refine hK9 _ _ (heldF HM) ?_; clear hK9 K9; ((try simp only [List.setIfInBounds_toArray]); (try simp only [List.set_cons_succ]); (try simp only [List.set_cons_zero]))
  refine j_one 9 fun K9 hK9 => ?_
  refine o_callg (sassets_any n true tb _ c2 ((b4, #[.slice (some ⟨bu, 0, none⟩) n n, .slice (some ⟨bh, 0, none⟩) n n]) :: (ba, rowsOf (Aa.map ic)) :: (bu, rowsOf (U.map ic)) :: (bh, rowsOf ((rv n rb).map vc)) :: (NR rb H ++ [])) W _ HM.pick HC2 (by omega) (by omega)) rfl ?_ ?_; (focus (refine h_call3 (ts := ?_) (x1 := ?_) (x2 := ?_) (x3 := ?_) ?_ (by kernel_rfl) ?_ ?_ ?_; rotate_left 4; (focus rfl); (focus rfl); (focus rfl); rfl)); rintro e9 w1 ⟨bb, Ab, c3, rfl, hBL, HBP, HC3, HM1⟩; replace HM : Mem W [] ((b4, #[.slice (some ⟨bu, 0, none⟩) n n, .slice (some ⟨bh, 0, none⟩) n n]) :: (tb, c3) :: (ba, rowsOf (Aa.map ic)) :: (bb, rowsOf (Ab.map ic)) :: (bu, rowsOf (U.map ic)) :: (bh, rowsOf ((rv n rb).map vc)) :: (NR rb H ++ [])) _ := HM1.pick; clear HM1; refine ⟨_, rfl, ?_⟩
  refine hK9 _ _ (heldF HM) ?_; clear hK9 K9; ((try simp only [List.setIfInBounds_toArray]); (try simp only [List.set_cons_succ]); (try simp only [List.set_cons_zero]))
  refine k_mv 10 (heldF HM) ?_
  refine k_mv 11 (heldF HM) ?_
  refine wpAnyL_done (by kernel_rfl) ?_ _
  go_upto_region 5 with (first | ((with_reducible refine g_mks ?_); refine a_mks n HM ?_ (by omega); clear HM; intro bk w1 HM) | (first | ((with_reducible refine g_ld ?_); refine a_ld HM ?_) | ((with_reducible refine g_st ?_); refine a_st HM ?_; clear HM; intro w1 HM) | ((with_reducible refine g_al ?_); refine a_al HM ?_; clear HM; intro bk w1 HM) | ((with_reducible refine g_bx ?_); refine a_bx HM ?_; clear HM; intro bk w1 HM) | ((with_reducible refine g_bld ?_); refine a_bld ?_)))
  obtain ⟨bo, rfl⟩ := HM.nm0
  rw [rep_ints] at HM
  have inA := Sv.asset_in HAP.out
  have inB := Sv.asset_in HBP.out
  have HIA : Hid (∀ i, i < n → -1000000000 ≤ Ns.gu Aa i ∧ Ns.gu Aa i ≤ 1000000000) := Lib.hid (fun i hi => Sv.gu_in (fun a ha => ⟨(HAP.out a ha).1, (HAP.out a ha).2.1⟩) (by omega))
  have HIB : Hid (∀ i, i < n → -1000000000 ≤ Ns.gu Ab i ∧ Ns.gu Ab i ≤ 1000000000) := Lib.hid (fun i hi => Sv.gu_in (fun a ha => ⟨(HBP.out a ha).1, (HBP.out a ha).2.1⟩) (by omega))
  go_wp2_with (first | fail | (first | ((with_reducible refine g_ld ?_); refine a_ld HM ?_) | ((with_reducible refine g_st ?_); refine a_st HM ?_; clear HM; intro w1 HM) | ((with_reducible refine g_al ?_); refine a_al HM ?_; clear HM; intro bk w1 HM) | ((with_reducible refine g_bx ?_); refine a_bx HM ?_; clear HM; intro bk w1 HM) | ((with_reducible refine g_bld ?_); refine a_bld ?_)))
  go_loopw [8] (fun iv wr => ∃ (i : Nat) (Cs : List Int), iv = .int .i64 (i : Nat) ∧ i ≤ n ∧ Hid (Cs.length = n) ∧ Hid (∀ k, k < i → Ns.gu Cs k = Ns.gu Aa k + Ns.gu Ab k) ∧ Mem W [] ((bo, rowsOf (Cs.map ic)) :: (b4, #[.slice (some ⟨bu, 0, none⟩) n n, .slice (some ⟨bh, 0, none⟩) n n]) :: (tb, c3) :: (ba, rowsOf (Aa.map ic)) :: (bb, rowsOf (Ab.map ic)) :: (bu, rowsOf (U.map ic)) :: (bh, rowsOf ((rv n rb).map vc)) :: (NR rb H ++ [])) wr) (fun iv _ => n - (intOf iv).toNat)
  case atStart => exact ⟨0, _, rfl, by omega, Lib.hid (by simp), Lib.hid (fun k hk => absurd hk (by omega)), HM⟩
  case round =>
    clear HM
    obtain ⟨i, Cs, rfl, hi, HCL, HCV, HM⟩ := hrel
    by_cases hit : i < n
    · have hit1 : (i : Int) < n := by omega
      obtain ⟨x, hx⟩ : ∃ x, Aa[i]? = some x := ⟨_, List.getElem?_eq_getElem (by omega)⟩
      obtain ⟨y, hy⟩ : ∃ y, Ab[i]? = some y := ⟨_, List.getElem?_eq_getElem (by omega)⟩
      have kx := la_ints hx
      have ky := la_ints hy
      have ex := Ns.gu_at hx
      have ey := Ns.gu_at hy
      obtain ⟨hx0, hx1⟩ := HIA.out i hit
      obtain ⟨hy0, hy1⟩ := HIB.out i hit
      rw [ex] at hx0 hx1
      rw [ey] at hy0 hy1
      have sx := sa_ints Cs (i := i) (x + y) (by have := HCL.out; omega)
      have HCL2 : Hid ((Cs.set i (x + y)).length = n) := Lib.hid (by rw [List.length_set]; exact HCL.out)
      have HCV2 : Hid (∀ k, k < i + 1 → Ns.gu (Cs.set i (x + y)) k = Ns.gu Aa k + Ns.gu Ab k) := Lib.hid (fun k hk => by
        by_cases e : k = i
        · subst e
          rw [ex, ey]
          exact Ns.gu_at (by rw [List.getElem?_set]; simp; have := HCL.out; omega)
        · rw [← HCV.out k (by omega)]
          unfold Ns.gu
          rw [List.getD_eq_getElem?_getD, List.getElem?_set, if_neg (fun h => e h.symm), ← List.getD_eq_getElem?_getD])
      clear hx hy ex ey
      go_upto_region 8 with (first | fail | (first | ((with_reducible refine g_ld ?_); refine a_ld HM ?_) | ((with_reducible refine g_st ?_); refine a_st HM ?_; clear HM; intro w1 HM) | ((with_reducible refine g_al ?_); refine a_al HM ?_; clear HM; intro bk w1 HM) | ((with_reducible refine g_bx ?_); refine a_bx HM ?_; clear HM; intro bk w1 HM) | ((with_reducible refine g_bld ?_); refine a_bld ?_)))
      refine start_M [12] HM (by kernel_rfl) (fun w0x H9 => ?_)
      replace HM := H9; clear H9
      refine k_mv 0 (heldF HM) ?_
      refine k_mv 1 (heldF HM) ?_
      refine k_mv 2 (heldF HM) ?_
      refine k_mv 3 (heldF HM) ?_
      refine k_ia 4 (heldF HM) ?_
      refine k_ld 5 [10, 11, 12] (heldF HM) ?_
      refine k_mv 6 (heldF HM) ?_
      refine k_mv 7 (heldF HM) ?_
      refine k_ia 8 (heldF HM) ?_
      refine k_ld 9 [10, 11, 12] (heldF HM) ?_
      refine k_add 10 (heldF HM) ?_
      refine k_ia 11 (heldF HM) ?_
      refine j_one 12 fun K9 hK9 => ?_
      refine j_st HM ?_; clear HM; intro w1 HM
      refine hK9 _ _ heldN ?_; clear hK9 K9
      refine wpAnyL_done (by kernel_rfl) ?_ _
      go_wp2_with fail
      go_roundw
      case rel => exact ⟨i + 1, _, by go_num, by omega, HCL2, HCV2, HM⟩
      case measure => simp [intOf]; omega
    · obtain rfl : i = n := by omega
      obtain ⟨herrA, hnc⟩ := Sv.made_err HMD.out (A := Aa) (by omega) inA
      obtain ⟨herrB, _⟩ := Sv.made_err HMD.out (A := Ab) (by omega) inB
      have inC : ∀ a ∈ Cs, -1000000000000000 ≤ a ∧ a ≤ 1000000000000000 := fun a ha => by
        obtain ⟨k, hk⟩ := List.getElem?_of_mem ha
        have hkl := (List.getElem?_eq_some_iff.1 hk).1
        have h1 := HCV.out k (by have := HCL.out; omega)
        rw [Ns.gu_at hk] at h1
        have h2 := HIA.out k (by have := HCL.out; omega)
        have h3 := HIB.out k (by have := HCL.out; omega)
        omega
      obtain ⟨herrC, _⟩ := Sv.made_err HMD.out (A := Cs) (by have := HCL.out; omega) inC
      have HEA := Lib.hid herrA.symm
      have HEB := Lib.hid herrB.symm
      have HEC := Lib.hid herrC.symm
      subst hUL
      have hN : RdN wr (.slice (some ⟨bu, 0, none⟩) U.length U.length) (.slice (some ⟨bh, 0, none⟩) U.length U.length) U H := rdN_own HM rfl HMD.out.good.sh.2 hRL HMD.out.lens (by simp) (by simp) (fun q hq => by simp [hq])
      have hA2 : RdI wr (.slice (some ⟨ba, 0, none⟩) U.length U.length) Aa := by
        have := (own_ints (b := ba) (A := Aa)).rd HM (by simp)
        rwa [hAL] at this
      have hB2 : RdI wr (.slice (some ⟨bb, 0, none⟩) U.length U.length) Ab := by
        have := (own_ints (b := bb) (A := Ab)).rd HM (by simp)
        rwa [hBL] at this
      have hC2 : RdI wr (.slice (some ⟨bo, 0, none⟩) U.length U.length) Cs := by
        have := (own_ints (b := bo) (A := Cs)).rd HM (by simp)
        rwa [HCL.out] at this
      have HB2 := Lib.hid HM.low
      have hbx : Rbk wr b4 #[.slice (some ⟨bu, 0, none⟩) U.length U.length, .slice (some ⟨bh, 0, none⟩) U.length U.length] := (HM.get (by ((repeat (first | exact Look.here | refine Look.there ?_)); done))).rbk
      have HBX := Lib.hid hbx
      clear hbx
      have S1 := fun w' (hB : Below wr.heap.size wr w') => ssolve_any _ _ _ U H Aa w' (hN.below hB) (hA2.below hB) 0 HEA
      have S2 := fun w' (hB : Below wr.heap.size wr w') => ssolve_any _ _ _ U H Ab w' (hN.below hB) (hB2.below hB) 0 HEB
      have S3 := fun w' (hB : Below wr.heap.size wr w') => ssolve_any _ _ _ U H Cs w' (hN.below hB) (hC2.below hB) 0 HEC
      clear HM hN hA2 hB2 hC2 herrA herrB herrC
      have HM := Mem.start wr
      have n0 := la_n0 (.slice (some ⟨bu, 0, none⟩) U.length U.length) (.slice (some ⟨bh, 0, none⟩) U.length U.length)
      have n2 := la_nest (.slice (some ⟨bu, 0, none⟩) U.length U.length) (.slice (some ⟨bh, 0, none⟩) U.length U.length)
      have hok := HMD.out.good.ok
      have HCLI : (Cs.length : Int) = U.length := by have := HCL.out; omega
      go_upto_region 10 with (first | (go_at_call 12; refine (S1 _ HM.low).mono ?_; rintro e9 w5 ⟨s1, rfl, hL1, HS1⟩; replace HM := HM.call hL1) | (first | ((with_reducible refine g_ld ?_); refine a_ld HM ?_) | ((with_reducible refine g_st ?_); refine a_st HM ?_; clear HM; intro w1 HM) | ((with_reducible refine g_al ?_); refine a_al HM ?_; clear HM; intro bk w1 HM) | ((with_reducible refine g_bx ?_); refine a_bx HM ?_; clear HM; intro bk w1 HM) | ((with_reducible refine g_bld ?_); refine a_bld ?_)))
      obtain ⟨-, f, hf, hR1⟩ := HS1.out.resolve_left (fun h => h.1 rfl)
      obtain ⟨A1, p1, rfl⟩ := hR1.form66
      clear HS1 hL1 S1
      go_upto_region 11 with (first | (go_at_call 12; refine (S2 _ HM.low).mono ?_; rintro e9 w6 ⟨s2, rfl, hL2, HS2⟩; replace HM := HM.call hL2) | (first | ((with_reducible refine g_ld ?_); refine a_ld HM ?_) | ((with_reducible refine g_st ?_); refine a_st HM ?_; clear HM; intro w1 HM) | ((with_reducible refine g_al ?_); refine a_al HM ?_; clear HM; intro bk w1 HM) | ((with_reducible refine g_bx ?_); refine a_bx HM ?_; clear HM; intro bk w1 HM) | ((with_reducible refine g_bld ?_); refine a_bld ?_)))
      obtain ⟨-, g, hg, hR2⟩ := HS2.out.resolve_left (fun h => h.1 rfl)
      obtain ⟨A2, p2, rfl⟩ := hR2.form66
      replace hR1 := hR1.below hL2
      clear HS2 hL2 S2
      go_upto_region 12 with (first | (go_at_call 12; refine (S3 _ HM.low).mono ?_; rintro e9 w7 ⟨s3, rfl, hL3, HS3⟩; replace HM := HM.call hL3) | (first | ((with_reducible refine g_ld ?_); refine a_ld HM ?_) | ((with_reducible refine g_st ?_); refine a_st HM ?_; clear HM; intro w1 HM) | ((with_reducible refine g_al ?_); refine a_al HM ?_; clear HM; intro bk w1 HM) | ((with_reducible refine g_bx ?_); refine a_bx HM ?_; clear HM; intro bk w1 HM) | ((with_reducible refine g_bld ?_); refine a_bld ?_)))
      obtain ⟨-, r, hr, hR3⟩ := HS3.out.resolve_left (fun h => h.1 rfl)
      obtain ⟨A3, p3, rfl⟩ := hR3.form66
      have HR1 := Lib.hid (hR1.below hL3)
      have HR2 := Lib.hid (hR2.below hL3)
      have HR3 := Lib.hid hR3
      have HADD : Hid (∀ i, i < U.length → r i = f i + g i) := Lib.hid (fun i hi => Ns.Pr.uniq hok hnc hr.1 ((Ns.pr_add hf.1 hg.1).congr fun k hk => HCV.out k hk) i hi)
      have HFF := Lib.hid hf.2
      have HFG := Lib.hid hg.2
      have HFR := Lib.hid hr.2
      have HB7 := Lib.hid (below_seq HB2.out HM.low)
      clear HS3 hL3 S3 hR1 hR2 hR3 hf hg hr hok hnc HM HBX HB2
      have HM := Mem.start w7
      have ze := Ex.za
      have hal : (Aa.length : Int) = U.length := by omega
      have hbl : (Ab.length : Int) = U.length := by omega
      go_wp2_with (first | fail | (first | ((with_reducible refine g_ld ?_); refine a_ld HM ?_) | ((with_reducible refine g_st ?_); refine a_st HM ?_; clear HM; intro w1 HM) | ((with_reducible refine g_al ?_); refine a_al HM ?_; clear HM; intro bk w1 HM) | ((with_reducible refine g_bx ?_); refine a_bx HM ?_; clear HM; intro bk w1 HM) | ((with_reducible refine g_bld ?_); refine a_bld ?_)))
      go_loopw [2, 15] (fun rv iv wr => ∃ i : Nat, rv = .bool false ∧ iv = .int .i64 (i : Nat) ∧ i ≤ U.length ∧ Mem w7 [] [] wr) (fun _ iv _ => U.length - (intOf iv).toNat)
      case atStart => exact ⟨0, rfl, rfl, by omega, HM⟩
      case round =>
        clear HM
        obtain ⟨i, rfl, rfl, hi, HM⟩ := hrel
        by_cases hit : i < U.length
        · have hit1 : (i : Int) < U.length := by omega
          obtain ⟨c1', o1, cs1, rfl, HBP1, kp1⟩ := HR1.out.at66 hit
          obtain ⟨c2', o2, cs2, rfl, HBP2, kp2⟩ := HR2.out.at66 hit
          obtain ⟨c3', o3, cs3, rfl, HBP3, kp3⟩ := HR3.out.at66 hit
          obtain ⟨x, hx⟩ : ∃ x, Hid (x = f i) := ⟨_, Lib.hid rfl⟩
          obtain ⟨y, hy⟩ : ∃ x, Hid (x = g i) := ⟨_, Lib.hid rfl⟩
          obtain ⟨z, hz⟩ : ∃ x, Hid (x = r i) := ⟨_, Lib.hid rfl⟩
          rw [← hx.out] at kp1
          rw [← hy.out] at kp2
          rw [← hz.out] at kp3
          have fx : Rt.Fit x := by rw [hx.out]; exact HFF.out i hit
          have fy : Rt.Fit y := by rw [hy.out]; exact HFG.out i hit
          have fz : Rt.Fit z := by rw [hz.out]; exact HFR.out i hit
          have AD := fun w => add_ex (.ok x) (.ok y) fx fy (.ok z) (Lib.hid (Ex.add_eq (by rw [hz.out, hx.out, hy.out]; exact HADD.out i hit) fz)) w
          have s16 := Ex.sa0 z
          go_upto_region 17 with (first | fail | (first | ((with_reducible refine g_ld ?_); refine a_ld HM ?_) | ((with_reducible refine g_st ?_); refine a_st HM ?_; clear HM; intro w1 HM) | ((with_reducible refine g_al ?_); refine a_al HM ?_; clear HM; intro bk w1 HM) | ((with_reducible refine g_bx ?_); refine a_bx HM ?_; clear HM; intro bk w1 HM) | ((with_reducible refine g_bld ?_); refine a_bld ?_)))
          go_cut [16] (fun p wc => ∃ b16, p = .pointer (some ⟨b16, 0, none⟩) ∧ Mem w7 [] [(b16, Ex.A (.ok z))] wc)
          case first =>
            refine start_M [12] HM (by kernel_rfl) (fun w0x H9 => ?_)
            replace HM := H9; clear H9
            refine k_mv 0 (heldE HM) ?_
            refine k_mv 1 (heldE HM) ?_
            refine k_ia 2 (heldE HM) ?_
            refine k_ld 3 [4, 9, 10, 12] (heldE HM) ?_
            refine k_mv 5 (heldE HM) ?_
            refine k_mv 6 (heldE HM) ?_
            refine k_ia 7 (heldE HM) ?_
            refine k_ld 8 [9, 10, 12] (heldE HM) ?_
            refine j_two 4 11 ?_ ?_
            · refine j_call1 (v := ?_) HM ?_ ?_; rotate_left 1; (focus (with_reducible (first | exact of_ex _ _ | exact AD _))); clear HM; intro w1 HM
              refine ⟨(heldE HM), ?_⟩
              refine j_two 9 11 ?_ ?_
              · refine j_call1 (v := ?_) HM ?_ ?_; rotate_left 1; (focus (with_reducible (first | exact of_ex _ _ | exact AD _))); clear HM; intro w1 HM
                refine ⟨(heldE HM), ?_⟩
                refine j_two 10 11 ?_ ?_
                · refine j_call2 (v := ?_) HM ?_ ?_; rotate_left 1; (focus (with_reducible (first | exact of_ex _ _ | exact AD _))); clear HM; intro w1 HM
                  refine ⟨(heldE HM), ?_⟩
                  refine j_one 11 fun K9 hK9 => ?_
                  refine j_al HM ?_; clear HM; intro bk w1 HM
                  refine hK9 _ _ (heldE HM) ?_; clear hK9 K9
                  refine j_one 12 fun K9 hK9 => ?_
                  refine j_st HM ?_; clear HM; intro w1 HM
                  refine hK9 _ _ heldN ?_; clear hK9 K9
                  refine wpAnyL_done (by kernel_rfl) ?_ _
                  (go_wp2_with fail; go_meet; (case rel => exact ⟨_, rfl, HM⟩))
                · refine j_al HM ?_; clear HM; intro bk w1 HM
                  refine ⟨(heldE HM), ?_⟩
                  refine j_one 10 fun K9 hK9 => ?_
                  refine j_call2 (v := ?_) HM ?_ ?_; rotate_left 1; (focus (with_reducible (first | exact of_ex _ _ | exact AD _))); clear HM; intro w1 HM
                  refine hK9 _ _ (heldE HM) ?_; clear hK9 K9
                  refine j_one 12 fun K9 hK9 => ?_
                  refine j_st HM ?_; clear HM; intro w1 HM
                  refine hK9 _ _ heldN ?_; clear hK9 K9
                  refine wpAnyL_done (by kernel_rfl) ?_ _
                  (go_wp2_with fail; go_meet; (case rel => exact ⟨_, rfl, HM⟩))
              · refine j_al HM ?_; clear HM; intro bk w1 HM
                refine ⟨(heldE HM), ?_⟩
                refine j_one 9 fun K9 hK9 => ?_
                refine j_call1 (v := ?_) HM ?_ ?_; rotate_left 1; (focus (with_reducible (first | exact of_ex _ _ | exact AD _))); clear HM; intro w1 HM
                refine hK9 _ _ (heldE HM) ?_; clear hK9 K9
                refine j_one 10 fun K9 hK9 => ?_
                refine j_call2 (v := ?_) HM ?_ ?_; rotate_left 1; (focus (with_reducible (first | exact of_ex _ _ | exact AD _))); clear HM; intro w1 HM
                refine hK9 _ _ (heldE HM) ?_; clear hK9 K9
                refine j_one 12 fun K9 hK9 => ?_
                refine j_st HM ?_; clear HM; intro w1 HM
                refine hK9 _ _ heldN ?_; clear hK9 K9
                refine wpAnyL_done (by kernel_rfl) ?_ _
                (go_wp2_with fail; go_meet; (case rel => exact ⟨_, rfl, HM⟩))
            · refine j_al HM ?_; clear HM; intro bk w1 HM
              refine ⟨(heldE HM), ?_⟩
              refine j_one 4 fun K9 hK9 => ?_
              refine j_call1 (v := ?_) HM ?_ ?_; rotate_left 1; (focus (with_reducible (first | exact of_ex _ _ | exact AD _))); clear HM; intro w1 HM
              refine hK9 _ _ (heldE HM) ?_; clear hK9 K9
              refine j_one 9 fun K9 hK9 => ?_
              refine j_call1 (v := ?_) HM ?_ ?_; rotate_left 1; (focus (with_reducible (first | exact of_ex _ _ | exact AD _))); clear HM; intro w1 HM
              refine hK9 _ _ (heldE HM) ?_; clear hK9 K9
              refine j_one 10 fun K9 hK9 => ?_
              refine j_call2 (v := ?_) HM ?_ ?_; rotate_left 1; (focus (with_reducible (first | exact of_ex _ _ | exact AD _))); clear HM; intro w1 HM
              refine hK9 _ _ (heldE HM) ?_; clear hK9 K9
              refine j_one 12 fun K9 hK9 => ?_
              refine j_st HM ?_; clear HM; intro w1 HM
              refine hK9 _ _ heldN ?_; clear hK9 K9
              refine wpAnyL_done (by kernel_rfl) ?_ _
              (go_wp2_with fail; go_meet; (case rel => exact ⟨_, rfl, HM⟩))
          case rest =>
            clear HM
            obtain ⟨b16, rfl, HM⟩ := hcut
            have kE := Ex.lae z
            have kV := Ex.lav z
            go_upto_region 18 with fail
            refine start_M [] HM (by kernel_rfl) (fun w0x H9 => ?_)
            replace HM := H9; clear H9
            refine k_fa 0 (heldE HM) ?_
            refine k_ld 1 [] (heldE HM) ?_
            refine k_bin 2 (heldE HM) ?_
            refine k_mv 3 (heldE HM) ?_
            refine k_fa 4 (heldE HM) ?_
            refine k_ld 5 [] (heldE HM) ?_
            refine k_mv 6 (heldE HM) ?_
            refine k_mv 7 (heldE HM) ?_
            refine k_ia 8 (heldE HM) ?_
            refine k_ld 9 [] (heldE HM) ?_
            refine t_eq (i := 10) (v := ?_) [] rfl rfl rfl (by kernel_rfl) (fun _ _ _ h => h) (heldE HM) ?_ ?_; rotate_left 1; (focus ((refine y_cmpq .neq (z) (z) false (.inr rfl) (by simp) (fz) (fz) (x := ?_) (y := ?_) (t := ?_) ?_ ?_ ?_ ?_; rotate_left 3; (focus rfl); (focus rfl); (focus ((conv => lhs; whnf) <;> rfl)); ((conv => lhs; whnf) <;> rfl)))); ((try simp only [List.setIfInBounds_toArray]); (try simp only [List.set_cons_succ]); (try simp only [List.set_cons_zero]))
            refine k_pick 11 (heldE HM) ?_
            refine wpAnyL_done (by kernel_rfl) ?_ _
            go_wp2_with fail
            go_roundw
            case rel => exact ⟨i + 1, rfl, by go_num, by omega, HM.pick⟩
            case measure => simp [intOf]; omega
        · obtain rfl : i = U.length := by omega
          go_wp2_with (first | (go_at_call 11; ((with_reducible refine (awake35_any _).mono ?_); rintro e9 w2 ⟨rfl, hL⟩; replace HM := HM.call hL; clear hL)) | (first | ((with_reducible refine g_ld ?_); refine a_ld HM ?_) | ((with_reducible refine g_st ?_); refine a_st HM ?_; clear HM; intro w1 HM) | ((with_reducible refine g_al ?_); refine a_al HM ?_; clear HM; intro bk w1 HM) | ((with_reducible refine g_bx ?_); refine a_bx HM ?_; clear HM; intro bk w1 HM) | ((with_reducible refine g_bld ?_); refine a_bld ?_)))
          go_ret
          exact ⟨rfl, below_seq HB7.out HM.low⟩
end Go.Proofs.Ytadnddffdedjgaa
