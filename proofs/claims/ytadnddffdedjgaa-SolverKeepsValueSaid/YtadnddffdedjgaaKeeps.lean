/- The law SolverKeepsValue, walked. -/
import Derived.Test.YtadnddffdedjgaaSyN
namespace Go.Proofs.Ytadnddffdedjgaa
set_option maxRecDepth 8000
open Go.RowKit
set_option maxRecDepth 100000 in
set_option maxHeartbeats 8000000 in
theorem keeps_any (A : Option Addr) (xs : List Int) (c0 : Nat) (W : World) (hI : IntsAt W A xs) (hxl : xs.length ≤ 9223372036854775807) :
    Calls Try.prog 4 #[.slice A xs.length c0] W fun e w' => e = .returned (.bool true) ∧ Below W.heap.size W w' := by
  have HM := Mem.start W
  have HI := Lib.hid hI
  have zn := za_nest
  clear hI
  go_enter Try.func4, Try.ntmps4
  go_upto_region 2 with (first | (go_at_call 15; (with_reducible refine (snew_any _ _ _ _).mono ?_); rintro e9 w2 ⟨tb, rfl, HM1⟩; replace HM := HM.join HM1; clear HM1) | (first | ((with_reducible refine g_ld ?_); refine a_ld HM ?_) | ((with_reducible refine g_st ?_); refine a_st HM ?_; clear HM; intro w1 HM) | ((with_reducible refine g_al ?_); refine a_al HM ?_; clear HM; intro bk w1 HM) | ((with_reducible refine g_bx ?_); refine a_bx HM ?_; clear HM; intro bk w1 HM) | ((with_reducible refine g_bld ?_); refine a_bld ?_)))
  replace HM : Mem W [] [(tb, #[Value.slice A xs.length c0, Value.int IntKind.i64 0])] w2 := HM
  have HC : Hid (TapeC W 0 #[.slice A xs.length c0, .int .i64 0]) := ⟨A, xs, c0, 0, rfl, by omega, by omega, HI.out, hxl⟩
  clear HI
  go_upto_region 3 with (first | first | (go_at_call 16; refine (snest_any 5 false tb 0 _ [] W _ HM HC (by omega) (by omega)).mono ?_; rintro e9 w2 ⟨n, bu, bh, U, H, rb, c1, rfl, hn, hUL, hRL, HMD, HC1, HM1⟩; replace HM := HM1; replace HC := HC1; clear HM1 HC1) | ((with_reducible refine g_st ?_); refine a_st (v := .agg #[_, _]) HM ?_ (hv := sa_nest _ _ rfl rfl); clear HM; intro w1 HM) | (first | ((with_reducible refine g_ld ?_); refine a_ld HM ?_) | ((with_reducible refine g_st ?_); refine a_st HM ?_; clear HM; intro w1 HM) | ((with_reducible refine g_al ?_); refine a_al HM ?_; clear HM; intro bk w1 HM) | ((with_reducible refine g_bx ?_); refine a_bx HM ?_; clear HM; intro bk w1 HM) | ((with_reducible refine g_bld ?_); refine a_bld ?_)))
  obtain ⟨b4, rfl⟩ := HM.nm0
  have n0 := la_n0 (.slice (some ⟨bu, 0, none⟩) n n) (.slice (some ⟨bh, 0, none⟩) n n)
  have n1 := la_n1 (.slice (some ⟨bu, 0, none⟩) n n) (.slice (some ⟨bh, 0, none⟩) n n)
  have n2 := la_nest (.slice (some ⟨bu, 0, none⟩) n n) (.slice (some ⟨bh, 0, none⟩) n n)
  go_upto_region 4 with (first | (go_at_call 17; refine (sassets_any n false tb _ c1 ((b4, #[.slice (some ⟨bu, 0, none⟩) n n, .slice (some ⟨bh, 0, none⟩) n n]) :: (bu, rowsOf (U.map ic)) :: (bh, rowsOf ((rv n rb).map vc)) :: (NR rb H ++ [])) W _ HM.pick HC (by omega) (by omega)).mono ?_; rintro e9 w2 ⟨ba, As, c2, rfl, hAL, HAP, HC2, HM1⟩; replace HM := HM1; clear HM1 HC2) | (first | ((with_reducible refine g_ld ?_); refine a_ld HM ?_) | ((with_reducible refine g_st ?_); refine a_st HM ?_; clear HM; intro w1 HM) | ((with_reducible refine g_al ?_); refine a_al HM ?_; clear HM; intro bk w1 HM) | ((with_reducible refine g_bx ?_); refine a_bx HM ?_; clear HM; intro bk w1 HM) | ((with_reducible refine g_bld ?_); refine a_bld ?_)))
  have hin := Sv.asset_in HAP.out
  obtain ⟨herr, hnc⟩ := Sv.made_err HMD.out (A := As) (by omega) hin
  have HERR := Lib.hid herr.symm
  subst hUL
  have hN : RdN w2 (.slice (some ⟨bu, 0, none⟩) U.length U.length) (.slice (some ⟨bh, 0, none⟩) U.length U.length) U H := rdN_own HM rfl HMD.out.good.sh.2 hRL HMD.out.lens (by simp) (by simp) (fun q hq => by simp [hq])
  have hA2 : RdI w2 (.slice (some ⟨ba, 0, none⟩) U.length U.length) As := by
    have := (own_ints (b := ba) (A := As)).rd HM (by simp)
    rw [hAL] at this
    exact this
  have hrow := HMD.out.good
  have SV := fun w' (hB : Below w2.heap.size w2 w') => ssolve_any _ _ _ U H As w' (hN.below hB) (hA2.below hB) 0 HERR
  have HN0 := Lib.hid hN
  have HA0 := Lib.hid hA2
  have HB2 := Lib.hid HM.low
  have hbox : Rbk w2 b4 #[.slice (some ⟨bu, 0, none⟩) U.length U.length, .slice (some ⟨bh, 0, none⟩) U.length U.length] := (HM.get (by ((repeat (first | exact Look.here | refine Look.there ?_)); done))).rbk
  have HBX := Lib.hid hbox
  clear hN hA2 HM hbox
  have HM := Mem.start w2
  go_wp2_with (first | fail | (first | ((with_reducible refine g_ld ?_); refine a_ld HM ?_) | ((with_reducible refine g_st ?_); refine a_st HM ?_; clear HM; intro w1 HM) | ((with_reducible refine g_al ?_); refine a_al HM ?_; clear HM; intro bk w1 HM) | ((with_reducible refine g_bx ?_); refine a_bx HM ?_; clear HM; intro bk w1 HM) | ((with_reducible refine g_bld ?_); refine a_bld ?_)))
  refine (SV _ HM.low).mono ?_
  rintro e9 w3 ⟨s, rfl, hL, HS⟩
  obtain ⟨-, f, hf, hRS⟩ := HS.out.resolve_left (fun h => h.1 rfl)
  obtain ⟨Ap, cp, rfl⟩ := hRS.form66
  have hcd : Ns.Cd U.length f := Ns.cd HMD.out.good.ok hnc (Sv.gu_abs hAL hin) hf.1
  have HCD := Lib.hid hcd
  have HPOS := Lib.hid (Ns.price_nonneg HMD.out.good.ok hnc hf.1 (fun i hi => by
    have h9 := HAP.out (As[i]'(by omega)) (List.getElem_mem _)
    rw [Ns.gu_at (List.getElem?_eq_getElem (show i < As.length by omega))]
    exact h9.2.2 rfl))
  have HKEPT := Lib.hid (Ns.kept HMD.out.good.ok hf.1)
  have HRS := Lib.hid hRS
  replace HM := HM.call hL
  have HB3 := Lib.hid (below_seq HB2.out HM.low)
  have HN1 := Lib.hid (HN0.out.below HM.low)
  have HA1 := Lib.hid (HA0.out.below HM.low)
  have HBX1 : Hid (Rbk w3 b4 #[.slice (some ⟨bu, 0, none⟩) U.length U.length, .slice (some ⟨bh, 0, none⟩) U.length U.length]) := Lib.hid (HM.rro HBX.out (by simp))
  clear HM hRS hcd hf SV HS HERR herr hnc HN0 HA0 HBX HB2 hL
  have HM := Mem.start w3
  have hn8 := HMD.out.good.sh.1
  have HLF : Hid (∀ i, i < U.length → 0 ≤ Ns.lft U.length (Ns.gu U) (Ns.gh H) i ∧ Ns.lft U.length (Ns.gu U) (Ns.gh H) i ≤ 1000000) := Lib.hid (fun i hi => by
    have h1 := Ns.lft_bound HMD.out.good.ok hi
    have h2 := HMD.out.small i hi
    unfold Ns.lft
    omega)
  have HSF : Hid (∀ k, k ≤ U.length → Rt.Fit (Mx.sm k fun k => (Ns.lft U.length (Ns.gu U) (Ns.gh H) k : Rat) * f k)) := Lib.hid (fun k hk => Ns.cd_sum HCD.out hn8 (fun i hi => by have := HLF.out i hi; omega) hk)
  have ze := Ex.za
  have s0 := Ex.sa0 0
  have I0 := fun w => int_ex 0 0 (by decide) (by decide) (Lib.hid rfl) w
  go_upto_region 8 with (first | (go_at_call 18; ((with_reducible refine (I0 _).mono ?_); rintro e9 w2 ⟨rfl, hL⟩; replace HM := HM.call hL; clear hL)) | (first | ((with_reducible refine g_ld ?_); refine a_ld HM ?_) | ((with_reducible refine g_st ?_); refine a_st HM ?_; clear HM; intro w1 HM) | ((with_reducible refine g_al ?_); refine a_al HM ?_; clear HM; intro bk w1 HM) | ((with_reducible refine g_bx ?_); refine a_bx HM ?_; clear HM; intro bk w1 HM) | ((with_reducible refine g_bld ?_); refine a_bld ?_)))
  obtain ⟨b8, rfl⟩ := HM.nm0
  clear I0 s0
  go_wp2_with (first | fail | (first | ((with_reducible refine g_ld ?_); refine a_ld HM ?_) | ((with_reducible refine g_st ?_); refine a_st HM ?_; clear HM; intro w1 HM) | ((with_reducible refine g_al ?_); refine a_al HM ?_; clear HM; intro bk w1 HM) | ((with_reducible refine g_bx ?_); refine a_bx HM ?_; clear HM; intro bk w1 HM) | ((with_reducible refine g_bld ?_); refine a_bld ?_)))
  go_loopw [2, 9, 10] (fun rv av jv wr => ∃ (j : Nat) (q : Int) (S : Rat), rv = .bool false ∧ av = .int .i64 q ∧ jv = .int .i64 (j : Nat) ∧ j ≤ U.length ∧ Hid (q = Ns.zs j (Ns.allA (Ns.gu U) (Ns.gu As))) ∧ 0 ≤ q ∧ q ≤ j * 1000000000 ∧ Hid (S = Mx.sm j fun k => (Ns.lft U.length (Ns.gu U) (Ns.gh H) k : Rat) * f k) ∧ Mem w3 [] [(b8, Ex.A (.ok S))] wr) (fun _ _ jv _ => U.length - (intOf jv).toNat)
  case atStart => exact ⟨0, 0, 0, rfl, rfl, rfl, by omega, Lib.hid rfl, by omega, by omega, Lib.hid rfl, HM⟩
  case round =>
    clear HM
    obtain ⟨j, q, S, rfl, rfl, rfl, hj, HQ, hq0, hq1, HSV, HM⟩ := hrel
    by_cases hjt : j < U.length
    · have hjt1 : (j : Int) < U.length := by omega
      obtain ⟨bp, offp, csp, rfl, HBP, kp⟩ := HRS.out.at66 hjt
      obtain ⟨x, hx⟩ : ∃ x, Hid (x = f j) := ⟨_, Lib.hid rfl⟩
      rw [← hx.out] at kp
      have fx : Rt.Fit x := by rw [hx.out]; exact Ns.cd_self HCD.out hjt
      obtain ⟨g, hg⟩ : ∃ g, Hid (g = x.num.sign) := ⟨_, Lib.hid rfl⟩
      have hg0 : ¬ g < 0 := by rw [hg.out]; exact num_sign_nonneg (by rw [hx.out]; exact HPOS.out j hjt)
      have SG := fun w => sign_ex x g fx hg w
      obtain ⟨u, hu⟩ : ∃ u, U[j]? = some u := ⟨_, List.getElem?_eq_getElem hjt⟩
      obtain ⟨bU, offU, csU, e, HBU, KU⟩ := HN1.out.u.all (by omega)
      injection e with e
      injection e with e1 e2
      subst e1 e2
      have ku := KU.out j u hu
      rw [Nat.zero_add] at ku
      have HU := Lib.hid (Ns.gu_at hu)
      have hu0 := HMD.out.good.ok.u0 j hjt
      have hu1 := HMD.out.small j hjt
      rw [HU.out] at hu0 hu1
      clear hu
      go_wp2_with (first | first | (go_at_call 20; ((with_reducible refine (of_ex x _).mono ?_); rintro e9 w2 ⟨rfl, hL⟩; replace HM := HM.call hL; clear hL)) | (go_at_call 19; ((with_reducible refine (SG _).mono ?_); rintro e9 w2 ⟨rfl, hL⟩; replace HM := HM.call hL; clear hL)) | (first | ((with_reducible refine g_ld ?_); refine a_ld HM ?_) | ((with_reducible refine g_st ?_); refine a_st HM ?_; clear HM; intro w1 HM) | ((with_reducible refine g_al ?_); refine a_al HM ?_; clear HM; intro bk w1 HM) | ((with_reducible refine g_bx ?_); refine a_bx HM ?_; clear HM; intro bk w1 HM) | ((with_reducible refine g_bld ?_); refine a_bld ?_)))
      go_loopw [11, 12] (fun lv iv wr => ∃ (i : Nat) (T : Int), lv = .int .i64 (u - T) ∧ iv = .int .i64 (i : Nat) ∧ i ≤ U.length ∧ Hid (T = Ns.zs i fun i => if 0 < Ns.gu U i then Ns.gh H i j else 0) ∧ 0 ≤ T ∧ T ≤ i * 1000000000000000 ∧ Mem w3 [] [(b8, Ex.A (.ok S))] wr) (fun _ iv _ => U.length - (intOf iv).toNat)
      case atStart => exact ⟨0, 0, by go_num, rfl, by omega, Lib.hid rfl, by omega, by omega, HM⟩
      case round =>
        clear HM
        obtain ⟨i, T, rfl, rfl, hi, HT, hT0, hT1, HM⟩ := hrel
        by_cases hit : i < U.length
        · have hit1 : (i : Int) < U.length := by omega
          obtain ⟨v, hv⟩ : ∃ v, U[i]? = some v := ⟨_, List.getElem?_eq_getElem hit⟩
          have kv := KU.out i v hv
          rw [Nat.zero_add] at kv
          have ev := Ns.gu_at hv
          clear hv
          by_cases hv0 : 0 < v
          · obtain ⟨l, hl, hll⟩ := HMD.out.good.at_ hit
            obtain ⟨bh2, offh, csh, A2, c2', e, HBH, kh, HL⟩ := HN1.out.h.at_ hl
            injection e with e
            injection e with e1 e2
            subst e1 e2
            rw [Nat.zero_add] at kh
            obtain ⟨y, hy⟩ : ∃ y, l[j]? = some y := ⟨_, List.getElem?_eq_getElem (by omega)⟩
            obtain ⟨b7, off7, cs7, rfl, HB7, ky⟩ := HL.out.at_ hy
            have ey := Ns.gh_at hl hy
            have hy0 := HMD.out.good.ok.h0 i j hit hjt
            have hy1 := HMD.out.good.ok.h1 i j hit hjt
            rw [ey] at hy0 hy1
            rw [hll] at kh
            have HT2 : Hid (T + y = Ns.zs (i + 1) fun i => if 0 < Ns.gu U i then Ns.gh H i j else 0) := Lib.hid (by rw [Ns.zs, ← HT.out, if_pos (by rw [ev]; exact hv0), ey])
            clear hl hll hy ey ev
            go_wp2_with (first | fail | (first | ((with_reducible refine g_ld ?_); refine a_ld HM ?_) | ((with_reducible refine g_st ?_); refine a_st HM ?_; clear HM; intro w1 HM) | ((with_reducible refine g_al ?_); refine a_al HM ?_; clear HM; intro bk w1 HM) | ((with_reducible refine g_bx ?_); refine a_bx HM ?_; clear HM; intro bk w1 HM) | ((with_reducible refine g_bld ?_); refine a_bld ?_)))
            go_roundw
            case rel => exact ⟨i + 1, T + y, by go_num, by go_num, by omega, HT2, by omega, by omega, HM⟩
            case measure => simp [intOf]; omega
          · have HT2 : Hid (T = Ns.zs (i + 1) fun i => if 0 < Ns.gu U i then Ns.gh H i j else 0) := Lib.hid (by rw [Ns.zs, ← HT.out, if_neg (by rw [ev]; exact hv0)]; omega)
            clear ev
            go_wp2_with (first | fail | (first | ((with_reducible refine g_ld ?_); refine a_ld HM ?_) | ((with_reducible refine g_st ?_); refine a_st HM ?_; clear HM; intro w1 HM) | ((with_reducible refine g_al ?_); refine a_al HM ?_; clear HM; intro bk w1 HM) | ((with_reducible refine g_bx ?_); refine a_bx HM ?_; clear HM; intro bk w1 HM) | ((with_reducible refine g_bld ?_); refine a_bld ?_)))
            go_roundw
            case rel => exact ⟨i + 1, T, by go_num, by go_num, by omega, HT2, by omega, by omega, HM⟩
            case measure => simp [intOf]; omega
        · obtain rfl : i = U.length := by omega
          have hT : u - T = Ns.lft U.length (Ns.gu U) (Ns.gh H) j := by unfold Ns.lft Ns.inn; rw [HU.out, HT.out]
          obtain ⟨t, ht⟩ : ∃ t, Hid (t = u - T) := ⟨_, Lib.hid rfl⟩
          have htl : t = Ns.lft U.length (Ns.gu U) (Ns.gh H) j := ht.out.trans hT
          obtain ⟨ht0, ht1⟩ := HLF.out j hjt
          rw [← htl] at ht0 ht1
          obtain ⟨xt, hxt⟩ : ∃ x, Hid (x = (t : Rat)) := ⟨_, Lib.hid rfl⟩
          obtain ⟨z, hz⟩ : ∃ z, Hid (z = xt * x) := ⟨_, Lib.hid rfl⟩
          obtain ⟨S2, hS2⟩ : ∃ s, Hid (s = S + z) := ⟨_, Lib.hid rfl⟩
          have hS2v : S2 = Mx.sm (j + 1) fun k => (Ns.lft U.length (Ns.gu U) (Ns.gh H) k : Rat) * f k := by
            rw [hS2.out, Mx.sm, ← HSV.out, hz.out, hxt.out, hx.out, htl]
          have HS2V := Lib.hid hS2v
          have fz : Rt.Fit z := by rw [hz.out, hxt.out, hx.out]; exact Ns.cd_one HCD.out hjt (by omega)
          have fS2 : Rt.Fit S2 := by rw [hS2v]; exact HSF.out _ (by omega)
          have fS : Rt.Fit S := by rw [HSV.out]; exact HSF.out _ (by omega)
          have fxt : Rt.Fit xt := by
            rw [hxt.out, Rt.int_divInt]
            exact (Rt.Bd.divInt (i := 20) (j := 1) (by decide) (Bg.p2_small 20 1048576 (by unfold Bg.p2; rfl) (by omega)) (Bg.p2_small 1 2 (by unfold Bg.p2; rfl) (by decide))).fit
          have IT := fun w => int_ex t xt (by omega) (by omega) hxt w
          have ML := fun w => mul_ex (.ok xt) (.ok x) fxt fx (.ok z) (Lib.hid (Ex.mul_eq hz.out fz)) w
          have AD := fun w => add_ex (.ok S) (.ok z) fS fz (.ok S2) (Lib.hid (Ex.add_eq hS2.out fS2)) w
          have k8 := Ex.laA S
          have s8 := Ex.saA S S2
          obtain ⟨a, ha⟩ : ∃ a, As[j]? = some a := ⟨_, List.getElem?_eq_getElem (by omega)⟩
          obtain ⟨bA, offA, csA, e, HBA, ka⟩ := HA1.out.at_ ha
          injection e with e
          injection e with e1 e2
          subst e1 e2
          rw [Nat.zero_add] at ka
          have ea := Ns.gu_at ha
          obtain ⟨hb1, hb2, hb3⟩ := HAP.out a (List.mem_of_getElem? ha)
          have ha0 := hb3 rfl
          have htu : u - T = t := ht.out.symm
          clear hT htl hS2v hb1 hb3 ha HT hT0 hT1 hg hg0 SG
          by_cases hup : 0 < u
          · have HQ2 : Hid (q + a = Ns.zs (j + 1) (Ns.allA (Ns.gu U) (Ns.gu As))) := Lib.hid (by
              rw [Ns.zs, ← HQ.out]; unfold Ns.allA; rw [if_pos (by rw [HU.out]; exact hup), ea])
            clear ea
            go_upto_region 21 with (first | fail | (first | ((with_reducible refine g_ld ?_); refine a_ld HM ?_) | ((with_reducible refine g_st ?_); refine a_st HM ?_; clear HM; intro w1 HM) | ((with_reducible refine g_al ?_); refine a_al HM ?_; clear HM; intro bk w1 HM) | ((with_reducible refine g_bx ?_); refine a_bx HM ?_; clear HM; intro bk w1 HM) | ((with_reducible refine g_bld ?_); refine a_bld ?_)))
            try rw [htu]
            clear htu
            refine start_M [10] HM (by kernel_rfl) (fun w0x H9 => ?_)
            replace HM := H9; clear H9
            refine k_ld 0 [9, 10] (heldE HM) ?_
            refine k_mv 1 (heldE HM) ?_
            refine k_mv 3 (heldE HM) ?_
            refine k_mv 4 (heldE HM) ?_
            refine k_ia 5 (heldE HM) ?_
            refine k_ld 6 [7, 8, 9, 10] (heldE HM) ?_
            refine j_one 2 fun K9 hK9 => ?_
            refine j_call1 (v := ?_) HM ?_ ?_; rotate_left 1; (focus (with_reducible (first | exact IT _ | exact of_ex _ _ | exact ML _ | exact AD _))); clear HM; intro w1 HM
            refine hK9 _ _ (heldE HM) ?_; clear hK9 K9
            refine j_one 7 fun K9 hK9 => ?_
            refine j_call1 (v := ?_) HM ?_ ?_; rotate_left 1; (focus (with_reducible (first | exact IT _ | exact of_ex _ _ | exact ML _ | exact AD _))); clear HM; intro w1 HM
            refine hK9 _ _ (heldE HM) ?_; clear hK9 K9
            refine j_one 8 fun K9 hK9 => ?_
            refine j_call2 (v := ?_) HM ?_ ?_; rotate_left 1; (focus (with_reducible (first | exact IT _ | exact of_ex _ _ | exact ML _ | exact AD _))); clear HM; intro w1 HM
            refine hK9 _ _ (heldE HM) ?_; clear hK9 K9
            refine j_one 9 fun K9 hK9 => ?_
            refine j_call2 (v := ?_) HM ?_ ?_; rotate_left 1; (focus (with_reducible (first | exact IT _ | exact of_ex _ _ | exact ML _ | exact AD _))); clear HM; intro w1 HM
            refine hK9 _ _ (heldE HM) ?_; clear hK9 K9
            refine j_one 10 fun K9 hK9 => ?_
            refine j_st HM ?_; clear HM; intro w1 HM
            refine hK9 _ _ heldN ?_; clear hK9 K9
            refine wpAnyL_done (by kernel_rfl) ?_ _
            go_wp2_with fail
            go_roundw
            case rel => exact ⟨j + 1, q + a, S2, rfl, by go_num, by go_num, by omega, HQ2, by omega, by omega, HS2V, HM⟩
            case measure => simp [intOf]; omega
          · have HQ2 : Hid (q = Ns.zs (j + 1) (Ns.allA (Ns.gu U) (Ns.gu As))) := Lib.hid (by
              rw [Ns.zs, ← HQ.out]; unfold Ns.allA; rw [if_neg (by rw [HU.out]; exact hup)]; omega)
            clear ea
            go_upto_region 21 with (first | fail | (first | ((with_reducible refine g_ld ?_); refine a_ld HM ?_) | ((with_reducible refine g_st ?_); refine a_st HM ?_; clear HM; intro w1 HM) | ((with_reducible refine g_al ?_); refine a_al HM ?_; clear HM; intro bk w1 HM) | ((with_reducible refine g_bx ?_); refine a_bx HM ?_; clear HM; intro bk w1 HM) | ((with_reducible refine g_bld ?_); refine a_bld ?_)))
            try rw [htu]
            clear htu
            refine start_M [10] HM (by kernel_rfl) (fun w0x H9 => ?_)
            replace HM := H9; clear H9
            refine k_ld 0 [9, 10] (heldE HM) ?_
            refine k_mv 1 (heldE HM) ?_
            refine k_mv 3 (heldE HM) ?_
            refine k_mv 4 (heldE HM) ?_
            refine k_ia 5 (heldE HM) ?_
            refine k_ld 6 [7, 8, 9, 10] (heldE HM) ?_
            refine j_one 2 fun K9 hK9 => ?_
            refine j_call1 (v := ?_) HM ?_ ?_; rotate_left 1; (focus (with_reducible (first | exact IT _ | exact of_ex _ _ | exact ML _ | exact AD _))); clear HM; intro w1 HM
            refine hK9 _ _ (heldE HM) ?_; clear hK9 K9
            refine j_one 7 fun K9 hK9 => ?_
            refine j_call1 (v := ?_) HM ?_ ?_; rotate_left 1; (focus (with_reducible (first | exact IT _ | exact of_ex _ _ | exact ML _ | exact AD _))); clear HM; intro w1 HM
            refine hK9 _ _ (heldE HM) ?_; clear hK9 K9
            refine j_one 8 fun K9 hK9 => ?_
            refine j_call2 (v := ?_) HM ?_ ?_; rotate_left 1; (focus (with_reducible (first | exact IT _ | exact of_ex _ _ | exact ML _ | exact AD _))); clear HM; intro w1 HM
            refine hK9 _ _ (heldE HM) ?_; clear hK9 K9
            refine j_one 9 fun K9 hK9 => ?_
            refine j_call2 (v := ?_) HM ?_ ?_; rotate_left 1; (focus (with_reducible (first | exact IT _ | exact of_ex _ _ | exact ML _ | exact AD _))); clear HM; intro w1 HM
            refine hK9 _ _ (heldE HM) ?_; clear hK9 K9
            refine j_one 10 fun K9 hK9 => ?_
            refine j_st HM ?_; clear HM; intro w1 HM
            refine hK9 _ _ heldN ?_; clear hK9 K9
            refine wpAnyL_done (by kernel_rfl) ?_ _
            go_wp2_with fail
            go_roundw
            case rel => exact ⟨j + 1, q, S2, rfl, by go_num, by go_num, by omega, HQ2, by omega, by omega, HS2V, HM⟩
            case measure => simp [intOf]; omega
    · obtain rfl : j = U.length := by omega
      have hSq : S = (q : Rat) := by rw [HSV.out, HKEPT.out, ← HQ.out]
      have fS : Rt.Fit S := by rw [HSV.out]; exact HSF.out _ (Nat.le_refl _)
      have IT := fun w => int_ex q S (by omega) (by omega) (Lib.hid hSq) w
      have kE := Ex.lae S
      have kV := Ex.lav S
      have fA := Ex.fA S
      clear hSq
      go_upto_region 22 with (first | fail | (first | ((with_reducible refine g_ld ?_); refine a_ld HM ?_) | ((with_reducible refine g_st ?_); refine a_st HM ?_; clear HM; intro w1 HM) | ((with_reducible refine g_al ?_); refine a_al HM ?_; clear HM; intro bk w1 HM) | ((with_reducible refine g_bx ?_); refine a_bx HM ?_; clear HM; intro bk w1 HM) | ((with_reducible refine g_bld ?_); refine a_bld ?_)))
      refine start_M [] HM (by kernel_rfl) (fun w0x H9 => ?_)
      replace HM := H9; clear H9
      refine k_fa 0 (heldE HM) ?_
      refine k_ld 1 [] (heldE HM) ?_
      refine k_bin 2 (heldE HM) ?_
      refine k_mv 3 (heldE HM) ?_
      refine k_fa 4 (heldE HM) ?_
      refine k_ld 5 [] (heldE HM) ?_
      refine k_mv 6 (heldE HM) ?_
      refine j_one 7 fun K9 hK9 => ?_
      refine j_call1 (v := ?_) HM ?_ ?_; rotate_left 1; (focus (with_reducible (first | exact IT _ | exact awake35_any _))); clear HM; intro w1 HM
      refine hK9 _ _ (heldE HM) ?_; clear hK9 K9
      refine t_pure (i := 8) (v := .agg (Rt.qA S)) rfl rfl (by kernel_rfl) (fun _ _ _ h => h) (heldE HM) (by rfl) ?_ ?_; (focus (refine h_fld rfl ?_ Ex.und (by kernel_rfl) fA; ((conv => lhs; whnf) <;> rfl))); ((try simp only [List.setIfInBounds_toArray]); (try simp only [List.set_cons_succ]); (try simp only [List.set_cons_zero]))
      refine t_eq (i := 9) (v := ?_) [] rfl rfl rfl (by kernel_rfl) (fun _ _ _ h => h) (heldE HM) ?_ ?_; rotate_left 1; (focus ((refine y_cmpq .eql (S) (S) true (.inl rfl) (by simp) (fS) (fS) (x := ?_) (y := ?_) (t := ?_) ?_ ?_ ?_ ?_; rotate_left 3; (focus rfl); (focus rfl); (focus ((conv => lhs; whnf) <;> rfl)); ((conv => lhs; whnf) <;> rfl)))); ((try simp only [List.setIfInBounds_toArray]); (try simp only [List.set_cons_succ]); (try simp only [List.set_cons_zero]))
      refine k_pick 10 (heldE HM) ?_
      refine k_mv 11 (heldE HM) ?_
      refine j_one 12 fun K9 hK9 => ?_
      refine j_call0 (v := ?_) HM ?_ ?_; rotate_left 1; (focus (with_reducible (first | exact IT _ | exact awake35_any _))); clear HM; intro w1 HM
      refine hK9 _ _ (heldE HM) ?_; clear hK9 K9
      refine k_pick 13 (heldE HM) ?_
      refine k_mv 14 (heldE HM) ?_
      refine wpAnyL_done (by kernel_rfl) ?_ _
      go_wp2_with fail
      go_ret
      exact ⟨rfl, below_seq HB3.out HM.low⟩
end Go.Proofs.Ytadnddffdedjgaa
