/- Residual of the program, where all fits. -/
import Derived.Test.YtadnddffdedjgaaSyN
namespace Go.Proofs.Ytadnddffdedjgaa
set_option maxRecDepth 8000
open Go.RowKit
/-- The residual of fund i, the first k holdings taken off. -/
def Sv.rs (U : List Int) (H : List (List Int)) (A : List Int) (f : Nat → Rat) (i k : Nat) : Rat := (Ns.gu U i : Rat) * f i - (Ns.gu A i : Rat) - Mx.sm k fun j => (Ns.gh H i j : Rat) * f j
theorem So.ol_succ (F : Nat → Array Value) (n : Nat) : So.ol F (n + 1) = So.ol F n ++ [F n] := by unfold So.ol; rw [List.range_succ, List.map_append]; rfl
theorem Sv.rs_zero (U : List Int) (H : List (List Int)) (A : List Int) (f : Nat → Rat) (i : Nat) : Sv.rs U H A f i 0 = (Ns.gu U i : Rat) * f i - (Ns.gu A i : Rat) := by unfold Sv.rs; simp only [Mx.sm]; grind
theorem Sv.rs_succ (U : List Int) (H : List (List Int)) (A : List Int) (f : Nat → Rat) (i k : Nat) : Sv.rs U H A f i (k + 1) = Sv.rs U H A f i k - (Ns.gh H i k : Rat) * f k := by unfold Sv.rs; rw [Mx.sm]; grind
theorem fit_int {n : Int} (h : n.natAbs ≤ 1000000000000000) : Rt.Fit (n : Rat) := by
  rw [Rt.int_divInt]
  exact (Rt.Bd.divInt (i := 50) (j := 1) (by decide) (Bg.p2_small 50 1125899906842624 (by unfold Bg.p2; rfl) (by omega)) (Bg.p2_small 1 2 (by unfold Bg.p2; rfl) (by decide))).fit
theorem RdS.all66 {w : World} {A : Option Addr} {k cap n : Nat} {f : Nat → Rat} (h : RdS 66 w (.slice A k cap) (qrows n f)) (h0 : 0 < n) : ∃ b off cs, A = Option.some ⟨b, off, none⟩ ∧ Hid (Rbk w b cs) ∧ Hid (∀ j, j < n → LA 42 cs (off + j * 66) (.agg (Rt.qA (f j)))) := by
  obtain ⟨hs, A', cap', e, _, h4⟩ := h
  injection e with e1 e2 e3
  rcases h4 with h4 | ⟨b, off, cs, e4, hb, hc⟩
  · exfalso
    have := qrows_len f n
    rw [h4] at this; simp at this; omega
  · refine ⟨b, off, cs, e1.trans e4, Lib.hid hb, Lib.hid fun j hj => la_in (n := 66) (by kernel_rfl) (by kernel_rfl) (qA_size _) (fun q hq => ?_) (by decide)⟩
    have h9 := rows_at hs (qrows_at f hj) (j := q) hq
    rw [← h9, Nat.mul_comm 66 j, Nat.add_assoc]
    exact hc _ (by rw [qrows_len]; omega)
set_option maxRecDepth 100000 in
set_option maxHeartbeats 8000000 in
theorem residual_any (us hs as_ ps : Value) (U : List Int) (H : List (List Int)) (A : List Int) (f : Nat → Rat) (w : World) (hR : RdN w us hs U H) (hA : RdI w as_ A) (hchk : Sv.chk U H A = 0) (hP : RdS 66 w ps (qrows U.length f)) (hf : ∀ i, i < U.length → Rt.Fit (f i))
    (hF : ∀ i, i < U.length → ∀ k, k ≤ U.length → Rt.Fit (Sv.rs U H A f i k)) (hM : ∀ i, i < U.length → Rt.Fit ((Ns.gu U i : Rat) * f i)) (hH : ∀ i, i < U.length → ∀ j, j < U.length → Rt.Fit ((Ns.gh H i j : Rat) * f j)) :
    Calls Try.prog 28 #[.agg #[us, hs], as_, ps] w fun e w' => ∃ s, e = .returned (.tuple #[s, .int .i64 0]) ∧ Below w.heap.size w w' ∧ Hid (RdS 66 w' s (qrows U.length fun i => Sv.rs U H A f i U.length)) := by
  have HM := Mem.start w
  obtain ⟨hG, hAl, hAb⟩ := Sv.chk_spec hchk
  have HG := Lib.hid hG
  have HR := Lib.hid hR
  have HA := Lib.hid hA
  have HP := Lib.hid hP
  have HFT := Lib.hid hf
  have HFF := Lib.hid hF
  have HMF := Lib.hid hM
  have HHF := Lib.hid hH
  have HAB := Lib.hid hAb
  have hn8 := hG.sh.1
  have C := fun w' hB => scheck_any us hs as_ U H A w' (hR.below hB) (hA.below hB) 0 (Lib.hid hchk.symm)
  obtain ⟨Au, cu, rfl⟩ := hR.u.form
  obtain ⟨Ah, ch, rfl⟩ := hR.h.form
  obtain ⟨Aa, ca, rfl⟩ := hA.form
  obtain ⟨Ap, cp, rfl⟩ := hP.form66
  rw [hAl] at HA C
  rw [hAl]
  have HAL := Lib.hid hAl
  have n0 := la_n0 (.slice Au U.length cu) (.slice Ah H.length ch)
  have n1 := la_n1 (.slice Au U.length cu) (.slice Ah H.length ch)
  have n2 := la_nest (.slice Au U.length cu) (.slice Ah H.length ch)
  have zq := za_rat
  have elq : elemB 27 42 66 264 = true := by kernel_rfl
  clear hR hG hA hP hf hF hM hH hAb hchk hAl
  go_enter Try.func28, Try.ntmps28
  go_upto_region 2 with (first | (go_at_call 31; ((with_reducible refine (C _ HM.low).mono ?_); rintro e9 w2 ⟨rfl, hL⟩; replace HM := HM.call hL; clear hL)) | (first | ((with_reducible refine g_ld ?_); refine a_ld HM ?_) | ((with_reducible refine g_st ?_); refine a_st HM ?_; clear HM; intro w1 HM) | ((with_reducible refine g_al ?_); refine a_al HM ?_; clear HM; intro bk w1 HM) | ((with_reducible refine g_bx ?_); refine a_bx HM ?_; clear HM; intro bk w1 HM) | ((with_reducible refine g_bld ?_); refine a_bld ?_)))
  obtain ⟨b3, rfl⟩ := HM.nm0
  clear C
  go_wp2_with (first | fail | (first | ((with_reducible refine g_ld ?_); refine a_ld HM ?_) | ((with_reducible refine g_st ?_); refine a_st HM ?_; clear HM; intro w1 HM) | ((with_reducible refine g_al ?_); refine a_al HM ?_; clear HM; intro bk w1 HM) | ((with_reducible refine g_bx ?_); refine a_bx HM ?_; clear HM; intro bk w1 HM) | ((with_reducible refine g_bld ?_); refine a_bld ?_)))
  go_loopw [6, 7, 34] (fun rv ev iv wr => ∃ i : Nat, rv = .slice none 0 0 ∧ ev = .int .i64 0 ∧ iv = .int .i64 (i : Nat) ∧ i ≤ U.length ∧ Mem w [] [(b3, #[.slice Au U.length cu, .slice Ah H.length ch])] wr) (fun _ _ iv _ => U.length - (intOf iv).toNat)
  case atStart => exact ⟨0, rfl, rfl, rfl, by omega, HM⟩
  case round =>
    clear HM
    obtain ⟨i, rfl, rfl, rfl, hi, HM⟩ := hrel
    by_cases hit : i < U.length
    · have hit1 : (i : Int) < U.length := by omega
      obtain ⟨bp, op, csp, rfl, HBP, kp⟩ := HP.out.at66 hit
      have fi := HFT.out i hit
      have s1 := sa_q (f i) (rZ_size 0 0)
      have k1 := la_q (f i)
      have V := fun w => valid_q (f i) fi w
      go_wp2_with (first | (go_at_call 47; ((with_reducible refine (V _).mono ?_); rintro e9 w2 ⟨rfl, hL⟩; replace HM := HM.call hL; clear hL)) | (first | ((with_reducible refine g_ld ?_); refine a_ld HM ?_) | ((with_reducible refine g_st ?_); refine a_st HM ?_; clear HM; intro w1 HM) | ((with_reducible refine g_al ?_); refine a_al HM ?_; clear HM; intro bk w1 HM) | ((with_reducible refine g_bx ?_); refine a_bx HM ?_; clear HM; intro bk w1 HM) | ((with_reducible refine g_bld ?_); refine a_bld ?_)))
      go_roundw
      case rel => exact ⟨i + 1, rfl, rfl, by go_num, by omega, HM.pick⟩
      case measure => simp [intOf]; omega
    · obtain rfl : i = U.length := by omega
      go_wp2_with (first | fail | (first | ((with_reducible refine g_ld ?_); refine a_ld HM ?_) | ((with_reducible refine g_st ?_); refine a_st HM ?_; clear HM; intro w1 HM) | ((with_reducible refine g_al ?_); refine a_al HM ?_; clear HM; intro bk w1 HM) | ((with_reducible refine g_bx ?_); refine a_bx HM ?_; clear HM; intro bk w1 HM) | ((with_reducible refine g_bld ?_); refine a_bld ?_)))
      go_loopw [6, 7, 11, 45] (fun rv ev sv iv wr => ∃ (i : Nat) (B : List (Nat × Array Value)), rv = .slice none 0 0 ∧ ev = .int .i64 0 ∧ iv = .int .i64 (i : Nat) ∧ i ≤ U.length ∧ Hid (SlAt 66 sv (So.ol (fun i => Rt.qA (Sv.rs U H A f i U.length)) i) B) ∧ Mem w [] ((b3, #[.slice Au U.length cu, .slice Ah H.length ch]) :: B) wr) (fun _ _ _ iv _ => U.length - (intOf iv).toNat)
      case atStart => exact ⟨0, [], rfl, rfl, rfl, by omega, Lib.hid .nil, HM⟩
      case round =>
        clear HM
        obtain ⟨i, B, rfl, rfl, rfl, hi, HO, HM⟩ := hrel
        by_cases hit : i < U.length
        · have hit1 : (i : Int) < U.length := by omega
          obtain ⟨u, hu⟩ : ∃ u, U[i]? = some u := ⟨_, List.getElem?_eq_getElem hit⟩
          obtain ⟨bU, oU, cU, rfl, HBU, ku⟩ := HR.out.u.at_ hu
          have eu := Ns.gu_at hu
          obtain ⟨a, ha⟩ : ∃ a, A[i]? = some a := ⟨_, List.getElem?_eq_getElem (by have := HAL.out; omega)⟩
          obtain ⟨bA, oA, cA, rfl, HBA, ka⟩ := HA.out.at_ ha
          have ea := Ns.gu_at ha
          obtain ⟨l, hl, hll⟩ := HG.out.at_ hit
          obtain ⟨bH, oH, cH, Al, cl, rfl, HBH, kh, HL⟩ := HR.out.h.at_ hl
          rw [hll] at kh HL
          have hih : (i : Int) < H.length := by have := HG.out.sh.2; omega
          have hu0 := HG.out.ok.u0 i hit
          have hu1 := HG.out.ok.u1 i hit
          have hab := HAB.out i hit
          rw [eu] at hu0 hu1
          rw [ea] at hab
          have HLL := Lib.hid hl
          have HLN := Lib.hid hll
          obtain ⟨bp, op, csp, e, HBP, KP⟩ : ∃ b off cs, Ap = some ⟨b, off, none⟩ ∧ Hid (Rbk w b cs) ∧ Hid (∀ j, j < U.length → LA 42 cs (off + j * 66) (.agg (Rt.qA (f j)))) := HP.out.all66 (by omega)
          subst e
          have kp := KP.out i hit
          obtain ⟨x, hx⟩ : ∃ x, Hid (x = f i) := ⟨_, Lib.hid rfl⟩
          rw [← hx.out] at kp
          have fx : Rt.Fit x := by rw [hx.out]; exact HFT.out i hit
          obtain ⟨xu, hxu⟩ : ∃ x, Hid (x = (u : Rat)) := ⟨_, Lib.hid rfl⟩
          obtain ⟨xa, hxa⟩ : ∃ x, Hid (x = (a : Rat)) := ⟨_, Lib.hid rfl⟩
          obtain ⟨y, hy⟩ : ∃ m, Hid (m = xu * x) := ⟨_, Lib.hid rfl⟩
          obtain ⟨r0, hr0⟩ : ∃ r, Hid (r = y - xa) := ⟨_, Lib.hid rfl⟩
          have hr0v : r0 = Sv.rs U H A f i 0 := by rw [Sv.rs_zero, hr0.out, hy.out, hxu.out, hxa.out, hx.out, eu, ea]
          have fu : Rt.Fit xu := by rw [hxu.out]; exact fit_int (by omega)
          have fa : Rt.Fit xa := by rw [hxa.out]; exact fit_int hab
          have fy : Rt.Fit y := by rw [hy.out, hxu.out, hx.out, ← eu]; exact HMF.out i hit
          have fr : Rt.Fit r0 := by rw [hr0v]; exact HFF.out i hit 0 (by omega)
          have W1 := fun w => whole_q u xu (by omega) (by omega) hxu w
          have W2 := fun w => whole_q a xa (by omega) (by omega) hxa w
          have M1 := fun w => mul_q xu x y fu fx hy fy w
          have S1 := fun w => sub_q y xa r0 fy fa hr0 fr w
          have sy := sa_q y (rZ_size 0 0)
          have ky := la_q y
          have sr := sa_q r0 (qA_size y)
          have HR0 := Lib.hid hr0v
          clear hu ha hl hll eu ea hab hr0v hu0 hu1
          go_upto_region 16 with (first | fail | (first | ((with_reducible refine g_ld ?_); refine a_ld HM ?_) | ((with_reducible refine g_st ?_); refine a_st HM ?_; clear HM; intro w1 HM) | ((with_reducible refine g_al ?_); refine a_al HM ?_; clear HM; intro bk w1 HM) | ((with_reducible refine g_bx ?_); refine a_bx HM ?_; clear HM; intro bk w1 HM) | ((with_reducible refine g_bld ?_); refine a_bld ?_)))
          go_cut [14, 15] (fun p ev wc => ∃ b14, p = .pointer (some ⟨b14, 0, none⟩) ∧ ev = .int .i64 0 ∧ Mem w [] ((b14, Rt.qA y) :: (b3, #[.slice (some ⟨bU, oU, none⟩) U.length cu, .slice (some ⟨bH, oH, none⟩) H.length ch]) :: B) wc)
          case first =>
            refine start_M [11] HM (by kernel_rfl) (fun w0x H9 => ?_)
            replace HM := H9; clear H9
            refine k_mv 0 (heldF HM) ?_
            refine k_mv 2 (heldF HM) ?_
            refine k_mv 3 (heldF HM) ?_
            refine k_ia 4 (heldF HM) ?_
            refine k_ld 5 [6, 7, 8, 9, 11, 12] (heldF HM) ?_
            refine j_two 1 10 ?_ ?_
            · refine j_call1 (v := ?_) HM ?_ ?_; rotate_left 1; (focus (with_reducible (first | exact W1 _ | exact M1 _))); clear HM; intro w1 HM
              refine ⟨(heldF HM), ?_⟩
              refine j_two 6 10 ?_ ?_
              · refine j_call2 (v := ?_) HM ?_ ?_; rotate_left 1; (focus (with_reducible (first | exact W1 _ | exact M1 _))); clear HM; intro w1 HM
                refine ⟨(heldF HM), ?_⟩
                refine k_mv 7 (heldF HM) ?_
                refine k_ext 8 (heldF HM) ?_
                refine k_ext 9 (heldF HM) ?_
                refine j_one 10 fun K9 hK9 => ?_
                refine j_al HM ?_; clear HM; intro bk w1 HM
                refine hK9 _ _ (heldF HM) ?_; clear hK9 K9
                refine j_one 11 fun K9 hK9 => ?_
                refine j_st HM ?_; clear HM; intro w1 HM
                refine hK9 _ _ heldN ?_; clear hK9 K9
                refine k_mv 12 heldN ?_
                refine wpAnyL_done (by kernel_rfl) ?_ _
                (go_wp2_with fail; go_meet; (case rel => exact ⟨_, rfl, rfl, HM⟩))
              · refine j_al HM ?_; clear HM; intro bk w1 HM
                refine ⟨(heldF HM), ?_⟩
                refine j_one 6 fun K9 hK9 => ?_
                refine j_call2 (v := ?_) HM ?_ ?_; rotate_left 1; (focus (with_reducible (first | exact W1 _ | exact M1 _))); clear HM; intro w1 HM
                refine hK9 _ _ (heldF HM) ?_; clear hK9 K9
                refine k_mv 7 (heldF HM) ?_
                refine k_ext 8 (heldF HM) ?_
                refine k_ext 9 (heldF HM) ?_
                refine j_one 11 fun K9 hK9 => ?_
                refine j_st HM ?_; clear HM; intro w1 HM
                refine hK9 _ _ heldN ?_; clear hK9 K9
                refine k_mv 12 heldN ?_
                refine wpAnyL_done (by kernel_rfl) ?_ _
                (go_wp2_with fail; go_meet; (case rel => exact ⟨_, rfl, rfl, HM⟩))
            · refine j_al HM ?_; clear HM; intro bk w1 HM
              refine ⟨(heldF HM), ?_⟩
              refine j_one 1 fun K9 hK9 => ?_
              refine j_call1 (v := ?_) HM ?_ ?_; rotate_left 1; (focus (with_reducible (first | exact W1 _ | exact M1 _))); clear HM; intro w1 HM
              refine hK9 _ _ (heldF HM) ?_; clear hK9 K9
              refine j_one 6 fun K9 hK9 => ?_
              refine j_call2 (v := ?_) HM ?_ ?_; rotate_left 1; (focus (with_reducible (first | exact W1 _ | exact M1 _))); clear HM; intro w1 HM
              refine hK9 _ _ (heldF HM) ?_; clear hK9 K9
              refine k_mv 7 (heldF HM) ?_
              refine k_ext 8 (heldF HM) ?_
              refine k_ext 9 (heldF HM) ?_
              refine j_one 11 fun K9 hK9 => ?_
              refine j_st HM ?_; clear HM; intro w1 HM
              refine hK9 _ _ heldN ?_; clear hK9 K9
              refine k_mv 12 heldN ?_
              refine wpAnyL_done (by kernel_rfl) ?_ _
              (go_wp2_with fail; go_meet; (case rel => exact ⟨_, rfl, rfl, HM⟩))
          case rest =>
            clear HM
            obtain ⟨b14, rfl, rfl, HM⟩ := hcut
            go_upto_region 19 with fail
            refine start_M [10] HM (by kernel_rfl) (fun w0x H9 => ?_)
            replace HM := H9; clear H9
            refine k_ld 0 [6, 7, 8, 9, 10, 11] (heldF HM) ?_
            refine k_mv 1 (heldF HM) ?_
            refine k_mv 2 (heldF HM) ?_
            refine k_ia 3 (heldF HM) ?_
            refine k_ld 4 [5, 6, 7, 8, 9, 10, 11] (heldF HM) ?_
            refine j_one 5 fun K9 hK9 => ?_
            refine j_call1 (v := ?_) HM ?_ ?_; rotate_left 1; (focus (with_reducible (first | exact W2 _ | exact S1 _))); clear HM; intro w1 HM
            refine hK9 _ _ (heldF HM) ?_; clear hK9 K9
            refine j_one 6 fun K9 hK9 => ?_
            refine j_call2 (v := ?_) HM ?_ ?_; rotate_left 1; (focus (with_reducible (first | exact W2 _ | exact S1 _))); clear HM; intro w1 HM
            refine hK9 _ _ (heldF HM) ?_; clear hK9 K9
            refine k_mv 7 (heldF HM) ?_
            refine k_ext 8 (heldF HM) ?_
            refine k_ext 9 (heldF HM) ?_
            refine j_one 10 fun K9 hK9 => ?_
            refine j_st HM ?_; clear HM; intro w1 HM
            refine hK9 _ _ heldN ?_; clear hK9 K9
            refine k_mv 11 heldN ?_
            refine wpAnyL_done (by kernel_rfl) ?_ _
            have n0 := la_n0 (.slice (some ⟨bU, oU, none⟩) U.length cu) (.slice (some ⟨bH, oH, none⟩) H.length ch)
            have n1 := la_n1 (.slice (some ⟨bU, oU, none⟩) U.length cu) (.slice (some ⟨bH, oH, none⟩) H.length ch)
            go_wp2_with (first | fail | (first | ((with_reducible refine g_ld ?_); refine a_ld HM ?_) | ((with_reducible refine g_st ?_); refine a_st HM ?_; clear HM; intro w1 HM) | ((with_reducible refine g_al ?_); refine a_al HM ?_; clear HM; intro bk w1 HM) | ((with_reducible refine g_bx ?_); refine a_bx HM ?_; clear HM; intro bk w1 HM) | ((with_reducible refine g_bld ?_); refine a_bld ?_)))
            go_loopw [6, 7, 82] (fun rv ev jv wr => ∃ (j : Nat) (r : Rat), rv = .slice none 0 0 ∧ ev = .int .i64 0 ∧ jv = .int .i64 (j : Nat) ∧ j ≤ U.length ∧ Hid (r = Sv.rs U H A f i j) ∧ Mem w [] ((b14, Rt.qA r) :: (b3, #[.slice (some ⟨bU, oU, none⟩) U.length cu, .slice (some ⟨bH, oH, none⟩) H.length ch]) :: B) wr) (fun _ _ jv _ => U.length - (intOf jv).toNat)
            case atStart => exact ⟨0, r0, rfl, rfl, rfl, by omega, HR0, HM⟩
            case round =>
              clear HM sy ky sr kp W1 W2 M1 S1
              obtain ⟨j, r, rfl, rfl, rfl, hj, HRV, HM⟩ := hrel
              have fr2 : Rt.Fit r := by rw [HRV.out]; exact HFF.out i hit j hj
              have kr := la_q r
              by_cases hjt : j < U.length
              · have hjt1 : (j : Int) < U.length := by omega
                obtain ⟨g, hg⟩ : ∃ y, l[j]? = some y := ⟨_, List.getElem?_eq_getElem (by have := HLN.out; omega)⟩
                obtain ⟨b7, off7, cs7, rfl, HB7, kg⟩ := HL.out.at_ hg
                have eg := Ns.gh_at HLL.out hg
                have hg0 := HG.out.ok.h0 i j hit hjt
                have hg1 := HG.out.ok.h1 i j hit hjt
                rw [eg] at hg0 hg1
                have kf := KP.out j hjt
                obtain ⟨v, hv⟩ : ∃ x, Hid (x = f j) := ⟨_, Lib.hid rfl⟩
                rw [← hv.out] at kf
                have fv : Rt.Fit v := by rw [hv.out]; exact HFT.out j hjt
                obtain ⟨xg, hxg⟩ : ∃ x, Hid (x = (g : Rat)) := ⟨_, Lib.hid rfl⟩
                obtain ⟨z, hz⟩ : ∃ m, Hid (m = xg * v) := ⟨_, Lib.hid rfl⟩
                obtain ⟨r2, hr2⟩ : ∃ m, Hid (m = r - z) := ⟨_, Lib.hid rfl⟩
                have hr2v : r2 = Sv.rs U H A f i (j + 1) := by rw [Sv.rs_succ, ← HRV.out, hr2.out, hz.out, hxg.out, hv.out, eg]
                have fg : Rt.Fit xg := by rw [hxg.out]; exact fit_int (by omega)
                have fz : Rt.Fit z := by rw [hz.out, hxg.out, hv.out, ← eg]; exact HHF.out i hit j hjt
                have fr3 : Rt.Fit r2 := by rw [hr2v]; exact HFF.out i hit (j + 1) (by omega)
                have HR2V := Lib.hid hr2v
                have W1 := fun w => whole_q g xg (by omega) (by omega) hxg w
                have M1 := fun w => mul_q xg v z fg fv hz fz w
                have S1 := fun w => sub_q r z r2 fr2 fz hr2 fr3 w
                have sz := sa_q z (rZ_size 0 0)
                have kz := la_q z
                have s2 := sa_q r2 (qA_size r)
                clear hg eg hg0 hg1 hr2v
                go_upto_region 25 with (first | fail | (first | ((with_reducible refine g_ld ?_); refine a_ld HM ?_) | ((with_reducible refine g_st ?_); refine a_st HM ?_; clear HM; intro w1 HM) | ((with_reducible refine g_al ?_); refine a_al HM ?_; clear HM; intro bk w1 HM) | ((with_reducible refine g_bx ?_); refine a_bx HM ?_; clear HM; intro bk w1 HM) | ((with_reducible refine g_bld ?_); refine a_bld ?_)))
                go_cut [18, 19] (fun p ev wc => ∃ b18, p = .pointer (some ⟨b18, 0, none⟩) ∧ ev = .int .i64 0 ∧ Mem w [] ((b18, Rt.qA z) :: (b14, Rt.qA r) :: (b3, #[.slice (some ⟨bU, oU, none⟩) U.length cu, .slice (some ⟨bH, oH, none⟩) H.length ch]) :: B) wc)
                case first =>
                  refine start_M [11] HM (by kernel_rfl) (fun w0x H9 => ?_)
                  replace HM := H9; clear H9
                  refine k_mv 0 (heldF HM) ?_
                  refine k_mv 2 (heldF HM) ?_
                  refine k_mv 3 (heldF HM) ?_
                  refine k_ia 4 (heldF HM) ?_
                  refine k_ld 5 [6, 7, 8, 9, 11, 12] (heldF HM) ?_
                  refine j_two 1 10 ?_ ?_
                  · refine j_call1 (v := ?_) HM ?_ ?_; rotate_left 1; (focus (with_reducible (first | exact W1 _ | exact M1 _))); clear HM; intro w1 HM
                    refine ⟨(heldF HM), ?_⟩
                    refine j_two 6 10 ?_ ?_
                    · refine j_call2 (v := ?_) HM ?_ ?_; rotate_left 1; (focus (with_reducible (first | exact W1 _ | exact M1 _))); clear HM; intro w1 HM
                      refine ⟨(heldF HM), ?_⟩
                      refine k_mv 7 (heldF HM) ?_
                      refine k_ext 8 (heldF HM) ?_
                      refine k_ext 9 (heldF HM) ?_
                      refine j_one 10 fun K9 hK9 => ?_
                      refine j_al HM ?_; clear HM; intro bk w1 HM
                      refine hK9 _ _ (heldF HM) ?_; clear hK9 K9
                      refine j_one 11 fun K9 hK9 => ?_
                      refine j_st HM ?_; clear HM; intro w1 HM
                      refine hK9 _ _ heldN ?_; clear hK9 K9
                      refine k_mv 12 heldN ?_
                      refine wpAnyL_done (by kernel_rfl) ?_ _
                      (go_wp2_with fail; go_meet; (case rel => exact ⟨_, rfl, rfl, HM⟩))
                    · refine j_al HM ?_; clear HM; intro bk w1 HM
                      refine ⟨(heldF HM), ?_⟩
                      refine j_one 6 fun K9 hK9 => ?_
                      refine j_call2 (v := ?_) HM ?_ ?_; rotate_left 1; (focus (with_reducible (first | exact W1 _ | exact M1 _))); clear HM; intro w1 HM
                      refine hK9 _ _ (heldF HM) ?_; clear hK9 K9
                      refine k_mv 7 (heldF HM) ?_
                      refine k_ext 8 (heldF HM) ?_
                      refine k_ext 9 (heldF HM) ?_
                      refine j_one 11 fun K9 hK9 => ?_
                      refine j_st HM ?_; clear HM; intro w1 HM
                      refine hK9 _ _ heldN ?_; clear hK9 K9
                      refine k_mv 12 heldN ?_
                      refine wpAnyL_done (by kernel_rfl) ?_ _
                      (go_wp2_with fail; go_meet; (case rel => exact ⟨_, rfl, rfl, HM⟩))
                  · refine j_al HM ?_; clear HM; intro bk w1 HM
                    refine ⟨(heldF HM), ?_⟩
                    refine j_one 1 fun K9 hK9 => ?_
                    refine j_call1 (v := ?_) HM ?_ ?_; rotate_left 1; (focus (with_reducible (first | exact W1 _ | exact M1 _))); clear HM; intro w1 HM
                    refine hK9 _ _ (heldF HM) ?_; clear hK9 K9
                    refine j_one 6 fun K9 hK9 => ?_
                    refine j_call2 (v := ?_) HM ?_ ?_; rotate_left 1; (focus (with_reducible (first | exact W1 _ | exact M1 _))); clear HM; intro w1 HM
                    refine hK9 _ _ (heldF HM) ?_; clear hK9 K9
                    refine k_mv 7 (heldF HM) ?_
                    refine k_ext 8 (heldF HM) ?_
                    refine k_ext 9 (heldF HM) ?_
                    refine j_one 11 fun K9 hK9 => ?_
                    refine j_st HM ?_; clear HM; intro w1 HM
                    refine hK9 _ _ heldN ?_; clear hK9 K9
                    refine k_mv 12 heldN ?_
                    refine wpAnyL_done (by kernel_rfl) ?_ _
                    (go_wp2_with fail; go_meet; (case rel => exact ⟨_, rfl, rfl, HM⟩))
                case rest =>
                  clear HM
                  obtain ⟨b18, rfl, rfl, HM⟩ := hcut
                  go_step
                  go_wp2_with (first | (go_at_call 50; ((with_reducible refine (S1 _).mono ?_); rintro e9 w2 ⟨rfl, hL⟩; replace HM := HM.call hL; clear hL)) | (first | ((with_reducible refine g_ld ?_); refine a_ld HM ?_) | ((with_reducible refine g_st ?_); refine a_st HM ?_; clear HM; intro w1 HM) | ((with_reducible refine g_al ?_); refine a_al HM ?_; clear HM; intro bk w1 HM) | ((with_reducible refine g_bx ?_); refine a_bx HM ?_; clear HM; intro bk w1 HM) | ((with_reducible refine g_bld ?_); refine a_bld ?_)))
                  go_roundw
                  case rel => exact ⟨j + 1, r2, rfl, rfl, by go_num, by omega, HR2V, HM.pick⟩
                  case measure => simp [intOf]; omega
              · obtain rfl : j = U.length := by omega
                have hcap : ((So.ol (fun i => Rt.qA (Sv.rs U H A f i U.length)) i).length + [Rt.qA r].length) * (264 + 1) ≤ 140737488355328 := by simp [So.ol]; omega
                have hone : ∀ c ∈ [Rt.qA r], c.all (·.oneCell') = true := by
                  intro c hc
                  rw [List.mem_singleton.1 hc]
                  exact qA_one r
                go_wp2_with (first | first
                  | ((with_reducible refine g_bs1 ?_); refine a_bs1 (c0 := Rt.qA r) HM ?_; clear HM; intro bx w1 HM)
                  | ((with_reducible refine g_app ?_); refine a_app (m := [Rt.qA r]) (F := fun X => (b14, Rt.qA r) :: (b3, #[.slice (some ⟨bU, oU, none⟩) U.length cu, .slice (some ⟨bH, oH, none⟩) H.length ch]) :: X) HM HO.out ((SlAt.made1 bx (qA_size r)).rd HM (by simp)) ?_ hone (hlen := hcap); clear HM; intro s2 B2 w1 HS2 HM) | (first | ((with_reducible refine g_ld ?_); refine a_ld HM ?_) | ((with_reducible refine g_st ?_); refine a_st HM ?_; clear HM; intro w1 HM) | ((with_reducible refine g_al ?_); refine a_al HM ?_; clear HM; intro bk w1 HM) | ((with_reducible refine g_bx ?_); refine a_bx HM ?_; clear HM; intro bk w1 HM) | ((with_reducible refine g_bld ?_); refine a_bld ?_)))
                go_roundw
                case rel => exact ⟨i + 1, B2, rfl, rfl, by go_num, by omega, Lib.hid (by rw [So.ol_succ, ← HRV.out]; exact HS2), HM.pick⟩
                case measure => simp [intOf]; omega
        · obtain rfl : i = U.length := by omega
          go_wp2_with (first | fail | (first | ((with_reducible refine g_ld ?_); refine a_ld HM ?_) | ((with_reducible refine g_st ?_); refine a_st HM ?_; clear HM; intro w1 HM) | ((with_reducible refine g_al ?_); refine a_al HM ?_; clear HM; intro bk w1 HM) | ((with_reducible refine g_bx ?_); refine a_bx HM ?_; clear HM; intro bk w1 HM) | ((with_reducible refine g_bld ?_); refine a_bld ?_)))
          go_ret2
          exact ⟨_, rfl, HM.low, Lib.hid (HO.out.rd HM (fun p hp => by simp [hp]))⟩
end Go.Proofs.Ytadnddffdedjgaa
namespace Go.Proofs.Ytadnddffdedjgaa
set_option maxRecDepth 8000
open Go.RowKit
namespace Ns
open Mx
/-- Numbers over one denominator, all at most B in size. -/
def Cb (n : Nat) (f : Nat → Rat) (B : Nat) : Prop := ∃ D : Int, D ≠ 0 ∧ D.natAbs ≤ B ∧ ∀ i, i < n → ∃ N : Int, N.natAbs ≤ B ∧ f i = Rat.divInt N D
def bigger : Nat := big * 1024
theorem bigger_426 : bigger < Bg.p2 426 := by
  unfold bigger
  rw [show 426 = 416 + 10 from rfl, Bg.p2_add]
  have : Bg.p2 10 = 1024 := by unfold Bg.p2; rfl
  rw [this]
  exact Nat.mul_lt_mul_of_pos_right Sy.big_416 (by decide)
theorem bigger_up {c : Nat} (hc : c ≤ 17179869184) : bigger * c < Bg.p2 460 := by
  have h : Bg.p2 460 = Bg.p2 426 * 17179869184 := by
    rw [show 460 = 426 + 34 from rfl, Bg.p2_add]
    have : Bg.p2 34 = 17179869184 := by unfold Bg.p2; rfl
    rw [this]
  rw [h]
  exact Nat.lt_of_le_of_lt (Nat.mul_le_mul_left _ hc) (Nat.mul_lt_mul_of_pos_right bigger_426 (by decide))
theorem Cb.fit_of {D N : Int} (h0 : D ≠ 0) (hD : D.natAbs ≤ bigger) (hN : N.natAbs ≤ bigger * 17179869184) : Rt.Fit (Rat.divInt N D) := by
  have h1 := bigger_426
  have h2 := bigger_up (Nat.le_refl _)
  exact (Rt.Bd.divInt (i := 460) (j := 426) h0 (by omega) (by omega)).fit
theorem Cb.self {n : Nat} {f : Nat → Rat} (h : Cb n f bigger) {i : Nat} (hi : i < n) : Rt.Fit (f i) := by
  obtain ⟨D, h0, hD, hN⟩ := h
  obtain ⟨N, hNb, e⟩ := hN i hi
  rw [e]
  exact Cb.fit_of h0 hD (Nat.le_trans hNb (Nat.le_mul_of_pos_right _ (by decide)))
theorem Cb.mul {n : Nat} {f : Nat → Rat} (h : Cb n f bigger) {i : Nat} (hi : i < n) {c : Int} (hc : c.natAbs ≤ 1000000) : Rt.Fit ((c : Rat) * f i) := by
  obtain ⟨D, h0, hD, hN⟩ := h
  obtain ⟨N, hNb, e⟩ := hN i hi
  rw [e, divInt_mul]
  refine Cb.fit_of h0 hD ?_
  rw [Int.natAbs_mul, Nat.mul_comm]
  exact Nat.mul_le_mul hNb (by omega)
theorem divInt_whole {a D : Int} (h0 : D ≠ 0) : (a : Rat) = Rat.divInt (a * D) D := by
  have hr : (D : Rat) ≠ 0 := fun e => h0 (int_eq (by rw [e]; rfl))
  rw [Rat.divInt_eq_div, Rat.intCast_mul, Rat.div_def, Rat.mul_assoc, Rat.mul_inv_cancel _ hr, Rat.mul_one]
theorem divInt_sub {M N D : Int} : Rat.divInt M D - Rat.divInt N D = Rat.divInt (M - N) D := by
  rw [Rat.divInt_eq_div, Rat.divInt_eq_div, Rat.divInt_eq_div, Rat.intCast_sub, Rat.div_def, Rat.div_def, Rat.div_def]; grind
theorem Cb.rs {n : Nat} {f : Nat → Rat} {U A : List Int} {H : List (List Int)} (h : Cb n f bigger) (hn : n ≤ 8) (hU : ∀ i, i < n → (gu U i).natAbs ≤ 1000000) (hH : ∀ i j, i < n → j < n → (gh H i j).natAbs ≤ 1000000) (hA : ∀ i, i < n → (gu A i).natAbs ≤ 1000000000) {i k : Nat} (hi : i < n) (hk : k ≤ n) : Rt.Fit (Sv.rs U H A f i k) := by
  obtain ⟨D, h0, hD, hN⟩ := h
  have key : ∀ k, k ≤ n → ∃ M : Int, M.natAbs ≤ bigger * (1000000 * k) ∧ sm k (fun j => (gh H i j : Rat) * f j) = Rat.divInt M D := by
    intro k
    induction k with
    | zero => intro _; exact ⟨0, by simp, by simp [sm]⟩
    | succ k ih =>
      intro hk
      obtain ⟨M, hM, e⟩ := ih (by omega)
      obtain ⟨N, hNb, eN⟩ := hN k (by omega)
      refine ⟨M + gh H i k * N, ?_, by rw [sm, e, eN, divInt_mul, divInt_add]⟩
      have h1 : (gh H i k * N).natAbs ≤ 1000000 * bigger := by rw [Int.natAbs_mul]; exact Nat.mul_le_mul (hH i k hi (by omega)) hNb
      have e1 : bigger * (1000000 * (k + 1)) = bigger * (1000000 * k) + 1000000 * bigger := by
        rw [Nat.mul_add, Nat.mul_one, Nat.mul_add, Nat.mul_comm bigger 1000000]
      omega
  obtain ⟨M, hM, eM⟩ := key k hk
  obtain ⟨N, hNb, eN⟩ := hN i hi
  have e : Sv.rs U H A f i k = Rat.divInt (gu U i * N - gu A i * D - M) D := by
    unfold Sv.rs
    rw [eM, eN, divInt_mul, divInt_whole (a := gu A i) h0, divInt_sub, divInt_sub]
  rw [e]
  refine Cb.fit_of h0 hD ?_
  have h1 : (gu U i * N).natAbs ≤ 1000000 * bigger := by rw [Int.natAbs_mul]; exact Nat.mul_le_mul (hU i hi) hNb
  have h2 : (gu A i * D).natAbs ≤ 1000000000 * bigger := by rw [Int.natAbs_mul]; exact Nat.mul_le_mul (hA i hi) hD
  have h3 : bigger * (1000000 * k) ≤ bigger * 8000000 := Nat.mul_le_mul_left _ (by omega)
  omega
theorem cd_cb {n : Nat} {f : Nat → Rat} (h : Cd n f) : Cb n f bigger := by
  obtain ⟨D, h0, hD, hN⟩ := h
  have hle : big ≤ bigger := Nat.le_mul_of_pos_right _ (by decide)
  exact ⟨D, h0, Nat.le_trans hD hle, fun i hi => by
    obtain ⟨N, hNb, e⟩ := hN i hi
    exact ⟨N, Nat.le_trans hNb hle, e⟩⟩
theorem mat_row {n : Nat} {u : Nat → Int} {h : Nat → Nat → Int} {g : Nat → Rat} {i : Nat} (hi : i < n) (hu : 0 < u i) : sm n (fun j => (mat u h i j : Rat) * g j) = (u i : Rat) * g i - sm n fun j => (h i j : Rat) * g j := by
  have e : sm n (fun j => (mat u h i j : Rat) * g j) = sm n (fun j => (if j = i then (u i : Rat) * g i else 0) + -1 * ((h i j : Rat) * g j)) := by
    refine sm_congr fun j hj => ?_
    unfold mat
    rw [if_neg (by omega)]
    by_cases e : i = j
    · subst e; rw [if_pos rfl, if_pos rfl, Rat.intCast_sub]; grind
    · rw [if_neg e, if_neg (fun h => e h.symm), Rat.intCast_neg]; grind
  rw [e, sm_add, sm_diag hi, sm_mul]; grind
theorem pr_rs {U A : List Int} {H : List (List Int)} {g : Nat → Rat} (hp : Pr U.length (gu U) (gh H) (gu A) g) {i : Nat} (hi : i < U.length) (hu : 0 < gu U i) : Sv.rs U H A g i U.length = 0 := by
  have h1 := hp i hi
  rw [mat_row hi hu] at h1
  unfold rhs at h1
  rw [if_neg (by omega)] at h1
  unfold Sv.rs
  grind
theorem pr_none {n : Nat} {u : Nat → Int} {h : Nat → Nat → Int} {a : Nat → Int} {f : Nat → Rat} (hf : Pr n u h a f) {i : Nat} (hi : i < n) (hu : u i = 0) : f i = 0 := by
  have := hf i hi
  rw [row_none hi hu] at this
  rw [this]; unfold rhs; rw [if_pos hu]; rfl
end Ns
end Go.Proofs.Ytadnddffdedjgaa
