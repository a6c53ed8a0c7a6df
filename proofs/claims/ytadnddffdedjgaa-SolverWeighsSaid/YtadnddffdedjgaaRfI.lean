/- The document's determinant, walked. -/
import Derived.Test.YtadnddffdedjgaaRfH
namespace Go.Proofs.Ytadnddffdedjgaa
set_option maxRecDepth 8000
open Go.RowKit
set_option maxRecDepth 100000 in
set_option maxHeartbeats 8000000 in
theorem rdet_any (n : Nat) (Z0 : Nat → Nat → Int) (A : Mx.Mat) (bo : Nat) (rb0 : List Nat) (W w : World) (R : List (Nat × Array Value)) (HM : Mem W [] ((bo, rowsOf ((rv n rb0).map vc)) :: (NF rb0 (zR n Z0) ++ R)) w) (hr : rb0.length = n) (hn : n ≤ 8)
    (hu : ∀ r, r < n → ∃ q, ∀ r', r' < n → A r' q = if r' = r then 1 else 0) (hZ : ∀ i j, i < n → j < n → (Z0 i j : Rat) = A i j) (hE : Mx.Ent A n (1000000000000000 : Nat)) :
    Calls Try.prog 56 #[.slice (some ⟨bo, 0, none⟩) n n] w fun e w' => ∃ D : Int, e = .returned (.agg (Bg.zA D)) ∧ Hid ((D : Rat) = Mx.det n A) ∧ Hid (D.natAbs ≤ Mx.big) ∧ Mem W [] R w' := by
  have HE := Lib.hid hE
  have HG0 : Hid (Mx.Gz n n A 0 0 false Z0 1) := Lib.hid (Mx.Gz.start hu hZ)
  have HR0 := Lib.hid hr
  have hzi := za_int
  have F1 := fun w => rfromInt_z 1 (by decide) (by decide) w
  have F0 := fun w => rfromInt_z 0 (by decide) (by decide) w
  clear hE hu hZ hr
  go_enter Try.func56, Try.ntmps56
  go_upto_region 2 with (first | (go_at_call 59; ((with_reducible refine (F1 _).mono ?_); rintro e9 w2 ⟨rfl, hL⟩; replace HM := HM.call hL; clear hL)) | (first | ((with_reducible refine g_ld ?_); refine a_ld HM ?_) | ((with_reducible refine g_st ?_); refine a_st HM ?_; clear HM; intro w1 HM) | ((with_reducible refine g_al ?_); refine a_al HM ?_; clear HM; intro bk w1 HM) | ((with_reducible refine g_bx ?_); refine a_bx HM ?_; clear HM; intro bk w1 HM) | ((with_reducible refine g_bld ?_); refine a_bld ?_)))
  obtain ⟨b4, rfl⟩ := HM.nm0
  obtain ⟨b2, rfl⟩ := HM.nm1
  go_wp2_with (first | fail | (first | ((with_reducible refine g_ld ?_); refine a_ld HM ?_) | ((with_reducible refine g_st ?_); refine a_st HM ?_; clear HM; intro w1 HM) | ((with_reducible refine g_al ?_); refine a_al HM ?_; clear HM; intro bk w1 HM) | ((with_reducible refine g_bx ?_); refine a_bx HM ?_; clear HM; intro bk w1 HM) | ((with_reducible refine g_bld ?_); refine a_bld ?_)))
  go_loopw [5, 6] (fun mv kv wr => ∃ (k : Nat) (m : Bool) (Z : Nat → Nat → Int) (last : Int) (rb : List Nat), mv = .bool m ∧ kv = .int .i64 (k : Nat) ∧ k ≤ n ∧ Hid (rb.length = n) ∧ Hid (Mx.Gz n n A k k m Z last) ∧ Mem W [] ((b4, Bg.zA last) :: (b2, Bg.zA 0) :: (bo, rowsOf ((rv n rb).map vc)) :: (NF rb (zR n Z) ++ R)) wr) (fun _ kv _ => n - (intOf kv).toNat)
  case atStart => exact ⟨0, false, Z0, 1, rb0, rfl, rfl, by omega, HR0, HG0, HM⟩
  case round =>
    clear HM
    obtain ⟨k, m, Z, last, rb, rfl, rfl, hk, HRL, HG, HM⟩ := hrel
    by_cases hkt : k < n
    · have hkt1 : (k : Int) < n := by omega
      go_wp2_with (first | fail | (first | ((with_reducible refine g_ld ?_); refine a_ld HM ?_) | ((with_reducible refine g_st ?_); refine a_st HM ?_; clear HM; intro w1 HM) | ((with_reducible refine g_al ?_); refine a_al HM ?_; clear HM; intro bk w1 HM) | ((with_reducible refine g_bx ?_); refine a_bx HM ?_; clear HM; intro bk w1 HM) | ((with_reducible refine g_bld ?_); refine a_bld ?_)))
      go_loopw [7] (fun rv_ wr => ∃ row : Nat, rv_ = .int .i64 (row : Nat) ∧ k ≤ row ∧ row ≤ n ∧ Hid (∀ i, k ≤ i → i < row → Z i k = 0) ∧ Mem W [] ((b4, Bg.zA last) :: (b2, Bg.zA 0) :: (bo, rowsOf ((rv n rb).map vc)) :: (NF rb (zR n Z) ++ R)) wr) (fun rv_ _ => n - (intOf rv_).toNat)
      case atStart => exact ⟨k, rfl, by omega, by omega, Lib.hid (fun i h1 h2 => by omega), HM⟩
      case round =>
        clear HM
        obtain ⟨row, rfl, hrow0, hrow, HZ, HM⟩ := hrel
        by_cases hrt : row < n
        · have hrt1 : (row : Int) < n := by omega
          obtain ⟨br, hbr⟩ : ∃ b, rb[row]? = some b := ⟨_, List.getElem?_eq_getElem (by rw [HRL.out]; exact hrt)⟩
          obtain ⟨x, hx⟩ : ∃ x, Hid (x = Z row k) := ⟨_, Lib.hid rfl⟩
          have hidx : row < (NF rb (zR n Z)).length := by rw [NF_len, HRL.out]; exact hrt
          have HIX := Lib.hid hidx
          have lv : LA 112 (rowsOf ((rv n rb).map vc)) row (.slice (some ⟨br, 0, none⟩) n n) := la_valsZ (by unfold rv; rw [List.getElem?_map, hbr]; rfl)
          have lx : LA 40 (zR n Z row) (k * 33) (.agg (Bg.zA x)) := by rw [hx.out]; exact la_zR _ hkt
          have xb : x.natAbs < Bg.lim := by rw [hx.out]; exact Sy.lim (HG.out.bound HE.out hn hk hrow0 hrt (Nat.le_refl _) hkt)
          obtain ⟨g, hg⟩ : ∃ g, Hid (g = x.sign) := ⟨_, Lib.hid rfl⟩
          have SG := fun w => rsign_z x g xb hg w
          have ES : Hid ((NF rb (zR n Z)).set row (br, zR n Z row) = NF rb (zR n Z)) := Lib.hid (NF_set hbr fun _ _ _ => rfl)
          have HM2 := HM.openRow [_, _, _] (NF_at hbr)
          clear HM
          have HM := HM2
          clear HM2
          replace HM : Mem W [] ((br, zR n Z row) :: (b4, Bg.zA last) :: (b2, Bg.zA 0) :: (bo, rowsOf ((rv n rb).map vc)) :: ((NF rb (zR n Z)).eraseIdx row ++ R)) _ := HM
          have HBR := Lib.hid hbr
          clear hidx hbr xb
          by_cases hx0 : x = 0
          · obtain rfl : g = 0 := by rw [hg.out, hx0]; rfl
            have HZ2 : Hid (∀ i, k ≤ i → i < row + 1 → Z i k = 0) := Lib.hid (fun i h1 h2 => by
              by_cases e : i = row
              · subst e; rw [← hx.out]; exact hx0
              · exact HZ.out i h1 (by omega))
            clear hx0 hx hg
            go_wp2_with (first | (go_at_call 61; ((with_reducible refine (SG _).mono ?_); rintro e9 w2 ⟨rfl, hL⟩; replace HM := HM.call hL; clear hL)) | (first | ((with_reducible refine g_ld ?_); refine a_ld HM ?_) | ((with_reducible refine g_st ?_); refine a_st HM ?_; clear HM; intro w1 HM) | ((with_reducible refine g_al ?_); refine a_al HM ?_; clear HM; intro bk w1 HM) | ((with_reducible refine g_bx ?_); refine a_bx HM ?_; clear HM; intro bk w1 HM) | ((with_reducible refine g_bld ?_); refine a_bld ?_)))
            go_roundw
            case rel => exact ⟨row + 1, by go_num, by omega, by omega, HZ2, by have := HM.closeRow [_, _, _] HIX.out; rw [ES.out] at this; exact this⟩
            case measure => simp [intOf]; omega
          · have hg0 : g ≠ 0 := by rw [hg.out]; intro e; exact hx0 (Int.sign_eq_zero_iff_zero.1 e)
            have hg1 : (g == 0) = false := beq_eq_false_iff_ne.2 hg0
            clear hx0
            have hrn : ¬ (row : Int) = n := by omega
            go_upto_region 10 with (first | (go_at_call 61; ((with_reducible refine (SG _).mono ?_); rintro e9 w2 ⟨rfl, hL⟩; replace HM := HM.call hL; clear hL)) | (first | ((with_reducible refine g_ld ?_); refine a_ld HM ?_) | ((with_reducible refine g_st ?_); refine a_st HM ?_; clear HM; intro w1 HM) | ((with_reducible refine g_al ?_); refine a_al HM ?_; clear HM; intro bk w1 HM) | ((with_reducible refine g_bx ?_); refine a_bx HM ?_; clear HM; intro bk w1 HM) | ((with_reducible refine g_bld ?_); refine a_bld ?_)))
            have HM2 := HM.closeRow [_, _, _] HIX.out
            rw [ES.out] at HM2
            clear HM
            have HM := HM2
            clear HM2
            replace HM : Mem W [] ((b4, Bg.zA last) :: (b2, Bg.zA 0) :: (bo, rowsOf ((rv n rb).map vc)) :: (NF rb (zR n Z) ++ R)) _ := HM
            have HX0 : Hid (Z row k ≠ 0) := Lib.hid (by rw [← hx.out]; intro e; rw [e] at hg; exact hg0 hg.out)
            clear lx lv SG hg hg0 hg1 hx
            rcases Classical.em (row = k) with hrk | hrk
            case' inl =>
              have HX1 : Hid (Z k k ≠ 0) := Lib.hid (by have := HX0.out; rw [hrk] at this; exact this)
              have hrk1 : (row : Int) = k := by omega
              clear hrk HX0 HBR
              obtain ⟨Z1, rfl⟩ : ∃ Z1, Z1 = Z := ⟨_, rfl⟩
              obtain ⟨rb1, rfl⟩ : ∃ r, r = rb := ⟨_, rfl⟩
              obtain ⟨m1, rfl⟩ : ∃ r, r = m := ⟨_, rfl⟩
              have HG1 := HG
              have HRL1 := HRL
              go_upto_region 12 with (first | fail | (first | ((with_reducible refine g_ld ?_); refine a_ld HM ?_) | ((with_reducible refine g_st ?_); refine a_st HM ?_; clear HM; intro w1 HM) | ((with_reducible refine g_al ?_); refine a_al HM ?_; clear HM; intro bk w1 HM) | ((with_reducible refine g_bx ?_); refine a_bx HM ?_; clear HM; intro bk w1 HM) | ((with_reducible refine g_bld ?_); refine a_bld ?_)))
              clear hrk1
            case' inr =>
              have hrk1 : ¬ (row : Int) = k := by omega
              obtain ⟨bk, hbk⟩ : ∃ b, rb[k]? = some b := ⟨_, List.getElem?_eq_getElem (by rw [HRL.out]; exact hkt)⟩
              have hrl : (rv n rb).length = n := by simp [rv, HRL.out]
              have lvr : LA 112 (rowsOf ((rv n rb).map vc)) row (.slice (some ⟨br, 0, none⟩) n n) := la_valsZ (by unfold rv; rw [List.getElem?_map, HBR.out]; rfl)
              have lvk : LA 112 (rowsOf ((rv n rb).map vc)) k (.slice (some ⟨bk, 0, none⟩) n n) := la_valsZ (by unfold rv; rw [List.getElem?_map, hbk]; rfl)
              have s1 := sa_valsZ (rv n rb) (i := row) (.slice (some ⟨bk, 0, none⟩) n n) (by omega) rfl
              have s2 := sa_valsZ ((rv n rb).set row (.slice (some ⟨bk, 0, none⟩) n n)) (i := k) (.slice (some ⟨br, 0, none⟩) n n) (by rw [List.length_set]; omega) rfl
              rw [rv_swap HBR.out hbk] at s2
              have HSW : Hid ((NF (swl rb row k) fun r => zR n Z (Mx.sw row k r)).Perm (NF rb (zR n Z))) := Lib.hid (NF_swap (by rw [HRL.out]; exact hrt) (by rw [HRL.out]; exact hkt))
              have HG2 := Lib.hid (HG.out.swap (Nat.le_refl _) (show k < row by omega) hrt)
              have HX2 : Hid (Z (Mx.sw row k k) k ≠ 0) := Lib.hid (by
                have : Mx.sw row k k = row := by unfold Mx.sw; rw [if_neg (fun h => hrk h.symm), if_pos rfl]
                rw [this]; exact HX0.out)
              clear hbk hrl hrk
              go_upto_region 11 with (first | fail | (first | ((with_reducible refine g_ld ?_); refine a_ld HM ?_) | ((with_reducible refine g_st ?_); refine a_st HM ?_; clear HM; intro w1 HM) | ((with_reducible refine g_al ?_); refine a_al HM ?_; clear HM; intro bk w1 HM) | ((with_reducible refine g_bx ?_); refine a_bx HM ?_; clear HM; intro bk w1 HM) | ((with_reducible refine g_bld ?_); refine a_bld ?_)))
              refine start_M [15, 17] HM (by kernel_rfl) (fun w0x H9 => ?_)
              replace HM := H9; clear H9
              refine k_mv 0 (heldF HM) ?_
              refine k_mv 1 (heldF HM) ?_
              refine k_mv 2 (heldF HM) ?_
              refine k_mv 3 (heldF HM) ?_
              refine k_mv 4 (heldF HM) ?_
              refine k_mv 5 (heldF HM) ?_
              refine k_ia 6 (heldF HM) ?_
              refine k_ld 7 [14, 15, 16, 17, 18] (heldF HM) ?_
              refine k_mv 8 (heldF HM) ?_
              refine k_mv 9 (heldF HM) ?_
              refine k_ia 10 (heldF HM) ?_
              refine k_ld 11 [14, 15, 16, 17, 18] (heldF HM) ?_
              refine k_mv 12 (heldF HM) ?_
              refine k_not 13 (heldF HM) ?_
              refine k_ia 14 (heldF HM) ?_
              refine j_one 15 fun K9 hK9 => ?_
              refine j_st HM ?_; clear HM; intro w1 HM
              refine hK9 _ _ heldN ?_; clear hK9 K9
              refine k_ia 16 heldN ?_
              refine j_one 17 fun K9 hK9 => ?_
              refine j_st HM ?_; clear HM; intro w1 HM
              refine hK9 _ _ heldN ?_; clear hK9 K9
              refine k_mv 18 heldN ?_
              refine wpAnyL_done (by kernel_rfl) ?_ _
              replace HM := HM.perm (((HSW.out.append_right R).cons _).cons _ |>.cons _)
              obtain ⟨Z1, hZ1⟩ : ∃ Z1, Z1 = fun r => Z (Mx.sw row k r) := ⟨_, rfl⟩
              obtain ⟨rb1, hrb1⟩ : ∃ r, r = swl rb row k := ⟨_, rfl⟩
              have eZ : (fun r => zR n Z (Mx.sw row k r)) = zR n Z1 := by rw [hZ1]; rfl
              have HX1 : Hid (Z1 k k ≠ 0) := Lib.hid (by rw [hZ1]; exact HX2.out)
              have HRL1 : Hid (rb1.length = n) := Lib.hid (by rw [hrb1, swl_len]; exact HRL.out)
              have HG1 := HG2
              rw [← hZ1] at HG1
              rw [eZ, ← hrb1] at HM
              generalize (!m) = m1 at HG1 ⊢
              clear HG2 HX2 eZ hZ1 hrb1 HSW lvr lvk s1 s2 hrk1 HX0 HBR
              go_upto_region 12 with (first | fail | (first | ((with_reducible refine g_ld ?_); refine a_ld HM ?_) | ((with_reducible refine g_st ?_); refine a_st HM ?_; clear HM; intro w1 HM) | ((with_reducible refine g_al ?_); refine a_al HM ?_; clear HM; intro bk w1 HM) | ((with_reducible refine g_bx ?_); refine a_bx HM ?_; clear HM; intro bk w1 HM) | ((with_reducible refine g_bld ?_); refine a_bld ?_)))
            all_goals
              go_wp2_with (first | fail | (first | ((with_reducible refine g_ld ?_); refine a_ld HM ?_) | ((with_reducible refine g_st ?_); refine a_st HM ?_; clear HM; intro w1 HM) | ((with_reducible refine g_al ?_); refine a_al HM ?_; clear HM; intro bk w1 HM) | ((with_reducible refine g_bx ?_); refine a_bx HM ?_; clear HM; intro bk w1 HM) | ((with_reducible refine g_bld ?_); refine a_bld ?_)))
              go_loopw [8] (fun iv wr => ∃ i : Nat, iv = .int .i64 (i : Nat) ∧ k + 1 ≤ i ∧ i ≤ n ∧ Mem W [] ((b4, Bg.zA last) :: (b2, Bg.zA 0) :: (bo, rowsOf ((rv n rb1).map vc)) :: (NF rb1 (zR n (dst Z1 k last i (k + 1))) ++ R)) wr) (fun iv _ => n - (intOf iv).toNat)
              case atStart => exact ⟨k + 1, by go_num, by omega, by omega, by
                have e : NF rb1 (zR n (dst Z1 k last (k + 1) (k + 1))) = NF rb1 (zR n Z1) := NF_congr fun a _ => zR_congr fun b _ => dst_start
                rw [e]; exact HM⟩
              case round =>
                clear HM
                obtain ⟨i, rfl, hi0, hi, HM⟩ := hrel
                by_cases hit : i < n
                · have hit1 : (i : Int) < n := by omega
                  go_wp2_with (first | fail | (first | ((with_reducible refine g_ld ?_); refine a_ld HM ?_) | ((with_reducible refine g_st ?_); refine a_st HM ?_; clear HM; intro w1 HM) | ((with_reducible refine g_al ?_); refine a_al HM ?_; clear HM; intro bk w1 HM) | ((with_reducible refine g_bx ?_); refine a_bx HM ?_; clear HM; intro bk w1 HM) | ((with_reducible refine g_bld ?_); refine a_bld ?_)))
                  go_loopw [9] (fun jv wr => ∃ j : Nat, jv = .int .i64 (j : Nat) ∧ k + 1 ≤ j ∧ j ≤ n ∧ Mem W [] ((b4, Bg.zA last) :: (b2, Bg.zA 0) :: (bo, rowsOf ((rv n rb1).map vc)) :: (NF rb1 (zR n (dst Z1 k last i j)) ++ R)) wr) (fun jv _ => n - (intOf jv).toNat)
                  case atStart => exact ⟨k + 1, by go_num, by omega, by omega, HM⟩
                  case round =>
                    clear HM
                    obtain ⟨j, rfl, hj0, hj, HM⟩ := hrel
                    by_cases hjt : j < n
                    · have hjt1 : (j : Int) < n := by omega
                      obtain ⟨bi, hbi⟩ : ∃ b, rb1[i]? = some b := ⟨_, List.getElem?_eq_getElem (by rw [HRL1.out]; exact hit)⟩
                      obtain ⟨bk, hbk⟩ : ∃ b, rb1[k]? = some b := ⟨_, List.getElem?_eq_getElem (by rw [HRL1.out]; exact hkt)⟩
                      have lvi : LA 112 (rowsOf ((rv n rb1).map vc)) i (.slice (some ⟨bi, 0, none⟩) n n) := la_valsZ (by unfold rv; rw [List.getElem?_map, hbi]; rfl)
                      have lvk : LA 112 (rowsOf ((rv n rb1).map vc)) k (.slice (some ⟨bk, 0, none⟩) n n) := la_valsZ (by unfold rv; rw [List.getElem?_map, hbk]; rfl)
                      obtain ⟨p, hp⟩ : ∃ y, Hid (y = Z1 k k) := ⟨_, Lib.hid rfl⟩
                      obtain ⟨q, hq⟩ : ∃ y, Hid (y = Z1 i j) := ⟨_, Lib.hid rfl⟩
                      obtain ⟨r, hr⟩ : ∃ y, Hid (y = Z1 i k) := ⟨_, Lib.hid rfl⟩
                      obtain ⟨s, hs⟩ : ∃ y, Hid (y = Z1 k j) := ⟨_, Lib.hid rfl⟩
                      have lkk : LA 40 (zR n (dst Z1 k last i j) k) (k * 33) (.agg (Bg.zA p)) := by
                        have := la_zR (dst Z1 k last i j) (i := k) hkt
                        rw [dst_top, ← hp.out] at this; exact this
                      have lij : LA 40 (zR n (dst Z1 k last i j) i) (j * 33) (.agg (Bg.zA q)) := by
                        have := la_zR (dst Z1 k last i j) (i := i) hjt
                        rw [dst_here, ← hq.out] at this; exact this
                      have lik : LA 40 (zR n (dst Z1 k last i j) i) (k * 33) (.agg (Bg.zA r)) := by
                        have := la_zR (dst Z1 k last i j) (i := i) hkt
                        rw [dst_col, ← hr.out] at this; exact this
                      have lkj : LA 40 (zR n (dst Z1 k last i j) k) (j * 33) (.agg (Bg.zA s)) := by
                        have := la_zR (dst Z1 k last i j) (i := k) hjt
                        rw [dst_top, ← hs.out] at this; exact this
                      have bp : p.natAbs ≤ Mx.big := by rw [hp.out]; exact HG1.out.bound HE.out hn hk (Nat.le_refl _) hkt (Nat.le_refl _) hkt
                      have bq : q.natAbs ≤ Mx.big := by rw [hq.out]; exact HG1.out.bound HE.out hn hk (by omega) hit (by omega) hjt
                      have br_ : r.natAbs ≤ Mx.big := by rw [hr.out]; exact HG1.out.bound HE.out hn hk (by omega) hit (Nat.le_refl _) hkt
                      have bs : s.natAbs ≤ Mx.big := by rw [hs.out]; exact HG1.out.bound HE.out hn hk (Nat.le_refl _) hkt (by omega) hjt
                      have bl := HG1.out.bound_last HE.out hn hk
                      have hbl := Sy.big_lim
                      rw [Bg.p2_lim] at hbl
                      obtain ⟨u, hu⟩ : ∃ u, Hid (u = p * q) := ⟨_, Lib.hid rfl⟩
                      obtain ⟨v, hv⟩ : ∃ v, Hid (v = r * s) := ⟨_, Lib.hid rfl⟩
                      obtain ⟨z, hzz⟩ : ∃ z, Hid (z = u - v) := ⟨_, Lib.hid rfl⟩
                      obtain ⟨x1, hx1⟩ : ∃ x, Hid (x = z / last) := ⟨_, Lib.hid rfl⟩
                      obtain ⟨y1, hy1⟩ : ∃ x, Hid (x = z % last) := ⟨_, Lib.hid rfl⟩
                      have lu : u.natAbs ≤ Mx.big * Mx.big := by rw [hu.out]; exact Sy.mul_lim bp bq
                      have lw : v.natAbs ≤ Mx.big * Mx.big := by rw [hv.out]; exact Sy.mul_lim br_ bs
                      have lz : z.natAbs ≤ Mx.big * Mx.big + Mx.big * Mx.big := by rw [hzz.out]; omega
                      have M1 := fun w => rmul35 p q u (Sy.lim bp) (Sy.lim bq) hu (by omega) w
                      have M2 := fun w => rmul35 r s v (Sy.lim br_) (Sy.lim bs) hv (by omega) w
                      have S1 := fun w => rsub35 u v z (by omega) (by omega) hzz (by omega) w
                      have D1 := fun w => rdivMod_zz z last x1 y1 (by omega) (Sy.lim bl) HG1.out.last_ne hx1 hy1 w
                      have hnx : Mx.nx Z1 k last i j = x1 := by
                        unfold Mx.nx
                        rw [if_neg (by omega), hx1.out, hzz.out, hu.out, hv.out, hp.out, hq.out, hr.out, hs.out]
                      have sx := sa_zR (dst Z1 k last i j) (dst Z1 k last i (j + 1)) (i := i) (z := x1) hjt (by rw [dst_new (by omega) (by omega)]; exact hnx) (fun b _ hb => dst_old (by omega))
                      have ES : Hid ((NF rb1 (zR n (dst Z1 k last i j))).set i (bi, zR n (dst Z1 k last i (j + 1)) i) = NF rb1 (zR n (dst Z1 k last i (j + 1)))) := Lib.hid (NF_set hbi fun a _ ha => zR_congr fun b _ => dst_old (by omega))
                      obtain ⟨rest, HM2, hcl⟩ := HM.openTwo [_, _, _] (NF_at hbi) (NF_at hbk) (show k ≠ i by omega)
                      clear HM
                      have HM := HM2
                      clear HM2
                      replace HM : Mem W [] ((bi, zR n (dst Z1 k last i j) i) :: (bk, zR n (dst Z1 k last i j) k) :: (b4, Bg.zA last) :: (b2, Bg.zA 0) :: (bo, rowsOf ((rv n rb1).map vc)) :: (rest ++ R)) _ := HM
                      have HCLO := Lib.hid hcl
                      clear hcl hbi hbk bp bq br_ bs bl hbl lu lw lz hnx hp hq hr hs hu hv hzz hx1 hy1
                      go_upto_region 18 with (first | fail | (first | ((with_reducible refine g_ld ?_); refine a_ld HM ?_) | ((with_reducible refine g_st ?_); refine a_st HM ?_; clear HM; intro w1 HM) | ((with_reducible refine g_al ?_); refine a_al HM ?_; clear HM; intro bk w1 HM) | ((with_reducible refine g_bx ?_); refine a_bx HM ?_; clear HM; intro bk w1 HM) | ((with_reducible refine g_bld ?_); refine a_bld ?_)))
                      refine start_M [43] HM (by kernel_rfl) (fun w0x H9 => ?_)
                      replace HM := H9; clear H9
                      refine k_mv 0 (heldF HM) ?_
                      refine k_mv 1 (heldF HM) ?_
                      refine k_ia 2 (heldF HM) ?_
                      refine k_ld 3 [42, 43] (heldF HM) ?_
                      refine k_mv 4 (heldF HM) ?_
                      refine k_mv 5 (heldF HM) ?_
                      refine k_mv 6 (heldF HM) ?_
                      refine k_ia 7 (heldF HM) ?_
                      refine k_ld 8 [10, 11, 19, 34, 35, 37, 38, 39, 40, 41, 42, 43] (heldF HM) ?_
                      refine k_mv 9 (heldF HM) ?_
                      refine k_ia 10 (heldF HM) ?_
                      refine k_ld 11 [19, 34, 35, 37, 38, 39, 40, 41, 42, 43] (heldF HM) ?_
                      refine k_mv 12 (heldF HM) ?_
                      refine k_mv 13 (heldF HM) ?_
                      refine k_ia 14 (heldF HM) ?_
                      refine k_ld 15 [17, 18, 19, 34, 35, 37, 38, 39, 40, 41, 42, 43] (heldF HM) ?_
                      refine k_mv 16 (heldF HM) ?_
                      refine k_ia 17 (heldF HM) ?_
                      refine k_ld 18 [19, 34, 35, 37, 38, 39, 40, 41, 42, 43] (heldF HM) ?_
                      refine k_mv 20 (heldF HM) ?_
                      refine k_mv 21 (heldF HM) ?_
                      refine k_ia 22 (heldF HM) ?_
                      refine k_ld 23 [25, 26, 34, 35, 37, 38, 39, 40, 41, 42, 43] (heldF HM) ?_
                      refine k_mv 24 (heldF HM) ?_
                      refine k_ia 25 (heldF HM) ?_
                      refine k_ld 26 [34, 35, 37, 38, 39, 40, 41, 42, 43] (heldF HM) ?_
                      refine k_mv 27 (heldF HM) ?_
                      refine k_mv 28 (heldF HM) ?_
                      refine k_ia 29 (heldF HM) ?_
                      refine k_ld 30 [32, 33, 34, 35, 37, 38, 39, 40, 41, 42, 43] (heldF HM) ?_
                      refine k_mv 31 (heldF HM) ?_
                      refine k_ia 32 (heldF HM) ?_
                      refine k_ld 33 [34, 35, 37, 38, 39, 40, 41, 42, 43] (heldF HM) ?_
                      refine k_ld 36 [37, 38, 39, 40, 41, 42, 43] (heldF HM) ?_
                      refine j_one 19 fun K9 hK9 => ?_
                      refine j_call2 (v := ?_) HM ?_ ?_; rotate_left 1; (focus (with_reducible (first | exact M1 _ | exact M2 _ | exact S1 _ | exact D1 _))); clear HM; intro w1 HM
                      refine hK9 _ _ (heldF HM) ?_; clear hK9 K9
                      refine j_one 34 fun K9 hK9 => ?_
                      refine j_call2 (v := ?_) HM ?_ ?_; rotate_left 1; (focus (with_reducible (first | exact M1 _ | exact M2 _ | exact S1 _ | exact D1 _))); clear HM; intro w1 HM
                      refine hK9 _ _ (heldF HM) ?_; clear hK9 K9
                      refine j_one 35 fun K9 hK9 => ?_
                      refine j_call2 (v := ?_) HM ?_ ?_; rotate_left 1; (focus (with_reducible (first | exact M1 _ | exact M2 _ | exact S1 _ | exact D1 _))); clear HM; intro w1 HM
                      refine hK9 _ _ (heldF HM) ?_; clear hK9 K9
                      refine j_one 37 fun K9 hK9 => ?_
                      refine j_call2 (v := ?_) HM ?_ ?_; rotate_left 1; (focus (with_reducible (first | exact M1 _ | exact M2 _ | exact S1 _ | exact D1 _))); clear HM; intro w1 HM
                      refine hK9 _ _ (heldF HM) ?_; clear hK9 K9
                      refine k_mv 38 (heldF HM) ?_
                      refine k_ext 39 (heldF HM) ?_
                      refine k_ext 40 (heldF HM) ?_
                      refine k_ext 41 (heldF HM) ?_
                      refine k_ia 42 (heldF HM) ?_
                      refine j_one 43 fun K9 hK9 => ?_
                      refine j_st HM ?_; clear HM; intro w1 HM
                      refine hK9 _ _ heldN ?_; clear hK9 K9
                      refine wpAnyL_done (by kernel_rfl) ?_ _
                      go_wp2_with fail
                      go_roundw
                      case rel => exact ⟨j + 1, by go_num, by omega, by omega, by have := HCLO.out _ _ HM; rw [ES.out] at this; exact this⟩
                      case measure => simp [intOf]; omega
                    · obtain rfl : n = j := by omega
                      go_wp2_with fail
                      go_roundw
                      case rel =>
                        refine ⟨i + 1, by go_num, by omega, by omega, ?_⟩
                        have e : NF rb1 (zR n (dst Z1 k last i n)) = NF rb1 (zR n (dst Z1 k last (i + 1) (k + 1))) := NF_congr fun a _ => zR_congr fun b hb => dst_row hb
                        rw [← e]; exact HM
                      case measure => simp [intOf]; omega
                · obtain rfl : n = i := by omega
                  obtain ⟨bk, hbk⟩ : ∃ b, rb1[k]? = some b := ⟨_, List.getElem?_eq_getElem (by rw [HRL1.out]; exact hkt)⟩
                  obtain ⟨y, hy⟩ : ∃ y, Hid (y = Z1 k k) := ⟨_, Lib.hid rfl⟩
                  have lv : LA 112 (rowsOf ((rv n rb1).map vc)) k (.slice (some ⟨bk, 0, none⟩) n n) := la_valsZ (by unfold rv; rw [List.getElem?_map, hbk]; rfl)
                  have lx : LA 40 (zR n (dst Z1 k last n (k + 1)) k) (k * 33) (.agg (Bg.zA y)) := by
                    have := la_zR (dst Z1 k last n (k + 1)) (i := k) hkt
                    rw [dst_top, ← hy.out] at this
                    exact this
                  have HIX : Hid (k < (NF rb1 (zR n (dst Z1 k last n (k + 1)))).length) := Lib.hid (by rw [NF_len, HRL1.out]; exact hkt)
                  have ES : Hid ((NF rb1 (zR n (dst Z1 k last n (k + 1)))).set k (bk, zR n (dst Z1 k last n (k + 1)) k) = NF rb1 (zR n (dst Z1 k last n (k + 1)))) := Lib.hid (NF_set hbk fun _ _ _ => rfl)
                  have HG3 : Hid (Mx.Gz n n A (k + 1) (k + 1) m1 (dst Z1 k last n (k + 1)) y) := Lib.hid (by
                    rw [hy.out]
                    exact HG1.out.step HE.out (Nat.le_refl _) hkt hkt HX1.out (Nat.le_succ _) fun a b h1 h2 h3 _ => dst_done h1 h3 h2)
                  have HM2 := HM.openRow [_, _, _] (NF_at hbk)
                  clear HM
                  have HM := HM2
                  clear HM2
                  replace HM : Mem W [] ((bk, zR n (dst Z1 k last n (k + 1)) k) :: (b4, Bg.zA last) :: (b2, Bg.zA 0) :: (bo, rowsOf ((rv n rb1).map vc)) :: ((NF rb1 (zR n (dst Z1 k last n (k + 1)))).eraseIdx k ++ R)) _ := HM
                  clear hbk
                  go_wp2_with (first | fail | (first | ((with_reducible refine g_ld ?_); refine a_ld HM ?_) | ((with_reducible refine g_st ?_); refine a_st HM ?_; clear HM; intro w1 HM) | ((with_reducible refine g_al ?_); refine a_al HM ?_; clear HM; intro bk w1 HM) | ((with_reducible refine g_bx ?_); refine a_bx HM ?_; clear HM; intro bk w1 HM) | ((with_reducible refine g_bld ?_); refine a_bld ?_)))
                  go_roundw
                  case rel => exact ⟨k + 1, m1, dst Z1 k last n (k + 1), y, rb1, rfl, by go_num, by omega, HRL1, HG3, by have := HM.closeRow [_, _, _] HIX.out; rw [ES.out] at this; exact this⟩
                  case measure => simp [intOf]; omega
        · obtain rfl : n = row := by omega
          have HD : Hid (Mx.det n A = 0) := Lib.hid (HG.out.det0 (Nat.le_refl _) hkt hkt HZ.out)
          go_wp2_with (first | (go_at_call 59; ((with_reducible refine (F0 _).mono ?_); rintro e9 w2 ⟨rfl, hL⟩; replace HM := HM.call hL; clear hL)) | (first | ((with_reducible refine g_ld ?_); refine a_ld HM ?_) | ((with_reducible refine g_st ?_); refine a_st HM ?_; clear HM; intro w1 HM) | ((with_reducible refine g_al ?_); refine a_al HM ?_; clear HM; intro bk w1 HM) | ((with_reducible refine g_bx ?_); refine a_bx HM ?_; clear HM; intro bk w1 HM) | ((with_reducible refine g_bld ?_); refine a_bld ?_)))
          refine bodyPost_ret (r_c rfl rfl (HM.get (by ((repeat (first | exact Look.here | refine Look.there ?_)); done))) (la_z _)) rfl ⟨0, rfl, Lib.hid (by rw [HD.out]; rfl), Lib.hid (by decide), HM.pick⟩
    · obtain rfl : n = k := by omega
      have HD := Lib.hid HG.out.det
      have hlb := HG.out.bound_last HE.out hn (Nat.le_refl _)
      have HLB := Lib.hid hlb
      have hll := Sy.lim hlb
      cases m with
      | true =>
        have NG := fun w => rneg_z last (-last) hll (Lib.hid rfl) w
        clear hlb hll
        go_wp2_with (first | (go_at_call 82; ((with_reducible refine (NG _).mono ?_); rintro e9 w2 ⟨rfl, hL⟩; replace HM := HM.call hL; clear hL)) | (first | ((with_reducible refine g_ld ?_); refine a_ld HM ?_) | ((with_reducible refine g_st ?_); refine a_st HM ?_; clear HM; intro w1 HM) | ((with_reducible refine g_al ?_); refine a_al HM ?_; clear HM; intro bk w1 HM) | ((with_reducible refine g_bx ?_); refine a_bx HM ?_; clear HM; intro bk w1 HM) | ((with_reducible refine g_bld ?_); refine a_bld ?_)))
        refine bodyPost_ret (r_c rfl rfl (HM.get (by ((repeat (first | exact Look.here | refine Look.there ?_)); done))) (la_z _)) rfl ⟨-last, rfl, Lib.hid ?_, Lib.hid (by rw [Int.natAbs_neg]; exact HLB.out), HM.pick⟩
        rw [HD.out, Rat.intCast_neg]
        show -(last : Rat) = (-1 : Rat) * last
        grind
      | false =>
        clear hlb hll
        go_wp2_with (first | fail | (first | ((with_reducible refine g_ld ?_); refine a_ld HM ?_) | ((with_reducible refine g_st ?_); refine a_st HM ?_; clear HM; intro w1 HM) | ((with_reducible refine g_al ?_); refine a_al HM ?_; clear HM; intro bk w1 HM) | ((with_reducible refine g_bx ?_); refine a_bx HM ?_; clear HM; intro bk w1 HM) | ((with_reducible refine g_bld ?_); refine a_bld ?_)))
        refine bodyPost_ret (r_c rfl rfl (HM.get (by ((repeat (first | exact Look.here | refine Look.there ?_)); done))) (la_z _)) rfl ⟨last, rfl, Lib.hid ?_, HLB, HM.pick⟩
        rw [HD.out]
        show (last : Rat) = (1 : Rat) * last
        grind
end Go.Proofs.Ytadnddffdedjgaa
