/- The document's matrix, walked. The document's matrix, walked. -/
import Derived.Test.YtadnddffdedjgaaRfI
namespace Go.Proofs.Ytadnddffdedjgaa
set_option maxRecDepth 8000
open Go.RowKit
/-- The matrix with column col replaced by the right side. -/
def mcol (u a : Nat → Int) (h : Nat → Nat → Int) (col : Int) (i j : Nat) : Int := if (j : Int) = col then Ns.rhs u a i else Ns.mat u h i j
/-- A row within the making. -/
def mrow (M : Nat → Nat → Int) (i j : Nat) (b : Nat) : Int := if b < j then M i b else 0
theorem rep_zs (n : Nat) : List.replicate n (Bg.zA 0) = So.ol (fun _ => Bg.zA 0) n := by
  unfold So.ol
  apply List.ext_getElem?
  intro i
  by_cases h : i < n
  · rw [List.getElem?_replicate, if_pos h, List.getElem?_map, List.getElem?_range h]; rfl
  · rw [List.getElem?_eq_none (by simp; omega), List.getElem?_eq_none (by simp; omega)]
theorem sa_mrow (M : Nat → Nat → Int) {n i j : Nat} {z : Int} (hj : j < n) (hz : M i j = z) : SA 40 (rowsOf (So.ol (fun b => Bg.zA (mrow M i j b)) n)) (j * 33) (.agg (Bg.zA z)) (rowsOf (So.ol (fun b => Bg.zA (mrow M i (j + 1) b)) n)) := by
  have := sa_zR (fun _ => mrow M i j) (fun _ => mrow M i (j + 1)) (i := 0) (z := z) hj (by show mrow M i (j + 1) j = z; unfold mrow; rw [if_pos (by omega)]; exact hz) (fun b _ hb => by
    show mrow M i (j + 1) b = mrow M i j b
    unfold mrow
    by_cases e : b < j
    · rw [if_pos e, if_pos (by omega)]
    · rw [if_neg e, if_neg (by omega)])
  exact this
theorem mrow_zero {M : Nat → Nat → Int} {i n : Nat} : So.ol (fun _ => Bg.zA 0) n = So.ol (fun b => Bg.zA (mrow M i 0 b)) n := ol_congr fun b _ => by unfold mrow; rw [if_neg (by omega)]
theorem mrow_done {M : Nat → Nat → Int} {i n : Nat} : rowsOf (So.ol (fun b => Bg.zA (mrow M i n b)) n) = zR n M i := by
  unfold zR
  rw [ol_congr fun b hb => by unfold mrow; rw [if_pos hb]]
end Go.Proofs.Ytadnddffdedjgaa
namespace Go.Proofs.Ytadnddffdedjgaa
set_option maxRecDepth 8000
open Go.RowKit
set_option maxRecDepth 100000 in
set_option maxHeartbeats 8000000 in
theorem rmatrix_any (us hs as_ : Value) (U : List Int) (H : List (List Int)) (As : List Int) (col : Int) (n : Nat) (W w : World) (R : List (Nat × Array Value)) (HM : Mem W [] R w) (hR : RdN W us hs U H) (hG : Ns.Good U H) (hA : RdI W as_ As) (hn : Hid (n = U.length)) (hAl : As.length = n) (hAb : ∀ i, i < n → (Ns.gu As i).natAbs ≤ 1000000000000000) (_ : col = -1 ∨ (0 ≤ col ∧ col < n)) :
    Calls Try.prog 57 #[.agg #[us, hs], as_, .int .i64 col] w fun e w' => ∃ (bo : Nat) (rb : List Nat), e = .returned (.slice (some ⟨bo, 0, none⟩) n n) ∧ rb.length = n ∧ Mem W [] ((bo, rowsOf ((rv n rb).map vc)) :: (NF rb (zR n (mcol (Ns.gu U) (Ns.gu As) (Ns.gh H) col)) ++ R)) w' := by
  have HR := Lib.hid hR
  have HG := Lib.hid hG
  have HA := Lib.hid hA
  have HAB := Lib.hid hAb
  have HAL := Lib.hid hAl
  have hn8 : n ≤ 8 := by rw [hn.out]; exact hG.sh.1
  have HHL : Hid (H.length = n) := Lib.hid (by rw [hn.out]; exact hG.sh.2)
  obtain ⟨Au, cu, rfl⟩ := hR.u.form
  obtain ⟨Ah, ch, rfl⟩ := hR.h.form
  rw [← hn.out, HHL.out]
  rw [← hn.out, HHL.out] at HR
  have elz : elemB 112 40 33 132 = true := by kernel_rfl
  have elzz : elemB 92 112 1 24 = true := by kernel_rfl
  have zz := za_int
  have zsz := za_sz
  have n0 := la_n0 (.slice Au n cu) (.slice Ah n ch)
  have n1 := la_n1 (.slice Au n cu) (.slice Ah n ch)
  clear hR hG hA hAl hAb
  go_enter Try.func57, Try.ntmps57
  go_upto_region 3 with (first | ((with_reducible refine g_mks ?_); refine a_mks n HM ?_ (by omega); clear HM; intro bo w1 HM) | (first | ((with_reducible refine g_ld ?_); refine a_ld HM ?_) | ((with_reducible refine g_st ?_); refine a_st HM ?_; clear HM; intro w1 HM) | ((with_reducible refine g_al ?_); refine a_al HM ?_; clear HM; intro bk w1 HM) | ((with_reducible refine g_bx ?_); refine a_bx HM ?_; clear HM; intro bk w1 HM) | ((with_reducible refine g_bld ?_); refine a_bld ?_)))
  replace HM : Mem W [] ((bk, #[.slice Au n cu, .slice Ah n ch]) :: (bo, rowsOf (List.replicate n (vc (.slice none 0 0)))) :: (NF [] (zR n (mcol (Ns.gu U) (Ns.gu As) (Ns.gh H) col)) ++ R)) _ := HM.pick
  rw [rep_vals] at HM
  go_wp2_with (first | fail | (first | ((with_reducible refine g_ld ?_); refine a_ld HM ?_) | ((with_reducible refine g_st ?_); refine a_st HM ?_; clear HM; intro w1 HM) | ((with_reducible refine g_al ?_); refine a_al HM ?_; clear HM; intro bk w1 HM) | ((with_reducible refine g_bx ?_); refine a_bx HM ?_; clear HM; intro bk w1 HM) | ((with_reducible refine g_bld ?_); refine a_bld ?_)))
  go_loopw [9] (fun iv wr => ∃ (i : Nat) (rb : List Nat), iv = .int .i64 (i : Nat) ∧ i ≤ n ∧ Hid (rb.length = i) ∧ Mem W [] ((bk, #[.slice Au n cu, .slice Ah n ch]) :: (bo, rowsOf ((rv n rb ++ List.replicate (n - i) (Value.slice none 0 0)).map vc)) :: (NF rb (zR n (mcol (Ns.gu U) (Ns.gu As) (Ns.gh H) col)) ++ R)) wr) (fun iv _ => n - (intOf iv).toNat)
  case atStart => exact ⟨0, [], rfl, by omega, Lib.hid rfl, HM⟩
  case round =>
    clear HM
    obtain ⟨i, rb, rfl, hi, HRL, HM⟩ := hrel
    by_cases hit : i < n
    · have hit1 : (i : Int) < n := by omega
      have hrl : i < (rv n rb ++ List.replicate (n - i) (Value.slice none 0 0)).length := by
        rw [List.length_append, List.length_replicate]
        have : (rv n rb).length = i := by simp [rv, HRL.out]
        omega
      go_upto_region 7 with (first | first | ((with_reducible refine g_mks ?_); refine a_mks n HM ?_ (by omega); clear HM; intro br w1 HM) | ((with_reducible refine g_st ?_); refine a_st HM ?_ (hv := sa_valsZ _ (.slice (some ⟨br, 0, none⟩) n n) hrl rfl); clear HM; intro w1 HM) | (first | ((with_reducible refine g_ld ?_); refine a_ld HM ?_) | ((with_reducible refine g_st ?_); refine a_st HM ?_; clear HM; intro w1 HM) | ((with_reducible refine g_al ?_); refine a_al HM ?_; clear HM; intro bk w1 HM) | ((with_reducible refine g_bx ?_); refine a_bx HM ?_; clear HM; intro bk w1 HM) | ((with_reducible refine g_bld ?_); refine a_bld ?_)))
      rw [rv_step HRL.out hit] at HM
      replace HM : Mem W [] ((br, rowsOf (List.replicate n (Bg.zA 0))) :: ((bk, #[.slice Au n cu, .slice Ah n ch]) :: (bo, rowsOf ((rv n (rb ++ [br]) ++ List.replicate (n - (i + 1)) (Value.slice none 0 0)).map vc)) :: (NF rb (zR n (mcol (Ns.gu U) (Ns.gu As) (Ns.gh H) col)) ++ R))) _ := HM.pick
      obtain ⟨M, hM⟩ : ∃ M, Hid (M = mcol (Ns.gu U) (Ns.gu As) (Ns.gh H) col) := ⟨_, Lib.hid rfl⟩
      rw [← hM.out] at HM
      rw [rep_zs, mrow_zero (M := M) (i := i)] at HM
      have lv : LA 112 (rowsOf ((rv n (rb ++ [br]) ++ List.replicate (n - (i + 1)) (Value.slice none 0 0)).map vc)) i (.slice (some ⟨br, 0, none⟩) n n) := la_valsZ (by
        rw [List.getElem?_append_left (by simp [rv, HRL.out])]
        unfold rv
        rw [List.getElem?_map, List.getElem?_append_right (by rw [HRL.out]; exact Nat.le_refl _), HRL.out, Nat.sub_self]; rfl)
      clear hrl
      obtain ⟨u, hu⟩ : ∃ u, U[i]? = some u := ⟨_, List.getElem?_eq_getElem (by rw [← hn.out]; exact hit)⟩
      obtain ⟨bu, offu, csu, rfl, HBU, ku⟩ := HR.out.u.at_ hu
      have EU := Lib.hid (Ns.gu_at hu)
      clear hu
      go_wp2_with (first | fail | (first | ((with_reducible refine g_ld ?_); refine a_ld HM ?_) | ((with_reducible refine g_st ?_); refine a_st HM ?_; clear HM; intro w1 HM) | ((with_reducible refine g_al ?_); refine a_al HM ?_; clear HM; intro bk w1 HM) | ((with_reducible refine g_bx ?_); refine a_bx HM ?_; clear HM; intro bk w1 HM) | ((with_reducible refine g_bld ?_); refine a_bld ?_)))
      go_loopw [10] (fun jv wr => ∃ j : Nat, jv = .int .i64 (j : Nat) ∧ j ≤ n ∧ Mem W [] ((br, rowsOf (So.ol (fun b => Bg.zA (mrow M i j b)) n)) :: (bk, #[.slice (some ⟨bu, offu, none⟩) n cu, .slice Ah n ch]) :: (bo, rowsOf ((rv n (rb ++ [br]) ++ List.replicate (n - (i + 1)) (Value.slice none 0 0)).map vc)) :: (NF rb (zR n M) ++ R)) wr) (fun jv _ => n - (intOf jv).toNat)
      case atStart => exact ⟨0, rfl, by omega, HM⟩
      case round =>
        clear HM
        obtain ⟨j, rfl, hj, HM⟩ := hrel
        by_cases hjt : j < n
        · have hjt1 : (j : Int) < n := by omega
          obtain ⟨l, hl, hll⟩ := HG.out.at_ (show i < U.length by rw [← hn.out]; exact hit)
          rw [← hn.out] at hll
          obtain ⟨bh, offh, csh, A2, c2, rfl, HBH, kh, HL⟩ := HR.out.h.at_ hl
          rw [hll] at kh HL
          obtain ⟨y, hy⟩ : ∃ y, l[j]? = some y := ⟨_, List.getElem?_eq_getElem (by omega)⟩
          have ey := Ns.gh_at hl hy
          obtain ⟨b3, off3, cs3, rfl, HB3, k3⟩ := HL.out.at_ hy
          obtain ⟨a, ha⟩ : ∃ a, As[i]? = some a := ⟨_, List.getElem?_eq_getElem (by rw [HAL.out]; exact hit)⟩
          have ea := Ns.gu_at ha
          obtain ⟨A3, c3, rfl⟩ := HA.out.form
          obtain ⟨b4, off4, cs4, rfl, HB4, k4⟩ := HA.out.at_ ha
          have hab := HAB.out i hit
          rw [ea] at hab
          have hy0 := HG.out.ok.h0 i j (by rw [← hn.out]; exact hit) (by rw [← hn.out]; exact hjt)
          have hy1 := HG.out.ok.h1 i j (by rw [← hn.out]; exact hit) (by rw [← hn.out]; exact hjt)
          have hu0 := HG.out.ok.u0 i (by rw [← hn.out]; exact hit)
          have hu1 := HG.out.ok.u1 i (by rw [← hn.out]; exact hit)
          rw [ey] at hy0 hy1
          rw [EU.out] at hu0 hu1
          have HLA := HAL.out
          have sm : ∀ z, M i j = z → SA 40 (rowsOf (So.ol (fun b => Bg.zA (mrow M i j b)) n)) (j * 33) (.agg (Bg.zA z)) (rowsOf (So.ol (fun b => Bg.zA (mrow M i (j + 1) b)) n)) := fun z hz => sa_mrow M hjt hz
          have hMv : M i j = if (j : Int) = col then (if u = 0 then 0 else a) else (if u = 0 then (if i = j then 1 else 0) else if i = j then u - y else -y) := by
            rw [hM.out]
            unfold mcol Ns.rhs Ns.mat
            rw [EU.out, ea]
            by_cases e : i = j
            · subst e; rw [ey]
            · simp only [if_neg e, ey]
          by_cases h0 : u = 0
          · subst h0
            by_cases hij : i = j
            · have hij1 : ((i : Int) == j) = true := by simp [hij]
              by_cases hcol : (j : Int) = col
              · have hc1 : ((j : Int) == col) = true := by simp [hcol]
                have ss := sm (0) (by rw [hMv]; simp [hcol])
                have F1 := fun w => rfromInt_z (0) (by omega) (by omega) w
                clear hMv sm hij hcol ey ea hl hy ha hab
                go_upto_region 22 with (first | fail | (first | ((with_reducible refine g_ld ?_); refine a_ld HM ?_) | ((with_reducible refine g_st ?_); refine a_st HM ?_; clear HM; intro w1 HM) | ((with_reducible refine g_al ?_); refine a_al HM ?_; clear HM; intro bk w1 HM) | ((with_reducible refine g_bx ?_); refine a_bx HM ?_; clear HM; intro bk w1 HM) | ((with_reducible refine g_bld ?_); refine a_bld ?_)))
                refine start_M [8] HM (by kernel_rfl) (fun w0x H9 => ?_)
                replace HM := H9; clear H9
                refine k_mv 0 (heldF HM) ?_
                refine k_mv 1 (heldF HM) ?_
                refine k_ia 2 (heldF HM) ?_
                refine k_ld 3 [7, 8] (heldF HM) ?_
                refine k_mv 4 (heldF HM) ?_
                refine k_mv 5 (heldF HM) ?_
                refine j_one 6 fun K9 hK9 => ?_
                refine j_call1 (v := ?_) HM ?_ ?_; rotate_left 1; (focus (with_reducible (exact F1 _))); clear HM; intro w1 HM
                refine hK9 _ _ (heldF HM) ?_; clear hK9 K9
                refine k_ia 7 (heldF HM) ?_
                refine j_one 8 fun K9 hK9 => ?_
                refine j_st HM ?_; clear HM; intro w1 HM
                refine hK9 _ _ heldN ?_; clear hK9 K9
                refine wpAnyL_done (by kernel_rfl) ?_ _
                go_wp2_with fail
                go_roundw
                case rel => exact ⟨j + 1, by go_num, by omega, HM⟩
                case measure => simp [intOf]; omega
              · have hc1 : ((j : Int) == col) = false := by simp [hcol]
                have ss := sm (1) (by rw [hMv]; simp [hij, hcol])
                have F1 := fun w => rfromInt_z (1) (by omega) (by omega) w
                clear hMv sm hij hcol ey ea hl hy ha hab
                go_upto_region 22 with (first | fail | (first | ((with_reducible refine g_ld ?_); refine a_ld HM ?_) | ((with_reducible refine g_st ?_); refine a_st HM ?_; clear HM; intro w1 HM) | ((with_reducible refine g_al ?_); refine a_al HM ?_; clear HM; intro bk w1 HM) | ((with_reducible refine g_bx ?_); refine a_bx HM ?_; clear HM; intro bk w1 HM) | ((with_reducible refine g_bld ?_); refine a_bld ?_)))
                refine start_M [8] HM (by kernel_rfl) (fun w0x H9 => ?_)
                replace HM := H9; clear H9
                refine k_mv 0 (heldF HM) ?_
                refine k_mv 1 (heldF HM) ?_
                refine k_ia 2 (heldF HM) ?_
                refine k_ld 3 [7, 8] (heldF HM) ?_
                refine k_mv 4 (heldF HM) ?_
                refine k_mv 5 (heldF HM) ?_
                refine j_one 6 fun K9 hK9 => ?_
                refine j_call1 (v := ?_) HM ?_ ?_; rotate_left 1; (focus (with_reducible (exact F1 _))); clear HM; intro w1 HM
                refine hK9 _ _ (heldF HM) ?_; clear hK9 K9
                refine k_ia 7 (heldF HM) ?_
                refine j_one 8 fun K9 hK9 => ?_
                refine j_st HM ?_; clear HM; intro w1 HM
                refine hK9 _ _ heldN ?_; clear hK9 K9
                refine wpAnyL_done (by kernel_rfl) ?_ _
                go_wp2_with fail
                go_roundw
                case rel => exact ⟨j + 1, by go_num, by omega, HM⟩
                case measure => simp [intOf]; omega
            · have hij1 : ((i : Int) == j) = false := by simp; omega
              by_cases hcol : (j : Int) = col
              · have hc1 : ((j : Int) == col) = true := by simp [hcol]
                have ss := sm (0) (by rw [hMv]; simp [hcol])
                have F1 := fun w => rfromInt_z (0) (by omega) (by omega) w
                clear hMv sm hij hcol ey ea hl hy ha hab
                go_upto_region 22 with (first | fail | (first | ((with_reducible refine g_ld ?_); refine a_ld HM ?_) | ((with_reducible refine g_st ?_); refine a_st HM ?_; clear HM; intro w1 HM) | ((with_reducible refine g_al ?_); refine a_al HM ?_; clear HM; intro bk w1 HM) | ((with_reducible refine g_bx ?_); refine a_bx HM ?_; clear HM; intro bk w1 HM) | ((with_reducible refine g_bld ?_); refine a_bld ?_)))
                refine start_M [8] HM (by kernel_rfl) (fun w0x H9 => ?_)
                replace HM := H9; clear H9
                refine k_mv 0 (heldF HM) ?_
                refine k_mv 1 (heldF HM) ?_
                refine k_ia 2 (heldF HM) ?_
                refine k_ld 3 [7, 8] (heldF HM) ?_
                refine k_mv 4 (heldF HM) ?_
                refine k_mv 5 (heldF HM) ?_
                refine j_one 6 fun K9 hK9 => ?_
                refine j_call1 (v := ?_) HM ?_ ?_; rotate_left 1; (focus (with_reducible (exact F1 _))); clear HM; intro w1 HM
                refine hK9 _ _ (heldF HM) ?_; clear hK9 K9
                refine k_ia 7 (heldF HM) ?_
                refine j_one 8 fun K9 hK9 => ?_
                refine j_st HM ?_; clear HM; intro w1 HM
                refine hK9 _ _ heldN ?_; clear hK9 K9
                refine wpAnyL_done (by kernel_rfl) ?_ _
                go_wp2_with fail
                go_roundw
                case rel => exact ⟨j + 1, by go_num, by omega, HM⟩
                case measure => simp [intOf]; omega
              · have hc1 : ((j : Int) == col) = false := by simp [hcol]
                have ss := sm (0) (by rw [hMv]; simp [hij, hcol])
                have F1 := fun w => rfromInt_z (0) (by omega) (by omega) w
                clear hMv sm hij hcol ey ea hl hy ha hab
                go_upto_region 22 with (first | fail | (first | ((with_reducible refine g_ld ?_); refine a_ld HM ?_) | ((with_reducible refine g_st ?_); refine a_st HM ?_; clear HM; intro w1 HM) | ((with_reducible refine g_al ?_); refine a_al HM ?_; clear HM; intro bk w1 HM) | ((with_reducible refine g_bx ?_); refine a_bx HM ?_; clear HM; intro bk w1 HM) | ((with_reducible refine g_bld ?_); refine a_bld ?_)))
                refine start_M [8] HM (by kernel_rfl) (fun w0x H9 => ?_)
                replace HM := H9; clear H9
                refine k_mv 0 (heldF HM) ?_
                refine k_mv 1 (heldF HM) ?_
                refine k_ia 2 (heldF HM) ?_
                refine k_ld 3 [7, 8] (heldF HM) ?_
                refine k_mv 4 (heldF HM) ?_
                refine k_mv 5 (heldF HM) ?_
                refine j_one 6 fun K9 hK9 => ?_
                refine j_call1 (v := ?_) HM ?_ ?_; rotate_left 1; (focus (with_reducible (exact F1 _))); clear HM; intro w1 HM
                refine hK9 _ _ (heldF HM) ?_; clear hK9 K9
                refine k_ia 7 (heldF HM) ?_
                refine j_one 8 fun K9 hK9 => ?_
                refine j_st HM ?_; clear HM; intro w1 HM
                refine hK9 _ _ heldN ?_; clear hK9 K9
                refine wpAnyL_done (by kernel_rfl) ?_ _
                go_wp2_with fail
                go_roundw
                case rel => exact ⟨j + 1, by go_num, by omega, HM⟩
                case measure => simp [intOf]; omega
          · have hu2 : (u == 0) = false := beq_eq_false_iff_ne.2 h0
            by_cases hij : i = j
            · have hij1 : ((i : Int) == j) = true := by simp [hij]
              by_cases hcol : (j : Int) = col
              · have hc1 : ((j : Int) == col) = true := by simp [hcol]
                have ss := sm (a) (by rw [hMv]; simp [h0, hcol])
                have F1 := fun w => rfromInt_z (a) (by omega) (by omega) w
                rw [← hij] at k3
                clear hMv sm hij hcol ey ea hl hy ha hab
                go_upto_region 17 with (first | fail | (first | ((with_reducible refine g_ld ?_); refine a_ld HM ?_) | ((with_reducible refine g_st ?_); refine a_st HM ?_; clear HM; intro w1 HM) | ((with_reducible refine g_al ?_); refine a_al HM ?_; clear HM; intro bk w1 HM) | ((with_reducible refine g_bx ?_); refine a_bx HM ?_; clear HM; intro bk w1 HM) | ((with_reducible refine g_bld ?_); refine a_bld ?_)))
                refine start_M [] HM (by kernel_rfl) (fun w0x H9 => ?_)
                replace HM := H9; clear H9
                refine k_fa 0 (heldF HM) ?_
                refine k_ld 1 [] (heldF HM) ?_
                refine k_mv 2 (heldF HM) ?_
                refine k_ia 3 (heldF HM) ?_
                refine k_ld 4 [] (heldF HM) ?_
                refine k_fa 5 (heldF HM) ?_
                refine k_ld 6 [] (heldF HM) ?_
                refine k_mv 7 (heldF HM) ?_
                refine k_ia 8 (heldF HM) ?_
                refine k_ld 9 [] (heldF HM) ?_
                refine k_mv 10 (heldF HM) ?_
                refine k_ia 11 (heldF HM) ?_
                refine k_ld 12 [] (heldF HM) ?_
                refine k_sub 13 (heldF HM) ?_
                refine k_mv 14 (heldF HM) ?_
                refine wpAnyL_done (by kernel_rfl) ?_ _
                go_upto_region 22 with (first | fail | (first | ((with_reducible refine g_ld ?_); refine a_ld HM ?_) | ((with_reducible refine g_st ?_); refine a_st HM ?_; clear HM; intro w1 HM) | ((with_reducible refine g_al ?_); refine a_al HM ?_; clear HM; intro bk w1 HM) | ((with_reducible refine g_bx ?_); refine a_bx HM ?_; clear HM; intro bk w1 HM) | ((with_reducible refine g_bld ?_); refine a_bld ?_)))
                refine start_M [8] HM (by kernel_rfl) (fun w0x H9 => ?_)
                replace HM := H9; clear H9
                refine k_mv 0 (heldF HM) ?_
                refine k_mv 1 (heldF HM) ?_
                refine k_ia 2 (heldF HM) ?_
                refine k_ld 3 [7, 8] (heldF HM) ?_
                refine k_mv 4 (heldF HM) ?_
                refine k_mv 5 (heldF HM) ?_
                refine j_one 6 fun K9 hK9 => ?_
                refine j_call1 (v := ?_) HM ?_ ?_; rotate_left 1; (focus (with_reducible (exact F1 _))); clear HM; intro w1 HM
                refine hK9 _ _ (heldF HM) ?_; clear hK9 K9
                refine k_ia 7 (heldF HM) ?_
                refine j_one 8 fun K9 hK9 => ?_
                refine j_st HM ?_; clear HM; intro w1 HM
                refine hK9 _ _ heldN ?_; clear hK9 K9
                refine wpAnyL_done (by kernel_rfl) ?_ _
                go_wp2_with fail
                go_roundw
                case rel => exact ⟨j + 1, by go_num, by omega, HM⟩
                case measure => simp [intOf]; omega
              · have hc1 : ((j : Int) == col) = false := by simp [hcol]
                have ss := sm (u - y) (by rw [hMv]; simp [h0, hij, hcol])
                have F1 := fun w => rfromInt_z (u - y) (by omega) (by omega) w
                rw [← hij] at k3
                clear hMv sm hij hcol ey ea hl hy ha hab
                go_upto_region 17 with (first | fail | (first | ((with_reducible refine g_ld ?_); refine a_ld HM ?_) | ((with_reducible refine g_st ?_); refine a_st HM ?_; clear HM; intro w1 HM) | ((with_reducible refine g_al ?_); refine a_al HM ?_; clear HM; intro bk w1 HM) | ((with_reducible refine g_bx ?_); refine a_bx HM ?_; clear HM; intro bk w1 HM) | ((with_reducible refine g_bld ?_); refine a_bld ?_)))
                refine start_M [] HM (by kernel_rfl) (fun w0x H9 => ?_)
                replace HM := H9; clear H9
                refine k_fa 0 (heldF HM) ?_
                refine k_ld 1 [] (heldF HM) ?_
                refine k_mv 2 (heldF HM) ?_
                refine k_ia 3 (heldF HM) ?_
                refine k_ld 4 [] (heldF HM) ?_
                refine k_fa 5 (heldF HM) ?_
                refine k_ld 6 [] (heldF HM) ?_
                refine k_mv 7 (heldF HM) ?_
                refine k_ia 8 (heldF HM) ?_
                refine k_ld 9 [] (heldF HM) ?_
                refine k_mv 10 (heldF HM) ?_
                refine k_ia 11 (heldF HM) ?_
                refine k_ld 12 [] (heldF HM) ?_
                refine k_sub 13 (heldF HM) ?_
                refine k_mv 14 (heldF HM) ?_
                refine wpAnyL_done (by kernel_rfl) ?_ _
                go_upto_region 22 with (first | fail | (first | ((with_reducible refine g_ld ?_); refine a_ld HM ?_) | ((with_reducible refine g_st ?_); refine a_st HM ?_; clear HM; intro w1 HM) | ((with_reducible refine g_al ?_); refine a_al HM ?_; clear HM; intro bk w1 HM) | ((with_reducible refine g_bx ?_); refine a_bx HM ?_; clear HM; intro bk w1 HM) | ((with_reducible refine g_bld ?_); refine a_bld ?_)))
                refine start_M [8] HM (by kernel_rfl) (fun w0x H9 => ?_)
                replace HM := H9; clear H9
                refine k_mv 0 (heldF HM) ?_
                refine k_mv 1 (heldF HM) ?_
                refine k_ia 2 (heldF HM) ?_
                refine k_ld 3 [7, 8] (heldF HM) ?_
                refine k_mv 4 (heldF HM) ?_
                refine k_mv 5 (heldF HM) ?_
                refine j_one 6 fun K9 hK9 => ?_
                refine j_call1 (v := ?_) HM ?_ ?_; rotate_left 1; (focus (with_reducible (exact F1 _))); clear HM; intro w1 HM
                refine hK9 _ _ (heldF HM) ?_; clear hK9 K9
                refine k_ia 7 (heldF HM) ?_
                refine j_one 8 fun K9 hK9 => ?_
                refine j_st HM ?_; clear HM; intro w1 HM
                refine hK9 _ _ heldN ?_; clear hK9 K9
                refine wpAnyL_done (by kernel_rfl) ?_ _
                go_wp2_with fail
                go_roundw
                case rel => exact ⟨j + 1, by go_num, by omega, HM⟩
                case measure => simp [intOf]; omega
            · have hij1 : ((i : Int) == j) = false := by simp; omega
              by_cases hcol : (j : Int) = col
              · have hc1 : ((j : Int) == col) = true := by simp [hcol]
                have ss := sm (a) (by rw [hMv]; simp [h0, hcol])
                have F1 := fun w => rfromInt_z (a) (by omega) (by omega) w
                clear hMv sm hij hcol ey ea hl hy ha hab
                go_upto_region 22 with (first | fail | (first | ((with_reducible refine g_ld ?_); refine a_ld HM ?_) | ((with_reducible refine g_st ?_); refine a_st HM ?_; clear HM; intro w1 HM) | ((with_reducible refine g_al ?_); refine a_al HM ?_; clear HM; intro bk w1 HM) | ((with_reducible refine g_bx ?_); refine a_bx HM ?_; clear HM; intro bk w1 HM) | ((with_reducible refine g_bld ?_); refine a_bld ?_)))
                refine start_M [8] HM (by kernel_rfl) (fun w0x H9 => ?_)
                replace HM := H9; clear H9
                refine k_mv 0 (heldF HM) ?_
                refine k_mv 1 (heldF HM) ?_
                refine k_ia 2 (heldF HM) ?_
                refine k_ld 3 [7, 8] (heldF HM) ?_
                refine k_mv 4 (heldF HM) ?_
                refine k_mv 5 (heldF HM) ?_
                refine j_one 6 fun K9 hK9 => ?_
                refine j_call1 (v := ?_) HM ?_ ?_; rotate_left 1; (focus (with_reducible (exact F1 _))); clear HM; intro w1 HM
                refine hK9 _ _ (heldF HM) ?_; clear hK9 K9
                refine k_ia 7 (heldF HM) ?_
                refine j_one 8 fun K9 hK9 => ?_
                refine j_st HM ?_; clear HM; intro w1 HM
                refine hK9 _ _ heldN ?_; clear hK9 K9
                refine wpAnyL_done (by kernel_rfl) ?_ _
                go_wp2_with fail
                go_roundw
                case rel => exact ⟨j + 1, by go_num, by omega, HM⟩
                case measure => simp [intOf]; omega
              · have hc1 : ((j : Int) == col) = false := by simp [hcol]
                have ss := sm (-y) (by rw [hMv]; simp [h0, hij, hcol])
                have F1 := fun w => rfromInt_z (-y) (by omega) (by omega) w
                clear hMv sm hij hcol ey ea hl hy ha hab
                go_upto_region 22 with (first | fail | (first | ((with_reducible refine g_ld ?_); refine a_ld HM ?_) | ((with_reducible refine g_st ?_); refine a_st HM ?_; clear HM; intro w1 HM) | ((with_reducible refine g_al ?_); refine a_al HM ?_; clear HM; intro bk w1 HM) | ((with_reducible refine g_bx ?_); refine a_bx HM ?_; clear HM; intro bk w1 HM) | ((with_reducible refine g_bld ?_); refine a_bld ?_)))
                refine start_M [8] HM (by kernel_rfl) (fun w0x H9 => ?_)
                replace HM := H9; clear H9
                refine k_mv 0 (heldF HM) ?_
                refine k_mv 1 (heldF HM) ?_
                refine k_ia 2 (heldF HM) ?_
                refine k_ld 3 [7, 8] (heldF HM) ?_
                refine k_mv 4 (heldF HM) ?_
                refine k_mv 5 (heldF HM) ?_
                refine j_one 6 fun K9 hK9 => ?_
                refine j_call1 (v := ?_) HM ?_ ?_; rotate_left 1; (focus (with_reducible (exact F1 _))); clear HM; intro w1 HM
                refine hK9 _ _ (heldF HM) ?_; clear hK9 K9
                refine k_ia 7 (heldF HM) ?_
                refine j_one 8 fun K9 hK9 => ?_
                refine j_st HM ?_; clear HM; intro w1 HM
                refine hK9 _ _ heldN ?_; clear hK9 K9
                refine wpAnyL_done (by kernel_rfl) ?_ _
                go_wp2_with fail
                go_roundw
                case rel => exact ⟨j + 1, by go_num, by omega, HM⟩
                case measure => simp [intOf]; omega
        · obtain rfl : n = j := by omega
          go_wp2_with fail
          go_roundw
          case rel =>
            refine ⟨i + 1, rb ++ [br], by go_num, by omega, Lib.hid (by simp [HRL.out]), ?_⟩
            rw [mrow_done] at HM
            have e2 := NF_add (rb := rb) (F := zR n M) br
            rw [HRL.out] at e2
            rw [← hM.out, e2]
            exact HM.pushRow [_, _]
          case measure => simp [intOf]; omega
    · obtain rfl : n = i := by omega
      rw [Nat.sub_self, List.replicate_zero, List.append_nil] at HM
      go_wp2_with (first | fail | (first | ((with_reducible refine g_ld ?_); refine a_ld HM ?_) | ((with_reducible refine g_st ?_); refine a_st HM ?_; clear HM; intro w1 HM) | ((with_reducible refine g_al ?_); refine a_al HM ?_; clear HM; intro bk w1 HM) | ((with_reducible refine g_bx ?_); refine a_bx HM ?_; clear HM; intro bk w1 HM) | ((with_reducible refine g_bld ?_); refine a_bld ?_)))
      go_ret
      exact ⟨bo, rb, rfl, HRL.out, HM.pick⟩
end Go.Proofs.Ytadnddffdedjgaa
