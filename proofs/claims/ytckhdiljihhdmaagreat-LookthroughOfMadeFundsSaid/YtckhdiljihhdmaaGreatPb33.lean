/- Walks, and plain facts for them. -/
import Derived.Test.YtckhdiljihhdmaaGreatPb32
import Derived.Test.YtckhdiljihhdmaaGreatPb24
import Derived.Test.YtckhdiljihhdmaaGreatPb28
namespace Go.Proofs.YtckhdiljihhdmaaGreat
set_option maxRecDepth 8000
open Go.RowKit
def mcol (u a : Nat → Int) (h : Nat → Nat → Int) (col : Int) (i j : Nat) : Int := if (j : Int) = col then Ns.rhs u a i else Ns.mat u h i j
def mrow (M : Nat → Nat → Int) (i j : Nat) (b : Nat) : Int := if b < j then M i b else 0
theorem rep_zs (n : Nat) : List.replicate n (Bg.zA 0) = So.ol (fun _ => Bg.zA 0) n := by
 unfold So.ol
 apply List.ext_getElem?
 intro i
 by_cases h : i < n
 ·rw [List.getElem?_replicate, if_pos h, List.getElem?_map, List.getElem?_range h]; rfl
 ·rw [List.getElem?_eq_none (by simp; omega), List.getElem?_eq_none (by simp; omega)]
theorem sa_mrow (M : Nat → Nat → Int) {n i j : Nat} {z : Int} (hj : j < n) (hz : M i j = z) : SA 48 (rowsOf (So.ol (fun b => Bg.zA (mrow M i j b)) n)) (j * 33) (.agg (Bg.zA z)) (rowsOf (So.ol (fun b => Bg.zA (mrow M i (j + 1) b)) n)) := by
 have := sa_zR (fun _ => mrow M i j) (fun _ => mrow M i (j + 1)) (i := 0) (z := z) hj (by show mrow M i (j + 1) j = z; unfold mrow; rw [if_pos (by omega)]; exact hz) (fun b _ hb => by
  show mrow M i (j + 1) b = mrow M i j b
  unfold mrow
  by_cases e : b < j
  ·rw [if_pos e, if_pos (by omega)]
  ·rw [if_neg e, if_neg (by omega)])
 exact this
theorem mrow_zero {M : Nat → Nat → Int} {i n : Nat} : So.ol (fun _ => Bg.zA 0) n = So.ol (fun b => Bg.zA (mrow M i 0 b)) n := ol_congr fun b _ => by unfold mrow; rw [if_neg (by omega)]
theorem mrow_done {M : Nat → Nat → Int} {i n : Nat} : rowsOf (So.ol (fun b => Bg.zA (mrow M i n b)) n) = zR n M i := by
 unfold zR
 rw [ol_congr fun b hb => by unfold mrow; rw [if_pos hb]]
end Go.Proofs.YtckhdiljihhdmaaGreat
namespace Go.Proofs.YtckhdiljihhdmaaGreat
set_option maxRecDepth 8000
open Go.RowKit
set_option maxRecDepth 100000 in
set_option maxHeartbeats 8000000 in
theorem rmatrix_any (us hs as_ : Value) (U : List Int) (H : List (List Int)) (As : List Int) (col : Int) (n : Nat) (W w : World) (R : List (Nat × Array Value)) (HM : Mem W [] R w) (hR : RdN W us hs U H) (hG : Ns.Good U H) (hA : RdI W as_ As) (hn : Hid (n = U.length)) (hAl : As.length = n) (hAb : ∀ i, i < n → (Ns.gu As i).natAbs ≤ 1000000000000000) (_ : col = -1 ∨ (0 ≤ col ∧ col < n)) :
    Calls Tryz.prog 87 #[.agg #[us, hs], as_, .int .i64 col] w fun e w' => ∃ (bo : Nat) (rb : List Nat), e = .returned (.slice (some ⟨bo, 0, none⟩) n n) ∧ rb.length = n ∧ Mem W [] ((bo, rowsOf ((rv n rb).map vc)) :: (NF rb (zR n (mcol (Ns.gu U) (Ns.gu As) (Ns.gh H) col)) ++ R)) w' := by
 have HR := Lib.hid hR
 have HG := Lib.hid hG
 have HA := Lib.hid hA
 have HAB := Lib.hid hAb
 have HAL := Lib.hid hAl
 have hn8 : n ≤ 8 := by rw [hn.out]; exact hG.sh.1
 have HHL : Hid (H.length = n) := Lib.hid (by rw [hn.out]; exact hG.sh.2)
 obtain ⟨Au, cu, rfl⟩ := hR.u.form
 obtain ⟨Ah, ch, rfl⟩ := hR.h.form
 rw [← hn.out, HHL.out]
 rw [← hn.out, HHL.out] at HR
 have elz : elemB 179 48 33 132 = true := by kernel_rfl
 have elzz : elemB 139 179 1 24 = true := by kernel_rfl
 have zz := za_int
 have zsz := za_sz
 have n0 := la_n0 (.slice Au n cu) (.slice Ah n ch)
 have n1 := la_n1 (.slice Au n cu) (.slice Ah n ch)
 clear hR hG hA hAl hAb
 go_enter Tryz.func87, Tryz.ntmps87
 go_upto_region 3 with (first | ((with_reducible refine g_mks ?_); refine a_mks n HM ?_ (by omega); clear HM; intro bo w1 HM) | (first | ((with_reducible refine g_ld ?_); refine a_ld HM ?_) | ((with_reducible refine g_st ?_); refine a_st HM ?_; clear HM; intro w1 HM) | ((with_reducible refine g_bx ?_); refine a_bx HM ?_; clear HM; intro bk w1 HM)))
 replace HM : Mem W [] ((bk, #[.slice Au n cu, .slice Ah n ch]) :: (bo, rowsOf (List.replicate n (vc (.slice none 0 0)))) :: (NF [] (zR n (mcol (Ns.gu U) (Ns.gu As) (Ns.gh H) col)) ++ R)) _ := HM.pick
 rw [rep_vals] at HM
 go_wp2_with (first | ((with_reducible refine g_ld ?_); refine a_ld HM ?_) | ((with_reducible refine g_st ?_); refine a_st HM ?_; clear HM; intro w1 HM) | ((with_reducible refine g_bx ?_); refine a_bx HM ?_; clear HM; intro bk w1 HM))
 go_loopw [9] (fun iv wr => ∃ (i : Nat) (rb : List Nat), iv = .int .i64 (i : Nat) ∧ i ≤ n ∧ Hid (rb.length = i) ∧ Mem W [] ((bk, #[.slice Au n cu, .slice Ah n ch]) :: (bo, rowsOf ((rv n rb ++ List.replicate (n - i) (Value.slice none 0 0)).map vc)) :: (NF rb (zR n (mcol (Ns.gu U) (Ns.gu As) (Ns.gh H) col)) ++ R)) wr) (fun iv _ => n - (intOf iv).toNat)
 case atStart => exact ⟨0, [], rfl, by omega, Lib.hid rfl, HM⟩
 case round =>
  clear HM
  obtain ⟨i, rb, rfl, hi, HRL, HM⟩ := hrel
  by_cases hit : i < n
  ·have hit1 : (i : Int) < n := by omega
   have hrl : i < (rv n rb ++ List.replicate (n - i) (Value.slice none 0 0)).length := by
    rw [List.length_append, List.length_replicate]
    have : (rv n rb).length = i := by simp [rv, HRL.out]
    omega
   go_upto_region 7 with (first | ((with_reducible refine g_mks ?_); refine a_mks n HM ?_ (by omega); clear HM; intro br w1 HM) | ((with_reducible refine g_st ?_); refine a_st HM ?_ (hv := sa_valsZ _ (.slice (some ⟨br, 0, none⟩) n n) hrl rfl); clear HM; intro w1 HM) | (first | ((with_reducible refine g_ld ?_); refine a_ld HM ?_) | ((with_reducible refine g_st ?_); refine a_st HM ?_; clear HM; intro w1 HM) | ((with_reducible refine g_bx ?_); refine a_bx HM ?_; clear HM; intro bk w1 HM)))
   rw [rv_step HRL.out hit] at HM
   replace HM : Mem W [] ((br, rowsOf (List.replicate n (Bg.zA 0))) :: ((bk, #[.slice Au n cu, .slice Ah n ch]) :: (bo, rowsOf ((rv n (rb ++ [br]) ++ List.replicate (n - (i + 1)) (Value.slice none 0 0)).map vc)) :: (NF rb (zR n (mcol (Ns.gu U) (Ns.gu As) (Ns.gh H) col)) ++ R))) _ := HM.pick
   obtain ⟨M, hM⟩ : ∃ M, Hid (M = mcol (Ns.gu U) (Ns.gu As) (Ns.gh H) col) := ⟨_, Lib.hid rfl⟩
   rw [← hM.out] at HM
   rw [rep_zs, mrow_zero (M := M) (i := i)] at HM
   have lv : LA 179 (rowsOf ((rv n (rb ++ [br]) ++ List.replicate (n - (i + 1)) (Value.slice none 0 0)).map vc)) i (.slice (some ⟨br, 0, none⟩) n n) := la_valsZ (by
    rw [List.getElem?_append_left (by simp [rv, HRL.out])]
    unfold rv
    rw [List.getElem?_map, List.getElem?_append_right (by rw [HRL.out]; exact Nat.le_refl _), HRL.out, Nat.sub_self]; rfl)
   clear hrl
   obtain ⟨u, hu⟩ : ∃ u, U[i]? = some u := ⟨_, List.getElem?_eq_getElem (by rw [← hn.out]; exact hit)⟩
   obtain ⟨bu, offu, csu, rfl, HBU, ku⟩ := HR.out.u.at_ hu
   have EU := Lib.hid (Ns.gu_at hu)
   clear hu
   go_wp2_with (first | ((with_reducible refine g_ld ?_); refine a_ld HM ?_) | ((with_reducible refine g_st ?_); refine a_st HM ?_; clear HM; intro w1 HM) | ((with_reducible refine g_bx ?_); refine a_bx HM ?_; clear HM; intro bk w1 HM))
   go_loopw [10] (fun jv wr => ∃ j : Nat, jv = .int .i64 (j : Nat) ∧ j ≤ n ∧ Mem W [] ((br, rowsOf (So.ol (fun b => Bg.zA (mrow M i j b)) n)) :: (bk, #[.slice (some ⟨bu, offu, none⟩) n cu, .slice Ah n ch]) :: (bo, rowsOf ((rv n (rb ++ [br]) ++ List.replicate (n - (i + 1)) (Value.slice none 0 0)).map vc)) :: (NF rb (zR n M) ++ R)) wr) (fun jv _ => n - (intOf jv).toNat)
   case atStart => exact ⟨0, rfl, by omega, HM⟩
   case round =>
    clear HM
    obtain ⟨j, rfl, hj, HM⟩ := hrel
    by_cases hjt : j < n
    ·have hjt1 : (j : Int) < n := by omega
     obtain ⟨l, hl, hll⟩ := HG.out.at_ (show i < U.length by rw [← hn.out]; exact hit)
     rw [← hn.out] at hll
     obtain ⟨bh, offh, csh, A2, c2, rfl, HBH, kh, HL⟩ := HR.out.h.at_ hl
     rw [hll] at kh HL
     obtain ⟨y, hy⟩ : ∃ y, l[j]? = some y := ⟨_, List.getElem?_eq_getElem (by omega)⟩
     have ey := Ns.gh_at hl hy
     obtain ⟨b3, off3, cs3, rfl, HB3, k3⟩ := HL.out.at_ hy
     obtain ⟨a, ha⟩ : ∃ a, As[i]? = some a := ⟨_, List.getElem?_eq_getElem (by rw [HAL.out]; exact hit)⟩
     have ea := Ns.gu_at ha
     obtain ⟨A3, c3, rfl⟩ := HA.out.form
     obtain ⟨b4, off4, cs4, rfl, HB4, k4⟩ := HA.out.at_ ha
     have hab := HAB.out i hit
     rw [ea] at hab
     have hy0 := HG.out.ok.h0 i j (by rw [← hn.out]; exact hit) (by rw [← hn.out]; exact hjt)
     have hy1 := HG.out.ok.h1 i j (by rw [← hn.out]; exact hit) (by rw [← hn.out]; exact hjt)
     have hu0 := HG.out.ok.u0 i (by rw [← hn.out]; exact hit)
     have hu1 := HG.out.ok.u1 i (by rw [← hn.out]; exact hit)
     rw [ey] at hy0 hy1
     rw [EU.out] at hu0 hu1
     have HLA := HAL.out
     have sm : ∀ z, M i j = z → SA 48 (rowsOf (So.ol (fun b => Bg.zA (mrow M i j b)) n)) (j * 33) (.agg (Bg.zA z)) (rowsOf (So.ol (fun b => Bg.zA (mrow M i (j + 1) b)) n)) := fun z hz => sa_mrow M hjt hz
     have hMv : M i j = if (j : Int) = col then (if u = 0 then 0 else a) else (if u = 0 then (if i = j then 1 else 0) else if i = j then u - y else -y) := by
      rw [hM.out]
      unfold mcol Ns.rhs Ns.mat
      rw [EU.out, ea]
      by_cases e : i = j
      ·subst e; rw [ey]
      ·simp only [if_neg e, ey]
     by_cases h0 : u = 0
     ·subst h0
      by_cases hij : i = j
      ·have hij1 : ((i : Int) == j) = true := by simp [hij]
       by_cases hcol : (j : Int) = col
       ·have hc1 : ((j : Int) == col) = true := by simp [hcol]
        have ss := sm (0) (by rw [hMv]; simp [hcol])
        have F1 := fun w => rfromInt_z (0) (by omega) (by omega) w
        clear hMv sm hij hcol ey ea hl hy ha hab
        go_upto_region 22 with (first | ((with_reducible refine g_ld ?_); refine a_ld HM ?_) | ((with_reducible refine g_st ?_); refine a_st HM ?_; clear HM; intro w1 HM) | ((with_reducible refine g_bx ?_); refine a_bx HM ?_; clear HM; intro bk w1 HM))
        refine start_M [8] HM (by kernel_rfl) (fun w0x H9 => ?_)
        replace HM := H9; clear H9
        refine k_mv 0 (heldF HM) ?_
        refine k_mv 1 (heldF HM) ?_
        refine k_ia 2 (heldF HM) ?_
        refine k_ld 3 [7, 8] (heldF HM) ?_
        refine k_mv 4 (heldF HM) ?_
        refine k_mv 5 (heldF HM) ?_
        refine j_one 6 fun K9 hK9 => ?_
        refine j_call1 (v := ?_) HM ?_ ?_; rotate_left 1; (focus (with_reducible (exact F1 _))); clear HM; intro w1 HM
        refine hK9 _ _ (heldF HM) ?_; clear hK9 K9
        refine k_ia 7 (heldF HM) ?_
        refine j_one 8 fun K9 hK9 => ?_
        refine j_st HM ?_; clear HM; intro w1 HM
        refine hK9 _ _ heldN ?_; clear hK9 K9
        refine wpAnyL_done (by kernel_rfl) ?_ _
        go_wp2_with fail
        go_roundw
        case rel => exact ⟨j + 1, by go_num, by omega, HM⟩
        case measure => simp [intOf]; omega
       ·have hc1 : ((j : Int) == col) = false := by simp [hcol]
        have ss := sm (1) (by rw [hMv]; simp [hij, hcol])
        have F1 := fun w => rfromInt_z (1) (by omega) (by omega) w
        clear hMv sm hij hcol ey ea hl hy ha hab
        go_upto_region 22 with (first | ((with_reducible refine g_ld ?_); refine a_ld HM ?_) | ((with_reducible refine g_st ?_); refine a_st HM ?_; clear HM; intro w1 HM) | ((with_reducible refine g_bx ?_); refine a_bx HM ?_; clear HM; intro bk w1 HM))
        refine start_M [8] HM (by kernel_rfl) (fun w0x H9 => ?_)
        replace HM := H9; clear H9
        refine k_mv 0 (heldF HM) ?_
        refine k_mv 1 (heldF HM) ?_
        refine k_ia 2 (heldF HM) ?_
        refine k_ld 3 [7, 8] (heldF HM) ?_
        refine k_mv 4 (heldF HM) ?_
        refine k_mv 5 (heldF HM) ?_
        refine j_one 6 fun K9 hK9 => ?_
        refine j_call1 (v := ?_) HM ?_ ?_; rotate_left 1; (focus (with_reducible (exact F1 _))); clear HM; intro w1 HM
        refine hK9 _ _ (heldF HM) ?_; clear hK9 K9
        refine k_ia 7 (heldF HM) ?_
        refine j_one 8 fun K9 hK9 => ?_
        refine j_st HM ?_; clear HM; intro w1 HM
        refine hK9 _ _ heldN ?_; clear hK9 K9
        refine wpAnyL_done (by kernel_rfl) ?_ _
        go_wp2_with fail
        go_roundw
        case rel => exact ⟨j + 1, by go_num, by omega, HM⟩
        case measure => simp [intOf]; omega
      ·have hij1 : ((i : Int) == j) = false := by simp; omega
       by_cases hcol : (j : Int) = col
       ·have hc1 : ((j : Int) == col) = true := by simp [hcol]
        have ss := sm (0) (by rw [hMv]; simp [hcol])
        have F1 := fun w => rfromInt_z (0) (by omega) (by omega) w
        clear hMv sm hij hcol ey ea hl hy ha hab
        go_upto_region 22 with (first | ((with_reducible refine g_ld ?_); refine a_ld HM ?_) | ((with_reducible refine g_st ?_); refine a_st HM ?_; clear HM; intro w1 HM) | ((with_reducible refine g_bx ?_); refine a_bx HM ?_; clear HM; intro bk w1 HM))
        refine start_M [8] HM (by kernel_rfl) (fun w0x H9 => ?_)
        replace HM := H9; clear H9
        refine k_mv 0 (heldF HM) ?_
        refine k_mv 1 (heldF HM) ?_
        refine k_ia 2 (heldF HM) ?_
        refine k_ld 3 [7, 8] (heldF HM) ?_
        refine k_mv 4 (heldF HM) ?_
        refine k_mv 5 (heldF HM) ?_
        refine j_one 6 fun K9 hK9 => ?_
        refine j_call1 (v := ?_) HM ?_ ?_; rotate_left 1; (focus (with_reducible (exact F1 _))); clear HM; intro w1 HM
        refine hK9 _ _ (heldF HM) ?_; clear hK9 K9
        refine k_ia 7 (heldF HM) ?_
        refine j_one 8 fun K9 hK9 => ?_
        refine j_st HM ?_; clear HM; intro w1 HM
        refine hK9 _ _ heldN ?_; clear hK9 K9
        refine wpAnyL_done (by kernel_rfl) ?_ _
        go_wp2_with fail
        go_roundw
        case rel => exact ⟨j + 1, by go_num, by omega, HM⟩
        case measure => simp [intOf]; omega
       ·have hc1 : ((j : Int) == col) = false := by simp [hcol]
        have ss := sm (0) (by rw [hMv]; simp [hij, hcol])
        have F1 := fun w => rfromInt_z (0) (by omega) (by omega) w
        clear hMv sm hij hcol ey ea hl hy ha hab
        go_upto_region 22 with (first | ((with_reducible refine g_ld ?_); refine a_ld HM ?_) | ((with_reducible refine g_st ?_); refine a_st HM ?_; clear HM; intro w1 HM) | ((with_reducible refine g_bx ?_); refine a_bx HM ?_; clear HM; intro bk w1 HM))
        refine start_M [8] HM (by kernel_rfl) (fun w0x H9 => ?_)
        replace HM := H9; clear H9
        refine k_mv 0 (heldF HM) ?_
        refine k_mv 1 (heldF HM) ?_
        refine k_ia 2 (heldF HM) ?_
        refine k_ld 3 [7, 8] (heldF HM) ?_
        refine k_mv 4 (heldF HM) ?_
        refine k_mv 5 (heldF HM) ?_
        refine j_one 6 fun K9 hK9 => ?_
        refine j_call1 (v := ?_) HM ?_ ?_; rotate_left 1; (focus (with_reducible (exact F1 _))); clear HM; intro w1 HM
        refine hK9 _ _ (heldF HM) ?_; clear hK9 K9
        refine k_ia 7 (heldF HM) ?_
        refine j_one 8 fun K9 hK9 => ?_
        refine j_st HM ?_; clear HM; intro w1 HM
        refine hK9 _ _ heldN ?_; clear hK9 K9
        refine wpAnyL_done (by kernel_rfl) ?_ _
        go_wp2_with fail
        go_roundw
        case rel => exact ⟨j + 1, by go_num, by omega, HM⟩
        case measure => simp [intOf]; omega
     ·have hu2 : (u == 0) = false := beq_eq_false_iff_ne.2 h0
      by_cases hij : i = j
      ·have hij1 : ((i : Int) == j) = true := by simp [hij]
       by_cases hcol : (j : Int) = col
       ·have hc1 : ((j : Int) == col) = true := by simp [hcol]
        have ss := sm (a) (by rw [hMv]; simp [h0, hcol])
        have F1 := fun w => rfromInt_z (a) (by omega) (by omega) w
        rw [← hij] at k3
        clear hMv sm hij hcol ey ea hl hy ha hab
        go_upto_region 17 with (first | ((with_reducible refine g_ld ?_); refine a_ld HM ?_) | ((with_reducible refine g_st ?_); refine a_st HM ?_; clear HM; intro w1 HM) | ((with_reducible refine g_bx ?_); refine a_bx HM ?_; clear HM; intro bk w1 HM))
        refine start_M [] HM (by kernel_rfl) (fun w0x H9 => ?_)
        replace HM := H9; clear H9
        refine k_fa 0 (heldF HM) ?_
        refine k_ld 1 [] (heldF HM) ?_
        refine k_mv 2 (heldF HM) ?_
        refine k_ia 3 (heldF HM) ?_
        refine k_ld 4 [] (heldF HM) ?_
        refine k_fa 5 (heldF HM) ?_
        refine k_ld 6 [] (heldF HM) ?_
        refine k_mv 7 (heldF HM) ?_
        refine k_ia 8 (heldF HM) ?_
        refine k_ld 9 [] (heldF HM) ?_
        refine k_mv 10 (heldF HM) ?_
        refine k_ia 11 (heldF HM) ?_
        refine k_ld 12 [] (heldF HM) ?_
        refine k_sub 13 (heldF HM) ?_
        refine k_mv 14 (heldF HM) ?_
        refine wpAnyL_done (by kernel_rfl) ?_ _
        go_upto_region 22 with (first | ((with_reducible refine g_ld ?_); refine a_ld HM ?_) | ((with_reducible refine g_st ?_); refine a_st HM ?_; clear HM; intro w1 HM) | ((with_reducible refine g_bx ?_); refine a_bx HM ?_; clear HM; intro bk w1 HM))
        refine start_M [8] HM (by kernel_rfl) (fun w0x H9 => ?_)
        replace HM := H9; clear H9
        refine k_mv 0 (heldF HM) ?_
        refine k_mv 1 (heldF HM) ?_
        refine k_ia 2 (heldF HM) ?_
        refine k_ld 3 [7, 8] (heldF HM) ?_
        refine k_mv 4 (heldF HM) ?_
        refine k_mv 5 (heldF HM) ?_
        refine j_one 6 fun K9 hK9 => ?_
        refine j_call1 (v := ?_) HM ?_ ?_; rotate_left 1; (focus (with_reducible (exact F1 _))); clear HM; intro w1 HM
        refine hK9 _ _ (heldF HM) ?_; clear hK9 K9
        refine k_ia 7 (heldF HM) ?_
        refine j_one 8 fun K9 hK9 => ?_
        refine j_st HM ?_; clear HM; intro w1 HM
        refine hK9 _ _ heldN ?_; clear hK9 K9
        refine wpAnyL_done (by kernel_rfl) ?_ _
        go_wp2_with fail
        go_roundw
        case rel => exact ⟨j + 1, by go_num, by omega, HM⟩
        case measure => simp [intOf]; omega
       ·have hc1 : ((j : Int) == col) = false := by simp [hcol]
        have ss := sm (u - y) (by rw [hMv]; simp [h0, hij, hcol])
        have F1 := fun w => rfromInt_z (u - y) (by omega) (by omega) w
        rw [← hij] at k3
        clear hMv sm hij hcol ey ea hl hy ha hab
        go_upto_region 17 with (first | ((with_reducible refine g_ld ?_); refine a_ld HM ?_) | ((with_reducible refine g_st ?_); refine a_st HM ?_; clear HM; intro w1 HM) | ((with_reducible refine g_bx ?_); refine a_bx HM ?_; clear HM; intro bk w1 HM))
        refine start_M [] HM (by kernel_rfl) (fun w0x H9 => ?_)
        replace HM := H9; clear H9
        refine k_fa 0 (heldF HM) ?_
        refine k_ld 1 [] (heldF HM) ?_
        refine k_mv 2 (heldF HM) ?_
        refine k_ia 3 (heldF HM) ?_
        refine k_ld 4 [] (heldF HM) ?_
        refine k_fa 5 (heldF HM) ?_
        refine k_ld 6 [] (heldF HM) ?_
        refine k_mv 7 (heldF HM) ?_
        refine k_ia 8 (heldF HM) ?_
        refine k_ld 9 [] (heldF HM) ?_
        refine k_mv 10 (heldF HM) ?_
        refine k_ia 11 (heldF HM) ?_
        refine k_ld 12 [] (heldF HM) ?_
        refine k_sub 13 (heldF HM) ?_
        refine k_mv 14 (heldF HM) ?_
        refine wpAnyL_done (by kernel_rfl) ?_ _
        go_upto_region 22 with (first | ((with_reducible refine g_ld ?_); refine a_ld HM ?_) | ((with_reducible refine g_st ?_); refine a_st HM ?_; clear HM; intro w1 HM) | ((with_reducible refine g_bx ?_); refine a_bx HM ?_; clear HM; intro bk w1 HM))
        refine start_M [8] HM (by kernel_rfl) (fun w0x H9 => ?_)
        replace HM := H9; clear H9
        refine k_mv 0 (heldF HM) ?_
        refine k_mv 1 (heldF HM) ?_
        refine k_ia 2 (heldF HM) ?_
        refine k_ld 3 [7, 8] (heldF HM) ?_
        refine k_mv 4 (heldF HM) ?_
        refine k_mv 5 (heldF HM) ?_
        refine j_one 6 fun K9 hK9 => ?_
        refine j_call1 (v := ?_) HM ?_ ?_; rotate_left 1; (focus (with_reducible (exact F1 _))); clear HM; intro w1 HM
        refine hK9 _ _ (heldF HM) ?_; clear hK9 K9
        refine k_ia 7 (heldF HM) ?_
        refine j_one 8 fun K9 hK9 => ?_
        refine j_st HM ?_; clear HM; intro w1 HM
        refine hK9 _ _ heldN ?_; clear hK9 K9
        refine wpAnyL_done (by kernel_rfl) ?_ _
        go_wp2_with fail
        go_roundw
        case rel => exact ⟨j + 1, by go_num, by omega, HM⟩
        case measure => simp [intOf]; omega
      ·have hij1 : ((i : Int) == j) = false := by simp; omega
       by_cases hcol : (j : Int) = col
       ·have hc1 : ((j : Int) == col) = true := by simp [hcol]
        have ss := sm (a) (by rw [hMv]; simp [h0, hcol])
        have F1 := fun w => rfromInt_z (a) (by omega) (by omega) w
        clear hMv sm hij hcol ey ea hl hy ha hab
        go_upto_region 22 with (first | ((with_reducible refine g_ld ?_); refine a_ld HM ?_) | ((with_reducible refine g_st ?_); refine a_st HM ?_; clear HM; intro w1 HM) | ((with_reducible refine g_bx ?_); refine a_bx HM ?_; clear HM; intro bk w1 HM))
        refine start_M [8] HM (by kernel_rfl) (fun w0x H9 => ?_)
        replace HM := H9; clear H9
        refine k_mv 0 (heldF HM) ?_
        refine k_mv 1 (heldF HM) ?_
        refine k_ia 2 (heldF HM) ?_
        refine k_ld 3 [7, 8] (heldF HM) ?_
        refine k_mv 4 (heldF HM) ?_
        refine k_mv 5 (heldF HM) ?_
        refine j_one 6 fun K9 hK9 => ?_
        refine j_call1 (v := ?_) HM ?_ ?_; rotate_left 1; (focus (with_reducible (exact F1 _))); clear HM; intro w1 HM
        refine hK9 _ _ (heldF HM) ?_; clear hK9 K9
        refine k_ia 7 (heldF HM) ?_
        refine j_one 8 fun K9 hK9 => ?_
        refine j_st HM ?_; clear HM; intro w1 HM
        refine hK9 _ _ heldN ?_; clear hK9 K9
        refine wpAnyL_done (by kernel_rfl) ?_ _
        go_wp2_with fail
        go_roundw
        case rel => exact ⟨j + 1, by go_num, by omega, HM⟩
        case measure => simp [intOf]; omega
       ·have hc1 : ((j : Int) == col) = false := by simp [hcol]
        have ss := sm (-y) (by rw [hMv]; simp [h0, hij, hcol])
        have F1 := fun w => rfromInt_z (-y) (by omega) (by omega) w
        clear hMv sm hij hcol ey ea hl hy ha hab
        go_upto_region 22 with (first | ((with_reducible refine g_ld ?_); refine a_ld HM ?_) | ((with_reducible refine g_st ?_); refine a_st HM ?_; clear HM; intro w1 HM) | ((with_reducible refine g_bx ?_); refine a_bx HM ?_; clear HM; intro bk w1 HM))
        refine start_M [8] HM (by kernel_rfl) (fun w0x H9 => ?_)
        replace HM := H9; clear H9
        refine k_mv 0 (heldF HM) ?_
        refine k_mv 1 (heldF HM) ?_
        refine k_ia 2 (heldF HM) ?_
        refine k_ld 3 [7, 8] (heldF HM) ?_
        refine k_mv 4 (heldF HM) ?_
        refine k_mv 5 (heldF HM) ?_
        refine j_one 6 fun K9 hK9 => ?_
        refine j_call1 (v := ?_) HM ?_ ?_; rotate_left 1; (focus (with_reducible (exact F1 _))); clear HM; intro w1 HM
        refine hK9 _ _ (heldF HM) ?_; clear hK9 K9
        refine k_ia 7 (heldF HM) ?_
        refine j_one 8 fun K9 hK9 => ?_
        refine j_st HM ?_; clear HM; intro w1 HM
        refine hK9 _ _ heldN ?_; clear hK9 K9
        refine wpAnyL_done (by kernel_rfl) ?_ _
        go_wp2_with fail
        go_roundw
        case rel => exact ⟨j + 1, by go_num, by omega, HM⟩
        case measure => simp [intOf]; omega
    ·obtain rfl : n = j := by omega
     go_wp2_with fail
     go_roundw
     case rel =>
      refine ⟨i + 1, rb ++ [br], by go_num, by omega, Lib.hid (by simp [HRL.out]), ?_⟩
      rw [mrow_done] at HM
      have e2 := NF_add (rb := rb) (F := zR n M) br
      rw [HRL.out] at e2
      rw [← hM.out, e2]
      exact HM.pushRow [_, _]
     case measure => simp [intOf]; omega
  ·obtain rfl : n = i := by omega
   rw [Nat.sub_self, List.replicate_zero, List.append_nil] at HM
   go_wp2_with (first | ((with_reducible refine g_ld ?_); refine a_ld HM ?_) | ((with_reducible refine g_st ?_); refine a_st HM ?_; clear HM; intro w1 HM) | ((with_reducible refine g_bx ?_); refine a_bx HM ?_; clear HM; intro bk w1 HM))
   go_ret
   exact ⟨bo, rb, rfl, HRL.out, HM.pick⟩
end Go.Proofs.YtckhdiljihhdmaaGreat
namespace Go.Proofs.YtckhdiljihhdmaaGreat
set_option maxRecDepth 8000
open Go.RowKit
theorem rmake_q (p q : Int) (x : Rat) (h0 : q ≠ 0) (hp : p.natAbs < Bg.p2 480) (hq : q.natAbs < Bg.p2 480) (hx : Hid (x = Rat.divInt p q)) (w : World) :
    Calls Tryz.prog 73 #[.agg (Bg.zA p), .agg (Bg.zA q)] w fun r w' => r = .returned (.tuple #[.agg (Rt.qA x), .int .i64 0]) ∧ Below w.heap.size w w' := by
 rw [qA_rZ]
 exact rmake_z p q _ _ 0 (lt480_lim hp) (lt480_lim hq) (Rt.mk_q h0 hp hq hx.out) w
namespace Ns
open Mx
theorem colA_unit {n i : Nat} {Z : Nat → Nat → Int} (hi : i < n) : ∀ r, r < n → ∃ q, ∀ r', r' < n → colA (ext n Z) n i r' q = if r' = r then 1 else 0 := fun r hr => ⟨n + 1 + r, fun r' hr' => by
 unfold colA ext
 rw [if_neg (show ¬ n + 1 + r = i by omega), if_neg (by omega)]
 by_cases e : r' = r
 ·subst e; rw [if_pos rfl, if_pos rfl]
 ·rw [if_neg (by omega), if_neg e]⟩
theorem mcol_none {u a : Nat → Int} {h : Nat → Nat → Int} {n : Nat} : ∀ i j, i < n → j < n → (mcol u a h (-1) i j : Rat) = ext n (zf n u h a) i j := fun i j _ hj => by
 unfold mcol ext zf
 rw [if_neg (by omega), if_pos (by omega), if_pos hj]
theorem mcol_at {u a : Nat → Int} {h : Nat → Nat → Int} {n k : Nat} (hk : k < n) : ∀ i j, i < n → j < n → (mcol u a h (k : Nat) i j : Rat) = colA (ext n (zf n u h a)) n k i j := fun i j _ hj => by
 unfold mcol colA ext zf
 by_cases e : j = k
 ·subst e; rw [if_pos rfl, if_pos rfl, if_pos (Nat.le_refl _), if_neg (Nat.lt_irrefl _)]
 ·rw [if_neg (by omega), if_neg e, if_pos (by omega), if_pos hj]
theorem colA_ent {A : Mat} {n k : Nat} {b : Rat} (h : Ent A n b) : Ent (colA A n k) n b := fun r _ hr => h r _ hr
theorem zf_ent {n : Nat} {u : Nat → Int} {h : Nat → Nat → Int} {a : Nat → Int} (H : Ok n u h) (ha : ∀ i, i < n → (a i).natAbs ≤ 1000000000000000) : Ent (ext n (zf n u h a)) n (1000000000000000 : Nat) := ext_ent (by decide) (zf_bound H ha)
theorem rden {n : Nat} {u : Nat → Int} {h : Nat → Nat → Int} {a : Nat → Int} {f : Nat → Rat} (H : Ok n u h) (hc : ¬ Circ n u h) (hf : Pr n u h a f) {D : Int} (hD : (D : Rat) = det n (ext n (zf n u h a))) : D ≠ 0 := fun e => by
 have := (cramer (zf_ns (a := a) H hc) ext_unit (zf_solves hf)).1
 rw [← hD, e] at this
 exact this rfl
theorem rprice {n : Nat} {u : Nat → Int} {h : Nat → Nat → Int} {a : Nat → Int} {f : Nat → Rat} (H : Ok n u h) (hc : ¬ Circ n u h) (hf : Pr n u h a f) {D E : Int} {i : Nat} (hi : i < n) (hD : (D : Rat) = det n (ext n (zf n u h a))) (hE : (E : Rat) = det n (colA (ext n (zf n u h a)) n i)) : f i = Rat.divInt E D := by
 have h2 := (cramer (zf_ns (a := a) H hc) ext_unit (zf_solves hf)).2 i hi
 rw [← hE, ← hD] at h2
 have hDr : (D : Rat) ≠ 0 := fun e => rden H hc hf hD (int_eq (by rw [e]; rfl))
 rw [Rat.divInt_eq_div, h2, Rat.div_def, Rat.mul_assoc, Rat.mul_inv_cancel _ hDr, Rat.mul_one]
theorem pr_exists {n : Nat} {u : Nat → Int} {h : Nat → Nat → Int} (a : Nat → Int) (H : Ok n u h) (hc : ¬ Circ n u h) : ∃ f, Pr n u h a f := by
 obtain ⟨U, d, s, hS⟩ := Ns.full (zf_ns (a := a) H hc) ext_unit n (Nat.le_refl _)
 refine ⟨fun i => U i n / d i, fun r hr => ?_⟩
 have h1 := hS.solves r hr
 have e : sm n (fun c => ext n (zf n u h a) r c * (U c n / d c)) = sm n (fun j => (mat u h r j : Rat) * (U j n / d j)) := sm_congr fun j hj => by unfold ext zf; rw [if_pos (by omega), if_pos hj]
 rw [e] at h1
 rw [h1]
 unfold ext zf
 rw [if_pos (Nat.le_refl _), if_neg (Nat.lt_irrefl _)]
end Ns
theorem Sv.px_exists {U : List Int} {H : List (List Int)} {A : List Int} (hG : Ns.Good U H) (hc : ¬ Ns.Circ U.length (Ns.gu U) (Ns.gh H)) (ha : ∀ i, i < U.length → (Ns.gu A i).natAbs ≤ 1000000000000000) : ∃ f, Sv.Px U H A f := by
 obtain ⟨f, hf⟩ := Ns.pr_exists (Ns.gu A) hG.ok hc
 have hcd := Ns.cd hG.ok hc ha hf
 exact ⟨f, hf, fun i hi => Ns.cd_self hcd hi⟩
end Go.Proofs.YtckhdiljihhdmaaGreat
namespace Go.Proofs.YtckhdiljihhdmaaGreat
set_option maxRecDepth 8000
open Go.RowKit
theorem So.ol_next (F : Nat → Array Value) (n : Nat) : So.ol F (n + 1) = So.ol F n ++ [F n] := by unfold So.ol; rw [List.range_succ, List.map_append]; rfl
theorem Sub.skips {K R : List (Nat × Array Value)} : ∀ {N : List (Nat × Array Value)}, Sub K R → Sub K (N ++ R)
 | [], h => h
 | _ :: _, h => .skip (Sub.skips h)
theorem Mem.tuck {w0 w : World} {X : List Nat} {p q : Nat × Array Value} {N R : List (Nat × Array Value)} (h : Mem w0 X (p :: q :: (N ++ R)) w) : Mem w0 X (q :: (N ++ (p :: R))) w :=
 h.perm ((List.Perm.swap q p _).trans (List.perm_middle.symm.cons q)).symm
section
variable {md : Region.Mode} {ops : Array Oper} {Q : Exit → Act → World → Prop} {K : List Nat} {w0 w : World} {X : List Nat} {L L' : List (Nat × Array Value)} {i : Nat} {oi : Oper} {d : Tmp} {fuel : Nat} {listed : Array Bool} {a : Act}
theorem heldG (HM : Mem w0 X L' w) (hs : Sub L L' := by first | exact Sub.refl _ | (repeat (first | exact Sub.nil | exact Sub.refl _ | refine Sub.keep ?_ | refine Sub.skip ?_ | refine Sub.skips ?_))) : Held (fun _ => True) (fun w' => Mem w0 X L w') K listed w := ⟨trivial, fun _ => HM.less hs⟩
end
set_option maxRecDepth 100000 in
set_option maxHeartbeats 8000000 in
theorem rsolve_any (us hs as_ : Value) (U : List Int) (H : List (List Int)) (As : List Int) (f : Nat → Rat) (n : Nat) (w : World) (hR : RdN w us hs U H) (hG : Ns.Good U H) (hA : RdI w as_ As) (hn : Hid (n = U.length)) (hAl : As.length = n) (hAb : ∀ i, i < n → (Ns.gu As i).natAbs ≤ 1000000000000000) (hc : ¬ Ns.Circ n (Ns.gu U) (Ns.gh H)) (hf : Ns.Pr n (Ns.gu U) (Ns.gh H) (Ns.gu As) f) (hft : ∀ i, i < n → Rt.Fit (f i)) :
    Calls Tryz.prog 62 #[.agg #[us, hs], as_] w fun e w' => ∃ s, e = .returned s ∧ Below w.heap.size w w' ∧ Hid (RdS 66 w' s (qrows n f)) := by
 have HM := Mem.start w
 have ok : Ns.Ok n (Ns.gu U) (Ns.gh H) := by rw [hn.out]; exact hG.ok
 have hn8 : n ≤ 8 := ok.n8
 have MX := fun (col : Int) (R : List (Nat × Array Value)) (w' : World) (HM : Mem w [] R w') (hcol : col = -1 ∨ (0 ≤ col ∧ col < n)) => rmatrix_any us hs as_ U H As col n w w' R HM hR hG hA hn hAl hAb hcol
 have D0 := fun (bo : Nat) (rb : List Nat) (R : List (Nat × Array Value)) (w' : World) (HM : Mem w [] ((bo, rowsOf ((rv n rb).map vc)) :: (NF rb (zR n (mcol (Ns.gu U) (Ns.gu As) (Ns.gh H) (-1))) ++ R)) w') (hr : rb.length = n) => rdet_any n _ (Ns.ext n (Ns.zf n (Ns.gu U) (Ns.gh H) (Ns.gu As))) bo rb w w' R HM hr hn8 Ns.ext_unit Ns.mcol_none (Ns.zf_ent ok hAb)
 have D1 := fun (k : Nat) (hk : k < n) (bo : Nat) (rb : List Nat) (R : List (Nat × Array Value)) (w' : World) (HM : Mem w [] ((bo, rowsOf ((rv n rb).map vc)) :: (NF rb (zR n (mcol (Ns.gu U) (Ns.gu As) (Ns.gh H) (k : Nat))) ++ R)) w') (hr : rb.length = n) => rdet_any n _ (Mx.colA (Ns.ext n (Ns.zf n (Ns.gu U) (Ns.gh H) (Ns.gu As))) n k) bo rb w w' R HM hr hn8 (Ns.colA_unit hk) (Ns.mcol_at hk) (Ns.colA_ent (Ns.zf_ent ok hAb))
 have b480 : Mx.big < Bg.p2 480 := Nat.lt_of_lt_of_le Sy.big_416 (Bg.p2_mono (by decide))
 have HFT := Lib.hid hft
 have MK := fun (D : Int) (hD : Hid ((D : Rat) = Mx.det n (Ns.ext n (Ns.zf n (Ns.gu U) (Ns.gh H) (Ns.gu As))))) (hDb : Hid (D.natAbs ≤ Mx.big)) (k : Nat) (hk : k < n) (E : Int) (hE : Hid ((E : Rat) = Mx.det n (Mx.colA (Ns.ext n (Ns.zf n (Ns.gu U) (Ns.gh H) (Ns.gu As))) n k))) (hEb : Hid (E.natAbs ≤ Mx.big)) (x : Rat) (hx : Hid (x = f k)) (w' : World) => rmake_q E D x (Ns.rden ok hc hf hD.out) (Nat.lt_of_le_of_lt hEb.out b480) (Nat.lt_of_le_of_lt hDb.out b480) (Lib.hid (by rw [hx.out]; exact Ns.rprice ok hc hf hk hD.out hE.out)) w'
 obtain ⟨Au, cu, rfl⟩ := hR.u.form
 obtain ⟨Ah, ch, rfl⟩ := hR.h.form
 rw [← hn.out] at MX ⊢
 have hzi := za_int
 have zq := za_rat
 have elq : elemB 67 50 66 264 = true := by kernel_rfl
 have n0 := la_n0 (.slice Au n cu) (.slice Ah H.length ch)
 have n2 := la_nest (.slice Au n cu) (.slice Ah H.length ch)
 clear hR hG hA hAl hAb hc hf hft ok b480
 go_enter Tryz.func62, Tryz.ntmps62
 go_upto_region 2 with (first | (go_at_call 87; refine (MX (-1) _ _ HM (.inl rfl)).mono ?_; rintro e9 w2 ⟨bo, rb, rfl, hrb, HM1⟩; replace HM := HM1; clear HM1) | (go_at_call 86; refine (D0 bo rb _ _ HM hrb).mono ?_; rintro e9 w3 ⟨D, rfl, hD, hDb, HM1⟩; replace HM := HM1; clear HM1) | (first | ((with_reducible refine g_ld ?_); refine a_ld HM ?_) | ((with_reducible refine g_st ?_); refine a_st HM ?_; clear HM; intro w1 HM) | ((with_reducible refine g_al ?_); refine a_al HM ?_; clear HM; intro bk w1 HM) | ((with_reducible refine g_bx ?_); refine a_bx HM ?_; clear HM; intro bk w1 HM)))
 obtain ⟨b5, rfl⟩ := HM.nm0
 obtain ⟨b2, rfl⟩ := HM.nm1
 replace MK := MK D hD hDb
 clear D0 hD hDb hrb
 go_wp2_with (first | ((with_reducible refine g_ld ?_); refine a_ld HM ?_) | ((with_reducible refine g_st ?_); refine a_st HM ?_; clear HM; intro w1 HM) | ((with_reducible refine g_al ?_); refine a_al HM ?_; clear HM; intro bk w1 HM) | ((with_reducible refine g_bx ?_); refine a_bx HM ?_; clear HM; intro bk w1 HM))
 go_loopw [6, 7] (fun sv iv wr => ∃ (i : Nat) (B : List (Nat × Array Value)), iv = .int .i64 (i : Nat) ∧ i ≤ n ∧ Hid (SlAt 66 sv (qrows i f) B) ∧ Mem w [] ((b5, Bg.zA D) :: (b2, #[.slice Au n cu, .slice Ah H.length ch]) :: B) wr) (fun _ iv _ => n - (intOf iv).toNat)
 case atStart => exact ⟨0, [], rfl, by omega, Lib.hid .nil, HM⟩
 case round =>
  clear HM
  obtain ⟨i, B, rfl, hi, HO, HM⟩ := hrel
  by_cases hit : i < n
  ·have hit1 : (i : Int) < n := by omega
   have hcol : (i : Int) = -1 ∨ (0 ≤ (i : Int) ∧ (i : Int) < n) := .inr ⟨by omega, by omega⟩
   obtain ⟨x, hx⟩ : ∃ x, Hid (x = f i) := ⟨_, Lib.hid rfl⟩
   have fx : Rt.Fit x := by rw [hx.out]; exact HFT.out i hit
   have MK1 := MK i hit
   have s1 := sa_q x (rZ_size 0 0)
   have k1 := la_q x
   have kz := la_z D
   go_upto_region 6 with (first | ((with_reducible refine g_ld ?_); refine a_ld HM ?_) | ((with_reducible refine g_st ?_); refine a_st HM ?_; clear HM; intro w1 HM) | ((with_reducible refine g_al ?_); refine a_al HM ?_; clear HM; intro bk w1 HM) | ((with_reducible refine g_bx ?_); refine a_bx HM ?_; clear HM; intro bk w1 HM))
   go_cut [8, 9] (fun p ev wc => ∃ b8, p = .pointer (some ⟨b8, 0, none⟩) ∧ ev = .int .i64 0 ∧ Mem w [] ((b8, Rt.qA x) :: (b5, Bg.zA D) :: (b2, #[.slice Au n cu, .slice Ah H.length ch]) :: B) wc)
   case first =>
    refine start_M [11] HM (by kernel_rfl) (fun w0x H9 => ?_)
    replace HM := H9; clear H9
    refine k_ld 0 [3, 4, 6, 7, 8, 9, 11, 12] (heldG HM) ?_
    refine k_mv 1 (heldG HM) ?_
    refine k_mv 2 (heldG HM) ?_
    refine k_ld 5 [6, 7, 8, 9, 11, 12] (heldG HM) ?_
    refine j_two 3 10 ?_ ?_
    ·refine o_callg (MX (i : Nat) _ _ HM hcol) rfl ?_ ?_; (focus (refine h_call3 (ts := ?_) (x1 := ?_) (x2 := ?_) (x3 := ?_) ?_ (by kernel_rfl) ?_ ?_ ?_; rotate_left 4; (focus rfl); (focus rfl); (focus rfl); rfl)); rintro e9 w1 ⟨bo, rb, rfl, hrb, HM1⟩; replace HM := HM1; clear HM1; refine ⟨_, rfl, ?_⟩
     refine ⟨(heldG HM), ?_⟩; ((try simp only [List.setIfInBounds_toArray]); (try simp only [List.set_cons_succ]); (try simp only [List.set_cons_zero]))
     refine j_two 4 10 ?_ ?_
     ·refine o_callg (D1 i hit bo rb _ _ (by first | exact HM | exact HM.tuck) hrb) rfl ?_ ?_; (focus (refine h_call1 (ts := ?_) (x1 := ?_) ?_ (by kernel_rfl) ?_; rotate_left 2; (focus rfl); rfl)); rintro e9 w1 ⟨E, rfl, hE, hEb, HM1⟩; replace HM := HM1; clear HM1; refine ⟨_, rfl, ?_⟩
      refine ⟨(heldG HM), ?_⟩; ((try simp only [List.setIfInBounds_toArray]); (try simp only [List.set_cons_succ]); (try simp only [List.set_cons_zero]))
      refine j_two 6 10 ?_ ?_
      ·refine j_call2 (v := ?_) HM ?_ ?_; rotate_left 1; (focus (with_reducible (exact MK1 _ hE hEb x hx _))); clear HM; intro w1 HM
       refine ⟨(heldG HM), ?_⟩
       refine k_mv 7 (heldG HM) ?_
       refine k_ext 8 (heldG HM) ?_
       refine k_ext 9 (heldG HM) ?_
       refine j_one 10 fun K9 hK9 => ?_
       refine j_al HM ?_; clear HM; intro bk w1 HM
       refine hK9 _ _ (heldG HM) ?_; clear hK9 K9
       refine j_one 11 fun K9 hK9 => ?_
       refine j_st HM ?_; clear HM; intro w1 HM
       refine hK9 _ _ heldN ?_; clear hK9 K9
       refine k_mv 12 heldN ?_
       refine wpAnyL_done (by kernel_rfl) ?_ _
       (go_wp2_with fail; go_meet; (case rel => exact ⟨_, rfl, rfl, HM⟩))
      ·refine j_al HM ?_; clear HM; intro bk w1 HM
       refine ⟨(heldG HM), ?_⟩
       refine j_one 6 fun K9 hK9 => ?_
       refine j_call2 (v := ?_) HM ?_ ?_; rotate_left 1; (focus (with_reducible (exact MK1 _ hE hEb x hx _))); clear HM; intro w1 HM
       refine hK9 _ _ (heldG HM) ?_; clear hK9 K9
       refine k_mv 7 (heldG HM) ?_
       refine k_ext 8 (heldG HM) ?_
       refine k_ext 9 (heldG HM) ?_
       refine j_one 11 fun K9 hK9 => ?_
       refine j_st HM ?_; clear HM; intro w1 HM
       refine hK9 _ _ heldN ?_; clear hK9 K9
       refine k_mv 12 heldN ?_
       refine wpAnyL_done (by kernel_rfl) ?_ _
       (go_wp2_with fail; go_meet; (case rel => exact ⟨_, rfl, rfl, HM⟩))
     ·refine j_al HM ?_; clear HM; intro bk w1 HM
      refine ⟨(heldG HM), ?_⟩
      refine j_one 4 fun K9 hK9 => ?_
      refine o_callg (D1 i hit bo rb _ _ (by first | exact HM | exact HM.tuck) hrb) rfl ?_ ?_; (focus (refine h_call1 (ts := ?_) (x1 := ?_) ?_ (by kernel_rfl) ?_; rotate_left 2; (focus rfl); rfl)); rintro e9 w1 ⟨E, rfl, hE, hEb, HM1⟩; replace HM := HM1; clear HM1; refine ⟨_, rfl, ?_⟩
      refine hK9 _ _ (heldG HM) ?_; clear hK9 K9; ((try simp only [List.setIfInBounds_toArray]); (try simp only [List.set_cons_succ]); (try simp only [List.set_cons_zero]))
      refine j_one 6 fun K9 hK9 => ?_
      refine j_call2 (v := ?_) HM ?_ ?_; rotate_left 1; (focus (with_reducible (exact MK1 _ hE hEb x hx _))); clear HM; intro w1 HM
      refine hK9 _ _ (heldG HM) ?_; clear hK9 K9
      refine k_mv 7 (heldG HM) ?_
      refine k_ext 8 (heldG HM) ?_
      refine k_ext 9 (heldG HM) ?_
      refine j_one 11 fun K9 hK9 => ?_
      refine j_st HM ?_; clear HM; intro w1 HM
      refine hK9 _ _ heldN ?_; clear hK9 K9
      refine k_mv 12 heldN ?_
      refine wpAnyL_done (by kernel_rfl) ?_ _
      (go_wp2_with fail; go_meet; (case rel => exact ⟨_, rfl, rfl, HM⟩))
    ·refine j_al HM ?_; clear HM; intro bk w1 HM
     refine ⟨(heldG HM), ?_⟩
     refine j_one 3 fun K9 hK9 => ?_
     refine o_callg (MX (i : Nat) _ _ HM hcol) rfl ?_ ?_; (focus (refine h_call3 (ts := ?_) (x1 := ?_) (x2 := ?_) (x3 := ?_) ?_ (by kernel_rfl) ?_ ?_ ?_; rotate_left 4; (focus rfl); (focus rfl); (focus rfl); rfl)); rintro e9 w1 ⟨bo, rb, rfl, hrb, HM1⟩; replace HM := HM1; clear HM1; refine ⟨_, rfl, ?_⟩
     refine hK9 _ _ (heldG HM) ?_; clear hK9 K9; ((try simp only [List.setIfInBounds_toArray]); (try simp only [List.set_cons_succ]); (try simp only [List.set_cons_zero]))
     refine j_one 4 fun K9 hK9 => ?_
     refine o_callg (D1 i hit bo rb _ _ (by first | exact HM | exact HM.tuck) hrb) rfl ?_ ?_; (focus (refine h_call1 (ts := ?_) (x1 := ?_) ?_ (by kernel_rfl) ?_; rotate_left 2; (focus rfl); rfl)); rintro e9 w1 ⟨E, rfl, hE, hEb, HM1⟩; replace HM := HM1; clear HM1; refine ⟨_, rfl, ?_⟩
     refine hK9 _ _ (heldG HM) ?_; clear hK9 K9; ((try simp only [List.setIfInBounds_toArray]); (try simp only [List.set_cons_succ]); (try simp only [List.set_cons_zero]))
     refine j_one 6 fun K9 hK9 => ?_
     refine j_call2 (v := ?_) HM ?_ ?_; rotate_left 1; (focus (with_reducible (exact MK1 _ hE hEb x hx _))); clear HM; intro w1 HM
     refine hK9 _ _ (heldG HM) ?_; clear hK9 K9
     refine k_mv 7 (heldG HM) ?_
     refine k_ext 8 (heldG HM) ?_
     refine k_ext 9 (heldG HM) ?_
     refine j_one 11 fun K9 hK9 => ?_
     refine j_st HM ?_; clear HM; intro w1 HM
     refine hK9 _ _ heldN ?_; clear hK9 K9
     refine k_mv 12 heldN ?_
     refine wpAnyL_done (by kernel_rfl) ?_ _
     (go_wp2_with fail; go_meet; (case rel => exact ⟨_, rfl, rfl, HM⟩))
   case rest =>
    clear HM
    obtain ⟨b8, rfl, rfl, HM⟩ := hcut
    have hcap : ((qrows i f).length + [Rt.qA x].length) * (264 + 1) ≤ 140737488355328 := by rw [qrows_len]; simp; omega
    have hone : ∀ c ∈ [Rt.qA x], c.all (·.oneCell') = true := by
     intro c hc
     rw [List.mem_singleton.1 hc]
     exact qA_one x
    go_step
    go_wp2_with (first | first
     | ((with_reducible refine g_bs1 ?_); refine a_bs1 (c0 := Rt.qA x) HM ?_; clear HM; intro b9 w1 HM)
     | ((with_reducible refine g_app ?_); refine a_app (m := [Rt.qA x]) (F := fun X => (b8, Rt.qA x) :: (b5, Bg.zA D) :: (b2, #[.slice Au n cu, .slice Ah H.length ch]) :: X) HM HO.out ((SlAt.made1 b9 (qA_size x)).rd HM (by simp)) ?_ hone (hlen := hcap); clear HM; intro s2 B2 w1 HS2 HM) | (first | ((with_reducible refine g_ld ?_); refine a_ld HM ?_) | ((with_reducible refine g_st ?_); refine a_st HM ?_; clear HM; intro w1 HM) | ((with_reducible refine g_al ?_); refine a_al HM ?_; clear HM; intro bk w1 HM) | ((with_reducible refine g_bx ?_); refine a_bx HM ?_; clear HM; intro bk w1 HM)))
    go_roundw
    case rel => exact ⟨i + 1, B2, by go_num, by omega, Lib.hid (by unfold qrows at HS2 ⊢; rw [So.ol_next, ← hx.out]; exact HS2), HM.pick⟩
    case measure => simp [intOf]; omega
  ·obtain rfl : i = n := by omega
   go_wp2_with (first | ((with_reducible refine g_ld ?_); refine a_ld HM ?_) | ((with_reducible refine g_st ?_); refine a_st HM ?_; clear HM; intro w1 HM) | ((with_reducible refine g_al ?_); refine a_al HM ?_; clear HM; intro bk w1 HM) | ((with_reducible refine g_bx ?_); refine a_bx HM ?_; clear HM; intro bk w1 HM))
   go_ret
   exact ⟨_, rfl, HM.low, Lib.hid (HO.out.rd HM (fun p hp => by simp [hp]))⟩
end Go.Proofs.YtckhdiljihhdmaaGreat
namespace Go.Proofs.YtckhdiljihhdmaaGreat
set_option maxRecDepth 8000
open Go.RowKit
namespace Sv
theorem err_of_chk {U : List Int} {H : List (List Int)} {A : List Int} (h : chk U H A ≠ 0) : err U H A = chk U H A := if_neg h
theorem err_circ {U : List Int} {H : List (List Int)} {A : List Int} (h : chk U H A = 0) (hc : Ns.Circ U.length (Ns.gu U) (Ns.gh H)) : err U H A = 351 := by
 unfold err; rw [if_pos h, if_pos hc]
theorem err_none {U : List Int} {H : List (List Int)} {A : List Int} (h : chk U H A = 0) (hc : ¬ Ns.Circ U.length (Ns.gu U) (Ns.gh H)) : err U H A = 0 := by
 unfold err; rw [if_pos h, if_neg hc]
theorem err_spec {U : List Int} {H : List (List Int)} {A : List Int} (h : err U H A = 0) : chk U H A = 0 ∧ ¬ Ns.Circ U.length (Ns.gu U) (Ns.gh H) := by
 by_cases h1 : chk U H A = 0
 ·refine ⟨h1, fun hc => ?_⟩
  rw [err_circ h1 hc] at h
  exact absurd h (by decide)
 ·rw [err_of_chk h1] at h; exact absurd h h1
def Ans (U : List Int) (H : List (List Int)) (A : List Int) (r : Int) (w : World) (s : Value) : Prop := (r ≠ 0 ∧ s = .slice none 0 0) ∨ (r = 0 ∧ ∃ f, Sv.Px U H A f ∧ RdS 66 w s (qrows U.length f))
end Sv
set_option maxHeartbeats 4000000 in
theorem rSolve_any (us hs as_ : Value) (U : List Int) (H : List (List Int)) (A : List Int) (w : World) (hR : RdN w us hs U H) (hA : RdI w as_ A) (r : Int) (hr : Hid (r = Sv.err U H A)) :
    Calls Tryz.prog 33 #[.agg #[us, hs], as_] w fun e w' => ∃ s, e = .returned (.tuple #[s, .int .i64 r]) ∧ Below w.heap.size w w' ∧ Hid (Sv.Ans U H A r w' s) := by
 have HM := Mem.start w
 have HA := Lib.hid hA
 have HR := Lib.hid hR
 obtain ⟨Au, cu, rfl⟩ := hR.u.form
 obtain ⟨Aa, ca, rfl⟩ := hA.form
 obtain ⟨c, hc⟩ : ∃ c, Hid (c = Ns.chk U H) := ⟨_, Lib.hid rfl⟩
 have C := fun w' hB => rncheck_any _ _ U H w' (hR.below hB) c hc
 have n0 := la_n0 (.slice Au U.length cu) hs
 have n2 := la_nest (.slice Au U.length cu) hs
 clear hR hA
 by_cases h0 : c = 0
 case neg =>
  obtain rfl : r = c := by
   have h1 : Sv.chk U H A = c := by rw [Sv.chk_nest (by rw [← hc.out]; exact h0), ← hc.out]
   rw [hr.out, Sv.err_of_chk (by rw [h1]; exact h0), h1]
  clear hr hc
  go_enter Tryz.func33, Tryz.ntmps33
  go_wp2_with (first | (go_at_call 38; ((with_reducible refine (C _ HM.low).mono ?_); rintro e9 w2 ⟨rfl, hL⟩; replace HM := HM.call hL; clear hL)) | (first | ((with_reducible refine g_ld ?_); refine a_ld HM ?_) | ((with_reducible refine g_bx ?_); refine a_bx HM ?_; clear HM; intro bk w1 HM)))
  go_ret2
  exact ⟨_, rfl, HM.low, Lib.hid (.inl ⟨h0, rfl⟩)⟩
 case pos =>
 subst h0
 by_cases hl : A.length = U.length
 case neg =>
  obtain rfl : r = 350 := by
   have h1 := Sv.chk_len hc.out.symm hl
   rw [hr.out, Sv.err_of_chk (by rw [h1]; decide), h1]
  have hl1 : ¬ (A.length : Int) = U.length := by omega
  clear hr hc
  go_enter Tryz.func33, Tryz.ntmps33
  go_wp2_with (first | (go_at_call 38; ((with_reducible refine (C _ HM.low).mono ?_); rintro e9 w2 ⟨rfl, hL⟩; replace HM := HM.call hL; clear hL)) | (first | ((with_reducible refine g_ld ?_); refine a_ld HM ?_) | ((with_reducible refine g_bx ?_); refine a_bx HM ?_; clear HM; intro bk w1 HM)))
  go_ret2
  exact ⟨_, rfl, HM.low, Lib.hid (.inl ⟨by decide, rfl⟩)⟩
 case pos =>
 have HAL := Lib.hid hl
 rw [hl] at HA ⊢
 clear hl
 have hn8 := (Ns.chk_good hc.out.symm).sh.1
 go_enter Tryz.func33, Tryz.ntmps33
 go_wp2_with (first | (go_at_call 38; ((with_reducible refine (C _ HM.low).mono ?_); rintro e9 w2 ⟨rfl, hL⟩; replace HM := HM.call hL; clear hL)) | (first | ((with_reducible refine g_ld ?_); refine a_ld HM ?_) | ((with_reducible refine g_bx ?_); refine a_bx HM ?_; clear HM; intro bk w1 HM)))
 obtain ⟨b2, rfl⟩ := HM.nm0
 go_loopw [4, 5, 7] (fun sv rv iv wr => ∃ i : Nat, sv = .slice none 0 0 ∧ rv = .int .i64 0 ∧ iv = .int .i64 (i : Nat) ∧ i ≤ U.length ∧ Hid (∀ a ∈ A.take i, Sv.inr a) ∧ Mem w [] [(b2, #[.slice Au U.length cu, hs])] wr) (fun _ _ iv _ => U.length - (intOf iv).toNat)
 case atStart => exact ⟨0, rfl, rfl, rfl, by omega, Lib.hid (by simp), HM.pick⟩
 case round =>
  clear HM
  obtain ⟨i, rfl, rfl, rfl, hi, HQ, HM⟩ := hrel
  by_cases hlt : i < U.length
  ·have hlt1 : (i : Int) < U.length := by omega
   obtain ⟨a, ha⟩ : ∃ a, A[i]? = some a := ⟨_, List.getElem?_eq_getElem (by have := HAL.out; omega)⟩
   obtain ⟨b6, off6, cs6, rfl, HB6, ka⟩ := HA.out.at_ ha
   by_cases h1 : a < -1000000000000000
   ·obtain rfl : r = 350 := by
      have h9 := Sv.chk_bad hc.out.symm HAL.out (List.mem_of_getElem? ha) (fun h => by unfold Sv.inr at h; omega)
      rw [hr.out, Sv.err_of_chk (by rw [h9]; decide), h9]
    clear hr hc ha
    go_wp2_with (first | ((with_reducible refine g_ld ?_); refine a_ld HM ?_) | ((with_reducible refine g_bx ?_); refine a_bx HM ?_; clear HM; intro bk w1 HM))
    go_ret2
    exact ⟨_, rfl, HM.low, Lib.hid (.inl ⟨by decide, rfl⟩)⟩
   by_cases h2 : 1000000000000000 < a
   ·obtain rfl : r = 350 := by
      have h9 := Sv.chk_bad hc.out.symm HAL.out (List.mem_of_getElem? ha) (fun h => by unfold Sv.inr at h; omega)
      rw [hr.out, Sv.err_of_chk (by rw [h9]; decide), h9]
    clear hr hc ha
    go_wp2_with (first | ((with_reducible refine g_ld ?_); refine a_ld HM ?_) | ((with_reducible refine g_bx ?_); refine a_bx HM ?_; clear HM; intro bk w1 HM))
    go_ret2
    exact ⟨_, rfl, HM.low, Lib.hid (.inl ⟨by decide, rfl⟩)⟩
   have HQ2 : Hid (∀ a ∈ A.take (i + 1), Sv.inr a) := Lib.hid (by
    intro x hx
    rw [List.take_add_one, ha] at hx
    rcases List.mem_append.1 hx with hx | hx
    ·exact HQ.out x hx
    ·simp at hx; subst hx; unfold Sv.inr; omega)
   clear ha
   go_wp2_with (first | ((with_reducible refine g_ld ?_); refine a_ld HM ?_) | ((with_reducible refine g_bx ?_); refine a_bx HM ?_; clear HM; intro bk w1 HM))
   go_roundw
   case rel => exact ⟨i + 1, rfl, rfl, by go_num, by omega, HQ2, HM⟩
   case measure => simp [intOf]; omega
  ·have hchk : Sv.chk U H A = 0 := Sv.chk_ok hc.out.symm HAL.out (by have := HQ.out; rwa [List.take_of_length_le (by have := HAL.out; omega)] at this)
   obtain rfl : i = U.length := by omega
   obtain ⟨hG, hAl, hb⟩ := Sv.chk_spec hchk
   by_cases hcc : Ns.Circ U.length (Ns.gu U) (Ns.gh H)
   ·obtain rfl : r = 351 := by rw [hr.out, Sv.err_circ hchk hcc]
    have K := fun w' hB => rcircle_any _ _ U H w' (HR.out.below hB) hG 351 (fun h => absurd hcc h) (fun _ => rfl)
    clear hr hc hG hAl hb hcc hchk
    go_wp2_with (first | (go_at_call 32; ((with_reducible refine (K _ HM.low).mono ?_); rintro e9 w2 ⟨rfl, hL⟩; replace HM := HM.call hL; clear hL)) | (first | ((with_reducible refine g_ld ?_); refine a_ld HM ?_) | ((with_reducible refine g_bx ?_); refine a_bx HM ?_; clear HM; intro bk w1 HM)))
    go_ret2
    exact ⟨_, rfl, HM.low, Lib.hid (.inl ⟨by decide, rfl⟩)⟩
   ·obtain rfl : r = 0 := by rw [hr.out, Sv.err_none hchk hcc]
    have K := fun w' hB => rcircle_any _ _ U H w' (HR.out.below hB) hG 0 (fun _ => rfl) (fun h => absurd h hcc)
    obtain ⟨f, hf⟩ := Sv.px_exists hG hcc hb
    have HF := Lib.hid hf
    have S := fun w' hB => rsolve_any _ _ _ U H A f U.length w' (HR.out.below hB) hG (HA.out.below hB) (Lib.hid rfl) hAl hb hcc hf.1 hf.2
    clear hr hc hG hAl hb hcc hchk hf
    go_upto_region 14 with (first | (go_at_call 32; ((with_reducible refine (K _ HM.low).mono ?_); rintro e9 w2 ⟨rfl, hL⟩; replace HM := HM.call hL; clear hL)) | (first | ((with_reducible refine g_ld ?_); refine a_ld HM ?_) | ((with_reducible refine g_bx ?_); refine a_bx HM ?_; clear HM; intro bk w1 HM)))
    go_wp2_with (first | (go_at_call 62; refine (S _ HM.low).mono ?_; rintro e9 w5 ⟨s1, rfl, hL1, HS1⟩; replace HM := HM.call hL1) | (first | ((with_reducible refine g_ld ?_); refine a_ld HM ?_) | ((with_reducible refine g_bx ?_); refine a_bx HM ?_; clear HM; intro bk w1 HM)))
    go_ret2
    exact ⟨_, rfl, HM.low, Lib.hid (.inr ⟨rfl, f, HF.out, HS1.out⟩)⟩
end Go.Proofs.YtckhdiljihhdmaaGreat
