/- Walks, and plain facts for them. -/
import Derived.Test.YtckhdiljihhdmaaGreatPb28
import Derived.Test.YtckhdiljihhdmaaGreatPb07
namespace Go.Proofs.YtckhdiljihhdmaaGreat
set_option maxRecDepth 8000
open Go.RowKit
noncomputable def bR (n : Nat) (r : Nat → Nat → Bool) (i : Nat) : Array Value := rowsOf (So.ol (fun j => bc (r i j)) n)
theorem bR_congr {n : Nat} {r q : Nat → Nat → Bool} {i : Nat} (h : ∀ j, j < n → r i j = q i j) : bR n r i = bR n q i := by
 unfold bR; rw [ol_congr fun j hj => by rw [h j hj]]
set_option maxRecDepth 100000 in
set_option maxHeartbeats 8000000 in
theorem rreach_any (us hs : Value) (U : List Int) (H : List (List Int)) (w : World) (hR : RdN w us hs U H) (hG : Ns.Good U H) :
    Calls Tryz.prog 85 #[.agg #[us, hs]] w fun e w' => ∃ sv, e = .returned sv ∧ Hid (RdG 1 w' sv U.length fun i j => bc (Ns.rch U.length (Ns.gh H) i j)) ∧ Below w.heap.size w w' := by
 have HM := Mem.start w
 have HR := Lib.hid hR
 have HG := Lib.hid hG
 obtain ⟨n, hn⟩ : ∃ n, Hid (n = U.length) := ⟨_, Lib.hid rfl⟩
 obtain ⟨h, hh⟩ : ∃ h, Hid (h = Ns.gh H) := ⟨_, Lib.hid rfl⟩
 have hn8 : n ≤ 8 := by rw [hn.out]; exact hG.sh.1
 have HHL : Hid (H.length = n) := Lib.hid (by rw [hn.out]; exact hG.sh.2)
 have HRW : Hid (∀ (i : Nat) (l : List Int), H[i]? = some l → l.length = n) := Lib.hid (fun i (l : List Int) hl => by
  have hi := (List.getElem?_eq_some_iff.1 hl).1
  have := hG.row i (by have := hG.sh.2; omega)
  rw [List.getD_eq_getElem?_getD, hl] at this
  rw [hn.out]; exact this)
 rw [← hn.out, ← hh.out]
 obtain ⟨Au, cu, rfl⟩ := hR.u.form
 obtain ⟨Ah, ch, rfl⟩ := hR.h.form
 have elb : elemB 116 4 1 1 = true := by kernel_rfl
 have elbb : elemB 136 116 1 24 = true := by kernel_rfl
 have zb := za_b
 have zsb := za_sb
 rw [HHL.out, ← hn.out]
 rw [HHL.out, ← hn.out] at HR
 have n0 := la_n0 (.slice Au n cu) (.slice Ah n ch)
 have n1 := la_n1 (.slice Au n cu) (.slice Ah n ch)
 clear hR hG
 go_enter Tryz.func85, Tryz.ntmps85
 go_upto_region 3 with (first | ((with_reducible refine g_mks ?_); refine a_mks n HM ?_ (by omega); clear HM; intro bo w1 HM) | (first | ((with_reducible refine g_ld ?_); refine a_ld HM ?_) | ((with_reducible refine g_st ?_); refine a_st HM ?_; clear HM; intro w1 HM) | ((with_reducible refine g_bx ?_); refine a_bx HM ?_; clear HM; intro bk w1 HM)))
 replace HM : Mem w [] ((bk, #[.slice Au n cu, .slice Ah n ch]) :: (bo, rowsOf (List.replicate n (vc (.slice none 0 0)))) :: (NF [] (bR n (Ns.wst h 0 0 0)) ++ [])) _ := HM.pick
 rw [rep_vals] at HM
 go_wp2_with (first | ((with_reducible refine g_ld ?_); refine a_ld HM ?_) | ((with_reducible refine g_st ?_); refine a_st HM ?_; clear HM; intro w1 HM) | ((with_reducible refine g_bx ?_); refine a_bx HM ?_; clear HM; intro bk w1 HM))
 go_loopw [5] (fun iv wr => ∃ (i : Nat) (rb : List Nat), iv = .int .i64 (i : Nat) ∧ i ≤ n ∧ Hid (rb.length = i) ∧ Mem w [] ((bk, #[.slice Au n cu, .slice (Ah) n ch]) :: (bo, rowsOf ((rv n rb ++ List.replicate (n - i) (Value.slice none 0 0)).map vc)) :: (NF rb (bR n (Ns.wst h 0 0 0)) ++ [])) wr) (fun iv _ => n - (intOf iv).toNat)
 case atStart => exact ⟨0, [], rfl, by omega, Lib.hid rfl, HM⟩
 case round =>
  clear HM
  obtain ⟨i, rb, rfl, hi, HRL, HM⟩ := hrel
  by_cases hit : i < n
  ·have hit1 : (i : Int) < n := by omega
   have hrl : i < (rv n rb ++ List.replicate (n - i) (Value.slice none 0 0)).length := by
    rw [List.length_append, List.length_replicate]
    have : (rv n rb).length = i := by simp [rv, HRL.out]
    omega
   go_upto_region 7 with (first | ((with_reducible refine g_mks ?_); refine a_mks n HM ?_ (by omega); clear HM; intro br w1 HM) | ((with_reducible refine g_st ?_); refine a_st HM ?_ (hv := sa_valsB _ (.slice (some ⟨br, 0, none⟩) n n) hrl rfl); clear HM; intro w1 HM) | (first | ((with_reducible refine g_ld ?_); refine a_ld HM ?_) | ((with_reducible refine g_st ?_); refine a_st HM ?_; clear HM; intro w1 HM) | ((with_reducible refine g_bx ?_); refine a_bx HM ?_; clear HM; intro bk w1 HM)))
   rw [rv_step HRL.out hit] at HM
   replace HM : Mem w [] ((br, rowsOf (List.replicate n (bc false))) :: (bk, #[.slice Au n cu, .slice (Ah) n ch]) :: (bo, rowsOf ((rv n (rb ++ [br]) ++ List.replicate (n - (i + 1)) (Value.slice none 0 0)).map vc)) :: (NF rb (bR n (Ns.wst h 0 0 0)) ++ [])) _ := HM.pick
   rw [rep_bools] at HM
   obtain ⟨l, hl⟩ : ∃ l, H[i]? = some l := ⟨_, List.getElem?_eq_getElem (by rw [HHL.out]; exact hit)⟩
   obtain ⟨bh, offh, csh, A2, c2, rfl, HBH, kh, HL⟩ := HR.out.h.at_ hl
   have hll := HRW.out i l hl
   rw [hll] at kh HL
   have HLL := Lib.hid hll
   have HLI := Lib.hid hl
   have lv : LA 116 (rowsOf ((rv n (rb ++ [br]) ++ List.replicate (n - (i + 1)) (Value.slice none 0 0)).map vc)) i (.slice (some ⟨br, 0, none⟩) n n) := la_valsB (by
    rw [List.getElem?_append_left (by simp [rv, HRL.out])]
    unfold rv
    rw [List.getElem?_map, List.getElem?_append_right (by rw [HRL.out]; exact Nat.le_refl _), HRL.out, Nat.sub_self]; rfl)
   clear hl hll hrl
   go_wp2_with (first | ((with_reducible refine g_ld ?_); refine a_ld HM ?_) | ((with_reducible refine g_st ?_); refine a_st HM ?_; clear HM; intro w1 HM) | ((with_reducible refine g_bx ?_); refine a_bx HM ?_; clear HM; intro bk w1 HM))
   go_loopw [6] (fun jv wr => ∃ j : Nat, jv = .int .i64 (j : Nat) ∧ j ≤ n ∧ Mem w [] ((br, rowsOf (So.ol (fun b => bc (decide (b < j) && Ns.wst h 0 0 0 i b)) n)) :: (bk, #[.slice Au n cu, .slice (some ⟨bh, offh, none⟩) n ch]) :: (bo, rowsOf ((rv n (rb ++ [br]) ++ List.replicate (n - (i + 1)) (Value.slice none 0 0)).map vc)) :: (NF rb (bR n (Ns.wst h 0 0 0)) ++ [])) wr) (fun jv _ => n - (intOf jv).toNat)
   case atStart =>
    refine ⟨0, rfl, by omega, ?_⟩
    have e : So.ol (fun _ => bc false) n = So.ol (fun b => bc (decide (b < 0) && Ns.wst h 0 0 0 i b)) n := ol_congr fun b _ => by simp
    rw [← e]; exact HM
   case round =>
    clear HM
    obtain ⟨j, rfl, hj, HM⟩ := hrel
    by_cases hjt : j < n
    ·have hjt1 : (j : Int) < n := by omega
     obtain ⟨x, hx⟩ : ∃ x, l[j]? = some x := ⟨_, List.getElem?_eq_getElem (by rw [HLL.out]; exact hjt)⟩
     have ex := Ns.gh_at HLI.out hx
     obtain ⟨b3, off3, cs3, rfl, HB3, k3⟩ := HL.out.at_ hx
     rw [← hh.out] at ex
     have sb : ∀ v, Ns.wst h 0 0 0 i j = v → SA 4 (rowsOf (So.ol (fun b => bc (decide (b < j) && Ns.wst h 0 0 0 i b)) n)) j (.bool v) (rowsOf (So.ol (fun b => bc (decide (b < j + 1) && Ns.wst h 0 0 0 i b)) n)) := fun v hv => by
      refine sa_bo1 _ _ hjt (by simp [hv]) fun b hb => ?_
      have e : decide (b < j + 1) = decide (b < j) := decide_eq_decide.2 (by omega)
      rw [e]
     by_cases e : i = j
     ·have ht := sb true (by rw [Ns.wst_start]; simp [e])
      have he : ((i : Int) == j) = true := by simp [e]
      clear hx ex sb k3 e
      go_upto_region 10 with (first | ((with_reducible refine g_ld ?_); refine a_ld HM ?_) | ((with_reducible refine g_st ?_); refine a_st HM ?_; clear HM; intro w1 HM) | ((with_reducible refine g_bx ?_); refine a_bx HM ?_; clear HM; intro bk w1 HM))
      refine start_M [20] HM (by kernel_rfl) (fun w0x H9 => ?_)
      replace HM := H9; clear H9
      refine k_mv 0 (heldF HM) ?_
      refine k_mv 1 (heldF HM) ?_
      refine k_ia 2 (heldF HM) ?_
      refine k_ld 3 [19, 20] (heldF HM) ?_
      refine k_mv 4 (heldF HM) ?_
      refine k_mv 5 (heldF HM) ?_
      refine k_mv 6 (heldF HM) ?_
      refine t_pure (i := 7) (v := .bool true) rfl rfl (by kernel_rfl) (fun _ _ _ h => h) (heldF HM) (by rfl) ?_ ?_; (focus ((intro w9; first | (go_simp; done) | (go_simp; rfl)))); ((try simp only [List.setIfInBounds_toArray]); (try simp only [List.set_cons_succ]); (try simp only [List.set_cons_zero]))
      refine k_mv 8 (heldF HM) ?_
      refine k_off 9 (heldF HM) ?_
      refine k_off 10 (heldF HM) ?_
      refine k_off 11 (heldF HM) ?_
      refine k_off 12 (heldF HM) ?_
      refine k_off 13 (heldF HM) ?_
      refine k_off 14 (heldF HM) ?_
      refine k_off 15 (heldF HM) ?_
      refine k_off 16 (heldF HM) ?_
      refine k_off 17 (heldF HM) ?_
      refine k_pick 18 (heldF HM) ?_
      refine k_ia 19 (heldF HM) ?_
      refine j_one 20 fun K9 hK9 => ?_
      refine j_st HM ?_; clear HM; intro w1 HM
      refine hK9 _ _ heldN ?_; clear hK9 K9
      refine wpAnyL_done (by kernel_rfl) ?_ _
      go_wp2_with fail
      go_roundw
      case rel => exact ⟨j + 1, by go_num, by omega, HM⟩
      case measure => simp [intOf]; omega
     ·have he : ((i : Int) == j) = false := by simp; omega
      by_cases hx0 : 0 < x
      ·have ht := sb true (by rw [Ns.wst_start, ex]; simp [hx0])
       clear hx ex sb e
       go_upto_region 10 with (first | ((with_reducible refine g_ld ?_); refine a_ld HM ?_) | ((with_reducible refine g_st ?_); refine a_st HM ?_; clear HM; intro w1 HM) | ((with_reducible refine g_bx ?_); refine a_bx HM ?_; clear HM; intro bk w1 HM))
       refine start_M [20] HM (by kernel_rfl) (fun w0x H9 => ?_)
       replace HM := H9; clear H9
       refine k_mv 0 (heldF HM) ?_
       refine k_mv 1 (heldF HM) ?_
       refine k_ia 2 (heldF HM) ?_
       refine k_ld 3 [19, 20] (heldF HM) ?_
       refine k_mv 4 (heldF HM) ?_
       refine k_mv 5 (heldF HM) ?_
       refine k_mv 6 (heldF HM) ?_
       refine t_pure (i := 7) (v := .bool false) rfl rfl (by kernel_rfl) (fun _ _ _ h => h) (heldF HM) (by rfl) ?_ ?_; (focus ((intro w9; first | (go_simp; done) | (go_simp; rfl)))); ((try simp only [List.setIfInBounds_toArray]); (try simp only [List.set_cons_succ]); (try simp only [List.set_cons_zero]))
       refine k_mv 8 (heldF HM) ?_
       refine k_fa 9 (heldF HM) ?_
       refine k_ld 10 [12, 13, 15, 16, 17, 18, 19, 20] (heldF HM) ?_
       refine k_mv 11 (heldF HM) ?_
       refine k_ia 12 (heldF HM) ?_
       refine k_ld 13 [15, 16, 17, 18, 19, 20] (heldF HM) ?_
       refine k_mv 14 (heldF HM) ?_
       refine k_ia 15 (heldF HM) ?_
       refine k_ld 16 [17, 18, 19, 20] (heldF HM) ?_
       refine t_pure (i := 17) (v := .bool true) rfl rfl (by kernel_rfl) (fun _ _ _ h => h) (heldF HM) (by rfl) ?_ ?_; (focus ((intro w9; first | (go_simp; done) | (go_simp; rfl)))); ((try simp only [List.setIfInBounds_toArray]); (try simp only [List.set_cons_succ]); (try simp only [List.set_cons_zero]))
       refine k_pick 18 (heldF HM) ?_
       refine k_ia 19 (heldF HM) ?_
       refine j_one 20 fun K9 hK9 => ?_
       refine j_st HM ?_; clear HM; intro w1 HM
       refine hK9 _ _ heldN ?_; clear hK9 K9
       refine wpAnyL_done (by kernel_rfl) ?_ _
       go_wp2_with fail
       go_roundw
       case rel => exact ⟨j + 1, by go_num, by omega, HM⟩
       case measure => simp [intOf]; omega
      ·have ht := sb false (by rw [Ns.wst_start, ex]; simp [hx0, e])
       have hx1 : x ≤ 0 := by omega
       clear hx ex sb e
       go_upto_region 10 with (first | ((with_reducible refine g_ld ?_); refine a_ld HM ?_) | ((with_reducible refine g_st ?_); refine a_st HM ?_; clear HM; intro w1 HM) | ((with_reducible refine g_bx ?_); refine a_bx HM ?_; clear HM; intro bk w1 HM))
       refine start_M [20] HM (by kernel_rfl) (fun w0x H9 => ?_)
       replace HM := H9; clear H9
       refine k_mv 0 (heldF HM) ?_
       refine k_mv 1 (heldF HM) ?_
       refine k_ia 2 (heldF HM) ?_
       refine k_ld 3 [19, 20] (heldF HM) ?_
       refine k_mv 4 (heldF HM) ?_
       refine k_mv 5 (heldF HM) ?_
       refine k_mv 6 (heldF HM) ?_
       refine t_pure (i := 7) (v := .bool false) rfl rfl (by kernel_rfl) (fun _ _ _ h => h) (heldF HM) (by rfl) ?_ ?_; (focus ((intro w9; first | (go_simp; done) | (go_simp; rfl)))); ((try simp only [List.setIfInBounds_toArray]); (try simp only [List.set_cons_succ]); (try simp only [List.set_cons_zero]))
       refine k_mv 8 (heldF HM) ?_
       refine k_fa 9 (heldF HM) ?_
       refine k_ld 10 [12, 13, 15, 16, 17, 18, 19, 20] (heldF HM) ?_
       refine k_mv 11 (heldF HM) ?_
       refine k_ia 12 (heldF HM) ?_
       refine k_ld 13 [15, 16, 17, 18, 19, 20] (heldF HM) ?_
       refine k_mv 14 (heldF HM) ?_
       refine k_ia 15 (heldF HM) ?_
       refine k_ld 16 [17, 18, 19, 20] (heldF HM) ?_
       refine t_pure (i := 17) (v := .bool false) rfl rfl (by kernel_rfl) (fun _ _ _ h => h) (heldF HM) (by rfl) ?_ ?_; (focus ((intro w9; first | (go_simp; done) | (go_simp; rfl)))); ((try simp only [List.setIfInBounds_toArray]); (try simp only [List.set_cons_succ]); (try simp only [List.set_cons_zero]))
       refine k_pick 18 (heldF HM) ?_
       refine k_ia 19 (heldF HM) ?_
       refine j_one 20 fun K9 hK9 => ?_
       refine j_st HM ?_; clear HM; intro w1 HM
       refine hK9 _ _ heldN ?_; clear hK9 K9
       refine wpAnyL_done (by kernel_rfl) ?_ _
       go_wp2_with fail
       go_roundw
       case rel => exact ⟨j + 1, by go_num, by omega, HM⟩
       case measure => simp [intOf]; omega
    ·obtain rfl : n = j := by omega
     go_wp2_with fail
     go_roundw
     case rel =>
      refine ⟨i + 1, rb ++ [br], by go_num, by omega, Lib.hid (by simp [HRL.out]), ?_⟩
      have e : So.ol (fun b => bc (decide (b < n) && Ns.wst h 0 0 0 i b)) n = So.ol (fun b => bc (Ns.wst h 0 0 0 i b)) n := ol_congr fun b hb => by simp [hb]
      rw [e] at HM
      have e2 := NF_add (rb := rb) (F := bR n (Ns.wst h 0 0 0)) br
      rw [HRL.out] at e2
      rw [e2]
      exact HM.pushRow [_, _]
     case measure => simp [intOf]; omega
  ·obtain rfl : n = i := by omega
   rw [Nat.sub_self, List.replicate_zero, List.append_nil] at HM
   go_wp2_with (first | ((with_reducible refine g_ld ?_); refine a_ld HM ?_) | ((with_reducible refine g_st ?_); refine a_st HM ?_; clear HM; intro w1 HM) | ((with_reducible refine g_bx ?_); refine a_bx HM ?_; clear HM; intro bk w1 HM))
   go_loopw [7] (fun kv wr => ∃ k : Nat, kv = .int .i64 (k : Nat) ∧ k ≤ n ∧ Mem w [] ((bk, #[.slice Au n cu, .slice (Ah) n ch]) :: (bo, rowsOf ((rv n rb).map vc)) :: (NF rb (bR n (Ns.wst h k 0 0)) ++ [])) wr) (fun kv _ => n - (intOf kv).toNat)
   case atStart => exact ⟨0, rfl, by omega, HM⟩
   case round =>
    clear HM
    obtain ⟨k, rfl, hk, HM⟩ := hrel
    by_cases hkt : k < n
    ·have hkt1 : (k : Int) < n := by omega
     go_wp2_with (first | ((with_reducible refine g_ld ?_); refine a_ld HM ?_) | ((with_reducible refine g_st ?_); refine a_st HM ?_; clear HM; intro w1 HM) | ((with_reducible refine g_bx ?_); refine a_bx HM ?_; clear HM; intro bk w1 HM))
     go_loopw [8] (fun iv wr => ∃ i : Nat, iv = .int .i64 (i : Nat) ∧ i ≤ n ∧ Mem w [] ((bk, #[.slice Au n cu, .slice (Ah) n ch]) :: (bo, rowsOf ((rv n rb).map vc)) :: (NF rb (bR n (Ns.wst h k i 0)) ++ [])) wr) (fun iv _ => n - (intOf iv).toNat)
     case atStart => exact ⟨0, rfl, by omega, HM⟩
     case round =>
      clear HM
      obtain ⟨i, rfl, hi, HM⟩ := hrel
      by_cases hit : i < n
      ·have hit1 : (i : Int) < n := by omega
       go_wp2_with (first | ((with_reducible refine g_ld ?_); refine a_ld HM ?_) | ((with_reducible refine g_st ?_); refine a_st HM ?_; clear HM; intro w1 HM) | ((with_reducible refine g_bx ?_); refine a_bx HM ?_; clear HM; intro bk w1 HM))
       go_loopw [9] (fun jv wr => ∃ j : Nat, jv = .int .i64 (j : Nat) ∧ j ≤ n ∧ Mem w [] ((bk, #[.slice Au n cu, .slice (Ah) n ch]) :: (bo, rowsOf ((rv n rb).map vc)) :: (NF rb (bR n (Ns.wst h k i j)) ++ [])) wr) (fun jv _ => n - (intOf jv).toNat)
       case atStart => exact ⟨0, rfl, by omega, HM⟩
       case round =>
        clear HM
        obtain ⟨j, rfl, hj, HM⟩ := hrel
        by_cases hjt : j < n
        ·have hjt1 : (j : Int) < n := by omega
         obtain ⟨bi, hbi⟩ : ∃ b, rb[i]? = some b := ⟨_, List.getElem?_eq_getElem (by rw [HRL.out]; exact hit)⟩
         obtain ⟨bj, hbj⟩ : ∃ b, rb[k]? = some b := ⟨_, List.getElem?_eq_getElem (by rw [HRL.out]; exact hkt)⟩
         have lvi : LA 116 (rowsOf ((rv n rb).map vc)) i (.slice (some ⟨bi, 0, none⟩) n n) := la_valsB (by unfold rv; rw [List.getElem?_map, hbi]; rfl)
         have lvk : LA 116 (rowsOf ((rv n rb).map vc)) k (.slice (some ⟨bj, 0, none⟩) n n) := la_valsB (by unfold rv; rw [List.getElem?_map, hbj]; rfl)
         obtain ⟨x, hx⟩ : ∃ x, Hid (x = Ns.wst h k i j i j) := ⟨_, Lib.hid rfl⟩
         obtain ⟨y, hy⟩ : ∃ x, Hid (x = Ns.wst h k i j i k) := ⟨_, Lib.hid rfl⟩
         obtain ⟨z, hz⟩ : ∃ x, Hid (x = Ns.wst h k i j k j) := ⟨_, Lib.hid rfl⟩
         have lx : LA 4 (bR n (Ns.wst h k i j) i) j (.bool x) := by rw [hx.out]; exact la_bo1 _ hjt
         have ly : LA 4 (bR n (Ns.wst h k i j) i) k (.bool y) := by rw [hy.out]; exact la_bo1 _ hkt
         have lz : LA 4 (bR n (Ns.wst h k i j) k) j (.bool z) := by rw [hz.out]; exact la_bo1 _ hjt
         have sb : SA 4 (bR n (Ns.wst h k i j) i) j (.bool (x || (y && z))) (bR n (Ns.wst h k i (j + 1)) i) := sa_bo1 _ _ hjt (by rw [Ns.wst_new, hx.out, hy.out, hz.out]) fun b hb => Ns.wst_old (by omega)
         have es := fun (q : Array Value) (hq : q = bR n (Ns.wst h k i (j + 1)) i) => (by rw [hq]; exact NF_set (F := bR n (Ns.wst h k i j)) (G := bR n (Ns.wst h k i (j + 1))) hbi fun a ha hne => bR_congr fun b _ => Ns.wst_old (by omega) : (NF rb (bR n (Ns.wst h k i j))).set i (bi, q) = NF rb (bR n (Ns.wst h k i (j + 1))))
         have ES := Lib.hid (es _ rfl)
         clear es
         by_cases e : k = i
         ·subst e
          obtain rfl : bi = bj := by rw [hbi] at hbj; injection hbj
          have hidx : k < (NF rb (bR n (Ns.wst h k k j))).length := by rw [NF_len, HRL.out]; exact hkt
          have HM2 := HM.openRow [_, _] (NF_at hbi)
          clear HM
          have HM := HM2
          clear HM2
          replace HM : Mem w [] ((bi, bR n (Ns.wst h k k j) k) :: (bk, #[.slice Au n cu, .slice (Ah) n ch]) :: (bo, rowsOf ((rv n rb).map vc)) :: ((NF rb (bR n (Ns.wst h k k j))).eraseIdx k ++ [])) _ := HM
          obtain rfl : z = x := by rw [hz.out, hx.out]
          clear lz
          have HIX := Lib.hid hidx
          clear hbi hbj hidx hx hy hz
          go_upto_region 20 with (first | ((with_reducible refine g_ld ?_); refine a_ld HM ?_) | ((with_reducible refine g_st ?_); refine a_st HM ?_; clear HM; intro w1 HM) | ((with_reducible refine g_bx ?_); refine a_bx HM ?_; clear HM; intro bk w1 HM))
          cases z
          ·cases y
           ·
            replace sb : SA 4 _ j (.bool false) _ := sb
            refine start_M [31] HM (by kernel_rfl) (fun w0x H9 => ?_)
            replace HM := H9; clear H9
            refine k_mv 0 (heldF HM) ?_
            refine k_mv 1 (heldF HM) ?_
            refine k_ia 2 (heldF HM) ?_
            refine k_ld 3 [30, 31] (heldF HM) ?_
            refine k_mv 4 (heldF HM) ?_
            refine k_mv 5 (heldF HM) ?_
            refine k_mv 6 (heldF HM) ?_
            refine k_ia 7 (heldF HM) ?_
            refine k_ld 8 [10, 11, 12, 13, 14, 15, 16, 17, 18, 19, 20, 21, 22, 23, 24, 25, 26, 27, 28, 29, 30, 31] (heldF HM) ?_
            refine k_mv 9 (heldF HM) ?_
            refine k_ia 10 (heldF HM) ?_
            refine k_ld 11 [12, 13, 14, 15, 16, 17, 18, 19, 20, 21, 22, 23, 24, 25, 26, 27, 28, 29, 30, 31] (heldF HM) ?_
            refine k_mv 12 (heldF HM) ?_
            refine k_mv 13 (heldF HM) ?_
            refine k_mv 14 (heldF HM) ?_
            refine k_ia 15 (heldF HM) ?_
            refine k_ld 16 [18, 19, 20, 21, 22, 23, 24, 25, 26, 27, 28, 29, 30, 31] (heldF HM) ?_
            refine k_mv 17 (heldF HM) ?_
            refine k_ia 18 (heldF HM) ?_
            refine k_ld 19 [20, 21, 22, 23, 24, 25, 26, 27, 28, 29, 30, 31] (heldF HM) ?_
            refine k_mv 20 (heldF HM) ?_
            refine k_off 21 (heldF HM) ?_
            refine k_off 22 (heldF HM) ?_
            refine k_off 23 (heldF HM) ?_
            refine k_off 24 (heldF HM) ?_
            refine k_off 25 (heldF HM) ?_
            refine k_off 26 (heldF HM) ?_
            refine k_off 27 (heldF HM) ?_
            refine k_pick 28 (heldF HM) ?_
            refine k_pick 29 (heldF HM) ?_
            refine k_ia 30 (heldF HM) ?_
            refine j_one 31 fun K9 hK9 => ?_
            refine j_st HM ?_; clear HM; intro w1 HM
            refine hK9 _ _ heldN ?_; clear hK9 K9
            refine wpAnyL_done (by kernel_rfl) ?_ _
            go_wp2_with fail
            go_roundw
            case rel => exact ⟨j + 1, by go_num, by omega, (by have := HM.closeRow [_, _] HIX.out; rw [ES.out] at this; exact this)⟩
            case measure => simp [intOf]; omega
           ·
            replace sb : SA 4 _ j (.bool false) _ := sb
            refine start_M [31] HM (by kernel_rfl) (fun w0x H9 => ?_)
            replace HM := H9; clear H9
            refine k_mv 0 (heldF HM) ?_
            refine k_mv 1 (heldF HM) ?_
            refine k_ia 2 (heldF HM) ?_
            refine k_ld 3 [30, 31] (heldF HM) ?_
            refine k_mv 4 (heldF HM) ?_
            refine k_mv 5 (heldF HM) ?_
            refine k_mv 6 (heldF HM) ?_
            refine k_ia 7 (heldF HM) ?_
            refine k_ld 8 [10, 11, 12, 13, 14, 15, 16, 17, 18, 19, 20, 21, 22, 23, 24, 25, 26, 27, 28, 29, 30, 31] (heldF HM) ?_
            refine k_mv 9 (heldF HM) ?_
            refine k_ia 10 (heldF HM) ?_
            refine k_ld 11 [12, 13, 14, 15, 16, 17, 18, 19, 20, 21, 22, 23, 24, 25, 26, 27, 28, 29, 30, 31] (heldF HM) ?_
            refine k_mv 12 (heldF HM) ?_
            refine k_mv 13 (heldF HM) ?_
            refine k_mv 14 (heldF HM) ?_
            refine k_ia 15 (heldF HM) ?_
            refine k_ld 16 [18, 19, 20, 21, 22, 23, 24, 25, 26, 27, 28, 29, 30, 31] (heldF HM) ?_
            refine k_mv 17 (heldF HM) ?_
            refine k_ia 18 (heldF HM) ?_
            refine k_ld 19 [20, 21, 22, 23, 24, 25, 26, 27, 28, 29, 30, 31] (heldF HM) ?_
            refine k_mv 20 (heldF HM) ?_
            refine k_mv 21 (heldF HM) ?_
            refine k_mv 22 (heldF HM) ?_
            refine k_ia 23 (heldF HM) ?_
            refine k_ld 24 [26, 27, 28, 29, 30, 31] (heldF HM) ?_
            refine k_mv 25 (heldF HM) ?_
            refine k_ia 26 (heldF HM) ?_
            refine k_ld 27 [28, 29, 30, 31] (heldF HM) ?_
            refine k_pick 28 (heldF HM) ?_
            refine k_pick 29 (heldF HM) ?_
            refine k_ia 30 (heldF HM) ?_
            refine j_one 31 fun K9 hK9 => ?_
            refine j_st HM ?_; clear HM; intro w1 HM
            refine hK9 _ _ heldN ?_; clear hK9 K9
            refine wpAnyL_done (by kernel_rfl) ?_ _
            go_wp2_with fail
            go_roundw
            case rel => exact ⟨j + 1, by go_num, by omega, (by have := HM.closeRow [_, _] HIX.out; rw [ES.out] at this; exact this)⟩
            case measure => simp [intOf]; omega
          ·
           replace sb : SA 4 _ j (.bool true) _ := sb
           refine start_M [31] HM (by kernel_rfl) (fun w0x H9 => ?_)
           replace HM := H9; clear H9
           refine k_mv 0 (heldF HM) ?_
           refine k_mv 1 (heldF HM) ?_
           refine k_ia 2 (heldF HM) ?_
           refine k_ld 3 [30, 31] (heldF HM) ?_
           refine k_mv 4 (heldF HM) ?_
           refine k_mv 5 (heldF HM) ?_
           refine k_mv 6 (heldF HM) ?_
           refine k_ia 7 (heldF HM) ?_
           refine k_ld 8 [10, 11, 12, 13, 14, 15, 16, 17, 18, 19, 20, 21, 22, 23, 24, 25, 26, 27, 28, 29, 30, 31] (heldF HM) ?_
           refine k_mv 9 (heldF HM) ?_
           refine k_ia 10 (heldF HM) ?_
           refine k_ld 11 [12, 13, 14, 15, 16, 17, 18, 19, 20, 21, 22, 23, 24, 25, 26, 27, 28, 29, 30, 31] (heldF HM) ?_
           refine k_mv 12 (heldF HM) ?_
           refine k_off 13 (heldF HM) ?_
           refine k_off 14 (heldF HM) ?_
           refine k_off 15 (heldF HM) ?_
           refine k_off 16 (heldF HM) ?_
           refine k_off 17 (heldF HM) ?_
           refine k_off 18 (heldF HM) ?_
           refine k_off 19 (heldF HM) ?_
           refine k_off 20 (heldF HM) ?_
           refine k_off 21 (heldF HM) ?_
           refine k_off 22 (heldF HM) ?_
           refine k_off 23 (heldF HM) ?_
           refine k_off 24 (heldF HM) ?_
           refine k_off 25 (heldF HM) ?_
           refine k_off 26 (heldF HM) ?_
           refine k_off 27 (heldF HM) ?_
           refine k_off 28 (heldF HM) ?_
           refine k_pick 29 (heldF HM) ?_
           refine k_ia 30 (heldF HM) ?_
           refine j_one 31 fun K9 hK9 => ?_
           refine j_st HM ?_; clear HM; intro w1 HM
           refine hK9 _ _ heldN ?_; clear hK9 K9
           refine wpAnyL_done (by kernel_rfl) ?_ _
           go_wp2_with fail
           go_roundw
           case rel => exact ⟨j + 1, by go_num, by omega, (by have := HM.closeRow [_, _] HIX.out; rw [ES.out] at this; exact this)⟩
           case measure => simp [intOf]; omega
         ·obtain ⟨rest, HM2, hcl⟩ := HM.openTwo [_, _] (NF_at hbi) (NF_at hbj) e
          clear HM
          have HM := HM2
          clear HM2
          replace HM : Mem w [] ((bi, bR n (Ns.wst h k i j) i) :: (bj, bR n (Ns.wst h k i j) k) :: (bk, #[.slice Au n cu, .slice (Ah) n ch]) :: (bo, rowsOf ((rv n rb).map vc)) :: (rest ++ [])) _ := HM
          have HCL := Lib.hid hcl
          clear hcl hbi hbj hx hy hz e
          go_upto_region 20 with (first | ((with_reducible refine g_ld ?_); refine a_ld HM ?_) | ((with_reducible refine g_st ?_); refine a_st HM ?_; clear HM; intro w1 HM) | ((with_reducible refine g_bx ?_); refine a_bx HM ?_; clear HM; intro bk w1 HM))
          cases x
          ·cases y
           ·
            replace sb : SA 4 _ j (.bool false) _ := sb
            refine start_M [31] HM (by kernel_rfl) (fun w0x H9 => ?_)
            replace HM := H9; clear H9
            refine k_mv 0 (heldF HM) ?_
            refine k_mv 1 (heldF HM) ?_
            refine k_ia 2 (heldF HM) ?_
            refine k_ld 3 [30, 31] (heldF HM) ?_
            refine k_mv 4 (heldF HM) ?_
            refine k_mv 5 (heldF HM) ?_
            refine k_mv 6 (heldF HM) ?_
            refine k_ia 7 (heldF HM) ?_
            refine k_ld 8 [10, 11, 12, 13, 14, 15, 16, 17, 18, 19, 20, 21, 22, 23, 24, 25, 26, 27, 28, 29, 30, 31] (heldF HM) ?_
            refine k_mv 9 (heldF HM) ?_
            refine k_ia 10 (heldF HM) ?_
            refine k_ld 11 [12, 13, 14, 15, 16, 17, 18, 19, 20, 21, 22, 23, 24, 25, 26, 27, 28, 29, 30, 31] (heldF HM) ?_
            refine k_mv 12 (heldF HM) ?_
            refine k_mv 13 (heldF HM) ?_
            refine k_mv 14 (heldF HM) ?_
            refine k_ia 15 (heldF HM) ?_
            refine k_ld 16 [18, 19, 20, 21, 22, 23, 24, 25, 26, 27, 28, 29, 30, 31] (heldF HM) ?_
            refine k_mv 17 (heldF HM) ?_
            refine k_ia 18 (heldF HM) ?_
            refine k_ld 19 [20, 21, 22, 23, 24, 25, 26, 27, 28, 29, 30, 31] (heldF HM) ?_
            refine k_mv 20 (heldF HM) ?_
            refine k_off 21 (heldF HM) ?_
            refine k_off 22 (heldF HM) ?_
            refine k_off 23 (heldF HM) ?_
            refine k_off 24 (heldF HM) ?_
            refine k_off 25 (heldF HM) ?_
            refine k_off 26 (heldF HM) ?_
            refine k_off 27 (heldF HM) ?_
            refine k_pick 28 (heldF HM) ?_
            refine k_pick 29 (heldF HM) ?_
            refine k_ia 30 (heldF HM) ?_
            refine j_one 31 fun K9 hK9 => ?_
            refine j_st HM ?_; clear HM; intro w1 HM
            refine hK9 _ _ heldN ?_; clear hK9 K9
            refine wpAnyL_done (by kernel_rfl) ?_ _
            go_wp2_with fail
            go_roundw
            case rel => exact ⟨j + 1, by go_num, by omega, (by have := HCL.out _ _ HM; rw [ES.out] at this; exact this)⟩
            case measure => simp [intOf]; omega
           ·
            replace sb : SA 4 _ j (.bool z) _ := sb
            refine start_M [31] HM (by kernel_rfl) (fun w0x H9 => ?_)
            replace HM := H9; clear H9
            refine k_mv 0 (heldF HM) ?_
            refine k_mv 1 (heldF HM) ?_
            refine k_ia 2 (heldF HM) ?_
            refine k_ld 3 [30, 31] (heldF HM) ?_
            refine k_mv 4 (heldF HM) ?_
            refine k_mv 5 (heldF HM) ?_
            refine k_mv 6 (heldF HM) ?_
            refine k_ia 7 (heldF HM) ?_
            refine k_ld 8 [10, 11, 12, 13, 14, 15, 16, 17, 18, 19, 20, 21, 22, 23, 24, 25, 26, 27, 28, 29, 30, 31] (heldF HM) ?_
            refine k_mv 9 (heldF HM) ?_
            refine k_ia 10 (heldF HM) ?_
            refine k_ld 11 [12, 13, 14, 15, 16, 17, 18, 19, 20, 21, 22, 23, 24, 25, 26, 27, 28, 29, 30, 31] (heldF HM) ?_
            refine k_mv 12 (heldF HM) ?_
            refine k_mv 13 (heldF HM) ?_
            refine k_mv 14 (heldF HM) ?_
            refine k_ia 15 (heldF HM) ?_
            refine k_ld 16 [18, 19, 20, 21, 22, 23, 24, 25, 26, 27, 28, 29, 30, 31] (heldF HM) ?_
            refine k_mv 17 (heldF HM) ?_
            refine k_ia 18 (heldF HM) ?_
            refine k_ld 19 [20, 21, 22, 23, 24, 25, 26, 27, 28, 29, 30, 31] (heldF HM) ?_
            refine k_mv 20 (heldF HM) ?_
            refine k_mv 21 (heldF HM) ?_
            refine k_mv 22 (heldF HM) ?_
            refine k_ia 23 (heldF HM) ?_
            refine k_ld 24 [26, 27, 28, 29, 30, 31] (heldF HM) ?_
            refine k_mv 25 (heldF HM) ?_
            refine k_ia 26 (heldF HM) ?_
            refine k_ld 27 [28, 29, 30, 31] (heldF HM) ?_
            refine k_pick 28 (heldF HM) ?_
            refine k_pick 29 (heldF HM) ?_
            refine k_ia 30 (heldF HM) ?_
            refine j_one 31 fun K9 hK9 => ?_
            refine j_st HM ?_; clear HM; intro w1 HM
            refine hK9 _ _ heldN ?_; clear hK9 K9
            refine wpAnyL_done (by kernel_rfl) ?_ _
            go_wp2_with fail
            go_roundw
            case rel => exact ⟨j + 1, by go_num, by omega, (by have := HCL.out _ _ HM; rw [ES.out] at this; exact this)⟩
            case measure => simp [intOf]; omega
          ·
           replace sb : SA 4 _ j (.bool true) _ := sb
           refine start_M [31] HM (by kernel_rfl) (fun w0x H9 => ?_)
           replace HM := H9; clear H9
           refine k_mv 0 (heldF HM) ?_
           refine k_mv 1 (heldF HM) ?_
           refine k_ia 2 (heldF HM) ?_
           refine k_ld 3 [30, 31] (heldF HM) ?_
           refine k_mv 4 (heldF HM) ?_
           refine k_mv 5 (heldF HM) ?_
           refine k_mv 6 (heldF HM) ?_
           refine k_ia 7 (heldF HM) ?_
           refine k_ld 8 [10, 11, 12, 13, 14, 15, 16, 17, 18, 19, 20, 21, 22, 23, 24, 25, 26, 27, 28, 29, 30, 31] (heldF HM) ?_
           refine k_mv 9 (heldF HM) ?_
           refine k_ia 10 (heldF HM) ?_
           refine k_ld 11 [12, 13, 14, 15, 16, 17, 18, 19, 20, 21, 22, 23, 24, 25, 26, 27, 28, 29, 30, 31] (heldF HM) ?_
           refine k_mv 12 (heldF HM) ?_
           refine k_off 13 (heldF HM) ?_
           refine k_off 14 (heldF HM) ?_
           refine k_off 15 (heldF HM) ?_
           refine k_off 16 (heldF HM) ?_
           refine k_off 17 (heldF HM) ?_
           refine k_off 18 (heldF HM) ?_
           refine k_off 19 (heldF HM) ?_
           refine k_off 20 (heldF HM) ?_
           refine k_off 21 (heldF HM) ?_
           refine k_off 22 (heldF HM) ?_
           refine k_off 23 (heldF HM) ?_
           refine k_off 24 (heldF HM) ?_
           refine k_off 25 (heldF HM) ?_
           refine k_off 26 (heldF HM) ?_
           refine k_off 27 (heldF HM) ?_
           refine k_off 28 (heldF HM) ?_
           refine k_pick 29 (heldF HM) ?_
           refine k_ia 30 (heldF HM) ?_
           refine j_one 31 fun K9 hK9 => ?_
           refine j_st HM ?_; clear HM; intro w1 HM
           refine hK9 _ _ heldN ?_; clear hK9 K9
           refine wpAnyL_done (by kernel_rfl) ?_ _
           go_wp2_with fail
           go_roundw
           case rel => exact ⟨j + 1, by go_num, by omega, (by have := HCL.out _ _ HM; rw [ES.out] at this; exact this)⟩
           case measure => simp [intOf]; omega
        ·obtain rfl : n = j := by omega
         go_wp2_with fail
         go_roundw
         case rel =>
          refine ⟨i + 1, by go_num, by omega, ?_⟩
          rw [NF_congr (G := bR n (Ns.wst h k (i + 1) 0)) fun a _ => bR_congr fun b hb => Ns.wst_row hb] at HM
          exact HM
         case measure => simp [intOf]; omega
      ·obtain rfl : n = i := by omega
       go_wp2_with fail
       go_roundw
       case rel =>
        refine ⟨k + 1, by go_num, by omega, ?_⟩
        rw [NF_congr (G := bR n (Ns.wst h (k + 1) 0 0)) fun a ha => bR_congr fun b _ => Ns.wst_mat (by rw [HRL.out] at ha; exact ha)] at HM
        exact HM
       case measure => simp [intOf]; omega
    ·obtain rfl : n = k := by omega
     go_wp2_with fail
     go_ret
     refine ⟨_, rfl, Lib.hid ?_, HM.low⟩
     rw [NF_congr (G := bR n (Ns.rch n h)) fun a ha => bR_congr fun b hb => Ns.wst_done (by rw [HRL.out] at ha; exact ha) hb] at HM
     exact rdG_own (F := fun i j => bc (Ns.rch n h i j)) HM HRL.out (fun _ _ => rfl) (by simp) (fun q hq => by
      have : q ∈ NF rb (bR n (Ns.rch n h)) := hq
      simp [this])
end Go.Proofs.YtckhdiljihhdmaaGreat
namespace Go.Proofs.YtckhdiljihhdmaaGreat
set_option maxRecDepth 8000
open Go.RowKit
namespace Ns
def cntL (L : Nat → Bool) (m : Nat) : Nat := ((List.range m).filter L).length
theorem cntL_succ {L : Nat → Bool} {m : Nat} : cntL L (m + 1) = cntL L m + if L m = true then 1 else 0 := by
 unfold cntL
 rw [List.range_succ, List.filter_append, List.length_append]
 cases e : L m <;> simp [e]
theorem cntL_le {L : Nat → Bool} {m : Nat} : cntL L m ≤ m := by
 induction m with
 | zero => exact Nat.le_refl _
 | succ m ih => rw [cntL_succ]; split <;> omega
theorem cntL_none {m : Nat} : cntL (fun _ => false) m = 0 := by
 induction m with
 | zero => rfl
 | succ m ih => rw [cntL_succ, ih]; rfl
theorem cntL_all {L : Nat → Bool} {m : Nat} (h : m ≤ cntL L m) : ∀ j, j < m → L j = true := by
 induction m with
 | zero => intro j hj; omega
 | succ m ih =>
  rw [cntL_succ] at h
  have h1 := cntL_le (L := L) (m := m)
  split at h
  ·rename_i e
   intro j hj
   by_cases e2 : j = m
   ·subst e2; exact e
   ·exact ih (by omega) j (by omega)
  ·omega
theorem cntL_some {L : Nat → Bool} {m : Nat} (h : cntL L m < m) : ∃ j, j < m ∧ L j = false := by
 refine Classical.byContradiction fun hn => ?_
 have hall : ∀ k, k ≤ m → cntL L k = k := by
  intro k
  induction k with
  | zero => intro _; rfl
  | succ k ih =>
   intro hk
   have : L k = true := by
    cases e : L k with
    | true => rfl
    | false => exact absurd ⟨k, by omega, e⟩ hn
   rw [cntL_succ, ih (by omega), if_pos this]
 have := hall m (Nat.le_refl _)
 omega
theorem cntL_or {L C : Nat → Bool} {m : Nat} (h : ∀ j, j < m → C j = true → L j = false) : cntL (fun j => L j || C j) m = cntL L m + cntL C m := by
 induction m with
 | zero => rfl
 | succ m ih =>
  rw [cntL_succ, cntL_succ, cntL_succ, ih fun j hj => h j (by omega)]
  have := h m (by omega)
  cases e1 : L m <;> cases e2 : C m <;> first | (simp_all; done) | (simp_all; omega)
def Clo (n : Nat) (h : Nat → Nat → Int) (L : Nat → Bool) : Prop := ∀ i j, i < n → j < n → Mu n h i j → L i = true → L j = true
theorem mark_iff {n : Nat} {h : Nat → Nat → Int} {L : Nat → Bool} {i j : Nat} : mark n h L i n j = true ↔ L j = true ∨ (j < n ∧ Mu n h i j) := by
 unfold mark
 simp only [Bool.or_eq_true, Bool.and_eq_true, decide_eq_true_eq, mu_iff]
theorem Clo.next {n : Nat} {h : Nat → Nat → Int} {L : Nat → Bool} (K : Clo n h L) {i : Nat} : Clo n h (mark n h L i n) := by
 intro a b ha hb hab hm
 rw [mark_iff] at hm ⊢
 rcases hm with hm | ⟨_, hm⟩
 ·exact .inl (K a b ha hb hab hm)
 ·exact .inr ⟨hb, hm.trans hab⟩
theorem Clo.count {n : Nat} {h : Nat → Nat → Int} {L : Nat → Bool} (K : Clo n h L) {i : Nat} (hi : i < n) (h0 : L i = false) : cntL (mark n h L i n) n = cntL L n + (cls n h i).length := by
 have e : mark n h L i n = fun j => L j || (decide (j < n) && (rch n h i j && rch n h j i)) := rfl
 rw [e, cntL_or (fun j hj hc => by
  cases e2 : L j with
  | false => rfl
  | true =>
   simp only [Bool.and_eq_true, decide_eq_true_eq] at hc
   have := K j i hj hi (mu_iff.2 ⟨hc.2.2, hc.2.1⟩) e2
   rw [h0] at this; cases this)]
 congr 1
 unfold cntL cls
 congr 1
 refine List.filter_congr fun j hj => ?_
 have hj2 : j < n := by simpa using hj
 rw [Bool.eq_iff_iff]
 simp only [Bool.and_eq_true, decide_eq_true_eq, mu_iff]
 exact ⟨fun a => a.2, fun a => ⟨hj2, a⟩⟩
def mkt (L : Nat → Bool) (p : List Nat) (j : Nat) (m : Nat) : Bool := L m || decide (m ∈ p.take j)
theorem mkt_zero {L : Nat → Bool} {p : List Nat} : mkt L p 0 = L := by funext m; unfold mkt; simp
theorem mkt_here {L : Nat → Bool} {p : List Nat} {j x : Nat} (h : p[j]? = some x) : mkt L p (j + 1) x = true := by
 unfold mkt
 rw [List.take_add_one, h]; simp
theorem mkt_else {L : Nat → Bool} {p : List Nat} {j x m : Nat} (h : p[j]? = some x) (hm : m ≠ x) : mkt L p (j + 1) m = mkt L p j m := by
 unfold mkt
 congr 1
 rw [decide_eq_decide, List.take_add_one, h]
 simp [hm]
theorem mkt_done {n : Nat} {h : Nat → Nat → Int} {L : Nat → Bool} {i : Nat} : mkt L (cls n h i) (cls n h i).length = mark n h L i n := by
 funext m
 rw [Bool.eq_iff_iff, mark_iff]
 unfold mkt
 rw [List.take_length]
 simp only [Bool.or_eq_true, decide_eq_true_eq, mem_cls]
end Ns
theorem RdG.all {T : TypeId} {s : Nat} {w : World} {A : Option Addr} {k cap n : Nat} {F : Nat → Nat → Array Value} (h : RdG s w (.slice A k cap) n F) (hT : aggT T = some false) (h0 : 0 < n) : ∃ b off cs, A = Option.some ⟨b, off, none⟩ ∧ Hid (Rbk w b cs) ∧ Hid (∀ i, i < n → ∃ A2 cap2, LA T cs (off + i) (.slice A2 n cap2) ∧ Hid (RdS s w (.slice A2 n cap2) (So.ol (F i) n))) := by
 obtain ⟨hv, h1, h2, h3⟩ := h
 obtain ⟨b, off, cs, e, hb, hc⟩ := RdS.one_all h1 (by rw [List.length_map, h2]; exact h0)
 refine ⟨b, off, cs, e, hb, Lib.hid fun i hi => ?_⟩
 obtain ⟨v, h4, h5⟩ := h3 i hi
 obtain ⟨A2, cap2, e2⟩ := h5.form1
 rw [ol_len] at e2
 subst e2
 exact ⟨A2, cap2, LA.one hT (hc i _ (by rw [List.getElem?_map, h4]; rfl)), Lib.hid h5⟩
theorem RdS.bool_at {w : World} {A : Option Addr} {k cap n : Nat} {f : Nat → Bool} (h : RdS 1 w (.slice A k cap) (So.ol (fun j => bc (f j)) n)) {j : Nat} (hj : j < n) : ∃ b off cs, A = Option.some ⟨b, off, none⟩ ∧ Hid (Rbk w b cs) ∧ LA 4 cs (off + j) (.bool (f j)) := by
 obtain ⟨b, off, cs, e, hb, hc⟩ := RdS.one_at h (i := j) (v := .bool (f j)) (So.ol_at _ hj)
 exact ⟨b, off, cs, e, hb, LA.one (by kernel_rfl) hc⟩
noncomputable def bL (n : Nat) (L : Nat → Bool) : Array Value := rowsOf (So.ol (fun j => bc (L j)) n)
end Go.Proofs.YtckhdiljihhdmaaGreat
namespace Go.Proofs.YtckhdiljihhdmaaGreat
set_option maxRecDepth 8000
open Go.RowKit
set_option maxRecDepth 100000 in
set_option maxHeartbeats 8000000 in
theorem rparts_any (us hs : Value) (U : List Int) (H : List (List Int)) (w : World) (hR : RdN w us hs U H) (hG : Ns.Good U H) :
    Calls Tryz.prog 60 #[.agg #[us, hs]] w fun e w' => ∃ s P, e = .returned (.tuple #[s, .int .i64 0]) ∧ Hid (Ns.Pts U.length (Ns.gh H) P ∧ P = Ns.pts U.length (Ns.gh H)) ∧ Hid (RdH w' s (pI P)) ∧ Below w.heap.size w w' := by
 have HM := Mem.start w
 have C := fun w' hB => rncheck_any us hs U H w' (hR.below hB) 0 (Lib.hid hG.good.symm)
 have K := fun w' hB => rreach_any us hs U H w' (hR.below hB) hG
 obtain ⟨n, hn⟩ : ∃ n, Hid (n = U.length) := ⟨_, Lib.hid rfl⟩
 obtain ⟨h, hh⟩ : ∃ h, Hid (h = Ns.gh H) := ⟨_, Lib.hid rfl⟩
 have hn8 : n ≤ 8 := by rw [hn.out]; exact hG.sh.1
 rw [← hn.out, ← hh.out]
 obtain ⟨Au, cu, rfl⟩ := hR.u.form
 rw [← hn.out] at C K hR
 rw [← hn.out]
 rw [← hh.out] at K
 have n0 := la_n0 (.slice Au n cu) hs
 have n2 := la_nest (.slice Au n cu) hs
 have elb : elemB 116 4 1 1 = true := by kernel_rfl
 have eli : elemB 22 3 1 8 = true := by kernel_rfl
 have elh : elemB 23 22 1 24 = true := by kernel_rfl
 have zb := za_b
 clear hR hG
 go_enter Tryz.func60, Tryz.ntmps60
 go_upto_region 4 with (first | (go_at_call 38; ((with_reducible refine (C _ HM.low).mono ?_); rintro e9 w2 ⟨rfl, hL⟩; replace HM := HM.call hL; clear hL)) | (first | ((with_reducible refine g_ld ?_); refine a_ld HM ?_) | ((with_reducible refine g_st ?_); refine a_st HM ?_; clear HM; intro w1 HM) | ((with_reducible refine g_bx ?_); refine a_bx HM ?_; clear HM; intro bk w1 HM)))
 obtain ⟨bg, rfl⟩ := HM.nm0
 refine start_M [] HM (by kernel_rfl) (fun w0x H9 => ?_)
 replace HM := H9; clear H9
 refine k_fa 0 (heldF HM) ?_
 refine k_ld 1 [] (heldF HM) ?_
 refine k_pv 2 (heldF HM) ?_
 refine k_ld 3 [] (heldF HM) ?_
 refine j_one 4 fun K9 hK9 => ?_
 refine o_callg (K _ HM.low) rfl ?_ ?_; (focus (refine h_call1 (ts := ?_) (x1 := ?_) ?_ (by kernel_rfl) ?_; rotate_left 2; (focus rfl); rfl)); rintro e9 w1 ⟨sv, rfl, HS, hL⟩; replace HM := HM.call hL; clear hL; refine ⟨_, rfl, ?_⟩
 refine hK9 _ _ (heldF HM) ?_; clear hK9 K9; ((try simp only [List.setIfInBounds_toArray]); (try simp only [List.set_cons_succ]); (try simp only [List.set_cons_zero]))
 refine k_mv 5 (heldF HM) ?_
 refine k_mv 6 (heldF HM) ?_
 refine wpAnyL_done (by kernel_rfl) ?_ _
 obtain ⟨Ar, cr, rfl⟩ := HS.out.form
 have HB0 := Lib.hid HM.low
 clear HM C K
 have HM := Mem.start w1
 go_upto_region 6 with (first | ((with_reducible refine g_mks ?_); refine a_mks n HM ?_ (by omega); clear HM; intro bl w3 HM) | (first | ((with_reducible refine g_ld ?_); refine a_ld HM ?_) | ((with_reducible refine g_st ?_); refine a_st HM ?_; clear HM; intro w1 HM) | ((with_reducible refine g_bx ?_); refine a_bx HM ?_; clear HM; intro bk w1 HM)))
 rw [rep_bools] at HM
 replace HM : Mem w1 [] ((bl, bL n fun _ => false) :: ([] ++ [])) w3 := HM
 go_wp2_with (first | ((with_reducible refine g_ld ?_); refine a_ld HM ?_) | ((with_reducible refine g_st ?_); refine a_st HM ?_; clear HM; intro w1 HM) | ((with_reducible refine g_bx ?_); refine a_bx HM ?_; clear HM; intro bk w1 HM))
 go_loopw [8, 9] (fun sv cv wr => ∃ (P : List (List Nat)) (L : Nat → Bool) (pv : List Value) (B7 B : List (Nat × Array Value)), cv = .int .i64 (Ns.cntL L n : Nat) ∧ Hid (Ns.Lst n h P L) ∧ Hid (Ns.Clo n h L) ∧ Hid (SlAt 1 sv (pv.map vc) B7) ∧ Hid (PtL pv P B) ∧ Mem w1 [] ((bl, bL n L) :: (B7 ++ B)) wr) (fun _ cv _ => n - (intOf cv).toNat)
 case atStart => exact ⟨[], fun _ => false, [], [], [], by rw [Ns.cntL_none]; rfl, Lib.hid .start, Lib.hid (fun _ _ _ _ _ h => by cases h), Lib.hid .nil, Lib.hid ⟨rfl, by simp⟩, HM⟩
 case round =>
  clear HM
  obtain ⟨P, L, pv, B7, B, rfl, HLS, HCL, HS7, HPT, HM⟩ := hrel
  obtain ⟨c, hc⟩ : ∃ c, Hid (c = Ns.cntL L n) := ⟨_, Lib.hid rfl⟩
  rw [← hc.out]
  by_cases hct : c < n
  ·have hct1 : (c : Int) < n := by omega
   obtain ⟨A8, c8, rfl, h8⟩ := HS7.out.val
   clear h8
   generalize hgl : (pv.map vc).length = n8 at HS7 ⊢
   clear hgl
   obtain ⟨br, offr, csr, rfl, HBR, HRR⟩ := HS.out.all (T := 116) (by kernel_rfl) (by omega)
   go_wp2_with (first | ((with_reducible refine g_ld ?_); refine a_ld HM ?_) | ((with_reducible refine g_st ?_); refine a_st HM ?_; clear HM; intro w1 HM) | ((with_reducible refine g_bx ?_); refine a_bx HM ?_; clear HM; intro bk w1 HM))
   go_loopw [8, 9, 10] (fun sv cv iv wr => ∃ i : Nat, sv = .slice A8 n8 c8 ∧ cv = .int .i64 (c : Nat) ∧ iv = .int .i64 (i : Nat) ∧ i ≤ n ∧ Hid (∀ k, k < i → ¬ Ns.rdy n h L k) ∧ Mem w1 [] ((bl, bL n L) :: (B7 ++ B)) wr) (fun _ _ iv _ => n - (intOf iv).toNat)
   case atStart => exact ⟨0, rfl, rfl, rfl, by omega, Lib.hid (fun k hk => by omega), HM⟩
   case round =>
    clear HM
    obtain ⟨i, rfl, rfl, rfl, hi, HNR, HM⟩ := hrel
    by_cases hit : i < n
    ·have hit1 : (i : Int) < n := by omega
     obtain ⟨l0, hl0⟩ : ∃ l, Hid (l = L i) := ⟨_, Lib.hid rfl⟩
     have kl : LA 4 (bL n L) i (.bool l0) := by rw [hl0.out]; exact la_bo1 _ hit
     cases l0 with
     | true =>
      go_wp2_with (first | ((with_reducible refine g_ld ?_); refine a_ld HM ?_) | ((with_reducible refine g_st ?_); refine a_st HM ?_; clear HM; intro w1 HM) | ((with_reducible refine g_bx ?_); refine a_bx HM ?_; clear HM; intro bk w1 HM))
      go_roundw
      case rel => exact ⟨i + 1, rfl, rfl, by go_num, by omega, Lib.hid (fun k hk hr => by
       by_cases e : k = i
       ·subst e; have := hr.1; rw [← hl0.out] at this; cases this
       ·exact HNR.out k (by omega) hr), HM⟩
      case measure => simp [intOf]; omega
     | false =>
      go_wp2_with (first | ((with_reducible refine g_ld ?_); refine a_ld HM ?_) | ((with_reducible refine g_st ?_); refine a_st HM ?_; clear HM; intro w1 HM) | ((with_reducible refine g_bx ?_); refine a_bx HM ?_; clear HM; intro bk w1 HM))
      go_loopw [11, 12, 13] (fun sv bv jv wr => ∃ (j : Nat) (Bk : List (Nat × Array Value)) (b : Bool), bv = .bool b ∧ jv = .int .i64 (j : Nat) ∧ j ≤ n ∧ Hid (SlAt 1 sv ((Ns.clsTo n h i j).map fun x : Nat => ic x) Bk) ∧ Hid ((b = true ∧ ∀ m, m < j → Ns.rch n h i m = true → L m = true ∨ Ns.rch n h m i = true) ∨ (b = false ∧ ¬ Ns.rdy n h L i)) ∧ Mem w1 [] ((bl, bL n L) :: (Bk ++ (B7 ++ B))) wr) (fun _ _ jv _ => n - (intOf jv).toNat)
      case atStart => exact ⟨0, [], true, rfl, rfl, by omega, Lib.hid .nil, Lib.hid (.inl ⟨rfl, fun m hm => by omega⟩), HM⟩
      case round =>
       clear HM
       obtain ⟨j, Bk, b, rfl, rfl, hj, HK, HB, HM⟩ := hrel
       by_cases hjt : j < n
       ·have hjt1 : (j : Int) < n := by omega
        obtain ⟨Ai, ci, kri, HRI⟩ := HRR.out i hit
        obtain ⟨Aj, cj, krj, HRJ⟩ := HRR.out j hjt
        obtain ⟨bi, oi, csi, rfl, HBI, kij⟩ := HRI.out.bool_at hjt
        obtain ⟨bj, oj, csj, rfl, HBJ, kji⟩ := HRJ.out.bool_at hit
        obtain ⟨x, hx⟩ : ∃ x, Hid (x = Ns.rch n h i j) := ⟨_, Lib.hid rfl⟩
        obtain ⟨y, hy⟩ : ∃ x, Hid (x = Ns.rch n h j i) := ⟨_, Lib.hid rfl⟩
        obtain ⟨z, hz⟩ : ∃ x, Hid (x = L j) := ⟨_, Lib.hid rfl⟩
        have kz : LA 4 (bL n L) j (.bool z) := by rw [hz.out]; exact la_bo1 _ hjt
        rw [← hx.out] at kij
        rw [← hy.out] at kji
        have HN : Hid (((b && (!x || z || y)) = true ∧ ∀ m, m < j + 1 → Ns.rch n h i m = true → L m = true ∨ Ns.rch n h m i = true) ∨ ((b && (!x || z || y)) = false ∧ ¬ Ns.rdy n h L i)) := Lib.hid (by
         rcases HB.out with ⟨rfl, hB⟩ | ⟨rfl, hB⟩
         ·rw [Bool.true_and]
          cases hb : (!x || z || y) with
          | true =>
           refine .inl ⟨rfl, fun m hm hr => ?_⟩
           by_cases e : m = j
           ·subst e
            rw [← hx.out] at hr
            rw [hr] at hb
            rw [← hz.out, ← hy.out]
            simpa using hb
           ·exact hB m (by omega) hr
          | false =>
           refine .inr ⟨rfl, fun hr => ?_⟩
           simp only [Bool.or_eq_false_iff] at hb
           have h1 : x = true := by simpa using hb.1.1
           have := hr.2 j hjt (by rw [← hx.out]; exact h1)
           rw [← hz.out, ← hy.out, hb.1.2, hb.2] at this
           simp at this
         ·exact .inr ⟨by simp, hB⟩)
        have HCN : Hid ((x && y) = false → Ns.clsTo n h i (j + 1) = Ns.clsTo n h i j) := Lib.hid (fun e => Ns.clsTo_no (by rw [← hx.out, ← hy.out]; exact e))
        have HCY0 : Hid (x = true → y = true → Ns.clsTo n h i (j + 1) = Ns.clsTo n h i j ++ [j]) := Lib.hid (fun e1 e2 => Ns.clsTo_yes (by rw [← hx.out]; exact e1) (by rw [← hy.out]; exact e2))
        have hcl := Ns.clsTo_len (n := n) (h := h) (i := i) (m := j)
        have hcap : (((Ns.clsTo n h i j).map fun x : Nat => ic x).length + [#[Value.int .i64 (j : Int)]].length) * (8 + 1) ≤ 140737488355328 := by rw [List.length_map]; simp; omega
        clear hcl hx hy hz HRI HRJ HB
        cases x with
        | false =>
         have HK2 : Hid (SlAt 1 _ ((Ns.clsTo n h i (j + 1)).map fun x : Nat => ic x) Bk) := Lib.hid (by rw [HCN.out (by simp)]; exact HK.out)
         simp only [Bool.not_false, Bool.true_or, Bool.and_true] at HN
         clear HCN HCY0 hcap HK
         cases b with
         | false =>
               go_wp2_with (first | ((with_reducible refine g_ld ?_); refine a_ld HM ?_) | ((with_reducible refine g_st ?_); refine a_st HM ?_; clear HM; intro w1 HM) | ((with_reducible refine g_bx ?_); refine a_bx HM ?_; clear HM; intro bk w1 HM))
               go_roundw; (case rel => exact ⟨j + 1, Bk, _, rfl, by go_num, by omega, HK2, HN, HM⟩); (case measure => simp [intOf]; omega)
         | true =>
               go_wp2_with (first | ((with_reducible refine g_ld ?_); refine a_ld HM ?_) | ((with_reducible refine g_st ?_); refine a_st HM ?_; clear HM; intro w1 HM) | ((with_reducible refine g_bx ?_); refine a_bx HM ?_; clear HM; intro bk w1 HM))
               go_roundw; (case rel => exact ⟨j + 1, Bk, _, rfl, by go_num, by omega, HK2, HN, HM⟩); (case measure => simp [intOf]; omega)
        | true =>
         cases y with
         | false =>
          have HK2 : Hid (SlAt 1 _ ((Ns.clsTo n h i (j + 1)).map fun x : Nat => ic x) Bk) := Lib.hid (by rw [HCN.out (by simp)]; exact HK.out)
          simp only [Bool.not_true, Bool.false_or, Bool.or_false] at HN
          clear HCN HCY0 hcap HK
          cases b with
          | false =>
           go_wp2_with (first | ((with_reducible refine g_ld ?_); refine a_ld HM ?_) | ((with_reducible refine g_st ?_); refine a_st HM ?_; clear HM; intro w1 HM) | ((with_reducible refine g_bx ?_); refine a_bx HM ?_; clear HM; intro bk w1 HM))
           go_roundw; (case rel => exact ⟨j + 1, Bk, _, rfl, by go_num, by omega, HK2, HN, HM⟩); (case measure => simp [intOf]; omega)
          | true =>
           simp only [Bool.true_and] at HN
           cases z with
           | false =>
            go_wp2_with (first | ((with_reducible refine g_ld ?_); refine a_ld HM ?_) | ((with_reducible refine g_st ?_); refine a_st HM ?_; clear HM; intro w1 HM) | ((with_reducible refine g_bx ?_); refine a_bx HM ?_; clear HM; intro bk w1 HM))
            go_roundw; (case rel => exact ⟨j + 1, Bk, _, rfl, by go_num, by omega, HK2, HN, HM⟩); (case measure => simp [intOf]; omega)
           | true =>
            go_wp2_with (first | ((with_reducible refine g_ld ?_); refine a_ld HM ?_) | ((with_reducible refine g_st ?_); refine a_st HM ?_; clear HM; intro w1 HM) | ((with_reducible refine g_bx ?_); refine a_bx HM ?_; clear HM; intro bk w1 HM))
            go_roundw; (case rel => exact ⟨j + 1, Bk, _, rfl, by go_num, by omega, HK2, HN, HM⟩); (case measure => simp [intOf]; omega)
         | true =>
          have HCY := Lib.hid (HCY0.out rfl rfl)
          simp only [Bool.or_true, Bool.and_true] at HN
          clear HCN HCY0
          cases b with
          | false =>
              go_wp2_with (first | first
               | ((with_reducible refine g_bs1 ?_); refine a_bs1 (c0 := #[.int .i64 (j : Int)]) HM ?_; clear HM; intro bx w3 HM)
               | ((with_reducible refine g_app ?_); refine a_app (m := [#[.int .i64 (j : Int)]]) (F := fun X => (bl, bL n L) :: (X ++ (B7 ++ B))) HM HK.out ((SlAt.made1 bx rfl).rd HM (by simp)) ?_ (by simp [Value.oneCell']) (hlen := hcap); clear HM; intro s2 B2 w3 HS2 HM) | (first | ((with_reducible refine g_ld ?_); refine a_ld HM ?_) | ((with_reducible refine g_st ?_); refine a_st HM ?_; clear HM; intro w1 HM) | ((with_reducible refine g_bx ?_); refine a_bx HM ?_; clear HM; intro bk w1 HM)))
              go_roundw
              case rel => exact ⟨j + 1, B2, _, rfl, by go_num, by omega, Lib.hid (by rw [HCY.out, List.map_append]; exact HS2), HN, HM.pick⟩
              case measure => simp [intOf]; omega
          | true =>
              go_wp2_with (first | first
               | ((with_reducible refine g_bs1 ?_); refine a_bs1 (c0 := #[.int .i64 (j : Int)]) HM ?_; clear HM; intro bx w3 HM)
               | ((with_reducible refine g_app ?_); refine a_app (m := [#[.int .i64 (j : Int)]]) (F := fun X => (bl, bL n L) :: (X ++ (B7 ++ B))) HM HK.out ((SlAt.made1 bx rfl).rd HM (by simp)) ?_ (by simp [Value.oneCell']) (hlen := hcap); clear HM; intro s2 B2 w3 HS2 HM) | (first | ((with_reducible refine g_ld ?_); refine a_ld HM ?_) | ((with_reducible refine g_st ?_); refine a_st HM ?_; clear HM; intro w1 HM) | ((with_reducible refine g_bx ?_); refine a_bx HM ?_; clear HM; intro bk w1 HM)))
              go_roundw
              case rel => exact ⟨j + 1, B2, _, rfl, by go_num, by omega, Lib.hid (by rw [HCY.out, List.map_append]; exact HS2), HN, HM.pick⟩
              case measure => simp [intOf]; omega
       ·obtain rfl : n = j := by omega
        cases b with
        | false =>
         have hnr := (HB.out.resolve_left (by simp)).2
         have HNR2 := Lib.hid hnr
         clear hnr
         go_wp2_with (first | ((with_reducible refine g_ld ?_); refine a_ld HM ?_) | ((with_reducible refine g_st ?_); refine a_st HM ?_; clear HM; intro w1 HM) | ((with_reducible refine g_bx ?_); refine a_bx HM ?_; clear HM; intro bk w1 HM))
         go_roundw
         case rel => exact ⟨i + 1, rfl, rfl, by go_num, by omega, Lib.hid (fun k hk hr => by
          by_cases e : k = i
          ·subst e; exact HNR2.out hr
          ·exact HNR.out k (by omega) hr), HM.pick⟩
         case measure => simp [intOf]; omega
        | true =>
         have HRD : Hid (Ns.rdy n h L i) := Lib.hid ⟨hl0.out.symm, (HB.out.resolve_right (by simp)).2⟩
         have HNX := Lib.hid (HLS.out.next hn8 hit HRD.out (fun k hk => HNR.out k hk))
         have HCT := Lib.hid (HCL.out.count hit hl0.out.symm)
         have HCX := Lib.hid (HCL.out.next (i := i))
         have hmem : i ∈ Ns.cls n h i := Ns.mem_cls.2 ⟨hit, Ns.mu_iff.2 ⟨Ns.rch_iff.2 .refl, Ns.rch_iff.2 .refl⟩⟩
         rw [Ns.clsTo_cls] at HK
         obtain ⟨q, hq⟩ : ∃ q, Hid (q = Ns.cls n h i) := ⟨_, Lib.hid rfl⟩
         rw [← hq.out] at HK hmem
         have hq8 : q.length ≤ n := by rw [hq.out]; exact Ns.clsTo_len
         have HQM : Hid (∀ m ∈ q, m < n) := Lib.hid (fun m hm => by rw [hq.out] at hm; exact (Ns.mem_cls.1 hm).1)
         obtain ⟨bp, sp, rfl, rfl, hsz⟩ := HK.out.inv (fun e => by rw [List.map_eq_nil_iff] at e; rw [e] at hmem; cases hmem)
         rw [List.length_map] at HK ⊢
         have HSZ := Lib.hid hsz
         have HLT : Hid (c < n ∧ 0 < q.length) := Lib.hid ⟨hct, List.length_pos_of_mem hmem⟩
         clear hsz hmem HB
         replace HM : Mem w1 [] ((bl, bL n L) :: (bp, rowsOf ((q.map fun x : Nat => ic x) ++ sp)) :: (B7 ++ B)) _ := HM
         go_wp2_with (first | ((with_reducible refine g_ld ?_); refine a_ld HM ?_) | ((with_reducible refine g_st ?_); refine a_st HM ?_; clear HM; intro w1 HM) | ((with_reducible refine g_bx ?_); refine a_bx HM ?_; clear HM; intro bk w1 HM))
         go_loopw [15] (fun jv wr => ∃ j : Nat, jv = .int .i64 (j : Nat) ∧ j ≤ q.length ∧ Mem w1 [] ((bl, bL n (Ns.mkt L q j)) :: (bp, rowsOf ((q.map fun x : Nat => ic x) ++ sp)) :: (B7 ++ B)) wr) (fun jv _ => q.length - (intOf jv).toNat)
         case atStart => exact ⟨0, rfl, by omega, by rw [Ns.mkt_zero]; exact HM⟩
         case round =>
          clear HM
          obtain ⟨j, rfl, hj2, HM⟩ := hrel
          by_cases hjt : j < q.length
          ·have hjt1 : (j : Int) < q.length := by omega
           obtain ⟨m, hm⟩ : ∃ m, q[j]? = some m := ⟨_, List.getElem?_eq_getElem hjt⟩
           have hmn := HQM.out m (List.mem_of_getElem? hm)
           have hmn1 : (m : Int) < n := by omega
           have km : LA 3 (rowsOf ((q.map fun x : Nat => ic x) ++ sp)) j (.int .i64 (m : Nat)) := la_i1 HSZ.out (by rw [List.getElem?_append_left (by rw [List.length_map]; exact hjt), List.getElem?_map, hm]; rfl)
           have sm : SA 4 (bL n (Ns.mkt L q j)) m (.bool true) (bL n (Ns.mkt L q (j + 1))) := sa_bo1 _ _ hmn (Ns.mkt_here hm) fun k hk => Ns.mkt_else hm hk
           clear hm
           go_wp2_with (first | ((with_reducible refine g_ld ?_); refine a_ld HM ?_) | ((with_reducible refine g_st ?_); refine a_st HM ?_; clear HM; intro w1 HM) | ((with_reducible refine g_bx ?_); refine a_bx HM ?_; clear HM; intro bk w1 HM))
           go_roundw
           case rel => exact ⟨j + 1, by go_num, by omega, HM⟩
           case measure => simp [intOf]; omega
          ·obtain rfl : j = q.length := by omega
           have hpl : pv.length ≤ 8 := by have := HPT.out.len; have := HLS.out.len; omega
           have hcap : ((pv.map vc).length + [vc (Value.slice (some ⟨bp, 0, none⟩) 0 0)].length) * (24 + 1) ≤ 140737488355328 := by rw [List.length_map]; simp; omega
           have hqe := hq.out
           rw [hqe, Ns.mkt_done, ← hqe] at HM
           clear hpl hqe hct hct1
           generalize hgl : q.length + sp.length = c12 at HK HM ⊢
           have hcn : c ≤ n := by rw [hc.out]; exact Ns.cntL_le
           clear hgl
           replace HM : Mem w1 [] ((bl, bL n (Ns.mark n h L i n)) :: (bp, rowsOf ((q.map fun x : Nat => ic x) ++ sp)) :: (B7 ++ B)) _ := HM
           replace HM : Mem w1 [] ((bl, bL n (Ns.mark n h L i n)) :: (B7 ++ ((bp, rowsOf ((q.map fun x : Nat => ic x) ++ sp)) :: B))) _ := HM.perm (List.perm_middle.cons _)
           go_wp2_with (first | first
            | ((with_reducible refine g_bs1 ?_); refine a_bs1 (c0 := #[.slice (some ⟨bp, 0, none⟩) q.length c12]) HM ?_; clear HM; intro bx w3 HM)
            | ((with_reducible refine g_app ?_); refine a_app (m := [#[.slice (some ⟨bp, 0, none⟩) q.length c12]]) (F := fun X => (bl, bL n (Ns.mark n h L i n)) :: (X ++ ((bp, rowsOf ((q.map fun x : Nat => ic x) ++ sp)) :: B))) HM HS7.out ((SlAt.made1 bx rfl).rd HM (by simp)) ?_ (by simp [Value.oneCell']) (hlen := hcap); clear HM; intro s2 B2 w3 HS2 HM) | (first | ((with_reducible refine g_ld ?_); refine a_ld HM ?_) | ((with_reducible refine g_st ?_); refine a_st HM ?_; clear HM; intro w1 HM) | ((with_reducible refine g_bx ?_); refine a_bx HM ?_; clear HM; intro bk w1 HM)))
           go_roundw
           case rel =>
            refine ⟨P ++ [q], Ns.mark n h L i n, pv ++ [.slice (some ⟨bp, 0, none⟩) q.length c12], B2, [(bp, rowsOf ((q.map fun x : Nat => ic x) ++ sp))] ++ B, ?_, Lib.hid (by rw [hq.out]; exact HNX.out.1), HCX, Lib.hid (by rw [List.map_append]; exact HS2), Lib.hid (HPT.out.add HK.out), HM.pick⟩
            rw [HCT.out, ← hc.out, ← hq.out]; go_num
           case measure => have := HLT.out; simp [intOf]; omega
    ·obtain rfl : n = i := by omega
     exfalso
     obtain ⟨i0, h1, h2⟩ := Ns.cntL_some (L := L) (m := n) (by rw [← hc.out]; exact hct)
     obtain ⟨i, h3, h4, h5⟩ := Ns.ready (n := n) (h := h) (fun j => L j = true) h1 (by rw [h2]; simp)
     refine absurd ⟨by simpa using h4, fun k hk hr => ?_⟩ (HNR.out i h3)
     by_cases hb : Ns.Rc n h k i
     ·exact .inr (Ns.rch_iff.2 hb)
     ·exact .inl (h5 k hk (Ns.rch_iff.1 hr) hb)
  ·have hal := Ns.cntL_all (L := L) (m := n) (by rw [← hc.out]; omega)
   have HP := Lib.hid (HLS.out.done fun i hi hr => by have := hal i hi; rw [hr.1] at this; cases this)
   clear hal
   go_wp2_with (first | ((with_reducible refine g_ld ?_); refine a_ld HM ?_) | ((with_reducible refine g_st ?_); refine a_st HM ?_; clear HM; intro w1 HM) | ((with_reducible refine g_bx ?_); refine a_bx HM ?_; clear HM; intro bk w1 HM))
   go_ret2
   exact ⟨_, P, rfl, HP, Lib.hid (HPT.out.rd HS7.out HM (fun p hp => by simp [hp]) (fun p hp => by simp [hp])), below_seq HB0.out HM.low⟩
end Go.Proofs.YtckhdiljihhdmaaGreat
