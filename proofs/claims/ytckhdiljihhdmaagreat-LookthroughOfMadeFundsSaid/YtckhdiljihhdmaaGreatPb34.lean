/- Walks, and plain facts for them. -/
import Derived.Test.YtckhdiljihhdmaaGreatPb28
import Derived.Test.YtckhdiljihhdmaaGreatPb24
import Derived.Test.YtckhdiljihhdmaaGreatPb33
namespace Go.Proofs.YtckhdiljihhdmaaGreat
set_option maxRecDepth 8000
open Go.RowKit
set_option maxRecDepth 100000 in
set_option maxHeartbeats 8000000 in
theorem snest_any (most : Nat) (free : Bool) (tb m : Nat) (c : Array Value) (R : List (Nat × Array Value)) (W w : World) (HM : Mem W [] ((tb, c) :: R) w) (HC : Hid (TapeC W m c)) (hm : m ≤ 900000000000) (hmost : most ≤ 8) :
    Calls Tryz.prog 17 #[.pointer (some ⟨tb, 0, none⟩), .int .i64 (most : Nat), .bool free] w fun e w' => ∃ (n bu bh : Nat) (U : List Int) (H : List (List Int)) (rb : List Nat) (c' : Array Value), e = .returned (.agg #[.slice (some ⟨bu, 0, none⟩) n n, .slice (some ⟨bh, 0, none⟩) n n]) ∧ n ≤ most ∧ U.length = n ∧ rb.length = n ∧ Hid (Ns.Made free U H) ∧ Hid (TapeC W (m + 400) c') ∧ Mem W [] ((tb, c') :: (bu, rowsOf (U.map ic)) :: (bh, rowsOf ((rv n rb).map vc)) :: (NR rb H ++ R)) w' := by
 have H0 : Hid (Below W.heap.size W W) := Below.refl _ _
 have hle : ∀ b ∈ ([] : List Nat), W.heap.size ≤ b := by simp
 have eli : elemB 22 3 1 8 = true := by kernel_rfl
 have elh : elemB 23 22 1 24 = true := by kernel_rfl
 have zi := za_i
 have zl := za_sl
 have zn := za_nest
 go_enter Tryz.func17, Tryz.ntmps17
 go_upto_region 1 with (first | ((with_reducible refine g_ld ?_); refine a_ld HM ?_) | ((with_reducible refine g_st ?_); refine a_st HM ?_; clear HM; intro w1 HM) | ((with_reducible refine g_al ?_); refine a_al HM ?_; clear HM; intro bk w1 HM) | ((with_reducible refine g_bld ?_); refine a_bld ?_))
 obtain ⟨b6, rfl⟩ := HM.nm0
 replace HM : Mem W [] ((tb, c) :: (b6, #[.slice none 0 0, .slice none 0 0]) :: R) _ := HM.pick
 go_wp2_with (first | ((with_reducible refine g_ld ?_); refine a_ld HM ?_) | ((with_reducible refine g_st ?_); refine a_st HM ?_; clear HM; intro w1 HM) | ((with_reducible refine g_al ?_); refine a_al HM ?_; clear HM; intro bk w1 HM) | ((with_reducible refine g_bld ?_); refine a_bld ?_))
 (refine (snext_any W tb _ _ _ (HM.tp (by ((repeat (first | exact Look.here | refine Look.there ?_)); done)) HC.out H0.out hle) (by omega) (by omega) (by omega)).mono ?_; rintro e9 w2 ⟨v, rfl, hv0, hv1, ⟨c1, hb1, hc1, -, -⟩, hg⟩; replace HM := HM.put (c' := c1) (by (repeat (first | exact At.here | apply At.there))) hb1 (Only.of_grown hg); clear hg hb1; replace HC := Lib.hid hc1; clear hc1)
 obtain ⟨n, rfl⟩ : ∃ k : Nat, v = k := ⟨v.toNat, by omega⟩
 have hn : n ≤ most := by omega
 clear hv0 hv1
 go_upto_region 2 with (first | ((with_reducible refine g_ld ?_); refine a_ld HM ?_) | ((with_reducible refine g_st ?_); refine a_st HM ?_; clear HM; intro w1 HM) | ((with_reducible refine g_al ?_); refine a_al HM ?_; clear HM; intro bk w1 HM) | ((with_reducible refine g_bld ?_); refine a_bld ?_))
 go_cut [8] (fun p wc => ∃ b8 bu bh, p = .pointer (some ⟨b8, 0, none⟩) ∧ Mem W [] ((tb, c1) :: (b8, #[.slice (some ⟨bu, 0, none⟩) n n, .slice (some ⟨bh, 0, none⟩) n n]) :: (bh, rowsOf (List.replicate n (vc (.slice none 0 0)))) :: (bu, rowsOf (List.replicate n (ic 0))) :: (b6, #[.slice none 0 0, .slice none 0 0]) :: R) wc)
 case first =>
  refine start_M [6] HM (by kernel_rfl) (fun w0x H9 => ?_)
  replace HM := H9; clear H9
  refine k_mv 0 (heldF HM) ?_
  refine k_mv 2 (heldF HM) ?_
  refine three_L (i := 1) (j := 3) (k := 5) (by kernel_rfl) (op_L rfl (by rfl) ?_) (op_L rfl (by rfl) ?_) (op_L rfl (by rfl) ?_)
  ·refine j_mks n HM ?_ (by omega); clear HM; intro bu w1 HM
   refine ⟨(heldF HM), ?_⟩; ((try simp only [List.setIfInBounds_toArray]); (try simp only [List.set_cons_succ]); (try simp only [List.set_cons_zero]))
   refine j_two 3 5 ?_ ?_
   ·refine j_mks n HM ?_ (by omega); clear HM; intro bh w1 HM
    refine ⟨(heldF HM), ?_⟩; ((try simp only [List.setIfInBounds_toArray]); (try simp only [List.set_cons_succ]); (try simp only [List.set_cons_zero]))
    refine t_pure (i := 4) (v := .agg #[.slice (some ⟨bu, 0, none⟩) n n, .slice (some ⟨bh, 0, none⟩) n n]) rfl rfl (by kernel_rfl) (fun _ _ _ h => h) (heldF HM) (by rfl) ?_ ?_; (focus ((intro w9; first | (go_simp; done) | (go_simp; rfl)))); ((try simp only [List.setIfInBounds_toArray]); (try simp only [List.set_cons_succ]); (try simp only [List.set_cons_zero]))
    refine j_one 5 fun K9 hK9 => ?_
    refine j_al HM ?_; clear HM; intro bk w1 HM
    refine hK9 _ _ (heldF HM) ?_; clear hK9 K9
    refine j_one 6 fun K9 hK9 => ?_
    refine j_st HM ?_ (hv := sa_nest _ _ rfl rfl); clear HM; intro w1 HM
    refine hK9 _ _ heldN ?_; clear hK9 K9; ((try simp only [List.setIfInBounds_toArray]); (try simp only [List.set_cons_succ]); (try simp only [List.set_cons_zero]))
    refine wpAnyL_done (by kernel_rfl) ?_ _
    (go_wp2_with fail; go_meet; (case rel => exact ⟨_, _, _, rfl, HM.pick⟩))
   ·refine j_al HM ?_; clear HM; intro bk w1 HM
    refine ⟨(heldF HM), ?_⟩
    refine j_one 3 fun K9 hK9 => ?_
    refine j_mks n HM ?_ (by omega); clear HM; intro bh w1 HM
    refine hK9 _ _ (heldF HM) ?_; clear hK9 K9; ((try simp only [List.setIfInBounds_toArray]); (try simp only [List.set_cons_succ]); (try simp only [List.set_cons_zero]))
    refine t_pure (i := 4) (v := .agg #[.slice (some ⟨bu, 0, none⟩) n n, .slice (some ⟨bh, 0, none⟩) n n]) rfl rfl (by kernel_rfl) (fun _ _ _ h => h) (heldF HM) (by rfl) ?_ ?_; (focus ((intro w9; first | (go_simp; done) | (go_simp; rfl)))); ((try simp only [List.setIfInBounds_toArray]); (try simp only [List.set_cons_succ]); (try simp only [List.set_cons_zero]))
    refine j_one 6 fun K9 hK9 => ?_
    refine j_st HM ?_ (hv := sa_nest _ _ rfl rfl); clear HM; intro w1 HM
    refine hK9 _ _ heldN ?_; clear hK9 K9; ((try simp only [List.setIfInBounds_toArray]); (try simp only [List.set_cons_succ]); (try simp only [List.set_cons_zero]))
    refine wpAnyL_done (by kernel_rfl) ?_ _
    (go_wp2_with fail; go_meet; (case rel => exact ⟨_, _, _, rfl, HM.pick⟩))
  ·refine j_mks n HM ?_ (by omega); clear HM; intro bh w1 HM
   refine ⟨(heldF HM), ?_⟩; ((try simp only [List.setIfInBounds_toArray]); (try simp only [List.set_cons_succ]); (try simp only [List.set_cons_zero]))
   refine j_two 1 5 ?_ ?_
   ·refine j_mks n HM ?_ (by omega); clear HM; intro bu w1 HM
    refine ⟨(heldF HM), ?_⟩; ((try simp only [List.setIfInBounds_toArray]); (try simp only [List.set_cons_succ]); (try simp only [List.set_cons_zero]))
    refine t_pure (i := 4) (v := .agg #[.slice (some ⟨bu, 0, none⟩) n n, .slice (some ⟨bh, 0, none⟩) n n]) rfl rfl (by kernel_rfl) (fun _ _ _ h => h) (heldF HM) (by rfl) ?_ ?_; (focus ((intro w9; first | (go_simp; done) | (go_simp; rfl)))); ((try simp only [List.setIfInBounds_toArray]); (try simp only [List.set_cons_succ]); (try simp only [List.set_cons_zero]))
    refine j_one 5 fun K9 hK9 => ?_
    refine j_al HM ?_; clear HM; intro bk w1 HM
    refine hK9 _ _ (heldF HM) ?_; clear hK9 K9
    refine j_one 6 fun K9 hK9 => ?_
    refine j_st HM ?_ (hv := sa_nest _ _ rfl rfl); clear HM; intro w1 HM
    refine hK9 _ _ heldN ?_; clear hK9 K9; ((try simp only [List.setIfInBounds_toArray]); (try simp only [List.set_cons_succ]); (try simp only [List.set_cons_zero]))
    refine wpAnyL_done (by kernel_rfl) ?_ _
    (go_wp2_with fail; go_meet; (case rel => exact ⟨_, _, _, rfl, HM.pick⟩))
   ·refine j_al HM ?_; clear HM; intro bk w1 HM
    refine ⟨(heldF HM), ?_⟩
    refine j_one 1 fun K9 hK9 => ?_
    refine j_mks n HM ?_ (by omega); clear HM; intro bu w1 HM
    refine hK9 _ _ (heldF HM) ?_; clear hK9 K9; ((try simp only [List.setIfInBounds_toArray]); (try simp only [List.set_cons_succ]); (try simp only [List.set_cons_zero]))
    refine t_pure (i := 4) (v := .agg #[.slice (some ⟨bu, 0, none⟩) n n, .slice (some ⟨bh, 0, none⟩) n n]) rfl rfl (by kernel_rfl) (fun _ _ _ h => h) (heldF HM) (by rfl) ?_ ?_; (focus ((intro w9; first | (go_simp; done) | (go_simp; rfl)))); ((try simp only [List.setIfInBounds_toArray]); (try simp only [List.set_cons_succ]); (try simp only [List.set_cons_zero]))
    refine j_one 6 fun K9 hK9 => ?_
    refine j_st HM ?_ (hv := sa_nest _ _ rfl rfl); clear HM; intro w1 HM
    refine hK9 _ _ heldN ?_; clear hK9 K9; ((try simp only [List.setIfInBounds_toArray]); (try simp only [List.set_cons_succ]); (try simp only [List.set_cons_zero]))
    refine wpAnyL_done (by kernel_rfl) ?_ _
    (go_wp2_with fail; go_meet; (case rel => exact ⟨_, _, _, rfl, HM.pick⟩))
  ·refine j_al HM ?_; clear HM; intro bk w1 HM
   refine ⟨(heldF HM), ?_⟩
   refine j_two 1 3 ?_ ?_
   ·refine j_mks n HM ?_ (by omega); clear HM; intro bu w1 HM
    refine ⟨(heldF HM), ?_⟩; ((try simp only [List.setIfInBounds_toArray]); (try simp only [List.set_cons_succ]); (try simp only [List.set_cons_zero]))
    refine j_one 3 fun K9 hK9 => ?_
    refine j_mks n HM ?_ (by omega); clear HM; intro bh w1 HM
    refine hK9 _ _ (heldF HM) ?_; clear hK9 K9; ((try simp only [List.setIfInBounds_toArray]); (try simp only [List.set_cons_succ]); (try simp only [List.set_cons_zero]))
    refine t_pure (i := 4) (v := .agg #[.slice (some ⟨bu, 0, none⟩) n n, .slice (some ⟨bh, 0, none⟩) n n]) rfl rfl (by kernel_rfl) (fun _ _ _ h => h) (heldF HM) (by rfl) ?_ ?_; (focus ((intro w9; first | (go_simp; done) | (go_simp; rfl)))); ((try simp only [List.setIfInBounds_toArray]); (try simp only [List.set_cons_succ]); (try simp only [List.set_cons_zero]))
    refine j_one 6 fun K9 hK9 => ?_
    refine j_st HM ?_ (hv := sa_nest _ _ rfl rfl); clear HM; intro w1 HM
    refine hK9 _ _ heldN ?_; clear hK9 K9; ((try simp only [List.setIfInBounds_toArray]); (try simp only [List.set_cons_succ]); (try simp only [List.set_cons_zero]))
    refine wpAnyL_done (by kernel_rfl) ?_ _
    (go_wp2_with fail; go_meet; (case rel => exact ⟨_, _, _, rfl, HM.pick⟩))
   ·refine j_mks n HM ?_ (by omega); clear HM; intro bh w1 HM
    refine ⟨(heldF HM), ?_⟩; ((try simp only [List.setIfInBounds_toArray]); (try simp only [List.set_cons_succ]); (try simp only [List.set_cons_zero]))
    refine j_one 1 fun K9 hK9 => ?_
    refine j_mks n HM ?_ (by omega); clear HM; intro bu w1 HM
    refine hK9 _ _ (heldF HM) ?_; clear hK9 K9; ((try simp only [List.setIfInBounds_toArray]); (try simp only [List.set_cons_succ]); (try simp only [List.set_cons_zero]))
    refine t_pure (i := 4) (v := .agg #[.slice (some ⟨bu, 0, none⟩) n n, .slice (some ⟨bh, 0, none⟩) n n]) rfl rfl (by kernel_rfl) (fun _ _ _ h => h) (heldF HM) (by rfl) ?_ ?_; (focus ((intro w9; first | (go_simp; done) | (go_simp; rfl)))); ((try simp only [List.setIfInBounds_toArray]); (try simp only [List.set_cons_succ]); (try simp only [List.set_cons_zero]))
    refine j_one 6 fun K9 hK9 => ?_
    refine j_st HM ?_ (hv := sa_nest _ _ rfl rfl); clear HM; intro w1 HM
    refine hK9 _ _ heldN ?_; clear hK9 K9; ((try simp only [List.setIfInBounds_toArray]); (try simp only [List.set_cons_succ]); (try simp only [List.set_cons_zero]))
    refine wpAnyL_done (by kernel_rfl) ?_ _
    (go_wp2_with fail; go_meet; (case rel => exact ⟨_, _, _, rfl, HM.pick⟩))
 case rest =>
  clear HM
  obtain ⟨b8, bu, bh, rfl, HM⟩ := hcut
  rw [rep_ints, rep_vals] at HM
  go_step
  go_wp2_with (first | ((with_reducible refine g_ld ?_); refine a_ld HM ?_) | ((with_reducible refine g_st ?_); refine a_st HM ?_; clear HM; intro w1 HM) | ((with_reducible refine g_al ?_); refine a_al HM ?_; clear HM; intro bk w1 HM) | ((with_reducible refine g_bld ?_); refine a_bld ?_))
  go_loopw [9] (fun jv wr => ∃ (j : Nat) (U : List Int) (rb : List Nat) (c1 : Array Value), jv = .int .i64 (j : Nat) ∧ j ≤ n ∧ Hid (U.length = n) ∧ Hid (rb.length = j) ∧ Hid (∀ u ∈ U, 0 ≤ u ∧ u ≤ 1000000) ∧ Hid (TapeC W (m + 1 + 3 * j) c1) ∧ Mem W [] ((tb, c1) :: (b8, #[.slice (some ⟨bu, 0, none⟩) n n, .slice (some ⟨bh, 0, none⟩) n n]) :: (bh, rowsOf ((rv n rb ++ List.replicate (n - j) (Value.slice none 0 0)).map vc)) :: (bu, rowsOf (U.map ic)) :: (b6, #[.slice none 0 0, .slice none 0 0]) :: (NR rb (List.replicate j (List.replicate n 0)) ++ R)) wr) (fun jv _ => n - (intOf jv).toNat)
  case atStart => exact ⟨0, _, [], c1, rfl, by omega, Lib.hid (by simp), Lib.hid rfl, Lib.hid (fun u hu => by rw [List.eq_of_mem_replicate hu]; exact ⟨by decide, by decide⟩), HC, HM⟩
  case round =>
   clear HM HC
   obtain ⟨j, U, rb, c1, rfl, hj, HUL, HRL, HUB, HC, HM⟩ := hrel
   have n0 := la_n0 (.slice (some ⟨bu, 0, none⟩) n n) (.slice (some ⟨bh, 0, none⟩) n n)
   have n1 := la_n1 (.slice (some ⟨bu, 0, none⟩) n n) (.slice (some ⟨bh, 0, none⟩) n n)
   by_cases hjt : j < n
   ·have hjt1 : (j : Int) < n := by omega
    have hjU : j < U.length := by have := HUL.out; omega
    go_upto_region 6 with (first | ((with_reducible refine g_ld ?_); refine a_ld HM ?_) | ((with_reducible refine g_st ?_); refine a_st HM ?_; clear HM; intro w1 HM) | ((with_reducible refine g_al ?_); refine a_al HM ?_; clear HM; intro bk w1 HM) | ((with_reducible refine g_bld ?_); refine a_bld ?_))
    replace HM : Mem W [] ((b8, #[.slice (some ⟨bu, 0, none⟩) n n, .slice (some ⟨bh, 0, none⟩) n n]) :: (tb, c1) :: (bh, rowsOf ((rv n rb ++ List.replicate (n - j) (Value.slice none 0 0)).map vc)) :: (bu, rowsOf (U.map ic)) :: (b6, #[.slice none 0 0, .slice none 0 0]) :: (NR rb (List.replicate j (List.replicate n 0)) ++ R)) _ := HM.pick
    refine start_M2 [13] HM ((Sub.keep Sub.nil)) (by kernel_rfl) (fun w0x H9 => ?_)
    replace HM := H9; clear H9
    refine k_fa 0 (heldF HM) ?_
    refine k_ld 1 [12, 13] (heldF HM) ?_
    refine k_mv 2 (heldF HM) ?_
    refine k_mv 3 (heldF HM) ?_
    refine k_mv 4 (heldF HM) ?_
    refine k_mv 7 (heldF HM) ?_
    refine j_one 5 fun K9 hK9 => ?_
    refine o_callg (snext_any W tb _ 50 _ (HM.tp (by ((repeat (first | exact Look.here | refine Look.there ?_)); done)) HC.out H0.out hle) (by omega) (by omega) (by omega)) rfl ?_ ?_; (focus (refine h_call2 (ts := ?_) (x1 := ?_) (x2 := ?_) ?_ (by kernel_rfl) ?_ ?_; rotate_left 3; (focus rfl); (focus rfl); rfl)); rintro e9 w1 ⟨v1, rfl, hv0, hv1, ⟨c1, hb1, hc1, -, -⟩, hg9⟩; replace HM := HM.put (c' := c1) (by (repeat (first | exact At.here | apply At.there))) hb1 (Only.of_grown hg9); clear hg9 hb1; replace HC := Lib.hid hc1; clear hc1; refine ⟨_, rfl, ?_⟩
    refine hK9 _ _ (heldF HM) ?_; clear hK9 K9; ((try simp only [List.setIfInBounds_toArray]); (try simp only [List.set_cons_succ]); (try simp only [List.set_cons_zero]))
    refine k_add 6 (heldF HM) ?_
    refine j_one 8 fun K9 hK9 => ?_
    refine o_callg (snext_any W tb _ 1000000 _ (HM.tp (by ((repeat (first | exact Look.here | refine Look.there ?_)); done)) HC.out H0.out hle) (by omega) (by omega) (by omega)) rfl ?_ ?_; (focus (refine h_call2 (ts := ?_) (x1 := ?_) (x2 := ?_) ?_ (by kernel_rfl) ?_ ?_; rotate_left 3; (focus rfl); (focus rfl); rfl)); rintro e9 w1 ⟨v2, rfl, hv2, hv3, ⟨c1, hb1, hc1, -, -⟩, hg9⟩; replace HM := HM.put (c' := c1) (by (repeat (first | exact At.here | apply At.there))) hb1 (Only.of_grown hg9); clear hg9 hb1; replace HC := Lib.hid hc1; clear hc1; refine ⟨_, rfl, ?_⟩
    refine hK9 _ _ (heldF HM) ?_; clear hK9 K9; ((try simp only [List.setIfInBounds_toArray]); (try simp only [List.set_cons_succ]); (try simp only [List.set_cons_zero]))
    refine k_add 9 (heldF HM) ?_
    refine j_one 10 fun K9 hK9 => ?_
    refine j_bs5 HM ?_; clear HM; intro bl w1 HM
    refine hK9 _ _ (heldF HM) ?_; clear hK9 K9; ((try simp only [List.setIfInBounds_toArray]); (try simp only [List.set_cons_succ]); (try simp only [List.set_cons_zero]))
    refine j_one 11 fun K9 hK9 => ?_
    refine o_callg (spick_any W tb _ (some ⟨bl, 0, none⟩) [10, 100, 1 + v1, 1 + v2, 0] 5 _ (HM.tp (by ((repeat (first | exact Look.here | refine Look.there ?_)); done)) HC.out H0.out hle) (by omega) (ints_own (HM.get .here)) (fun b o e => by cases e; exact HM.ne (c' := c1) (by ((repeat (first | exact Look.here | refine Look.there ?_)); done))) (by simp) (by simp)) rfl ?_ ?_; (focus (refine h_call2 (ts := ?_) (x1 := ?_) (x2 := ?_) ?_ (by kernel_rfl) ?_ ?_; rotate_left 3; (focus rfl); (focus rfl); rfl)); rintro e9 w1 ⟨x, rfl, hx, ⟨c1, hb1, hc1, -, -⟩, hg9⟩; replace HM := HM.put (c' := c1) (by (repeat (first | exact At.here | apply At.there))) hb1 (Only.of_grown hg9); clear hg9 hb1; replace HC := Lib.hid hc1; clear hc1; refine ⟨_, rfl, ?_⟩
    refine hK9 _ _ (heldF HM) ?_; clear hK9 K9; ((try simp only [List.setIfInBounds_toArray]); (try simp only [List.set_cons_succ]); (try simp only [List.set_cons_zero]))
    refine k_ia 12 (heldF HM) ?_
    refine j_one 13 fun K9 hK9 => ?_
    refine j_st HM ?_ (hv := sa_ints U x hjU); clear HM; intro w1 HM
    refine hK9 _ _ heldN ?_; clear hK9 K9; ((try simp only [List.setIfInBounds_toArray]); (try simp only [List.set_cons_succ]); (try simp only [List.set_cons_zero]))
    refine wpAnyL_done (by kernel_rfl) ?_ _
    have hx2 : 0 ≤ x ∧ x ≤ 1000000 := by
     simp at hx
     omega
    have HUL2 : Hid ((U.set j x).length = n) := Lib.hid (by rw [List.length_set]; exact HUL.out)
    have HUB2 : Hid (∀ u ∈ U.set j x, 0 ≤ u ∧ u ≤ 1000000) := Lib.hid (fun u hu => by
     rcases List.mem_or_eq_of_mem_set hu with h | rfl
     ·exact HUB.out u h
     ·exact hx2)
    replace HM : Mem W [] ((tb, c1) :: (b8, #[.slice (some ⟨bu, 0, none⟩) n n, .slice (some ⟨bh, 0, none⟩) n n]) :: (bh, rowsOf ((rv n rb ++ List.replicate (n - j) (Value.slice none 0 0)).map vc)) :: (bu, rowsOf ((U.set j x).map ic)) :: (b6, #[.slice none 0 0, .slice none 0 0]) :: (NR rb (List.replicate j (List.replicate n 0)) ++ R)) _ := HM.pick
    clear hx hx2 hv0 hv1 hv2 hv3
    have hrl : j < (rv n rb ++ List.replicate (n - j) (Value.slice none 0 0)).length := by
     rw [List.length_append, List.length_replicate]
     have : (rv n rb).length = j := by simp [rv, HRL.out]
     omega
    go_upto_region 7 with fail
    refine start_M [6] HM (by kernel_rfl) (fun w0x H9 => ?_)
    replace HM := H9; clear H9
    refine k_fa 0 (heldF HM) ?_
    refine k_ld 1 [5, 6] (heldF HM) ?_
    refine k_mv 2 (heldF HM) ?_
    refine k_mv 3 (heldF HM) ?_
    refine j_one 4 fun K9 hK9 => ?_
    refine j_mks n HM ?_ (by omega); clear HM; intro br w1 HM
    refine hK9 _ _ (heldF HM) ?_; clear hK9 K9; ((try simp only [List.setIfInBounds_toArray]); (try simp only [List.set_cons_succ]); (try simp only [List.set_cons_zero]))
    refine k_ia 5 (heldF HM) ?_
    refine j_one 6 fun K9 hK9 => ?_
    refine j_st HM ?_ (hv := sa_vals _ (.slice (some ⟨br, 0, none⟩) n n) hrl rfl); clear HM; intro w1 HM
    refine hK9 _ _ heldN ?_; clear hK9 K9; ((try simp only [List.setIfInBounds_toArray]); (try simp only [List.set_cons_succ]); (try simp only [List.set_cons_zero]))
    refine wpAnyL_done (by kernel_rfl) ?_ _
    rw [rv_step HRL.out hjt, rep_ints] at HM
    go_wp2_with fail
    go_roundw
    case rel =>
     refine ⟨j + 1, _, rb ++ [br], _, by go_num, by omega, HUL2, Lib.hid (by simp [HRL.out]), HUB2, Lib.hid (HC.out.mono (by omega)), ?_⟩
     rw [List.replicate_succ', NR_add _ _ (by simp [HRL.out])]
     exact (HM.pick (K := (br, rowsOf ((List.replicate n 0).map ic)) :: (tb, c1) :: (b8, #[.slice (some ⟨bu, 0, none⟩) n n, .slice (some ⟨bh, 0, none⟩) n n]) :: (bh, rowsOf ((rv n (rb ++ [br]) ++ List.replicate (n - (j + 1)) (Value.slice none 0 0)).map vc)) :: (bu, rowsOf ((U.set j x).map ic)) :: (b6, #[.slice none 0 0, .slice none 0 0]) :: (NR rb (List.replicate j (List.replicate n 0)) ++ R))).pushRow [_, _, _, _, _]
    case measure => simp [intOf]; omega
   ·obtain rfl : j = n := by omega
    rw [Nat.sub_self, List.replicate_zero, List.append_nil] at HM
    go_wp2_with (first | ((with_reducible refine g_ld ?_); refine a_ld HM ?_) | ((with_reducible refine g_st ?_); refine a_st HM ?_; clear HM; intro w1 HM) | ((with_reducible refine g_al ?_); refine a_al HM ?_; clear HM; intro bk w1 HM) | ((with_reducible refine g_bld ?_); refine a_bld ?_))
    go_loopw [10] (fun qv wr => ∃ (q : Nat) (H : List (List Int)) (c1 : Array Value), qv = .int .i64 (q : Nat) ∧ q ≤ j ∧ Hid (Ns.Part j free U H q 0 0) ∧ Hid (TapeC W (m + 30 + 40 * q) c1) ∧ Mem W [] ((tb, c1) :: (b8, #[.slice (some ⟨bu, 0, none⟩) j j, .slice (some ⟨bh, 0, none⟩) j j]) :: (bh, rowsOf ((rv j rb).map vc)) :: (bu, rowsOf (U.map ic)) :: (b6, #[.slice none 0 0, .slice none 0 0]) :: (NR rb H ++ R)) wr) (fun qv _ => j - (intOf qv).toNat)
    case atStart => exact ⟨0, _, c1, rfl, by omega, Lib.hid .start, Lib.hid (HC.out.mono (by omega)), HM⟩
    case round =>
     clear HM HC
     obtain ⟨q, H, c1, rfl, hq, HP, HC, HM⟩ := hrel
     by_cases hqt : q < j
     ·have hqt1 : (q : Int) < j := by omega
      obtain ⟨u, hu⟩ : ∃ u, U[q]? = some u := ⟨_, List.getElem?_eq_getElem (by have := HUL.out; omega)⟩
      have ku := la_ints hu
      obtain ⟨hu0, hu1⟩ := HUB.out u (List.mem_of_getElem? hu)
      have HU := Lib.hid (Ns.gu_at hu)
      clear hu
      obtain ⟨fr, hfr⟩ : ∃ f, Hid (f = free) := ⟨_, Lib.hid rfl⟩
      rw [← hfr.out] at HP
      cases free
      all_goals
       go_upto_region 15 with (first | ((with_reducible refine g_ld ?_); refine a_ld HM ?_) | ((with_reducible refine g_st ?_); refine a_st HM ?_; clear HM; intro w1 HM) | ((with_reducible refine g_al ?_); refine a_al HM ?_; clear HM; intro bk w1 HM) | ((with_reducible refine g_bld ?_); refine a_bld ?_))
       go_loopw [11, 12] (fun lv iv wr => ∃ (i : Nat) (S left : Int) (H : List (List Int)) (c1 : Array Value), lv = .int .i64 left ∧ iv = .int .i64 (i : Nat) ∧ i ≤ j ∧ Hid (Ns.Part j fr U H q i S) ∧ 0 ≤ S ∧ left + S ≤ u ∧ -1 ≤ left ∧ Hid (0 ≤ left ∨ S = 0) ∧ Hid (fr = false → 0 < u → left + S < u) ∧ Hid (TapeC W (m + 30 + 40 * q + 4 * i) c1) ∧ Mem W [] ((tb, c1) :: (b8, #[.slice (some ⟨bu, 0, none⟩) j j, .slice (some ⟨bh, 0, none⟩) j j]) :: (bh, rowsOf ((rv j rb).map vc)) :: (bu, rowsOf (U.map ic)) :: (b6, #[.slice none 0 0, .slice none 0 0]) :: (NR rb H ++ R)) wr) (fun _ iv _ => j - (intOf iv).toNat)
       case atStart => exact ⟨0, 0, _, H, c1, rfl, rfl, by omega, HP, by omega, by omega, by omega, Lib.hid (.inr rfl), Lib.hid (fun hf _ => by first | (rw [hfr.out] at hf; cases hf; done) | omega), Lib.hid (HC.out.mono (by omega)), HM⟩
       case round =>
        clear HM HC HP H
        obtain ⟨i, S, left, H, c1, rfl, rfl, hi, HP, hS, hls, hl1, HLS, HLF, HC, HM⟩ := hrel
        by_cases hit : i < j
        ·have hit1 : (i : Int) < j := by omega
         by_cases hl : 0 < left
         ·go_wp2_with (first | ((with_reducible refine g_ld ?_); refine a_ld HM ?_) | ((with_reducible refine g_st ?_); refine a_st HM ?_; clear HM; intro w1 HM) | ((with_reducible refine g_al ?_); refine a_al HM ?_; clear HM; intro bk w1 HM) | ((with_reducible refine g_bld ?_); refine a_bld ?_))
          (refine (sbool_any W tb _ 2 _ (HM.tp (by ((repeat (first | exact Look.here | refine Look.there ?_)); done)) HC.out H0.out hle) (by omega) (by omega) (by omega)).mono ?_; rintro e9 w2 ⟨g, rfl, ⟨c1, hb1, hc1, -, -⟩, hg⟩; replace HM := HM.put (c' := c1) (by (repeat (first | exact At.here | apply At.there))) hb1 (Only.of_grown hg); clear hg hb1; replace HC := Lib.hid hc1; clear hc1)
          cases g with
          | false =>
           go_wp2_with (first | ((with_reducible refine g_ld ?_); refine a_ld HM ?_) | ((with_reducible refine g_st ?_); refine a_st HM ?_; clear HM; intro w1 HM) | ((with_reducible refine g_al ?_); refine a_al HM ?_; clear HM; intro bk w1 HM) | ((with_reducible refine g_bld ?_); refine a_bld ?_))
           go_roundw
           case rel => exact ⟨i + 1, S, left, H, _, rfl, by go_num, by omega, Lib.hid HP.out.skip, hS, hls, hl1, HLS, HLF, Lib.hid (HC.out.mono (by omega)), HM⟩
           case measure => simp [intOf]; omega
          | true =>
           go_wp2_with (first | ((with_reducible refine g_ld ?_); refine a_ld HM ?_) | ((with_reducible refine g_st ?_); refine a_st HM ?_; clear HM; intro w1 HM) | ((with_reducible refine g_al ?_); refine a_al HM ?_; clear HM; intro bk w1 HM) | ((with_reducible refine g_bld ?_); refine a_bld ?_))
           (refine (snext_any W tb _ _ _ (HM.tp (by ((repeat (first | exact Look.here | refine Look.there ?_)); done)) HC.out H0.out hle) (by omega) (by omega) (by omega)).mono ?_; rintro e9 w2 ⟨v, rfl, hv0, hv1, ⟨c1, hb1, hc1, -, -⟩, hg⟩; replace HM := HM.put (c' := c1) (by (repeat (first | exact At.here | apply At.there))) hb1 (Only.of_grown hg); clear hg hb1; replace HC := Lib.hid hc1; clear hc1)
           go_wp2_with (first | ((with_reducible refine g_ld ?_); refine a_ld HM ?_) | ((with_reducible refine g_st ?_); refine a_st HM ?_; clear HM; intro w1 HM) | ((with_reducible refine g_al ?_); refine a_al HM ?_; clear HM; intro bk w1 HM) | ((with_reducible refine g_bld ?_); refine a_bld ?_))
           (refine (snext_any W tb _ _ _ (HM.tp (by ((repeat (first | exact Look.here | refine Look.there ?_)); done)) HC.out H0.out hle) (by omega) (by omega) (by omega)).mono ?_; rintro e9 w2 ⟨y, rfl, hy0, hy1, ⟨c1, hb1, hc1, -, -⟩, hg⟩; replace HM := HM.put (c' := c1) (by (repeat (first | exact At.here | apply At.there))) hb1 (Only.of_grown hg); clear hg hb1; replace HC := Lib.hid hc1; clear hc1)
           go_wp2_with (first | ((with_reducible refine g_ld ?_); refine a_ld HM ?_) | ((with_reducible refine g_st ?_); refine a_st HM ?_; clear HM; intro w1 HM) | ((with_reducible refine g_al ?_); refine a_al HM ?_; clear HM; intro bk w1 HM) | ((with_reducible refine g_bld ?_); refine a_bld ?_))
           (refine (spick_new (tb := tb) (W := W) HM (by ((repeat (first | exact Look.here | refine Look.there ?_)); done)) HC.out H0.out (by first | exact hle | simpa using hle) [left, 1 + v, y / 2] _ (by omega) (by simp) (by simp)).mono ?_; rintro e9 w2 ⟨v1, c1, rfl, hv, hc1, hb1, hg⟩; replace HM := HM.put (c' := c1) (by (repeat (first | exact At.here | apply At.there))) hb1 hg; clear hg hb1; replace HC := Lib.hid hc1; clear hc1)
           have hx : 0 ≤ v1 ∧ v1 ≤ left := by
            simp at hv
            omega
           obtain ⟨hx0, hx1⟩ := hx
           have hHl := HP.out.len
           obtain ⟨l, hl2⟩ : ∃ l, H[i]? = some l := ⟨_, List.getElem?_eq_getElem (by omega)⟩
           obtain ⟨ri, hri⟩ : ∃ r, rb[i]? = some r := ⟨_, List.getElem?_eq_getElem (by have := HRL.out; omega)⟩
           have hll := HP.out.lens l (List.mem_of_getElem? hl2)
           have HP2 : Hid (Ns.Part j fr U (H.set i (l.set q v1)) q (i + 1) (S + v1)) := Lib.hid (HP.out.put hit hqt hl2 hx0 (by omega))
           have hrl : (NR rb H).length = j := by rw [NR_len (by rw [HRL.out, hHl])]; exact HRL.out
           have HNS := Lib.hid (NR_set (l.set q v1) (by rw [HRL.out, hHl]) hri)
           have HRLN := Lib.hid hrl
           replace HM := HM.openRow [_, _, _, _, _] (NR_at hri hl2)
           have kr : LA 22 (rowsOf ((rv j rb).map vc)) i (.slice (some ⟨ri, 0, none⟩) j j) := la_vals (by unfold rv; rw [List.getElem?_map, hri]; rfl)
           have sr := sa_ints l (i := q) v1 (by omega)
           clear hv hHl hl2 hri hll hrl
           go_wp2_with (first | ((with_reducible refine g_ld ?_); refine a_ld HM ?_) | ((with_reducible refine g_st ?_); refine a_st HM ?_; clear HM; intro w1 HM) | ((with_reducible refine g_al ?_); refine a_al HM ?_; clear HM; intro bk w1 HM) | ((with_reducible refine g_bld ?_); refine a_bld ?_))
           go_roundw
           case rel =>
            refine ⟨i + 1, S + v1, left - v1, H.set i (l.set q v1), _, by go_num, by go_num, by omega, HP2, by omega, by omega, by omega, Lib.hid (.inl (by omega)), Lib.hid (fun h1 h2 => by have := HLF.out h1 h2; omega), Lib.hid (HC.out.mono (by omega)), ?_⟩
            have h9 := HM.closeRow [_, _, _, _, _] (by rw [HRLN.out]; exact hit)
            rw [HNS.out] at h9
            exact h9
           case measure => simp [intOf]; omega
         ·have hls2 : S ≤ Ns.gu U q ∧ (fr = false → 0 < Ns.gu U q → S < Ns.gu U q) := by
            rw [HU.out]
            rcases HLS.out with h | h
            ·exact ⟨by omega, fun h1 h2 => by have := HLF.out h1 h2; omega⟩
            ·exact ⟨by omega, fun h1 h2 => by omega⟩
          have HPN := Lib.hid (HP.out.next hqt hls2)
          rw [hfr.out] at HPN
          clear hls2
          go_wp2_with (first | ((with_reducible refine g_ld ?_); refine a_ld HM ?_) | ((with_reducible refine g_st ?_); refine a_st HM ?_; clear HM; intro w1 HM) | ((with_reducible refine g_al ?_); refine a_al HM ?_; clear HM; intro bk w1 HM) | ((with_reducible refine g_bld ?_); refine a_bld ?_))
          go_roundw
          case rel => exact ⟨q + 1, H, c1, by go_num, by omega, HPN, Lib.hid (HC.out.mono (by omega)), HM⟩
          case measure => simp [intOf]; omega
        ·have hls2 : S ≤ Ns.gu U q ∧ (fr = false → 0 < Ns.gu U q → S < Ns.gu U q) := by
           rw [HU.out]
           rcases HLS.out with h | h
           ·exact ⟨by omega, fun h1 h2 => by have := HLF.out h1 h2; omega⟩
           ·exact ⟨by omega, fun h1 h2 => by omega⟩
         have HPN := Lib.hid (HP.out.next hqt hls2)
         rw [hfr.out] at HPN
         clear hls2
         go_wp2_with (first | ((with_reducible refine g_ld ?_); refine a_ld HM ?_) | ((with_reducible refine g_st ?_); refine a_st HM ?_; clear HM; intro w1 HM) | ((with_reducible refine g_al ?_); refine a_al HM ?_; clear HM; intro bk w1 HM) | ((with_reducible refine g_bld ?_); refine a_bld ?_))
         go_roundw
         case rel => exact ⟨q + 1, H, c1, by go_num, by omega, HPN, Lib.hid (HC.out.mono (by omega)), HM⟩
         case measure => simp [intOf]; omega
     ·obtain rfl : q = j := by omega
      have k8 := la_nest (.slice (some ⟨bu, 0, none⟩) q q) (.slice (some ⟨bh, 0, none⟩) q q)
      have s6 := sa_nest (.slice (some ⟨bu, 0, none⟩) q q) (.slice (some ⟨bh, 0, none⟩) q q) rfl rfl
      have HMD := Lib.hid (HP.out.done (by omega) HUL.out HUB.out)
      go_wp2_with (first | ((with_reducible refine g_ld ?_); refine a_ld HM ?_) | ((with_reducible refine g_st ?_); refine a_st HM ?_; clear HM; intro w1 HM) | ((with_reducible refine g_al ?_); refine a_al HM ?_; clear HM; intro bk w1 HM) | ((with_reducible refine g_bld ?_); refine a_bld ?_))
      refine bodyPost_ret (r_c (b := b6) (k := 0) rfl rfl (HM.get (by ((repeat (first | exact Look.here | refine Look.there ?_)); done))) (la_nest _ _)) rfl ⟨q, bu, bh, U, H, rb, c1, rfl, by omega, HUL.out, HRL.out, HMD, Lib.hid (HC.out.mono (by omega)), HM.pick⟩
end Go.Proofs.YtckhdiljihhdmaaGreat
namespace Go.Proofs.YtckhdiljihhdmaaGreat
set_option maxRecDepth 8000
open Go.RowKit
namespace Ns
open Mx
def inn (n : Nat) (u : Nat → Int) (h : Nat → Nat → Int) (j : Nat) : Int := zs n fun i => if 0 < u i then h i j else 0
def lft (n : Nat) (u : Nat → Int) (h : Nat → Nat → Int) (j : Nat) : Int := u j - inn n u h j
def allA (u a : Nat → Int) (i : Nat) : Int := if 0 < u i then a i else 0
theorem kept {n : Nat} {u : Nat → Int} {h : Nat → Nat → Int} {a : Nat → Int} {f : Nat → Rat} (H : Ok n u h) (hf : Pr n u h a f) : sm n (fun j => (lft n u h j : Rat) * f j) = ((zs n (allA u a) : Int) : Rat) := by
 have h1 : sm n (fun i => if 0 < u i then sm n (fun j => (mat u h i j : Rat) * f j) else 0) = ((zs n (allA u a) : Int) : Rat) := by
  rw [zs_cast]
  refine sm_congr fun i hi => ?_
  unfold allA
  by_cases h0 : 0 < u i
  ·rw [if_pos h0, if_pos h0, hf i hi]; unfold rhs; rw [if_neg (by omega)]
  ·rw [if_neg h0, if_neg h0]; rfl
 rw [← h1]
 have h2 : sm n (fun i => if 0 < u i then sm n (fun j => (mat u h i j : Rat) * f j) else 0) = sm n (fun i => sm n (fun j => (if 0 < u i then (mat u h i j : Rat) else 0) * f j)) := by
  refine sm_congr fun i hi => ?_
  by_cases h0 : 0 < u i
  ·rw [if_pos h0]; exact sm_congr fun j _ => by rw [if_pos h0]
  ·rw [if_neg h0]; exact (sm_zero fun j _ => by rw [if_neg h0]; grind).symm
 rw [h2, sm_swap]
 refine sm_congr fun j hj => ?_
 rw [sm_mulr]
 by_cases hu : 0 < u j
 ·have e : sm n (fun i => if 0 < u i then (mat u h i j : Rat) else 0) = (lft n u h j : Rat) := by
    have e1 : sm n (fun i => if 0 < u i then (mat u h i j : Rat) else 0) = sm n (fun i => (if i = j then (u j : Rat) else 0) + -1 * ((if 0 < u i then h i j else 0 : Int) : Rat)) := by
     refine sm_congr fun i hi => ?_
     by_cases h0 : 0 < u i
     ·rw [if_pos h0, if_pos h0]
      unfold mat
      rw [if_neg (by omega)]
      by_cases e : i = j
      ·subst e; rw [if_pos rfl, if_pos rfl, Rat.intCast_sub]; grind
      ·rw [if_neg e, if_neg e, Rat.intCast_neg]; grind
     ·rw [if_neg h0, if_neg h0]
      have e : ¬ i = j := fun e => h0 (e ▸ hu)
      rw [if_neg e]
      have e0 : ((0 : Int) : Rat) = 0 := rfl
      rw [e0]; grind
    rw [e1, sm_add, sm_diag hj, sm_mul, ← zs_cast]
    unfold lft inn
    rw [Rat.intCast_sub]; grind
  rw [e]
 ·have hu0 : u j = 0 := by have := H.u0 j hj; omega
  have hfj : f j = 0 := by
   have := hf j hj
   rw [row_none hj hu0] at this
   rw [this]; unfold rhs; rw [if_pos hu0]; rfl
  rw [hfj]; grind
end Ns
end Go.Proofs.YtckhdiljihhdmaaGreat
namespace Go.Proofs.YtckhdiljihhdmaaGreat
set_option maxRecDepth 8000
open Go.RowKit
namespace Sv
def unit (n k : Nat) : List Int := (List.replicate n (0 : Int)).set k 1
open Classical in
noncomputable def werr (U : List Int) (H : List (List Int)) (i : Int) : Int :=
 if Ns.chk U H = 0 then (if 0 ≤ i ∧ i < U.length then (if Ns.Circ U.length (Ns.gu U) (Ns.gh H) then 351 else 0) else 340) else Ns.chk U H
def Gs (U : List Int) (H : List (List Int)) (G : Nat → Nat → Rat) : Prop := ∀ k, k < U.length → Px U H (unit U.length k) (G k)
def Wans (U : List Int) (G : Nat → Nat → Rat) (i : Int) (r : Int) (w : World) (s : Value) : Prop := (r ≠ 0 ∧ s = .slice none 0 0) ∨ (r = 0 ∧ ∃ m : Nat, i = (m : Nat) ∧ m < U.length ∧ RdS 66 w s (qrows U.length fun k => G k m))
end Sv
namespace Ns
open Mx
end Ns
end Go.Proofs.YtckhdiljihhdmaaGreat
namespace Go.Proofs.YtckhdiljihhdmaaGreat
set_option maxRecDepth 8000
open Go.RowKit
section
variable {ops : Array Oper} {rest : List Oper} {a a2 : Act} {w : World} {Q : Exit → Act → World → Prop} {d : Option Tmp} {ty T : TypeId} {ps : String} {af : Array Edge} {g : Option (Nat × Bool)} {x : Operand} {v : Value} {b k : Nat} {c : Array Value}
theorem a_ldw (hb : Hid (Rbk w b c)) (h : wpList Tryz.prog ops Q rest a2 w) (hw : WantT ops { dst := d, op := .load T x, type := ty, pos := ps, after := af, guard := g } a := by first | exact Or.inl rfl | exact Or.inr ⟨_, _, _, rfl, rfl, rfl⟩) (hx : a.eval x = .pointer (some ⟨b, k, none⟩) := by (conv => lhs; whnf) <;> rfl) (hv : LA T c k v := by with_reducible assumption) (ha : a.put d v = a2 := by ((try simp only [Act.put, List.setIfInBounds_toArray, List.set_cons_succ, List.set_cons_zero]) <;> rfl)) : OpG ops Q rest a w { dst := d, op := .load T x, type := ty, pos := ps, after := af, guard := g } := m_ld hw hx hb.out hv (ha ▸ h)
end
end Go.Proofs.YtckhdiljihhdmaaGreat
namespace Go.Proofs.YtckhdiljihhdmaaGreat
set_option maxRecDepth 8000
open Go.RowKit
theorem Ex.lav (x : Rat) : LA 50 (Ex.A (.ok x)) 0 (.agg (Rt.qA x)) := (Ex.fv (qA_size x) 0).la
theorem Ex.lae (x : Rat) : LA 30 (Ex.A (.ok x)) 66 (.int .i64 0) := (Ex.fe (qA_size x) 0).la
theorem Ex.laA (x : Rat) : LA 56 (Ex.A (.ok x)) 0 (.agg (Ex.A (.ok x))) := Ex.la (qA_size x) 0
theorem Ex.sa0 (y : Rat) : SA 56 (Ex.nA (Bg.rZ 0 0) 0) 0 (.agg (Ex.A (.ok y))) (Ex.A (.ok y)) := Ex.sa (qA_size y) (qA_one y) 0 (Ex.nA_size (rZ_size 0 0) 0)
end Go.Proofs.YtckhdiljihhdmaaGreat
namespace Go.Proofs.YtckhdiljihhdmaaGreat
set_option maxRecDepth 8000
open Go.RowKit
def Sv.rs (U : List Int) (H : List (List Int)) (A : List Int) (f : Nat → Rat) (i k : Nat) : Rat := (Ns.gu U i : Rat) * f i - (Ns.gu A i : Rat) - Mx.sm k fun j => (Ns.gh H i j : Rat) * f j
end Go.Proofs.YtckhdiljihhdmaaGreat
namespace Go.Proofs.YtckhdiljihhdmaaGreat
set_option maxRecDepth 8000
open Go.RowKit
namespace Ns
open Mx
def Cb (n : Nat) (f : Nat → Rat) (B : Nat) : Prop := ∃ D : Int, D ≠ 0 ∧ D.natAbs ≤ B ∧ ∀ i, i < n → ∃ N : Int, N.natAbs ≤ B ∧ f i = Rat.divInt N D
end Ns
end Go.Proofs.YtckhdiljihhdmaaGreat
namespace Go.Proofs.YtckhdiljihhdmaaGreat
set_option maxRecDepth 8000
open Go.RowKit
theorem ssolve_f (us hs as_ : Value) (U : List Int) (H : List (List Int)) (A : List Int) (f : Nat → Rat) (w : World) (hR : RdN w us hs U H) (hA : RdI w as_ A) (he : Sv.err U H A = 0) (hf : Sv.Px U H A f) :
    Calls Tryz.prog 26 #[.agg #[us, hs], as_] w fun e w' => ∃ s, e = .returned (.tuple #[s, .int .i64 0]) ∧ Below w.heap.size w w' ∧ Hid (RdS 66 w' s (qrows U.length f)) := by
 refine (ssolve_any us hs as_ U H A w hR hA 0 (Lib.hid he.symm)).mono ?_
 rintro e w' ⟨s, rfl, hL, HS⟩
 obtain ⟨-, g, hg, hR1⟩ := HS.out.resolve_left (fun h => h.1 rfl)
 obtain ⟨hk, hc⟩ := Sv.err_spec he
 refine ⟨s, rfl, hL, Lib.hid ?_⟩
 have e : qrows U.length f = qrows U.length g := So.ol_congr fun i hi => by rw [Ns.Pr.uniq (Sv.chk_spec hk).1.ok hc hf.1 hg.1 i hi]
 rw [e]; exact hR1
theorem rSolve_f (us hs as_ : Value) (U : List Int) (H : List (List Int)) (A : List Int) (f : Nat → Rat) (w : World) (hR : RdN w us hs U H) (hA : RdI w as_ A) (he : Sv.err U H A = 0) (hf : Sv.Px U H A f) :
    Calls Tryz.prog 33 #[.agg #[us, hs], as_] w fun e w' => ∃ s, e = .returned (.tuple #[s, .int .i64 0]) ∧ Below w.heap.size w w' ∧ Hid (RdS 66 w' s (qrows U.length f)) := by
 refine (rSolve_any us hs as_ U H A w hR hA 0 (Lib.hid he.symm)).mono ?_
 rintro e w' ⟨s, rfl, hL, HS⟩
 obtain ⟨-, g, hg, hR1⟩ := HS.out.resolve_left (fun h => h.1 rfl)
 obtain ⟨hk, hc⟩ := Sv.err_spec he
 refine ⟨s, rfl, hL, Lib.hid ?_⟩
 have e : qrows U.length f = qrows U.length g := So.ol_congr fun i hi => by rw [Ns.Pr.uniq (Sv.chk_spec hk).1.ok hc hf.1 hg.1 i hi]
 rw [e]; exact hR1
theorem ssolve_c (us hs as_ : Value) (U : List Int) (H : List (List Int)) (A : List Int) (w : World) (hR : RdN w us hs U H) (hA : RdI w as_ A) (he : Sv.err U H A = 351) :
    Calls Tryz.prog 26 #[.agg #[us, hs], as_] w fun e w' => e = .returned (.tuple #[.slice none 0 0, .int .i64 351]) ∧ Below w.heap.size w w' := by
 refine (ssolve_any us hs as_ U H A w hR hA 351 (Lib.hid he.symm)).mono ?_
 rintro e w' ⟨s, rfl, hL, HS⟩
 obtain ⟨_, rfl⟩ := HS.out.resolve_right (fun h => absurd h.1 (by decide))
 exact ⟨rfl, hL⟩
end Go.Proofs.YtckhdiljihhdmaaGreat
