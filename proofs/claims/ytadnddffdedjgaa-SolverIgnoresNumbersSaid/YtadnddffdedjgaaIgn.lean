/- The law SolverIgnoresNumbers, walked. -/
import Derived.Test.YtadnddffdedjgaaSyQ
namespace Go.Proofs.Ytadnddffdedjgaa
set_option maxRecDepth 8000
open Go.RowKit
/-- The turned nest in the making. -/
structure Ig.Inv (n t : Nat) (b : Int) (U : List Int) (H : List (List Int)) (As : List Int) (i : Nat) (Ub Ob : List Int) (vs : List Value) (rb : List Nat) (Hc : List (List Int)) : Prop where
  lu : Ub.length = n
  lo : Ob.length = n
  lv : vs.length = n
  lr : rb.length = i
  lh : Hc.length = i
  hu : ∀ k, k < i → Ns.gu Ub (Ns.rt n t k) = Ns.gu U k * b
  ho : ∀ k, k < i → Ns.gu Ob (Ns.rt n t k) = Ns.gu As k
  hv : ∀ k c, rb[k]? = some c → vs[Ns.rt n t k]? = some (.slice (some ⟨c, 0, none⟩) n n)
  hl : ∀ l ∈ Hc, l.length = n
  hh : ∀ k j, k < i → j < n → Ns.gu (Hc.getD k []) (Ns.rt n t j) = Ns.gh H k j * b
  hb : ∀ a ∈ Ob, -1000000000000000 ≤ a ∧ a ≤ 1000000000000000
theorem Ig.gu_set {l : List Int} {k m : Nat} {x : Int} (hk : k < l.length) : Ns.gu (l.set k x) m = if m = k then x else Ns.gu l m := by
  unfold Ns.gu
  rw [List.getD_eq_getElem?_getD, List.getElem?_set]
  by_cases e : m = k
  · subst e; rw [if_pos rfl, if_pos hk, if_pos rfl]; rfl
  · rw [if_neg (fun h => e h.symm), if_neg e, ← List.getD_eq_getElem?_getD]
theorem Ig.Inv.start {n t : Nat} {b : Int} {U As : List Int} {H : List (List Int)} : Ig.Inv n t b U H As 0 (List.replicate n 0) (List.replicate n 0) (List.replicate n (.slice none 0 0)) [] [] :=
  ⟨by simp, by simp, by simp, rfl, rfl, fun k hk => by omega, fun k hk => by omega, fun k c h => by simp at h, fun l h => by simp at h, fun k j hk => by omega, fun a h => by rw [List.eq_of_mem_replicate h]; decide⟩
theorem Ig.Inv.step {n t : Nat} {b : Int} {U As : List Int} {H : List (List Int)} {i : Nat} {Ub Ob : List Int} {vs : List Value} {rb : List Nat} {Hc : List (List Int)} (I : Ig.Inv n t b U H As i Ub Ob vs rb Hc) (ht : t < n) (hi : i < n) {l : List Int} {br : Nat} (hl : l.length = n) (hr : ∀ j, j < n → Ns.gu l (Ns.rt n t j) = Ns.gh H i j * b) {x a : Int} (hx : x = Ns.gu U i * b) (ha : a = Ns.gu As i) (hab : -1000000000000000 ≤ a ∧ a ≤ 1000000000000000) :
    Ig.Inv n t b U H As (i + 1) (Ub.set (Ns.rt n t i) x) (Ob.set (Ns.rt n t i) a) (vs.set (Ns.rt n t i) (.slice (some ⟨br, 0, none⟩) n n)) (rb ++ [br]) (Hc ++ [l]) := by
  have hrt := Ns.rt_lt ht hi
  refine ⟨by simp [I.lu], by simp [I.lo], by simp [I.lv], by simp [I.lr], by simp [I.lh], fun k hk => ?_, fun k hk => ?_, fun k c h => ?_, fun m h => ?_, fun k j hk hj => ?_, fun y h => ?_⟩
  · rw [Ig.gu_set (by rw [I.lu]; exact hrt)]
    by_cases e : k = i
    · subst e; rw [if_pos rfl, hx]
    · rw [if_neg (fun h => e (Ns.rt_inj ht (by omega) hi h))]; exact I.hu k (by omega)
  · rw [Ig.gu_set (by rw [I.lo]; exact hrt)]
    by_cases e : k = i
    · subst e; rw [if_pos rfl, ha]
    · rw [if_neg (fun h => e (Ns.rt_inj ht (by omega) hi h))]; exact I.ho k (by omega)
  · have hkl := (List.getElem?_eq_some_iff.1 h).1
    rw [List.length_append, List.length_singleton, I.lr] at hkl
    rw [List.getElem?_set]
    by_cases e : k = i
    · subst e
      rw [if_pos rfl, if_pos (by rw [I.lv]; exact hrt)]
      rw [List.getElem?_append_right (by rw [I.lr]; exact Nat.le_refl _), I.lr, Nat.sub_self] at h
      injection h with h; subst h; rfl
    · rw [if_neg (fun h => e (Ns.rt_inj ht hi (by omega) h).symm)]
      rw [List.getElem?_append_left (by rw [I.lr]; omega)] at h
      exact I.hv k c h
  · rcases List.mem_append.1 h with h | h
    · exact I.hl m h
    · rw [List.mem_singleton.1 h]; exact hl
  · rw [List.getD_eq_getElem?_getD]
    by_cases e : k = i
    · subst e
      rw [List.getElem?_append_right (by rw [I.lh]; exact Nat.le_refl _), I.lh, Nat.sub_self]
      exact hr j hj
    · rw [List.getElem?_append_left (by rw [I.lh]; omega), ← List.getD_eq_getElem?_getD]
      exact I.hh k j (by omega) hj
  · rcases List.mem_or_eq_of_mem_set h with h | rfl
    · exact I.hb y h
    · exact hab
theorem Ig.Inv.tn {n t : Nat} {b : Int} {U As : List Int} {H : List (List Int)} {Ub Ob : List Int} {vs : List Value} {rb : List Nat} {Hc : List (List Int)} (I : Ig.Inv n t b U H As n Ub Ob vs rb Hc) (ht : t < n) : Ns.Tn n t b (Ns.gu U) (Ns.gu Ub) (Ns.gh H) (Ns.gh (Ns.tl n t Hc)) :=
  ⟨I.hu, fun i j hi hj => by rw [Ns.tl_gh ht hi]; exact I.hh i j hi hj⟩
set_option maxRecDepth 100000 in
set_option maxHeartbeats 8000000 in
theorem ign_any (A : Option Addr) (xs : List Int) (c0 : Nat) (turn by_ : Int) (W : World) (hI : IntsAt W A xs) (hxl : xs.length ≤ 9223372036854775807) (_ : -9223372036854775808 ≤ turn) (_ : turn < 9223372036854775808) (_ : -9223372036854775808 ≤ by_) (_ : by_ < 9223372036854775808) :
    Calls Try.prog 6 #[.slice A xs.length c0, .int .i64 turn, .int .i64 by_] W fun e w' => e = .returned (.bool true) ∧ Below W.heap.size W w' := by
  have HM := Mem.start W
  have HI := Lib.hid hI
  have eli : elemB 22 3 1 8 = true := by kernel_rfl
  have elh : elemB 23 22 1 24 = true := by kernel_rfl
  have zi := za_i
  have zl := za_sl
  have zn := za_nest
  clear hI
  go_enter Try.func6, Try.ntmps6
  go_upto_region 2 with (first | (go_at_call 15; (with_reducible refine (snew_any _ _ _ _).mono ?_); rintro e9 w2 ⟨tb, rfl, HM1⟩; replace HM := HM.join HM1; clear HM1) | (first | ((with_reducible refine g_ld ?_); refine a_ld HM ?_) | ((with_reducible refine g_st ?_); refine a_st HM ?_; clear HM; intro w1 HM) | ((with_reducible refine g_al ?_); refine a_al HM ?_; clear HM; intro bk w1 HM) | ((with_reducible refine g_bx ?_); refine a_bx HM ?_; clear HM; intro bk w1 HM) | ((with_reducible refine g_bld ?_); refine a_bld ?_)))
  replace HM : Mem W [] [(tb, #[Value.slice A xs.length c0, Value.int IntKind.i64 0])] w2 := HM
  have HC : Hid (TapeC W 0 #[.slice A xs.length c0, .int .i64 0]) := ⟨A, xs, c0, 0, rfl, by omega, by omega, HI.out, hxl⟩
  clear HI
  go_upto_region 3 with (first | first | (go_at_call 16; refine (snest_any 4 false tb 0 _ [] W _ HM HC (by omega) (by omega)).mono ?_; rintro e9 w2 ⟨n, bu, bh, U, H, rb, c1, rfl, hn, hUL, hRL, HMD, HC1, HM1⟩; replace HM := HM1; replace HC := HC1; clear HM1 HC1) | ((with_reducible refine g_st ?_); refine a_st (v := .agg #[_, _]) HM ?_ (hv := sa_nest _ _ rfl rfl); clear HM; intro w1 HM) | (first | ((with_reducible refine g_ld ?_); refine a_ld HM ?_) | ((with_reducible refine g_st ?_); refine a_st HM ?_; clear HM; intro w1 HM) | ((with_reducible refine g_al ?_); refine a_al HM ?_; clear HM; intro bk w1 HM) | ((with_reducible refine g_bx ?_); refine a_bx HM ?_; clear HM; intro bk w1 HM) | ((with_reducible refine g_bld ?_); refine a_bld ?_)))
  obtain ⟨b8, rfl⟩ := HM.nm0
  have n0 := la_n0 (.slice (some ⟨bu, 0, none⟩) n n) (.slice (some ⟨bh, 0, none⟩) n n)
  have n1 := la_n1 (.slice (some ⟨bu, 0, none⟩) n n) (.slice (some ⟨bh, 0, none⟩) n n)
  have n2 := la_nest (.slice (some ⟨bu, 0, none⟩) n n) (.slice (some ⟨bh, 0, none⟩) n n)
  go_upto_region 5 with (first | (go_at_call 17; refine (sassets_any n true tb _ c1 ((b8, #[.slice (some ⟨bu, 0, none⟩) n n, .slice (some ⟨bh, 0, none⟩) n n]) :: (bu, rowsOf (U.map ic)) :: (bh, rowsOf ((rv n rb).map vc)) :: (NR rb H ++ [])) W _ HM.pick HC (by omega) (by omega)).mono ?_; rintro e9 w2 ⟨ba, As, c2, rfl, hAL, HAP, HC2, HM1⟩; replace HM := HM1; clear HM1 HC2) | (first | ((with_reducible refine g_ld ?_); refine a_ld HM ?_) | ((with_reducible refine g_st ?_); refine a_st HM ?_; clear HM; intro w1 HM) | ((with_reducible refine g_al ?_); refine a_al HM ?_; clear HM; intro bk w1 HM) | ((with_reducible refine g_bx ?_); refine a_bx HM ?_; clear HM; intro bk w1 HM) | ((with_reducible refine g_bld ?_); refine a_bld ?_)))
  by_cases hn0 : n = 0
  · have hn1 : (n : Int) = 0 := by omega
    go_wp2_with (first | (go_at_call 11; ((with_reducible refine (awake35_any _).mono ?_); rintro e9 w2 ⟨rfl, hL⟩; replace HM := HM.call hL; clear hL)) | (first | ((with_reducible refine g_ld ?_); refine a_ld HM ?_) | ((with_reducible refine g_st ?_); refine a_st HM ?_; clear HM; intro w1 HM) | ((with_reducible refine g_al ?_); refine a_al HM ?_; clear HM; intro bk w1 HM) | ((with_reducible refine g_bx ?_); refine a_bx HM ?_; clear HM; intro bk w1 HM) | ((with_reducible refine g_bld ?_); refine a_bld ?_)))
    go_ret
    exact ⟨rfl, HM.low⟩
  have hn1 : ¬ (n : Int) = 0 := by omega
  have inA := Sv.asset_in HAP.out
  have hok := HMD.out.good.ok
  have hAn : As.length = n := by rw [hAL]
  obtain ⟨herrA, hnc⟩ := Sv.made_err HMD.out (A := As) (by omega) inA
  have HEA := Lib.hid herrA.symm
  have hN : RdN w2 (.slice (some ⟨bu, 0, none⟩) n n) (.slice (some ⟨bh, 0, none⟩) n n) U H :=
    rdN_own (bu := bu) (bh := bh) (rb := rb) HM hUL (by rw [← hUL]; exact HMD.out.good.sh.2) hRL (by rw [← hUL]; exact HMD.out.lens) (by simp) (by simp) (fun q hq => by simp [hq])
  have hAS : RdI w2 (.slice (some ⟨ba, 0, none⟩) n n) As := by
    have := (own_ints (b := ba) (A := As)).rd HM (by simp)
    rwa [hAL] at this
  have hbx : Rbk w2 b8 #[.slice (some ⟨bu, 0, none⟩) n n, .slice (some ⟨bh, 0, none⟩) n n] := (HM.get (by ((repeat (first | exact Look.here | refine Look.there ?_)); done))).rbk
  have HBX := Lib.hid hbx
  have HN1 := Lib.hid hN
  have HAS1 := Lib.hid hAS
  have HB2 := Lib.hid HM.low
  have HUB : Hid (∀ i, i < n → 0 ≤ Ns.gu U i ∧ Ns.gu U i ≤ 1000000) := Lib.hid (fun i hi => ⟨hok.u0 i (by omega), HMD.out.small i (by omega)⟩)
  have HHB : Hid (∀ i j, i < n → j < n → 0 ≤ Ns.gh H i j ∧ Ns.gh H i j ≤ 1000000) := Lib.hid (fun i j hi hj => by
    have h1 := HMD.out.small j (by omega)
    have h2 := hok.h0 i j (by omega) (by omega)
    have h3 := hok.le (i := i) (j := j) (by omega) (by omega)
    omega)
  have HSH : Hid (H.length = n) := Lib.hid (by rw [← hUL]; exact HMD.out.good.sh.2)
  have HRW : Hid (∀ l ∈ H, l.length = n) := Lib.hid (by rw [← hUL]; exact HMD.out.lens)
  have HUL := Lib.hid hUL
  have HRL := Lib.hid hRL
  have HAL := Lib.hid hAL
  have HIN := Lib.hid inA
  have HOK := Lib.hid hok
  have HNC := Lib.hid hnc
  clear hbx hN hAS HM herrA hUL hRL hAL hAn inA hok hnc HC
  have HM := Mem.start w2
  obtain ⟨z, hz⟩ : ∃ z, Hid (z = Sc.md turn n) := ⟨_, Lib.hid rfl⟩
  obtain ⟨hz0, hz1⟩ := Sc.md_in (v := turn) (n := n) (by omega)
  rw [← hz.out] at hz0 hz1
  obtain ⟨t, rfl⟩ : ∃ k : Nat, z = k := ⟨z.toNat, by omega⟩
  have htn : t < n := by omega
  obtain ⟨p, hp⟩ : ∃ p, Hid (p = Sc.md by_ 1000) := ⟨_, Lib.hid rfl⟩
  obtain ⟨hp0, hp1⟩ := Sc.md_in (v := by_) (n := 1000) (by decide)
  rw [← hp.out] at hp0 hp1
  go_upto_region 8 with (first | first
    | (go_at_call 23; ((with_reducible refine (smod_any turn n t _ (by omega) (by omega) hz).mono ?_); rintro e9 w2 ⟨rfl, rfl⟩))
    | (go_at_call 23; ((with_reducible refine (smod_any by_ 1000 p _ (by decide) (by decide) hp).mono ?_); rintro e9 w2 ⟨rfl, rfl⟩)) | (first | ((with_reducible refine g_ld ?_); refine a_ld HM ?_) | ((with_reducible refine g_st ?_); refine a_st HM ?_; clear HM; intro w1 HM) | ((with_reducible refine g_al ?_); refine a_al HM ?_; clear HM; intro bk w1 HM) | ((with_reducible refine g_bx ?_); refine a_bx HM ?_; clear HM; intro bk w1 HM) | ((with_reducible refine g_bld ?_); refine a_bld ?_)))
  obtain ⟨b, hb⟩ : ∃ b, b = 1 + p := ⟨_, rfl⟩
  have hb0 : 1 ≤ b := by omega
  have hb1 : b ≤ 1000 := by omega
  rw [← hb]
  clear hb hp hp0 hp1 hz hz0 hz1 HAP
  go_cut [11] (fun p wc => ∃ b11 cu ch, p = .pointer (some ⟨b11, 0, none⟩) ∧ Mem w2 [] ((b11, #[.slice (some ⟨cu, 0, none⟩) n n, .slice (some ⟨ch, 0, none⟩) n n]) :: (ch, rowsOf (List.replicate n (vc (.slice none 0 0)))) :: (cu, rowsOf (List.replicate n (ic 0))) :: []) wc)
  case first =>
    refine start_M [6] HM (by kernel_rfl) (fun w0x H9 => ?_)
    replace HM := H9; clear H9
    refine k_mv 0 (heldF HM) ?_
    refine k_mv 2 (heldF HM) ?_
    refine three_L (i := 1) (j := 3) (k := 5) (by kernel_rfl) (op_L rfl (by rfl) ?_) (op_L rfl (by rfl) ?_) (op_L rfl (by rfl) ?_)
    · refine j_mks n HM ?_ (by omega); clear HM; intro bu w1 HM
      refine ⟨(heldF HM), ?_⟩; ((try simp only [List.setIfInBounds_toArray]); (try simp only [List.set_cons_succ]); (try simp only [List.set_cons_zero]))
      refine j_two 3 5 ?_ ?_
      · refine j_mks n HM ?_ (by omega); clear HM; intro bh w1 HM
        refine ⟨(heldF HM), ?_⟩; ((try simp only [List.setIfInBounds_toArray]); (try simp only [List.set_cons_succ]); (try simp only [List.set_cons_zero]))
        refine t_pure (i := 4) (v := .agg #[.slice (some ⟨bu, 0, none⟩) n n, .slice (some ⟨bh, 0, none⟩) n n]) rfl rfl (by kernel_rfl) (fun _ _ _ h => h) (heldF HM) (by rfl) ?_ ?_; (focus ((intro w9; first | (go_simp; done) | (go_simp; rfl)))); ((try simp only [List.setIfInBounds_toArray]); (try simp only [List.set_cons_succ]); (try simp only [List.set_cons_zero]))
        refine j_one 5 fun K9 hK9 => ?_
        refine j_al HM ?_; clear HM; intro bk w1 HM
        refine hK9 _ _ (heldF HM) ?_; clear hK9 K9
        refine j_one 6 fun K9 hK9 => ?_
        refine j_st HM ?_ (hv := sa_nest _ _ rfl rfl); clear HM; intro w1 HM
        refine hK9 _ _ heldN ?_; clear hK9 K9; ((try simp only [List.setIfInBounds_toArray]); (try simp only [List.set_cons_succ]); (try simp only [List.set_cons_zero]))
        refine wpAnyL_done (by kernel_rfl) ?_ _
        (go_wp2_with fail; go_meet; (case rel => exact ⟨_, _, _, rfl, HM.pick⟩))
      · refine j_al HM ?_; clear HM; intro bk w1 HM
        refine ⟨(heldF HM), ?_⟩
        refine j_one 3 fun K9 hK9 => ?_
        refine j_mks n HM ?_ (by omega); clear HM; intro bh w1 HM
        refine hK9 _ _ (heldF HM) ?_; clear hK9 K9; ((try simp only [List.setIfInBounds_toArray]); (try simp only [List.set_cons_succ]); (try simp only [List.set_cons_zero]))
        refine t_pure (i := 4) (v := .agg #[.slice (some ⟨bu, 0, none⟩) n n, .slice (some ⟨bh, 0, none⟩) n n]) rfl rfl (by kernel_rfl) (fun _ _ _ h => h) (heldF HM) (by rfl) ?_ ?_; (focus ((intro w9; first | (go_simp; done) | (go_simp; rfl)))); ((try simp only [List.setIfInBounds_toArray]); (try simp only [List.set_cons_succ]); (try simp only [List.set_cons_zero]))
        refine j_one 6 fun K9 hK9 => ?_
        refine j_st HM ?_ (hv := sa_nest _ _ rfl rfl); clear HM; intro w1 HM
        refine hK9 _ _ heldN ?_; clear hK9 K9; ((try simp only [List.setIfInBounds_toArray]); (try simp only [List.set_cons_succ]); (try simp only [List.set_cons_zero]))
        refine wpAnyL_done (by kernel_rfl) ?_ _
        (go_wp2_with fail; go_meet; (case rel => exact ⟨_, _, _, rfl, HM.pick⟩))
    · refine j_mks n HM ?_ (by omega); clear HM; intro bh w1 HM
      refine ⟨(heldF HM), ?_⟩; ((try simp only [List.setIfInBounds_toArray]); (try simp only [List.set_cons_succ]); (try simp only [List.set_cons_zero]))
      refine j_two 1 5 ?_ ?_
      · refine j_mks n HM ?_ (by omega); clear HM; intro bu w1 HM
        refine ⟨(heldF HM), ?_⟩; ((try simp only [List.setIfInBounds_toArray]); (try simp only [List.set_cons_succ]); (try simp only [List.set_cons_zero]))
        refine t_pure (i := 4) (v := .agg #[.slice (some ⟨bu, 0, none⟩) n n, .slice (some ⟨bh, 0, none⟩) n n]) rfl rfl (by kernel_rfl) (fun _ _ _ h => h) (heldF HM) (by rfl) ?_ ?_; (focus ((intro w9; first | (go_simp; done) | (go_simp; rfl)))); ((try simp only [List.setIfInBounds_toArray]); (try simp only [List.set_cons_succ]); (try simp only [List.set_cons_zero]))
        refine j_one 5 fun K9 hK9 => ?_
        refine j_al HM ?_; clear HM; intro bk w1 HM
        refine hK9 _ _ (heldF HM) ?_; clear hK9 K9
        refine j_one 6 fun K9 hK9 => ?_
        refine j_st HM ?_ (hv := sa_nest _ _ rfl rfl); clear HM; intro w1 HM
        refine hK9 _ _ heldN ?_; clear hK9 K9; ((try simp only [List.setIfInBounds_toArray]); (try simp only [List.set_cons_succ]); (try simp only [List.set_cons_zero]))
        refine wpAnyL_done (by kernel_rfl) ?_ _
        (go_wp2_with fail; go_meet; (case rel => exact ⟨_, _, _, rfl, HM.pick⟩))
      · refine j_al HM ?_; clear HM; intro bk w1 HM
        refine ⟨(heldF HM), ?_⟩
        refine j_one 1 fun K9 hK9 => ?_
        refine j_mks n HM ?_ (by omega); clear HM; intro bu w1 HM
        refine hK9 _ _ (heldF HM) ?_; clear hK9 K9; ((try simp only [List.setIfInBounds_toArray]); (try simp only [List.set_cons_succ]); (try simp only [List.set_cons_zero]))
        refine t_pure (i := 4) (v := .agg #[.slice (some ⟨bu, 0, none⟩) n n, .slice (some ⟨bh, 0, none⟩) n n]) rfl rfl (by kernel_rfl) (fun _ _ _ h => h) (heldF HM) (by rfl) ?_ ?_; (focus ((intro w9; first | (go_simp; done) | (go_simp; rfl)))); ((try simp only [List.setIfInBounds_toArray]); (try simp only [List.set_cons_succ]); (try simp only [List.set_cons_zero]))
        refine j_one 6 fun K9 hK9 => ?_
        refine j_st HM ?_ (hv := sa_nest _ _ rfl rfl); clear HM; intro w1 HM
        refine hK9 _ _ heldN ?_; clear hK9 K9; ((try simp only [List.setIfInBounds_toArray]); (try simp only [List.set_cons_succ]); (try simp only [List.set_cons_zero]))
        refine wpAnyL_done (by kernel_rfl) ?_ _
        (go_wp2_with fail; go_meet; (case rel => exact ⟨_, _, _, rfl, HM.pick⟩))
    · refine j_al HM ?_; clear HM; intro bk w1 HM
      refine ⟨(heldF HM), ?_⟩
      refine j_two 1 3 ?_ ?_
      · refine j_mks n HM ?_ (by omega); clear HM; intro bu w1 HM
        refine ⟨(heldF HM), ?_⟩; ((try simp only [List.setIfInBounds_toArray]); (try simp only [List.set_cons_succ]); (try simp only [List.set_cons_zero]))
        refine j_one 3 fun K9 hK9 => ?_
        refine j_mks n HM ?_ (by omega); clear HM; intro bh w1 HM
        refine hK9 _ _ (heldF HM) ?_; clear hK9 K9; ((try simp only [List.setIfInBounds_toArray]); (try simp only [List.set_cons_succ]); (try simp only [List.set_cons_zero]))
        refine t_pure (i := 4) (v := .agg #[.slice (some ⟨bu, 0, none⟩) n n, .slice (some ⟨bh, 0, none⟩) n n]) rfl rfl (by kernel_rfl) (fun _ _ _ h => h) (heldF HM) (by rfl) ?_ ?_; (focus ((intro w9; first | (go_simp; done) | (go_simp; rfl)))); ((try simp only [List.setIfInBounds_toArray]); (try simp only [List.set_cons_succ]); (try simp only [List.set_cons_zero]))
        refine j_one 6 fun K9 hK9 => ?_
        refine j_st HM ?_ (hv := sa_nest _ _ rfl rfl); clear HM; intro w1 HM
        refine hK9 _ _ heldN ?_; clear hK9 K9; ((try simp only [List.setIfInBounds_toArray]); (try simp only [List.set_cons_succ]); (try simp only [List.set_cons_zero]))
        refine wpAnyL_done (by kernel_rfl) ?_ _
        (go_wp2_with fail; go_meet; (case rel => exact ⟨_, _, _, rfl, HM.pick⟩))
      · refine j_mks n HM ?_ (by omega); clear HM; intro bh w1 HM
        refine ⟨(heldF HM), ?_⟩; ((try simp only [List.setIfInBounds_toArray]); (try simp only [List.set_cons_succ]); (try simp only [List.set_cons_zero]))
        refine j_one 1 fun K9 hK9 => ?_
        refine j_mks n HM ?_ (by omega); clear HM; intro bu w1 HM
        refine hK9 _ _ (heldF HM) ?_; clear hK9 K9; ((try simp only [List.setIfInBounds_toArray]); (try simp only [List.set_cons_succ]); (try simp only [List.set_cons_zero]))
        refine t_pure (i := 4) (v := .agg #[.slice (some ⟨bu, 0, none⟩) n n, .slice (some ⟨bh, 0, none⟩) n n]) rfl rfl (by kernel_rfl) (fun _ _ _ h => h) (heldF HM) (by rfl) ?_ ?_; (focus ((intro w9; first | (go_simp; done) | (go_simp; rfl)))); ((try simp only [List.setIfInBounds_toArray]); (try simp only [List.set_cons_succ]); (try simp only [List.set_cons_zero]))
        refine j_one 6 fun K9 hK9 => ?_
        refine j_st HM ?_ (hv := sa_nest _ _ rfl rfl); clear HM; intro w1 HM
        refine hK9 _ _ heldN ?_; clear hK9 K9; ((try simp only [List.setIfInBounds_toArray]); (try simp only [List.set_cons_succ]); (try simp only [List.set_cons_zero]))
        refine wpAnyL_done (by kernel_rfl) ?_ _
        (go_wp2_with fail; go_meet; (case rel => exact ⟨_, _, _, rfl, HM.pick⟩))
  case rest =>
    clear HM
    obtain ⟨b11, cu, ch, rfl, HM⟩ := hcut
    go_step
    go_upto_region 10 with (first | ((with_reducible refine g_mks ?_); refine a_mks n HM ?_ (by omega); clear HM; intro bk w1 HM) | (first | ((with_reducible refine g_ld ?_); refine a_ld HM ?_) | ((with_reducible refine g_st ?_); refine a_st HM ?_; clear HM; intro w1 HM) | ((with_reducible refine g_al ?_); refine a_al HM ?_; clear HM; intro bk w1 HM) | ((with_reducible refine g_bx ?_); refine a_bx HM ?_; clear HM; intro bk w1 HM) | ((with_reducible refine g_bld ?_); refine a_bld ?_)))
    obtain ⟨co, rfl⟩ := HM.nm0
    replace HM : Mem w2 [] ((b11, #[.slice (some ⟨cu, 0, none⟩) n n, .slice (some ⟨ch, 0, none⟩) n n]) :: (ch, rowsOf (List.replicate n (vc (.slice none 0 0)))) :: (cu, rowsOf (List.replicate n (ic 0))) :: (co, rowsOf (List.replicate n (ic 0))) :: (NR [] [] ++ [])) _ := HM.pick
    rw [← List.map_replicate (f := vc), ← List.map_replicate (f := ic)] at HM
    go_wp2_with (first | fail | (first | ((with_reducible refine g_ld ?_); refine a_ld HM ?_) | ((with_reducible refine g_st ?_); refine a_st HM ?_; clear HM; intro w1 HM) | ((with_reducible refine g_al ?_); refine a_al HM ?_; clear HM; intro bk w1 HM) | ((with_reducible refine g_bx ?_); refine a_bx HM ?_; clear HM; intro bk w1 HM) | ((with_reducible refine g_bld ?_); refine a_bld ?_)))
    go_loopw [13] (fun iv wr => ∃ (i : Nat) (Ub Ob : List Int) (vs : List Value) (rc : List Nat) (Hc : List (List Int)), iv = .int .i64 (i : Nat) ∧ i ≤ n ∧ Hid (Ig.Inv n t b U H As i Ub Ob vs rc Hc) ∧ Mem w2 [] ((b11, #[.slice (some ⟨cu, 0, none⟩) n n, .slice (some ⟨ch, 0, none⟩) n n]) :: (ch, rowsOf (vs.map vc)) :: (cu, rowsOf (Ub.map ic)) :: (co, rowsOf (Ob.map ic)) :: (NR rc Hc ++ [])) wr) (fun iv _ => n - (intOf iv).toNat)
    case atStart => exact ⟨0, _, _, _, [], [], rfl, by omega, Lib.hid Ig.Inv.start, HM⟩
    case round =>
      clear HM
      obtain ⟨i, Ub, Ob, vs, rc, Hc, rfl, hi, HG, HM⟩ := hrel
      have m0 := la_n0 (.slice (some ⟨cu, 0, none⟩) n n) (.slice (some ⟨ch, 0, none⟩) n n)
      have m1 := la_n1 (.slice (some ⟨cu, 0, none⟩) n n) (.slice (some ⟨ch, 0, none⟩) n n)
      by_cases hit : i < n
      · have hit1 : (i : Int) < n := by omega
        obtain ⟨k, hk⟩ : ∃ k, Hid (k = Ns.rt n t i) := ⟨_, Lib.hid rfl⟩
        have hkn : k < n := by rw [hk.out]; exact Ns.rt_lt htn hit
        have hrm : ((i : Int) + t).tmod n = k := by
          rw [hk.out, ← Ns.rt_mod htn hit, Int.tmod_eq_emod_of_nonneg (by omega)]; rfl
        have hrm2 : ((i : Int) + t) % n = k := by rw [hk.out, ← Ns.rt_mod htn hit]; rfl
        go_upto_region 14 with (first | fail | (first | ((with_reducible refine g_ld ?_); refine a_ld HM ?_) | ((with_reducible refine g_st ?_); refine a_st HM ?_; clear HM; intro w1 HM) | ((with_reducible refine g_al ?_); refine a_al HM ?_; clear HM; intro bk w1 HM) | ((with_reducible refine g_bx ?_); refine a_bx HM ?_; clear HM; intro bk w1 HM) | ((with_reducible refine g_bld ?_); refine a_bld ?_)))
        obtain ⟨u, hu⟩ : ∃ u, U[i]? = some u := ⟨_, List.getElem?_eq_getElem (by rw [HUL.out]; exact hit)⟩
        obtain ⟨bU, offU, csU, e, HBU, ku⟩ := HN1.out.u.at_ hu
        injection e with e
        injection e with e1 e2
        subst e1 e2
        rw [Nat.zero_add] at ku
        have EU : Hid (u = Ns.gu U i) := Lib.hid (Ns.gu_at hu).symm
        obtain ⟨a, ha⟩ : ∃ a, As[i]? = some a := ⟨_, List.getElem?_eq_getElem (by rw [HAL.out]; exact hit)⟩
        obtain ⟨bA, offA, csA, e, HBA, ka⟩ := HAS1.out.at_ ha
        injection e with e
        injection e with e1 e2
        subst e1 e2
        rw [Nat.zero_add] at ka
        have EA : Hid (a = Ns.gu As i) := Lib.hid (Ns.gu_at ha).symm
        have EAB : Hid (-1000000000000000 ≤ a ∧ a ≤ 1000000000000000) := Lib.hid (HIN.out a (List.mem_of_getElem? ha))
        have hub := HUB.out i hit
        rw [← EU.out] at hub
        obtain ⟨hub0, hub1⟩ := hub
        have hm0 : 0 ≤ u * b := Int.mul_nonneg hub0 (by omega)
        have hm1 : u * b ≤ 1000000000 := Int.le_trans (Int.mul_le_mul hub1 hb1 (by omega) (by decide)) (by decide)
        obtain ⟨l0, hl0⟩ : ∃ l, H[i]? = some l := ⟨_, List.getElem?_eq_getElem (by rw [HSH.out]; exact hit)⟩
        obtain ⟨bh2, offh, csh, A2, c2', e, HBH, kh, HL⟩ := HN1.out.h.at_ hl0
        injection e with e
        injection e with e1 e2
        subst e1 e2
        rw [Nat.zero_add] at kh
        have hll := HRW.out l0 (List.mem_of_getElem? hl0)
        rw [hll] at kh HL
        have HL0 := Lib.hid hl0
        have HLL := Lib.hid hll
        have su := sa_ints Ub (u * b) (i := k) (by rw [HG.out.lu]; exact hkn)
        have so := sa_ints Ob a (i := k) (by rw [HG.out.lo]; exact hkn)
        have hkv : k < vs.length := by rw [HG.out.lv]; exact hkn
        have hkn1 : (k : Int) < n := by omega
        clear hu ha hl0 hll hrm hrm2
        go_cut [] (fun wc => ∃ br : Nat, Mem w2 [] ((br, rowsOf (List.replicate n (ic 0))) :: (b11, #[.slice (some ⟨cu, 0, none⟩) n n, .slice (some ⟨ch, 0, none⟩) n n]) :: (ch, rowsOf ((vs.set k (.slice (some ⟨br, 0, none⟩) n n)).map vc)) :: (cu, rowsOf ((Ub.set k (u * b)).map ic)) :: (co, rowsOf ((Ob.set k a).map ic)) :: (NR rc Hc ++ [])) wc)
        case first =>
          refine start_M2 [] HM ((Sub.keep Sub.nil)) (by kernel_rfl) (fun w0x H9 => ?_)
          replace HM := H9; clear H9
          refine k_fa 0 (heldF HM) ?_
          refine k_ld 1 [] (heldF HM) ?_
          refine k_mv 2 (heldF HM) ?_
          refine k_fa 3 (heldF HM) ?_
          refine k_ld 4 [] (heldF HM) ?_
          refine k_mv 5 (heldF HM) ?_
          refine k_mv 6 (heldF HM) ?_
          refine k_mv 7 (heldF HM) ?_
          refine k_fa 8 (heldF HM) ?_
          refine k_ld 9 [] (heldF HM) ?_
          refine k_mv 10 (heldF HM) ?_
          refine k_ia 11 (heldF HM) ?_
          refine k_ld 12 [] (heldF HM) ?_
          refine k_mv 13 (heldF HM) ?_
          refine k_mul 14 (heldF HM) ?_
          refine k_mv 15 (heldF HM) ?_
          refine k_mv 17 (heldF HM) ?_
          refine k_mv 18 (heldF HM) ?_
          refine k_ia 19 (heldF HM) ?_
          refine k_ld 20 [] (heldF HM) ?_
          refine k_ia 21 (heldF HM) ?_
          refine j_two 16 22 ?_ ?_
          · refine j_mks n HM ?_ (by omega); clear HM; intro br w1 HM
            refine ⟨(heldF HM), ?_⟩; ((try simp only [List.setIfInBounds_toArray]); (try simp only [List.set_cons_succ]); (try simp only [List.set_cons_zero]))
            refine j_one 22 fun K9 hK9 => ?_
            refine j_st HM ?_; clear HM; intro w1 HM
            refine hK9 _ _ (heldF HM) ?_; clear hK9 K9
            refine k_ia 23 (heldF HM) ?_
            refine j_one 24 fun K9 hK9 => ?_
            refine j_st HM ?_ (hv := sa_vals vs (.slice (some ⟨br, 0, none⟩) n n) hkv rfl); clear HM; intro w1 HM
            refine hK9 _ _ (heldF HM) ?_; clear hK9 K9; ((try simp only [List.setIfInBounds_toArray]); (try simp only [List.set_cons_succ]); (try simp only [List.set_cons_zero]))
            refine k_ia 25 (heldF HM) ?_
            refine j_one 26 fun K9 hK9 => ?_
            refine j_st HM ?_; clear HM; intro w1 HM
            refine hK9 _ _ (heldF HM) ?_; clear hK9 K9
            refine wpAnyL_done (by kernel_rfl) ?_ _
            (go_wp2_with fail; go_meet; (case rel => exact ⟨_, HM⟩))
          · refine j_st HM ?_; clear HM; intro w1 HM
            refine ⟨(heldF HM), ?_⟩
            refine j_one 16 fun K9 hK9 => ?_
            refine j_mks n HM ?_ (by omega); clear HM; intro br w1 HM
            refine hK9 _ _ (heldF HM) ?_; clear hK9 K9; ((try simp only [List.setIfInBounds_toArray]); (try simp only [List.set_cons_succ]); (try simp only [List.set_cons_zero]))
            refine k_ia 23 (heldF HM) ?_
            refine j_one 24 fun K9 hK9 => ?_
            refine j_st HM ?_ (hv := sa_vals vs (.slice (some ⟨br, 0, none⟩) n n) hkv rfl); clear HM; intro w1 HM
            refine hK9 _ _ (heldF HM) ?_; clear hK9 K9; ((try simp only [List.setIfInBounds_toArray]); (try simp only [List.set_cons_succ]); (try simp only [List.set_cons_zero]))
            refine k_ia 25 (heldF HM) ?_
            refine j_one 26 fun K9 hK9 => ?_
            refine j_st HM ?_; clear HM; intro w1 HM
            refine hK9 _ _ (heldF HM) ?_; clear hK9 K9
            refine wpAnyL_done (by kernel_rfl) ?_ _
            (go_wp2_with fail; go_meet; (case rel => exact ⟨_, HM⟩))
        clear HM
        obtain ⟨br, HM⟩ := hcut
        go_step
        obtain ⟨vs', hvs'⟩ : ∃ v, Hid (v = vs.set k (.slice (some ⟨br, 0, none⟩) n n)) := ⟨_, Lib.hid rfl⟩
        obtain ⟨Ub', hUb'⟩ : ∃ v, Hid (v = Ub.set k (u * b)) := ⟨_, Lib.hid rfl⟩
        obtain ⟨Ob', hOb'⟩ : ∃ v, Hid (v = Ob.set k a) := ⟨_, Lib.hid rfl⟩
        rw [← hvs'.out, ← hUb'.out, ← hOb'.out] at HM
        have lv : LA 22 (rowsOf (vs'.map vc)) k (.slice (some ⟨br, 0, none⟩) n n) := la_vals (by rw [hvs'.out, List.getElem?_set]; simp [hkv])
        replace HM : Mem w2 [] ((br, rowsOf (List.replicate n (ic 0))) :: (b11, #[.slice (some ⟨cu, 0, none⟩) n n, .slice (some ⟨ch, 0, none⟩) n n]) :: (ch, rowsOf (vs'.map vc)) :: (cu, rowsOf (Ub'.map ic)) :: (co, rowsOf (Ob'.map ic)) :: (NR rc Hc ++ [])) _ := HM
        rw [← List.map_replicate (f := ic)] at HM
        clear su so hkv hub0 hub1 hm0 hm1 ku ka
        go_wp2_with (first | fail | (first | ((with_reducible refine g_ld ?_); refine a_ld HM ?_) | ((with_reducible refine g_st ?_); refine a_st HM ?_; clear HM; intro w1 HM) | ((with_reducible refine g_al ?_); refine a_al HM ?_; clear HM; intro bk w1 HM) | ((with_reducible refine g_bx ?_); refine a_bx HM ?_; clear HM; intro bk w1 HM) | ((with_reducible refine g_bld ?_); refine a_bld ?_)))
        go_loopw [15] (fun jv wr => ∃ (j : Nat) (l : List Int), jv = .int .i64 (j : Nat) ∧ j ≤ n ∧ Hid (l.length = n) ∧ Hid (∀ m, m < j → Ns.gu l (Ns.rt n t m) = Ns.gh H i m * b) ∧ Mem w2 [] ((br, rowsOf (l.map ic)) :: (b11, #[.slice (some ⟨cu, 0, none⟩) n n, .slice (some ⟨ch, 0, none⟩) n n]) :: (ch, rowsOf (vs'.map vc)) :: (cu, rowsOf (Ub'.map ic)) :: (co, rowsOf (Ob'.map ic)) :: (NR rc Hc ++ [])) wr) (fun jv _ => n - (intOf jv).toNat)
        case atStart => exact ⟨0, _, rfl, by omega, Lib.hid (by simp), Lib.hid (fun m hm => by omega), HM⟩
        case round =>
          clear HM
          obtain ⟨j, l, rfl, hj, HLN, HLV, HM⟩ := hrel
          by_cases hjt : j < n
          · have hjt1 : (j : Int) < n := by omega
            obtain ⟨m, hm⟩ : ∃ m, Hid (m = Ns.rt n t j) := ⟨_, Lib.hid rfl⟩
            have hmn : m < n := by rw [hm.out]; exact Ns.rt_lt htn hjt
            have hmn1 : (m : Int) < n := by omega
            have hrm : ((j : Int) + t).tmod n = m := by
              rw [hm.out, ← Ns.rt_mod htn hjt, Int.tmod_eq_emod_of_nonneg (by omega)]; rfl
            obtain ⟨x, hx⟩ : ∃ x, l0[j]? = some x := ⟨_, List.getElem?_eq_getElem (by rw [HLL.out]; exact hjt)⟩
            have ex := Ns.gh_at HL0.out hx
            obtain ⟨b3, off3, cs3, rfl, HB3, k3⟩ := HL.out.at_ hx
            have hxb := HHB.out i j hit hjt
            rw [ex] at hxb
            obtain ⟨hx0, hx1⟩ := hxb
            have hy0 : 0 ≤ x * b := Int.mul_nonneg hx0 (by omega)
            have hy1 : x * b ≤ 1000000000 := Int.le_trans (Int.mul_le_mul hx1 hb1 (by omega) (by decide)) (by decide)
            have sl := sa_ints l (x * b) (i := m) (by rw [HLN.out]; exact hmn)
            have HLN2 : Hid ((l.set m (x * b)).length = n) := Lib.hid (by rw [List.length_set]; exact HLN.out)
            have HLV2 : Hid (∀ q, q < j + 1 → Ns.gu (l.set m (x * b)) (Ns.rt n t q) = Ns.gh H i q * b) := Lib.hid (fun q hq => by
              rw [Ig.gu_set (by rw [HLN.out]; exact hmn), hm.out]
              by_cases e : q = j
              · subst e; rw [if_pos rfl, ex]
              · rw [if_neg (fun h => e (Ns.rt_inj htn (by omega) hjt h))]; exact HLV.out q (by omega))
            clear hx ex
            go_upto_region 18 with (first | fail | (first | ((with_reducible refine g_ld ?_); refine a_ld HM ?_) | ((with_reducible refine g_st ?_); refine a_st HM ?_; clear HM; intro w1 HM) | ((with_reducible refine g_al ?_); refine a_al HM ?_; clear HM; intro bk w1 HM) | ((with_reducible refine g_bx ?_); refine a_bx HM ?_; clear HM; intro bk w1 HM) | ((with_reducible refine g_bld ?_); refine a_bld ?_)))
            refine start_M [21] HM (by kernel_rfl) (fun w0x H9 => ?_)
            replace HM := H9; clear H9
            refine k_fa 0 (heldF HM) ?_
            refine k_ld 1 [3, 4, 20, 21] (heldF HM) ?_
            refine k_mv 2 (heldF HM) ?_
            refine k_ia 3 (heldF HM) ?_
            refine k_ld 4 [20, 21] (heldF HM) ?_
            refine k_mv 5 (heldF HM) ?_
            refine k_mv 6 (heldF HM) ?_
            refine k_add 7 (heldF HM) ?_
            refine k_mv 8 (heldF HM) ?_
            refine t_pure (i := 9) (v := .int .i64 (m : Nat)) rfl rfl (by kernel_rfl) (fun _ _ _ h => h) (heldF HM) (by rfl) ?_ ?_; (focus ((intro w9; first | (go_simp; done) | (go_simp; rfl)))); ((try simp only [List.setIfInBounds_toArray]); (try simp only [List.set_cons_succ]); (try simp only [List.set_cons_zero]))
            refine k_fa 10 (heldF HM) ?_
            refine k_ld 11 [13, 14, 16, 17, 19, 20, 21] (heldF HM) ?_
            refine k_mv 12 (heldF HM) ?_
            refine k_ia 13 (heldF HM) ?_
            refine k_ld 14 [16, 17, 19, 20, 21] (heldF HM) ?_
            refine k_mv 15 (heldF HM) ?_
            refine k_ia 16 (heldF HM) ?_
            refine k_ld 17 [19, 20, 21] (heldF HM) ?_
            refine k_mv 18 (heldF HM) ?_
            refine k_mul 19 (heldF HM) ?_
            refine k_ia 20 (heldF HM) ?_
            refine j_one 21 fun K9 hK9 => ?_
            refine j_st HM ?_; clear HM; intro w1 HM
            refine hK9 _ _ heldN ?_; clear hK9 K9
            refine wpAnyL_done (by kernel_rfl) ?_ _
            go_wp2_with fail
            go_roundw
            case rel => exact ⟨j + 1, _, by go_num, by omega, HLN2, HLV2, HM⟩
            case measure => simp [intOf]; omega
          · obtain rfl : n = j := by omega
            have HG2 : Hid (Ig.Inv n t b U H As (i + 1) Ub' Ob' vs' (rc ++ [br]) (Hc ++ [l])) := Lib.hid (by
              rw [hvs'.out, hUb'.out, hOb'.out, hk.out]
              exact HG.out.step htn hit HLN.out HLV.out (congrArg (· * b) EU.out) EA.out EAB.out)
            go_wp2_with fail
            go_roundw
            case rel =>
              refine ⟨i + 1, _, _, _, _, _, by go_num, by omega, HG2, ?_⟩
              rw [NR_add _ _ (by rw [HG.out.lr, HG.out.lh])]
              exact HM.pushRow [_, _, _, _]
            case measure => simp [intOf]; omega
      · obtain rfl : n = i := by omega
        have HN9 : Hid (RdN wr (.slice (some ⟨cu, 0, none⟩) n n) (.slice (some ⟨ch, 0, none⟩) n n) Ub (Ns.tl n t Hc)) := Lib.hid (rdN_turn (bu := cu) (bh := ch) (rb := rc) HM htn HG.out.lu HG.out.lh HG.out.lr HG.out.lv HG.out.hl HG.out.hv (by simp) (by simp) (fun q hq => by simp [hq]))
        have HO9 : Hid (RdI wr (.slice (some ⟨co, 0, none⟩) n n) Ob) := Lib.hid (by
          have := (own_ints (b := co) (A := Ob)).rd HM (by simp)
          rwa [HG.out.lo] at this)
        have HT := Lib.hid (HG.out.tn htn)
        have HE9 : Hid (0 = Sv.err Ub (Ns.tl n t Hc) Ob) := Lib.hid (Ns.tn_err HMD.out HUL.out htn hb0 hb1 HG.out.lu (fun k hk => by
          rw [List.getD_eq_getElem?_getD, List.getElem?_eq_getElem (by rw [HG.out.lh]; exact hk)]
          exact HG.out.hl _ (List.getElem_mem _)) HT.out HG.out.lo HG.out.hb).symm
        have HBX9 : Hid (Rbk wr b11 #[.slice (some ⟨cu, 0, none⟩) n n, .slice (some ⟨ch, 0, none⟩) n n]) := Lib.hid (HM.get (by ((repeat (first | exact Look.here | refine Look.there ?_)); done))).rbk
        have HBX1 : Hid (Rbk wr b8 #[.slice (some ⟨bu, 0, none⟩) n n, .slice (some ⟨bh, 0, none⟩) n n]) := Lib.hid (HM.rro HBX.out (by simp))
        have HNg := Lib.hid (HN1.out.below HM.low)
        have HAg := Lib.hid (HAS1.out.below HM.low)
        have HB9 := Lib.hid (below_seq HB2.out HM.low)
        have q2 := la_nest (.slice (some ⟨cu, 0, none⟩) n n) (.slice (some ⟨ch, 0, none⟩) n n)
        have S1 := fun w' (hB : Below wr.heap.size wr w') => ssolve_any _ _ _ U H As w' (HNg.out.below hB) (HAg.out.below hB) 0 HEA
        have S2 := fun w' (hB : Below wr.heap.size wr w') => ssolve_any _ _ _ Ub (Ns.tl n t Hc) Ob w' (HN9.out.below hB) (HO9.out.below hB) 0 HE9
        clear HM HBX HN1 HAS1 HB2
        have HM := Mem.start wr
        go_upto_region 20 with (first | (go_at_call 12; refine (S1 _ HM.low).mono ?_; rintro e9 w5 ⟨s1, rfl, hL1, HS1⟩; replace HM := HM.call hL1) | (first | ((with_reducible refine g_ld ?_); refine a_ld HM ?_) | ((with_reducible refine g_st ?_); refine a_st HM ?_; clear HM; intro w1 HM) | ((with_reducible refine g_al ?_); refine a_al HM ?_; clear HM; intro bk w1 HM) | ((with_reducible refine g_bx ?_); refine a_bx HM ?_; clear HM; intro bk w1 HM) | ((with_reducible refine g_bld ?_); refine a_bld ?_)))
        obtain ⟨-, f, hf, hR1⟩ := HS1.out.resolve_left (fun h => h.1 rfl)
        rw [HUL.out] at hR1
        obtain ⟨A1, p1, rfl⟩ := hR1.form66
        clear HS1 hL1 S1
        go_upto_region 21 with (first | (go_at_call 12; refine (S2 _ HM.low).mono ?_; rintro e9 w6 ⟨s2, rfl, hL2, HS2⟩; replace HM := HM.call hL2) | (first | ((with_reducible refine g_ld ?_); refine a_ld HM ?_) | ((with_reducible refine g_st ?_); refine a_st HM ?_; clear HM; intro w1 HM) | ((with_reducible refine g_al ?_); refine a_al HM ?_; clear HM; intro bk w1 HM) | ((with_reducible refine g_bx ?_); refine a_bx HM ?_; clear HM; intro bk w1 HM) | ((with_reducible refine g_bld ?_); refine a_bld ?_)))
        obtain ⟨-, g, hg, hR2⟩ := HS2.out.resolve_left (fun h => h.1 rfl)
        rw [HG.out.lu] at hR2
        obtain ⟨A2, p2, rfl⟩ := hR2.form66
        have HR1 := Lib.hid (hR1.below hL2)
        have HR2 := Lib.hid hR2
        have HFF := Lib.hid hf.2
        have HFG := Lib.hid hg.2
        have HEQ : Hid (∀ i, i < n → g (Ns.rt n t i) * (b : Rat) = f i) := Lib.hid (by
          have h1 := hf.1
          have h2 := hg.1
          have h3 := HOK.out
          have h4 := HNC.out
          rw [HUL.out] at h1 h3 h4
          rw [HG.out.lu] at h2
          exact HT.out.price htn h3 h4 hb0 HG.out.ho h1 h2)
        rw [HUL.out] at HFF
        rw [HG.out.lu] at HFG
        have HB6 := Lib.hid (below_seq HB9.out HM.low)
        clear HS2 hL2 S2 hR1 hR2 hf hg HM HB9
        have HM := Mem.start w6
        obtain ⟨xb, hxb⟩ : ∃ x : Rat, Hid (x = (b : Rat)) := ⟨_, Lib.hid rfl⟩
        have fb : Rt.Fit xb := by rw [hxb.out]; exact fit_int (by omega)
        have IB := fun w => int_ex b xb (by omega) (by omega) hxb w
        go_wp2_with (first | fail | (first | ((with_reducible refine g_ld ?_); refine a_ld HM ?_) | ((with_reducible refine g_st ?_); refine a_st HM ?_; clear HM; intro w1 HM) | ((with_reducible refine g_al ?_); refine a_al HM ?_; clear HM; intro bk w1 HM) | ((with_reducible refine g_bx ?_); refine a_bx HM ?_; clear HM; intro bk w1 HM) | ((with_reducible refine g_bld ?_); refine a_bld ?_)))
        go_loopw [20] (fun iv wr => ∃ i : Nat, iv = .int .i64 (i : Nat) ∧ i ≤ n ∧ Mem w6 [] [] wr) (fun iv _ => n - (intOf iv).toNat)
        case atStart => exact ⟨0, rfl, by omega, HM⟩
        case round =>
          clear HM
          obtain ⟨i, rfl, hi, HM⟩ := hrel
          by_cases hit : i < n
          · have hit1 : (i : Int) < n := by omega
            obtain ⟨k, hk⟩ : ∃ k, Hid (k = Ns.rt n t i) := ⟨_, Lib.hid rfl⟩
            have hkn : k < n := by rw [hk.out]; exact Ns.rt_lt htn hit
            have hkn1 : (k : Int) < n := by omega
            have hrm : ((i : Int) + t).tmod n = k := by
              rw [hk.out, ← Ns.rt_mod htn hit, Int.tmod_eq_emod_of_nonneg (by omega)]; rfl
            obtain ⟨c1', o1, cs1, rfl, HBP1, kp1⟩ := HR1.out.at66 hit
            obtain ⟨c2', o2, cs2, rfl, HBP2, kp2⟩ := HR2.out.at66 hkn
            obtain ⟨x, hx⟩ : ∃ x, Hid (x = f i) := ⟨_, Lib.hid rfl⟩
            obtain ⟨y, hy⟩ : ∃ x, Hid (x = g k) := ⟨_, Lib.hid rfl⟩
            rw [← hx.out] at kp1
            rw [← hy.out] at kp2
            have fx : Rt.Fit x := by rw [hx.out]; exact HFF.out i hit
            have fy : Rt.Fit y := by rw [hy.out]; exact HFG.out k hkn
            have hxy : x = y * xb := by rw [hx.out, hy.out, hxb.out, hk.out]; exact (HEQ.out i hit).symm
            have ML := fun w => mul_ex (.ok y) (.ok xb) fy fb (.ok x) (Lib.hid (Ex.mul_eq hxy fx)) w
            have fA := Ex.fA x
            clear hxy
            go_upto_region 26 with (first | fail | (first | ((with_reducible refine g_ld ?_); refine a_ld HM ?_) | ((with_reducible refine g_st ?_); refine a_st HM ?_; clear HM; intro w1 HM) | ((with_reducible refine g_al ?_); refine a_al HM ?_; clear HM; intro bk w1 HM) | ((with_reducible refine g_bx ?_); refine a_bx HM ?_; clear HM; intro bk w1 HM) | ((with_reducible refine g_bld ?_); refine a_bld ?_)))
            refine start_M [] HM (by kernel_rfl) (fun w0x H9 => ?_)
            replace HM := H9; clear H9
            refine k_mv 0 (heldE HM) ?_
            refine k_mv 1 (heldE HM) ?_
            refine k_mv 2 (heldE HM) ?_
            refine k_add 3 (heldE HM) ?_
            refine k_mv 4 (heldE HM) ?_
            refine t_pure (i := 5) (v := .int .i64 (k : Nat)) rfl rfl (by kernel_rfl) (fun _ _ _ h => h) (heldE HM) (by rfl) ?_ ?_; (focus ((intro w9; first | (go_simp; done) | (go_simp; rfl)))); ((try simp only [List.setIfInBounds_toArray]); (try simp only [List.set_cons_succ]); (try simp only [List.set_cons_zero]))
            refine k_ia 6 (heldE HM) ?_
            refine k_ld 7 [] (heldE HM) ?_
            refine k_mv 9 (heldE HM) ?_
            refine k_mv 13 (heldE HM) ?_
            refine k_mv 14 (heldE HM) ?_
            refine k_ia 15 (heldE HM) ?_
            refine k_ld 16 [] (heldE HM) ?_
            refine j_one 8 fun K9 hK9 => ?_
            refine j_call1 (v := ?_) HM ?_ ?_; rotate_left 1; (focus (with_reducible (first | exact of_ex _ _ | exact IB _ | exact ML _))); clear HM; intro w1 HM
            refine hK9 _ _ (heldE HM) ?_; clear hK9 K9
            refine j_one 10 fun K9 hK9 => ?_
            refine j_call1 (v := ?_) HM ?_ ?_; rotate_left 1; (focus (with_reducible (first | exact of_ex _ _ | exact IB _ | exact ML _))); clear HM; intro w1 HM
            refine hK9 _ _ (heldE HM) ?_; clear hK9 K9
            refine j_one 11 fun K9 hK9 => ?_
            refine j_call2 (v := ?_) HM ?_ ?_; rotate_left 1; (focus (with_reducible (first | exact of_ex _ _ | exact IB _ | exact ML _))); clear HM; intro w1 HM
            refine hK9 _ _ (heldE HM) ?_; clear hK9 K9
            refine t_pure (i := 12) (v := .agg (Rt.qA x)) rfl rfl (by kernel_rfl) (fun _ _ _ h => h) (heldE HM) (by rfl) ?_ ?_; (focus (refine h_fld rfl ?_ Ex.und (by kernel_rfl) fA; ((conv => lhs; whnf) <;> rfl))); ((try simp only [List.setIfInBounds_toArray]); (try simp only [List.set_cons_succ]); (try simp only [List.set_cons_zero]))
            refine t_eq (i := 17) (v := ?_) [] rfl rfl rfl (by kernel_rfl) (fun _ _ _ h => h) (heldE HM) ?_ ?_; rotate_left 1; (focus ((refine y_cmpq .neq (x) (x) false (.inr rfl) (by simp) (fx) (fx) (x := ?_) (y := ?_) (t := ?_) ?_ ?_ ?_ ?_; rotate_left 3; (focus rfl); (focus rfl); (focus ((conv => lhs; whnf) <;> rfl)); ((conv => lhs; whnf) <;> rfl)))); ((try simp only [List.setIfInBounds_toArray]); (try simp only [List.set_cons_succ]); (try simp only [List.set_cons_zero]))
            refine wpAnyL_done (by kernel_rfl) ?_ _
            go_wp2_with fail
            go_roundw
            case rel => exact ⟨i + 1, by go_num, by omega, HM⟩
            case measure => simp [intOf]; omega
          · obtain rfl : n = i := by omega
            go_wp2_with (first | (go_at_call 11; ((with_reducible refine (awake35_any _).mono ?_); rintro e9 w2 ⟨rfl, hL⟩; replace HM := HM.call hL; clear hL)) | (first | ((with_reducible refine g_ld ?_); refine a_ld HM ?_) | ((with_reducible refine g_st ?_); refine a_st HM ?_; clear HM; intro w1 HM) | ((with_reducible refine g_al ?_); refine a_al HM ?_; clear HM; intro bk w1 HM) | ((with_reducible refine g_bx ?_); refine a_bx HM ?_; clear HM; intro bk w1 HM) | ((with_reducible refine g_bld ?_); refine a_bld ?_)))
            go_ret
            exact ⟨rfl, below_seq HB6.out HM.low⟩
end Go.Proofs.Ytadnddffdedjgaa
