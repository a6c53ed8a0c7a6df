/- Walks, and plain facts for them. -/
import Derived.Test.YtckhdiljihhdmaaGreatPa36
namespace Go.Proofs.YtckhdiljihhdmaaGreat
set_option maxRecDepth 8000
open Go.RowKit
namespace Lk
def acme : ByteArray := { data := #[65, 67, 77, 69] }
theorem acme_list : acme.toList = [65, 67, 77, 69] := by rw [ByteArray.toList_eq]; rfl
def ah : H := ⟨acme, 10⟩
theorem aw_good : Ns.Good [10, 100] [[0, 50], [0, 0]] := ⟨⟨by decide, by decide⟩, by decide, by decide, by decide, by decide, fun i j hi hj => (by decide : ∀ i, i < 2 → ∀ j, j < 2 → 0 ≤ Ns.gh [[0, 50], [0, 0]] i j) i hi j hj, fun i j hi hj => (by decide : ∀ i, i < 2 → ∀ j, j < 2 → Ns.gh [[0, 50], [0, 0]] i j ≤ 1000000000000000) i hi j hj, by decide⟩
theorem aw_circ : ¬ Ns.Circ 2 (Ns.gu [10, 100]) (Ns.gh [[0, 50], [0, 0]]) := Ns.not_circ aw_good.ok.h0 (by decide)
theorem aw_paper : paper acme = true := by
 refine paper_yes (by decide) (by decide) (fun k hk => .inl ?_)
 have h4 : k < 4 := hk
 match k, h4 with
 | 0, _ => exact (by decide : capB 65 = true)
 | 1, _ => exact (by decide : capB 67 = true)
 | 2, _ => exact (by decide : capB 77 = true)
 | 3, _ => exact (by decide : capB 69 = true)
theorem aw_all : all [[], [ah]] = true := by
 have h : val [ah] = true := by
  unfold val
  rw [vfrom, vfrom]
  show (decide (1 ≤ 64) && (paper acme && lt [] acme.toList && inr 10 && true)) = true
  rw [aw_paper, acme_list]; rfl
 unfold all
 simp [h]
 rfl
theorem aw_chk : chk [10, 100] [[0, 50], [0, 0]] [[], [ah]] = 0 := chk_ok aw_good.good rfl aw_all
theorem aw_names : names [[], [ah]] = [[65, 67, 77, 69]] := by
 show ins [] acme.toList = _
 rw [acme_list]; rfl
theorem aw_qty : qty [[], [ah]] [65, 67, 77, 69] = [0, 10] := by
 show [ql [65, 67, 77, 69] [], ql [65, 67, 77, 69] [ah]] = _
 unfold ql
 show [0, if (acme.toList == [65, 67, 77, 69]) = true then (10 : Int) else 0] = _
 rw [acme_list]; rfl
theorem aw_err : 0 = lerr [10, 100] [[0, 50], [0, 0]] [[], [ah]] 0 10 := (lerr_ok (m := 0) aw_chk (by decide) (by decide) (by decide) aw_circ).symm
theorem aw_ex : ex [10, 100] [[0, 50], [0, 0]] [[], [ah]] 0 10 [65, 67, 77, 69] = 5 := by
 obtain ⟨f, hf, _⟩ := px aw_good aw_circ rfl aw_all [65, 67, 77, 69]
 unfold ex
 rw [← pr_eq aw_good aw_circ hf (i := 0) (by decide)]
 rw [aw_qty] at hf
 have h0 := hf.1 0 (by decide)
 have h1 := hf.1 1 (by decide)
 simp [Mx.sm, Ns.mat, Ns.rhs, Ns.gu, Ns.gh] at h0 h1
 have e : ((10 : Int) : Rat) = 10 := rfl
 rw [e]
 grind
theorem aw_xps : xps [10, 100] [[0, 50], [0, 0]] [[], [ah]] 0 10 = [⟨acme, 5⟩] := by
 refine (xps_ok (m := 0) aw_chk (by decide) (by decide) (by decide) aw_circ).trans ?_
 rw [aw_names]
 unfold exps
 rw [List.flatMap_cons, List.flatMap_nil, List.append_nil]
 unfold one
 have h5 : ¬ ((5 : Rat) = 0) := by decide
 rw [aw_ex, if_neg h5, ← acme_list, bs_of]
theorem aw_osl : osl [10, 100] [[0, 50], [0, 0]] = [10, 50] := by
 unfold osl
 rw [if_pos aw_good.good]
 decide
end Lk
theorem made_l2 {w0 w : World} {X : List Nat} {L : List (Nat × Array Value)} {b : Nat} {v1 v2 : Value} {l1 l2 : List Lk.H} (HM : Mem w0 X L w) (h : Look L b (rowsOf [vc v1, vc v2])) (h1 : RdO w v1 l1) (h2 : RdO w v2 l2) : RdL w (.slice (some ⟨b, 0, none⟩) 2 2) [l1, l2] := by
 have h3 := (SlAt.row (n := 1) b [vc v1, vc v2] [] (by simp [vc])).rd HM (by simpa using h.mem)
 refine ⟨[v1, v2], h3, rfl, fun i l hl => ?_⟩
 match i with
 | 0 => exact ⟨v1, rfl, by simp at hl; subst hl; exact h1⟩
 | 1 => exact ⟨v2, rfl, by simp at hl; subst hl; exact h2⟩
 | i + 2 => simp at hl
theorem made_o1 {w0 w : World} {X : List Nat} {L : List (Nat × Array Value)} {b : Nat} (h : Lk.H) (HM : Mem w0 X L w) (hl : Look L b (rowsOf [Lk.H.c h])) (hs : h.nm.size ≤ 9223372036854775807) : RdO w (.slice (some ⟨b, 0, none⟩) 1 1) [h] :=
 ⟨(SlAt.made1 (n := 2) b (c := Lk.H.c h) rfl).rd HM (by simpa using hl.mem), by simpa using hs⟩
set_option maxHeartbeats 4000000 in
theorem awake36_any (w : World) :
    Calls Tryz.prog 7 #[] w fun e w' => e = .returned (.bool true) ∧ Below w.heap.size w w' := by
 have HM := Mem.start w
 have eli : elemB 22 3 1 8 = true := by kernel_rfl
 have elh : elemB 23 22 1 24 = true := by kernel_rfl
 have elo : elemB 27 54 2 24 = true := by kernel_rfl
 have ell : elemB 26 27 1 24 = true := by kernel_rfl
 have zn := za_nest
 go_enter Tryz.func7, Tryz.ntmps7
 go_upto_region 1 with (first | ((with_reducible refine g_ld ?_); refine a_ld HM ?_) | ((with_reducible refine g_st ?_); refine a_st HM ?_; clear HM; intro w1 HM) | ((with_reducible refine g_al ?_); refine a_al HM ?_; clear HM; intro bk w1 HM) | ((with_reducible refine g_bld ?_); refine a_bld ?_))
 go_upto_region 2 with (first | ((with_reducible refine g_bs2 ?_); refine a_bs2 HM ?_; clear HM; intro bx w1 HM) | ((with_reducible refine g_st ?_); refine a_st (v := .agg #[_, _]) HM ?_ (hv := sa_nest _ _ rfl rfl); clear HM; intro w1 HM) | (first | ((with_reducible refine g_ld ?_); refine a_ld HM ?_) | ((with_reducible refine g_st ?_); refine a_st HM ?_; clear HM; intro w1 HM) | ((with_reducible refine g_al ?_); refine a_al HM ?_; clear HM; intro bk w1 HM) | ((with_reducible refine g_bld ?_); refine a_bld ?_)))
 obtain ⟨b0, rfl⟩ := HM.nm0
 obtain ⟨b1, rfl⟩ := HM.nm1
 obtain ⟨b2, rfl⟩ := HM.nm2
 obtain ⟨b3, rfl⟩ := HM.nm3
 obtain ⟨b4, rfl⟩ := HM.nm4
 go_upto_region 3 with (first | ((with_reducible refine g_bs1 ?_); refine a_bs1 HM ?_; clear HM; intro bx w1 HM) | ((with_reducible refine g_bs2 ?_); refine a_bs2 HM ?_; clear HM; intro bx w1 HM) | (first | ((with_reducible refine g_ld ?_); refine a_ld HM ?_) | ((with_reducible refine g_st ?_); refine a_st HM ?_; clear HM; intro w1 HM) | ((with_reducible refine g_al ?_); refine a_al HM ?_; clear HM; intro bk w1 HM) | ((with_reducible refine g_bld ?_); refine a_bld ?_)))
 obtain ⟨c0, rfl⟩ := HM.nm0
 obtain ⟨c1, rfl⟩ := HM.nm1
 have n2 := la_nest (.slice (some ⟨b4, 0, none⟩) 2 2) (.slice (some ⟨b1, 0, none⟩) 2 2)
 have hN := made_nest (b4 := b4) (b3 := b3) (b2 := b2) (b1 := b1) HM 10 100 0 50 0 0 (by ((repeat (first | exact Look.here | refine Look.there ?_)); done)) (by ((repeat (first | exact Look.here | refine Look.there ?_)); done)) (by ((repeat (first | exact Look.here | refine Look.there ?_)); done)) (by ((repeat (first | exact Look.here | refine Look.there ?_)); done))
 have hL := made_l2 (b := c0) HM (v1 := .slice none 0 0) (v2 := .slice (some ⟨c1, 0, none⟩) 1 1) (by ((repeat (first | exact Look.here | refine Look.there ?_)); done)) (RdO.nil _) (made_o1 (b := c1) Lk.ah HM (by ((repeat (first | exact Look.here | refine Look.there ?_)); done)) (by decide))
 have HNB := Lib.hid hN
 have HLB := Lib.hid hL
 have HBB := Lib.hid HM.low
 have HBN : Hid (Rbk w1 b0 #[.slice (some ⟨b4, 0, none⟩) 2 2, .slice (some ⟨b1, 0, none⟩) 2 2]) := Lib.hid (HM.get (by ((repeat (first | exact Look.here | refine Look.there ?_)); done))).rbk
 clear hN hL HM
 have HM := Mem.start _ |> fun (h : Mem w1 [] [] w1) => h
 go_upto_region 4 with (first | (go_at_call 8; refine (look_any _ _ _ [10, 100] [[0, 50], [0, 0]] [[], [Lk.ah]] 0 10 _ (HNB.out.below HM.low) (HLB.out.below HM.low) 0 (Lib.hid Lk.aw_err)).mono ?_; rintro e9 w2 ⟨s1, rfl, HX, hL⟩; replace HM := HM.call hL; clear hL) | (first | ((with_reducible refine g_ld ?_); refine a_ld HM ?_) | ((with_reducible refine g_st ?_); refine a_st HM ?_; clear HM; intro w1 HM) | ((with_reducible refine g_al ?_); refine a_al HM ?_; clear HM; intro bk w1 HM) | ((with_reducible refine g_bld ?_); refine a_bld ?_)))
 rw [Lk.aw_xps] at HX
 have HXB := Lib.hid fun w' (hB : Below w2.heap.size w2 w') => (HX.out.below hB : RdX w' s1 [⟨Lk.acme, 5⟩])
 have HLW := Lib.hid HM.low
 have HM2 := Mem.start w2
 clear HM HX
 have HM := HM2
 clear HM2
 have HBN2 := Lib.hid (HBN.out.below HLW.out HBN.out.lt)
 go_upto_region 5 with (first | (go_at_call 10; refine (outside_any _ _ [10, 100] [[0, 50], [0, 0]] _ (HNB.out.below (below_seq HLW.out HM.low)) 0 (Lib.hid Lk.aw_good.good.symm)).mono ?_; rintro e9 w3 ⟨s2, rfl, HO, hL⟩; replace HM := HM.call hL; clear hL) | (first | ((with_reducible refine g_ld ?_); refine a_ld HM ?_) | ((with_reducible refine g_st ?_); refine a_st HM ?_; clear HM; intro w1 HM) | ((with_reducible refine g_al ?_); refine a_al HM ?_; clear HM; intro bk w1 HM) | ((with_reducible refine g_bld ?_); refine a_bld ?_)))
 rw [Lk.aw_osl] at HO
 have HX3 := HXB.out _ HM.low
 have HB3 := Lib.hid (below_seq HBB.out (below_seq HLW.out HM.low))
 have HO3 := Lib.hid fun w' (hB : Below w3.heap.size w3 w') => (HO.out.below hB : RdI w' s2 [10, 50])
 clear HM HO HXB HLW
 have HM := Mem.start w3
 obtain ⟨Ax, cx, rfl⟩ := HX3.form
 obtain ⟨b, off, cs, rfl, HBK, k0, -, -⟩ := HX3.at_ (i := 0) rfl
 have hf5 : Rt.Fit (5 : Rat) := Lk.int_fit (n := 5) (by decide)
 have E := Xp.eq_self ⟨Lk.acme, 5⟩ hf5
 have R0 := fun w => sratio_any 5 1 (5 : Rat) (by decide) (by decide) (by decide) (by decide) (Lib.hid (Rt.int_divInt 5)) w
 have HBD := fun w => Xp.build ⟨Lk.acme, 5⟩ w
 clear HX3
 refine start_M [] HM (by kernel_rfl) (fun w0x H9 => ?_)
 replace HM := H9; clear H9
 refine k_mv 0 (heldE HM) ?_
 refine k_bin 1 (heldE HM) ?_
 refine k_mv 2 (heldE HM) ?_
 refine k_mv 3 (heldE HM) ?_
 refine k_bin 4 (heldE HM) ?_
 refine k_pick 5 (heldE HM) ?_
 refine k_mv 6 (heldE HM) ?_
 refine k_mv 7 (heldE HM) ?_
 refine k_pv 8 (heldE HM) ?_
 refine k_bin 9 (heldE HM) ?_
 refine k_pick 10 (heldE HM) ?_
 refine k_mv 11 (heldE HM) ?_
 refine k_mv 12 (heldE HM) ?_
 refine k_ia 13 (heldE HM) ?_
 refine k_ld 14 [] (heldE HM) ?_
 refine j_one 15 fun K9 hK9 => ?_
 refine j_call2 (v := ?_) HM ?_ ?_; rotate_left 1; (focus (with_reducible (first | exact R0 _))); clear HM; intro w1 HM
 refine hK9 _ _ (heldE HM) ?_; clear hK9 K9
 refine t_pure (i := 16) (v := .agg (Xp.c ⟨Lk.acme, 5⟩)) rfl rfl (by kernel_rfl) (fun _ _ _ h => h) (heldE HM) (by rfl) ?_ ?_; (focus (exact h_bl2 rfl rfl (by (conv => lhs; whnf) <;> rfl) HBD)); ((try simp only [List.setIfInBounds_toArray]); (try simp only [List.set_cons_succ]); (try simp only [List.set_cons_zero]))
 refine t_eq (i := 17) (v := ?_) [] rfl rfl rfl (by kernel_rfl) (fun _ _ _ h => h) (heldE HM) ?_ ?_; rotate_left 1; (focus ((refine y_cmps .eql true (.inl rfl) (E) rfl (by kernel_rfl) (x := ?_) (y := ?_) (t := ?_) ?_ ?_ ?_ ?_; rotate_left 3; (focus rfl); (focus rfl); (focus ((conv => lhs; whnf) <;> rfl)); ((conv => lhs; whnf) <;> rfl)))); ((try simp only [List.setIfInBounds_toArray]); (try simp only [List.set_cons_succ]); (try simp only [List.set_cons_zero]))
 refine k_pick 18 (heldE HM) ?_
 refine k_mv 19 (heldE HM) ?_
 refine k_mv 20 (heldE HM) ?_
 refine j_one 21 fun K9 hK9 => ?_
 refine j_bs2 HM ?_ (hT := eli); clear HM; intro bx w1 HM
 refine hK9 _ _ (heldE HM) ?_; clear hK9 K9; ((try simp only [List.setIfInBounds_toArray]); (try simp only [List.set_cons_succ]); (try simp only [List.set_cons_zero]))
 refine j_one 22 fun K9 hK9 => ?_
 refine o_callg (same23_any _ _ [10, 50] _ (HO3.out _ HM.low) (made_i HM [10, 50] (by ((repeat (first | exact Look.here | refine Look.there ?_)); done))) (by decide)) rfl ?_ ?_; (focus (refine h_call2 (ts := ?_) (x1 := ?_) (x2 := ?_) ?_ (by kernel_rfl) ?_ ?_; rotate_left 3; (focus rfl); (focus rfl); rfl)); rintro e9 w4 ⟨rfl, hL⟩; replace HM := HM.call hL; clear hL; refine ⟨_, rfl, ?_⟩
 refine hK9 _ _ (heldE HM) ?_; clear hK9 K9; ((try simp only [List.setIfInBounds_toArray]); (try simp only [List.set_cons_succ]); (try simp only [List.set_cons_zero]))
 refine k_pick 23 (heldE HM) ?_
 refine k_mv 24 (heldE HM) ?_
 refine wpAnyL_done (by kernel_rfl) ?_ _
 go_wp2_with fail
 go_ret
 exact ⟨rfl, below_seq HB3.out HM.low⟩
end Go.Proofs.YtckhdiljihhdmaaGreat
namespace Go.Proofs.YtckhdiljihhdmaaGreat
set_option maxRecDepth 8000
open Go.RowKit
theorem Lk.lerr_spec {U : List Int} {Hs : List (List Int)} {L : List (List Lk.H)} {i n : Int} (h : Lk.lerr U Hs L i n = 0) : ∃ m : Nat, i = m ∧ Lk.chk U Hs L = 0 ∧ m < U.length ∧ 0 ≤ n ∧ n ≤ Ns.gu U m ∧ ¬ Ns.Circ U.length (Ns.gu U) (Ns.gh Hs) := by
 unfold Lk.lerr at h
 by_cases h0 : Lk.chk U Hs L = 0
 ·rw [if_pos h0] at h
  by_cases h1 : i < 0 ∨ (U.length : Int) ≤ i
  ·rw [if_pos h1] at h; cases h
  ·rw [if_neg h1] at h
   by_cases h2 : n < 0 ∨ Ns.gu U i.toNat < n
   ·rw [if_pos h2] at h; cases h
   ·rw [if_neg h2] at h
    by_cases h3 : Ns.Circ U.length (Ns.gu U) (Ns.gh Hs)
    ·rw [if_pos h3] at h; cases h
    ·exact ⟨i.toNat, by omega, h0, by omega, by omega, by omega, h3⟩
 ·rw [if_neg h0] at h; exact absurd h h0
theorem Lk.xps_fit (U : List Int) (Hs : List (List Int)) (L : List (List Lk.H)) (i n : Int) : (Lk.xps U Hs L i n).length ≤ 100000 ∧ ∀ x ∈ Lk.xps U Hs L i n, Rt.Fit x.q := by
 by_cases h : Lk.lerr U Hs L i n = 0
 ·obtain ⟨m, rfl, h0, h1, h2, h3, h4⟩ := Lk.lerr_spec h
  obtain ⟨hG, hl, ha⟩ := Lk.chk_spec h0
  rw [Lk.xps_ok h0 h1 h2 h3 h4]
  have h5 := Lk.exps_len U Hs L m n (Lk.names L)
  have h6 := Lk.names_len ha (by have := hG.sh.1; omega)
  exact ⟨by omega, Lk.exps_fit hG h4 hl ha h1 h2 h3 _⟩
 ·rw [Lk.xps_no rfl h]; simp
theorem Lk.osl_len (U : List Int) (Hs : List (List Int)) : (Lk.osl U Hs).length ≤ 100000 := by
 unfold Lk.osl
 split
 ·rename_i h
  have := (Ns.chk_good h).sh.1
  simp [Lk.outs]; omega
 ·simp
set_option maxHeartbeats 4000000 in
theorem tells_any (us hs : Value) (U : List Int) (H : List (List Int)) (lv : Value) (L : List (List Lk.H)) (i n : Int) (W : World) (hR : RdN W us hs U H) (hLR : RdL W lv L) (hlen : L.length ≤ 9223372036854775807) (_ : -9223372036854775808 ≤ i) (_ : i < 9223372036854775808) (_ : -9223372036854775808 ≤ n) (_ : n < 9223372036854775808) :
    Calls Tryz.prog 3 #[.agg #[us, hs], lv, .int .i64 i, .int .i64 n] W fun e w' => e = .returned (.bool true) ∧ Below W.heap.size W w' := by
 have HM := Mem.start W
 obtain ⟨r, hr⟩ : ∃ r, Hid (r = Lk.lerr U H L i n) := ⟨_, Lib.hid rfl⟩
 obtain ⟨c, hc⟩ : ∃ c, Hid (c = Lk.chk U H L) := ⟨_, Lib.hid rfl⟩
 obtain ⟨d, hd⟩ : ∃ d, Hid (d = Ns.chk U H) := ⟨_, Lib.hid rfl⟩
 have S1 := Lib.hid fun w' hB => look_any us hs lv U H L i n w' (hR.below hB) (hLR.below hB) r hr
 have S2 := Lib.hid fun w' hB => rlook_any us hs lv U H L i n w' (hR.below hB) (hLR.below hB) r hr
 have O1 := Lib.hid fun w' hB => outside_any us hs U H w' (hR.below hB) d hd
 have O2 := Lib.hid fun w' hB => routside_any us hs U H w' (hR.below hB) d hd
 have C1 := Lib.hid fun w' hB => lcheck_any us hs lv U H L w' (hR.below hB) (hLR.below hB) c hc
 have C2 := Lib.hid fun w' hB => rlcheck_any us hs lv U H L w' (hR.below hB) (hLR.below hB) c hc
 have HX := Lib.hid (Lk.xps_fit U H L i n)
 have HO := Lib.hid (Lk.osl_len U H)
 obtain ⟨X, hX⟩ : ∃ X, Hid (X = Lk.xps U H L i n) := ⟨_, Lib.hid rfl⟩
 obtain ⟨O, hO⟩ : ∃ O, Hid (O = Lk.osl U H) := ⟨_, Lib.hid rfl⟩
 rw [← hX.out] at HX S1 S2
 rw [← hO.out] at HO O1 O2
 clear hX hO hr hc hd
 obtain ⟨Au, cu, rfl⟩ := hR.u.form
 have HLR := Lib.hid hLR
 obtain ⟨Al, cl, rfl⟩ := hLR.form
 have n0 := la_n0 (.slice Au U.length cu) hs
 have n2 := la_nest (.slice Au U.length cu) hs
 clear hR hLR
 go_enter Tryz.func3, Tryz.ntmps3
 go_upto_region 1 with (first | ((with_reducible refine g_ld ?_); refine a_ld HM ?_) | ((with_reducible refine g_bx ?_); refine a_bx HM ?_; clear HM; intro bk w1 HM))
 obtain ⟨b4, rfl⟩ := HM.nm0
 go_cut [9] (fun v wc => ∃ b : Bool, v = .bool b ∧ Mem W [] [(b4, #[.slice Au U.length cu, hs])] wc)
 case first =>
  by_cases h3 : (U.length : Int) ≤ 3
  ·have h4 : decide ((U.length : Int) ≤ 3) = true := decide_eq_true h3
   go_wp2_with (first | ((with_reducible refine g_ld ?_); refine a_ld HM ?_) | ((with_reducible refine g_bx ?_); refine a_bx HM ?_; clear HM; intro bk w1 HM))
   go_meet
   case rel => exact ⟨_, rfl, HM⟩
  ·have h4 : decide ((U.length : Int) ≤ 3) = false := decide_eq_false h3
   go_wp2_with (first | ((with_reducible refine g_ld ?_); refine a_ld HM ?_) | ((with_reducible refine g_bx ?_); refine a_bx HM ?_; clear HM; intro bk w1 HM))
   go_meet
   case rel => exact ⟨_, rfl, HM⟩
 case rest =>
  clear HM
  obtain ⟨b, rfl, HM⟩ := hcut
  go_step
  go_wp2_with (first | ((with_reducible refine g_ld ?_); refine a_ld HM ?_) | ((with_reducible refine g_bx ?_); refine a_bx HM ?_; clear HM; intro bk w1 HM))
  go_loopw [9, 10] (fun bv kv wr => ∃ (k : Nat) (b : Bool), bv = .bool b ∧ kv = .int .i64 (k : Nat) ∧ k ≤ L.length ∧ Mem W [] [(b4, #[.slice Au U.length cu, hs])] wr) (fun _ kv _ => L.length - (intOf kv).toNat)
  case atStart => exact ⟨0, b, rfl, rfl, by omega, HM⟩
  case round =>
   clear HM
   obtain ⟨k, b, rfl, rfl, hk, HM⟩ := hrel
   by_cases hkt : k < L.length
   ·have hkt1 : (k : Int) < L.length := by omega
    cases b with
    | true =>
     obtain ⟨l, hll⟩ : ∃ l, L[k]? = some l := ⟨_, List.getElem?_eq_getElem hkt⟩
     obtain ⟨b1, off, cs, A2, c2, rfl, HB, k1, HL⟩ := HLR.out.at_ hll
     clear hll
     go_wp2_with (first | ((with_reducible refine g_ld ?_); refine a_ld HM ?_) | ((with_reducible refine g_bx ?_); refine a_bx HM ?_; clear HM; intro bk w1 HM))
     go_roundw
     case rel => exact ⟨k + 1, _, rfl, by go_num, by omega, HM⟩
     case measure => simp [intOf]; omega
    | false =>
     go_wp2_with (first | ((with_reducible refine g_ld ?_); refine a_ld HM ?_) | ((with_reducible refine g_bx ?_); refine a_bx HM ?_; clear HM; intro bk w1 HM))
     go_roundw
     case rel => exact ⟨k + 1, _, rfl, by go_num, by omega, HM⟩
     case measure => simp [intOf]; omega
   ·obtain rfl : k = L.length := by omega
    cases b with
    | false =>
     go_wp2_with (first | (go_at_call 7; ((with_reducible refine (awake36_any _).mono ?_); rintro e9 w2 ⟨rfl, hL⟩; replace HM := HM.call hL; clear hL)) | (first | ((with_reducible refine g_ld ?_); refine a_ld HM ?_) | ((with_reducible refine g_bx ?_); refine a_bx HM ?_; clear HM; intro bk w1 HM)))
     go_ret
     exact ⟨rfl, HM.low⟩
    | true =>
     go_upto_region 9 with (first | (go_at_call 8; refine (S1.out _ HM.low).mono ?_; rintro e9 w2 ⟨s1, rfl, HX1, hL1⟩; replace HM := HM.call hL1; clear hL1) | (first | ((with_reducible refine g_ld ?_); refine a_ld HM ?_) | ((with_reducible refine g_bx ?_); refine a_bx HM ?_; clear HM; intro bk w1 HM)))
     go_upto_region 10 with (first | (go_at_call 9; refine (S2.out _ HM.low).mono ?_; rintro e9 w3 ⟨s2, rfl, HX2, hL2⟩; replace HM := HM.call hL2) | (first | ((with_reducible refine g_ld ?_); refine a_ld HM ?_) | ((with_reducible refine g_bx ?_); refine a_bx HM ?_; clear HM; intro bk w1 HM)))
     have HX1' : Hid (RdX w3 s1 X) := Lib.hid (HX1.out.below hL2)
     clear HX1 hL2
     go_upto_region 11 with (first | (go_at_call 10; refine (O1.out _ HM.low).mono ?_; rintro e9 w4 ⟨s3, rfl, HO1, hL3⟩; replace HM := HM.call hL3) | (first | ((with_reducible refine g_ld ?_); refine a_ld HM ?_) | ((with_reducible refine g_bx ?_); refine a_bx HM ?_; clear HM; intro bk w1 HM)))
     have HX1 : Hid (RdX w4 s1 X) := Lib.hid (HX1'.out.below hL3)
     have HX2' : Hid (RdX w4 s2 X) := Lib.hid (HX2.out.below hL3)
     clear HX1' HX2 hL3
     go_upto_region 12 with (first | (go_at_call 11; refine (O2.out _ HM.low).mono ?_; rintro e9 w5 ⟨s4, rfl, HO2, hL4⟩; replace HM := HM.call hL4) | (first | ((with_reducible refine g_ld ?_); refine a_ld HM ?_) | ((with_reducible refine g_bx ?_); refine a_bx HM ?_; clear HM; intro bk w1 HM)))
     have HY1 := Lib.hid (HX1.out.below hL4)
     have HY2 := Lib.hid (HX2'.out.below hL4)
     have HO1' := Lib.hid (HO1.out.below hL4)
     clear HX1 HX2' HO1 hL4
     have HBL := Lib.hid HM.low
     have HBN := Lib.hid (HM.get (b := b4) (by ((repeat (first | exact Look.here | refine Look.there ?_)); done))).rbk
     clear HM S1 S2 O1 O2
     have HM := Mem.start w5
     have CC1 := Lib.hid fun w' (hB : Below w5.heap.size w5 w') => C1.out w' (below_seq HBL.out hB)
     have CC2 := Lib.hid fun w' (hB : Below w5.heap.size w5 w') => C2.out w' (below_seq HBL.out hB)
     have E1 := Lib.hid fun w' hB => same36_any s1 s2 X w' (HY1.out.below hB) (HY2.out.below hB) HX.out.1 HX.out.2
     have E2 := Lib.hid fun w' hB => same23_any s3 s4 O w' (HO1'.out.below hB) (HO2.out.below hB) HO.out
     clear C1 C2
     refine start_M [] HM (by kernel_rfl) (fun w0x H9 => ?_)
     replace HM := H9; clear H9
     refine k_ld 0 [] (heldE HM) ?_
     refine k_mv 1 (heldE HM) ?_
     refine k_ld 3 [] (heldE HM) ?_
     refine k_mv 4 (heldE HM) ?_
     refine j_one 2 fun K9 hK9 => ?_
     refine j_call2 (v := ?_) HM ?_ ?_; rotate_left 1; (focus (with_reducible (first | exact CC1.out _ HM.low | exact CC2.out _ HM.low | exact E1.out _ HM.low | exact E2.out _ HM.low | exact awake36_any _))); clear HM; intro w1 HM
     refine hK9 _ _ (heldE HM) ?_; clear hK9 K9
     refine j_one 5 fun K9 hK9 => ?_
     refine j_call2 (v := ?_) HM ?_ ?_; rotate_left 1; (focus (with_reducible (first | exact CC1.out _ HM.low | exact CC2.out _ HM.low | exact E1.out _ HM.low | exact E2.out _ HM.low | exact awake36_any _))); clear HM; intro w1 HM
     refine hK9 _ _ (heldE HM) ?_; clear hK9 K9
     refine k_bin 6 (heldE HM) ?_
     refine k_mv 7 (heldE HM) ?_
     refine k_mv 8 (heldE HM) ?_
     refine k_mv 9 (heldE HM) ?_
     refine j_one 10 fun K9 hK9 => ?_
     refine j_call2 (v := ?_) HM ?_ ?_; rotate_left 1; (focus (with_reducible (first | exact CC1.out _ HM.low | exact CC2.out _ HM.low | exact E1.out _ HM.low | exact E2.out _ HM.low | exact awake36_any _))); clear HM; intro w1 HM
     refine hK9 _ _ (heldE HM) ?_; clear hK9 K9
     refine k_pick 11 (heldE HM) ?_
     refine k_mv 12 (heldE HM) ?_
     refine k_mv 13 (heldE HM) ?_
     refine k_mv 14 (heldE HM) ?_
     refine k_bin 15 (heldE HM) ?_
     refine k_pick 16 (heldE HM) ?_
     refine k_mv 17 (heldE HM) ?_
     refine k_mv 18 (heldE HM) ?_
     refine k_mv 19 (heldE HM) ?_
     refine j_one 20 fun K9 hK9 => ?_
     refine j_call2 (v := ?_) HM ?_ ?_; rotate_left 1; (focus (with_reducible (first | exact CC1.out _ HM.low | exact CC2.out _ HM.low | exact E1.out _ HM.low | exact E2.out _ HM.low | exact awake36_any _))); clear HM; intro w1 HM
     refine hK9 _ _ (heldE HM) ?_; clear hK9 K9
     refine k_pick 21 (heldE HM) ?_
     refine k_mv 22 (heldE HM) ?_
     refine k_mv 23 (heldE HM) ?_
     refine k_mv 24 (heldE HM) ?_
     refine k_bin 25 (heldE HM) ?_
     refine k_pick 26 (heldE HM) ?_
     refine k_mv 27 (heldE HM) ?_
     refine j_one 28 fun K9 hK9 => ?_
     refine j_call0 (v := ?_) HM ?_ ?_; rotate_left 1; (focus (with_reducible (first | exact CC1.out _ HM.low | exact CC2.out _ HM.low | exact E1.out _ HM.low | exact E2.out _ HM.low | exact awake36_any _))); clear HM; intro w1 HM
     refine hK9 _ _ (heldE HM) ?_; clear hK9 K9
     refine k_pick 29 (heldE HM) ?_
     refine k_mv 30 (heldE HM) ?_
     refine wpAnyL_done (by kernel_rfl) ?_ _
     go_wp2_with fail
     go_ret
     exact ⟨rfl, below_seq HBL.out HM.low⟩
end Go.Proofs.YtckhdiljihhdmaaGreat
