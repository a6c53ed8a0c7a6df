/- Walks, and plain facts for them. -/
import Derived.Test.YtckhdiljihhdmaaGreatPb38
namespace Go.Proofs.YtckhdiljihhdmaaGreat
set_option maxRecDepth 8000
open Go.RowKit
namespace Lk
def acme : ByteArray := { data := #[65, 67, 77, 69] }
theorem acme_list : acme.toList = [65, 67, 77, 69] := by rw [ByteArray.toList_eq]; rfl
def ah : H := ⟨acme, 10⟩
theorem aw_good : Ns.Good [10, 100] [[0, 50], [0, 0]] := ⟨⟨by decide, by decide⟩, by decide, by decide, by decide, by decide, fun i j hi hj => (by decide : ∀ i, i < 2 → ∀ j, j < 2 → 0 ≤ Ns.gh [[0, 50], [0, 0]] i j) i hi j hj, fun i j hi hj => (by decide : ∀ i, i < 2 → ∀ j, j < 2 → Ns.gh [[0, 50], [0, 0]] i j ≤ 1000000000000000) i hi j hj, by decide⟩
theorem aw_circ : ¬ Ns.Circ 2 (Ns.gu [10, 100]) (Ns.gh [[0, 50], [0, 0]]) := Ns.not_circ aw_good.ok.h0 (by decide)
theorem aw_paper : paper acme = true := by
 refine paper_yes (by decide) (by decide) (fun k hk => .inl ?_)
 have h4 : k < 4 := hk
 match k, h4 with
 | 0, _ => exact (by decide : capB 65 = true)
 | 1, _ => exact (by decide : capB 67 = true)
 | 2, _ => exact (by decide : capB 77 = true)
 | 3, _ => exact (by decide : capB 69 = true)
theorem aw_all : all [[], [ah]] = true := by
 have h : val [ah] = true := by
  unfold val
  rw [vfrom, vfrom]
  show (decide (1 ≤ 64) && (paper acme && lt [] acme.toList && inr 10 && true)) = true
  rw [aw_paper, acme_list]; rfl
 unfold all
 simp [h]
 rfl
theorem aw_chk : chk [10, 100] [[0, 50], [0, 0]] [[], [ah]] = 0 := chk_ok aw_good.good rfl aw_all
theorem aw_names : names [[], [ah]] = [[65, 67, 77, 69]] := by
 show ins [] acme.toList = _
 rw [acme_list]; rfl
theorem aw_qty : qty [[], [ah]] [65, 67, 77, 69] = [0, 10] := by
 show [ql [65, 67, 77, 69] [], ql [65, 67, 77, 69] [ah]] = _
 unfold ql
 show [0, if (acme.toList == [65, 67, 77, 69]) = true then (10 : Int) else 0] = _
 rw [acme_list]; rfl
theorem aw_err : 0 = lerr [10, 100] [[0, 50], [0, 0]] [[], [ah]] 0 10 := (lerr_ok (m := 0) aw_chk (by decide) (by decide) (by decide) aw_circ).symm
theorem aw_ex : ex [10, 100] [[0, 50], [0, 0]] [[], [ah]] 0 10 [65, 67, 77, 69] = 5 := by
 obtain ⟨f, hf, _⟩ := px aw_good aw_circ rfl aw_all [65, 67, 77, 69]
 unfold ex
 rw [← pr_eq aw_good aw_circ hf (i := 0) (by decide)]
 rw [aw_qty] at hf
 have h0 := hf.1 0 (by decide)
 have h1 := hf.1 1 (by decide)
 simp [Mx.sm, Ns.mat, Ns.rhs, Ns.gu, Ns.gh] at h0 h1
 have e : ((10 : Int) : Rat) = 10 := rfl
 rw [e]
 grind
theorem aw_xps : xps [10, 100] [[0, 50], [0, 0]] [[], [ah]] 0 10 = [⟨acme, 5⟩] := by
 refine (xps_ok (m := 0) aw_chk (by decide) (by decide) (by decide) aw_circ).trans ?_
 rw [aw_names]
 unfold exps
 rw [List.flatMap_cons, List.flatMap_nil, List.append_nil]
 unfold one
 have h5 : ¬ ((5 : Rat) = 0) := by decide
 rw [aw_ex, if_neg h5, ← acme_list, bs_of]
theorem aw_osl : osl [10, 100] [[0, 50], [0, 0]] = [10, 50] := by
 unfold osl
 rw [if_pos aw_good.good]
 decide
end Lk
theorem made_l2 {w0 w : World} {X : List Nat} {L : List (Nat × Array Value)} {b : Nat} {v1 v2 : Value} {l1 l2 : List Lk.H} (HM : Mem w0 X L w) (h : Look L b (rowsOf [vc v1, vc v2])) (h1 : RdO w v1 l1) (h2 : RdO w v2 l2) : RdL w (.slice (some ⟨b, 0, none⟩) 2 2) [l1, l2] := by
 have h3 := (SlAt.row (n := 1) b [vc v1, vc v2] [] (by simp [vc])).rd HM (by simpa using h.mem)
 refine ⟨[v1, v2], h3, rfl, fun i l hl => ?_⟩
 match i with
 | 0 => exact ⟨v1, rfl, by simp at hl; subst hl; exact h1⟩
 | 1 => exact ⟨v2, rfl, by simp at hl; subst hl; exact h2⟩
 | i + 2 => simp at hl
theorem made_o1 {w0 w : World} {X : List Nat} {L : List (Nat × Array Value)} {b : Nat} (h : Lk.H) (HM : Mem w0 X L w) (hl : Look L b (rowsOf [Lk.H.c h])) (hs : h.nm.size ≤ 9223372036854775807) : RdO w (.slice (some ⟨b, 0, none⟩) 1 1) [h] :=
 ⟨(SlAt.made1 (n := 2) b (c := Lk.H.c h) rfl).rd HM (by simpa using hl.mem), by simpa using hs⟩
set_option maxHeartbeats 4000000 in
theorem awake36_any (w : World) :
    Calls Tryz.prog 7 #[] w fun e w' => e = .returned (.bool true) ∧ Below w.heap.size w w' := by
 have HM := Mem.start w
 have eli : elemB 22 3 1 8 = true := by kernel_rfl
 have elh : elemB 23 22 1 24 = true := by kernel_rfl
 have elo : elemB 27 54 2 24 = true := by kernel_rfl
 have ell : elemB 26 27 1 24 = true := by kernel_rfl
 have zn := za_nest
 go_enter Tryz.func7, Tryz.ntmps7
 go_upto_region 1 with (first | ((with_reducible refine g_ld ?_); refine a_ld HM ?_) | ((with_reducible refine g_st ?_); refine a_st HM ?_; clear HM; intro w1 HM) | ((with_reducible refine g_al ?_); refine a_al HM ?_; clear HM; intro bk w1 HM) | ((with_reducible refine g_bld ?_); refine a_bld ?_))
 go_upto_region 2 with (first | ((with_reducible refine g_bs2 ?_); refine a_bs2 HM ?_; clear HM; intro bx w1 HM) | ((with_reducible refine g_st ?_); refine a_st (v := .agg #[_, _]) HM ?_ (hv := sa_nest _ _ rfl rfl); clear HM; intro w1 HM) | (first | ((with_reducible refine g_ld ?_); refine a_ld HM ?_) | ((with_reducible refine g_st ?_); refine a_st HM ?_; clear HM; intro w1 HM) | ((with_reducible refine g_al ?_); refine a_al HM ?_; clear HM; intro bk w1 HM) | ((with_reducible refine g_bld ?_); refine a_bld ?_)))
 obtain ⟨b0, rfl⟩ := HM.nm0
 obtain ⟨b1, rfl⟩ := HM.nm1
 obtain ⟨b2, rfl⟩ := HM.nm2
 obtain ⟨b3, rfl⟩ := HM.nm3
 obtain ⟨b4, rfl⟩ := HM.nm4
 go_upto_region 3 with (first | ((with_reducible refine g_bs1 ?_); refine a_bs1 HM ?_; clear HM; intro bx w1 HM) | ((with_reducible refine g_bs2 ?_); refine a_bs2 HM ?_; clear HM; intro bx w1 HM) | (first | ((with_reducible refine g_ld ?_); refine a_ld HM ?_) | ((with_reducible refine g_st ?_); refine a_st HM ?_; clear HM; intro w1 HM) | ((with_reducible refine g_al ?_); refine a_al HM ?_; clear HM; intro bk w1 HM) | ((with_reducible refine g_bld ?_); refine a_bld ?_)))
 obtain ⟨c0, rfl⟩ := HM.nm0
 obtain ⟨c1, rfl⟩ := HM.nm1
 have n2 := la_nest (.slice (some ⟨b4, 0, none⟩) 2 2) (.slice (some ⟨b1, 0, none⟩) 2 2)
 have hN := made_nest (b4 := b4) (b3 := b3) (b2 := b2) (b1 := b1) HM 10 100 0 50 0 0 (by ((repeat (first | exact Look.here | refine Look.there ?_)); done)) (by ((repeat (first | exact Look.here | refine Look.there ?_)); done)) (by ((repeat (first | exact Look.here | refine Look.there ?_)); done)) (by ((repeat (first | exact Look.here | refine Look.there ?_)); done))
 have hL := made_l2 (b := c0) HM (v1 := .slice none 0 0) (v2 := .slice (some ⟨c1, 0, none⟩) 1 1) (by ((repeat (first | exact Look.here | refine Look.there ?_)); done)) (RdO.nil _) (made_o1 (b := c1) Lk.ah HM (by ((repeat (first | exact Look.here | refine Look.there ?_)); done)) (by decide))
 have HNB := Lib.hid hN
 have HLB := Lib.hid hL
 have HBB := Lib.hid HM.low
 have HBN : Hid (Rbk w1 b0 #[.slice (some ⟨b4, 0, none⟩) 2 2, .slice (some ⟨b1, 0, none⟩) 2 2]) := Lib.hid (HM.get (by ((repeat (first | exact Look.here | refine Look.there ?_)); done))).rbk
 clear hN hL HM
 have HM := Mem.start _ |> fun (h : Mem w1 [] [] w1) => h
 go_upto_region 4 with (first | (go_at_call 8; refine (look_any _ _ _ [10, 100] [[0, 50], [0, 0]] [[], [Lk.ah]] 0 10 _ (HNB.out.below HM.low) (HLB.out.below HM.low) 0 (Lib.hid Lk.aw_err)).mono ?_; rintro e9 w2 ⟨s1, rfl, HX, hL⟩; replace HM := HM.call hL; clear hL) | (first | ((with_reducible refine g_ld ?_); refine a_ld HM ?_) | ((with_reducible refine g_st ?_); refine a_st HM ?_; clear HM; intro w1 HM) | ((with_reducible refine g_al ?_); refine a_al HM ?_; clear HM; intro bk w1 HM) | ((with_reducible refine g_bld ?_); refine a_bld ?_)))
 rw [Lk.aw_xps] at HX
 have HXB := Lib.hid fun w' (hB : Below w2.heap.size w2 w') => (HX.out.below hB : RdX w' s1 [⟨Lk.acme, 5⟩])
 have HLW := Lib.hid HM.low
 have HM2 := Mem.start w2
 clear HM HX
 have HM := HM2
 clear HM2
 have HBN2 := Lib.hid (HBN.out.below HLW.out HBN.out.lt)
 go_upto_region 5 with (first | (go_at_call 10; refine (outside_any _ _ [10, 100] [[0, 50], [0, 0]] _ (HNB.out.below (below_seq HLW.out HM.low)) 0 (Lib.hid Lk.aw_good.good.symm)).mono ?_; rintro e9 w3 ⟨s2, rfl, HO, hL⟩; replace HM := HM.call hL; clear hL) | (first | ((with_reducible refine g_ld ?_); refine a_ld HM ?_) | ((with_reducible refine g_st ?_); refine a_st HM ?_; clear HM; intro w1 HM) | ((with_reducible refine g_al ?_); refine a_al HM ?_; clear HM; intro bk w1 HM) | ((with_reducible refine g_bld ?_); refine a_bld ?_)))
 rw [Lk.aw_osl] at HO
 have HX3 := HXB.out _ HM.low
 have HB3 := Lib.hid (below_seq HBB.out (below_seq HLW.out HM.low))
 have HO3 := Lib.hid fun w' (hB : Below w3.heap.size w3 w') => (HO.out.below hB : RdI w' s2 [10, 50])
 clear HM HO HXB HLW
 have HM := Mem.start w3
 obtain ⟨Ax, cx, rfl⟩ := HX3.form
 obtain ⟨b, off, cs, rfl, HBK, k0, -, -⟩ := HX3.at_ (i := 0) rfl
 have hf5 : Rt.Fit (5 : Rat) := Lk.int_fit (n := 5) (by decide)
 have E := Xp.eq_self ⟨Lk.acme, 5⟩ hf5
 have R0 := fun w => sratio_any 5 1 (5 : Rat) (by decide) (by decide) (by decide) (by decide) (Lib.hid (Rt.int_divInt 5)) w
 have HBD := fun w => Xp.build ⟨Lk.acme, 5⟩ w
 clear HX3
 refine start_M [] HM (by kernel_rfl) (fun w0x H9 => ?_)
 replace HM := H9; clear H9
 refine k_mv 0 (heldE HM) ?_
 refine k_bin 1 (heldE HM) ?_
 refine k_mv 2 (heldE HM) ?_
 refine k_mv 3 (heldE HM) ?_
 refine k_bin 4 (heldE HM) ?_
 refine k_pick 5 (heldE HM) ?_
 refine k_mv 6 (heldE HM) ?_
 refine k_mv 7 (heldE HM) ?_
 refine k_pv 8 (heldE HM) ?_
 refine k_bin 9 (heldE HM) ?_
 refine k_pick 10 (heldE HM) ?_
 refine k_mv 11 (heldE HM) ?_
 refine k_mv 12 (heldE HM) ?_
 refine k_ia 13 (heldE HM) ?_
 refine k_ld 14 [] (heldE HM) ?_
 refine j_one 15 fun K9 hK9 => ?_
 refine j_call2 (v := ?_) HM ?_ ?_; rotate_left 1; (focus (with_reducible (first | exact R0 _))); clear HM; intro w1 HM
 refine hK9 _ _ (heldE HM) ?_; clear hK9 K9
 refine t_pure (i := 16) (v := .agg (Xp.c ⟨Lk.acme, 5⟩)) rfl rfl (by kernel_rfl) (fun _ _ _ h => h) (heldE HM) (by rfl) ?_ ?_; (focus (exact h_bl2 rfl rfl (by (conv => lhs; whnf) <;> rfl) HBD)); ((try simp only [List.setIfInBounds_toArray]); (try simp only [List.set_cons_succ]); (try simp only [List.set_cons_zero]))
 refine t_eq (i := 17) (v := ?_) [] rfl rfl rfl (by kernel_rfl) (fun _ _ _ h => h) (heldE HM) ?_ ?_; rotate_left 1; (focus ((refine y_cmps .eql true (.inl rfl) (E) rfl (by kernel_rfl) (x := ?_) (y := ?_) (t := ?_) ?_ ?_ ?_ ?_; rotate_left 3; (focus rfl); (focus rfl); (focus ((conv => lhs; whnf) <;> rfl)); ((conv => lhs; whnf) <;> rfl)))); ((try simp only [List.setIfInBounds_toArray]); (try simp only [List.set_cons_succ]); (try simp only [List.set_cons_zero]))
 refine k_pick 18 (heldE HM) ?_
 refine k_mv 19 (heldE HM) ?_
 refine k_mv 20 (heldE HM) ?_
 refine j_one 21 fun K9 hK9 => ?_
 refine j_bs2 HM ?_ (hT := eli); clear HM; intro bx w1 HM
 refine hK9 _ _ (heldE HM) ?_; clear hK9 K9; ((try simp only [List.setIfInBounds_toArray]); (try simp only [List.set_cons_succ]); (try simp only [List.set_cons_zero]))
 refine j_one 22 fun K9 hK9 => ?_
 refine o_callg (same23_any _ _ [10, 50] _ (HO3.out _ HM.low) (made_i HM [10, 50] (by ((repeat (first | exact Look.here | refine Look.there ?_)); done))) (by decide)) rfl ?_ ?_; (focus (refine h_call2 (ts := ?_) (x1 := ?_) (x2 := ?_) ?_ (by kernel_rfl) ?_ ?_; rotate_left 3; (focus rfl); (focus rfl); rfl)); rintro e9 w4 ⟨rfl, hL⟩; replace HM := HM.call hL; clear hL; refine ⟨_, rfl, ?_⟩
 refine hK9 _ _ (heldE HM) ?_; clear hK9 K9; ((try simp only [List.setIfInBounds_toArray]); (try simp only [List.set_cons_succ]); (try simp only [List.set_cons_zero]))
 refine k_pick 23 (heldE HM) ?_
 refine k_mv 24 (heldE HM) ?_
 refine wpAnyL_done (by kernel_rfl) ?_ _
 go_wp2_with fail
 go_ret
 exact ⟨rfl, below_seq HB3.out HM.low⟩
end Go.Proofs.YtckhdiljihhdmaaGreat
namespace Go.Proofs.YtckhdiljihhdmaaGreat
set_option maxRecDepth 8000
open Go.RowKit
theorem Lk.lerr_spec {U : List Int} {Hs : List (List Int)} {L : List (List Lk.H)} {i n : Int} (h : Lk.lerr U Hs L i n = 0) : ∃ m : Nat, i = m ∧ Lk.chk U Hs L = 0 ∧ m < U.length ∧ 0 ≤ n ∧ n ≤ Ns.gu U m ∧ ¬ Ns.Circ U.length (Ns.gu U) (Ns.gh Hs) := by
 unfold Lk.lerr at h
 by_cases h0 : Lk.chk U Hs L = 0
 ·rw [if_pos h0] at h
  by_cases h1 : i < 0 ∨ (U.length : Int) ≤ i
  ·rw [if_pos h1] at h; cases h
  ·rw [if_neg h1] at h
   by_cases h2 : n < 0 ∨ Ns.gu U i.toNat < n
   ·rw [if_pos h2] at h; cases h
   ·rw [if_neg h2] at h
    by_cases h3 : Ns.Circ U.length (Ns.gu U) (Ns.gh Hs)
    ·rw [if_pos h3] at h; cases h
    ·exact ⟨i.toNat, by omega, h0, by omega, by omega, by omega, h3⟩
 ·rw [if_neg h0] at h; exact absurd h h0
theorem Lk.xps_fit (U : List Int) (Hs : List (List Int)) (L : List (List Lk.H)) (i n : Int) : (Lk.xps U Hs L i n).length ≤ 100000 ∧ ∀ x ∈ Lk.xps U Hs L i n, Rt.Fit x.q := by
 by_cases h : Lk.lerr U Hs L i n = 0
 ·obtain ⟨m, rfl, h0, h1, h2, h3, h4⟩ := Lk.lerr_spec h
  obtain ⟨hG, hl, ha⟩ := Lk.chk_spec h0
  rw [Lk.xps_ok h0 h1 h2 h3 h4]
  have h5 := Lk.exps_len U Hs L m n (Lk.names L)
  have h6 := Lk.names_len ha (by have := hG.sh.1; omega)
  exact ⟨by omega, Lk.exps_fit hG h4 hl ha h1 h2 h3 _⟩
 ·rw [Lk.xps_no rfl h]; simp
end Go.Proofs.YtckhdiljihhdmaaGreat
namespace Go.Proofs.YtckhdiljihhdmaaGreat
set_option maxRecDepth 8000
open Go.RowKit
namespace Lk
theorem vfrom_snoc : ∀ {l : List H} {last : List UInt8} {h : H}, vfrom last l = true → paper h.nm = true → inr h.q = true → lt last h.nm.toList = true → (∀ g ∈ l, lt g.nm.toList h.nm.toList = true) → vfrom last (l ++ [h]) = true
 | [], last, h, _, hp, hq, hl, _ => by
  show (paper h.nm && lt last h.nm.toList && inr h.q && true) = true
  rw [hp, hq, hl]; rfl
 | g :: l, last, h, hv, hp, hq, hl, ha => by
  rw [vfrom] at hv
  simp only [Bool.and_eq_true] at hv
  show (paper g.nm && lt last g.nm.toList && inr g.q && vfrom g.nm.toList (l ++ [h])) = true
  rw [hv.1.1.1, hv.1.1.2, hv.1.2, vfrom_snoc hv.2 hp hq (ha g List.mem_cons_self) (fun g' hg => ha g' (List.mem_cons_of_mem _ hg))]; rfl
def nm5 : Nat → ByteArray
 | 0 => { data := #[65, 67, 77, 69] }
 | 1 => { data := #[66, 69, 84, 65] }
 | 2 => { data := #[67, 79, 82, 69] }
 | 3 => { data := #[68, 69, 76, 84, 65] }
 | _ => { data := #[69, 67, 72, 79] }
theorem nm5_paper : ∀ i, i < 5 → paper (nm5 i) = true := by
 intro i hi
 match i, hi with
 | 0, _ => exact aw_paper
 | 1, _ =>
  refine paper_yes (by decide) (by decide) (fun k hk => .inl ?_)
  have h4 : k < 4 := hk
  match k, h4 with
  | 0, _ => exact (by decide : capB 66 = true)
  | 1, _ => exact (by decide : capB 69 = true)
  | 2, _ => exact (by decide : capB 84 = true)
  | 3, _ => exact (by decide : capB 65 = true)
 | 2, _ =>
  refine paper_yes (by decide) (by decide) (fun k hk => .inl ?_)
  have h4 : k < 4 := hk
  match k, h4 with
  | 0, _ => exact (by decide : capB 67 = true)
  | 1, _ => exact (by decide : capB 79 = true)
  | 2, _ => exact (by decide : capB 82 = true)
  | 3, _ => exact (by decide : capB 69 = true)
 | 3, _ =>
  refine paper_yes (by decide) (by decide) (fun k hk => .inl ?_)
  have h4 : k < 5 := hk
  match k, h4 with
  | 0, _ => exact (by decide : capB 68 = true)
  | 1, _ => exact (by decide : capB 69 = true)
  | 2, _ => exact (by decide : capB 76 = true)
  | 3, _ => exact (by decide : capB 84 = true)
  | 4, _ => exact (by decide : capB 65 = true)
 | 4, _ =>
  refine paper_yes (by decide) (by decide) (fun k hk => .inl ?_)
  have h4 : k < 4 := hk
  match k, h4 with
  | 0, _ => exact (by decide : capB 69 = true)
  | 1, _ => exact (by decide : capB 67 = true)
  | 2, _ => exact (by decide : capB 72 = true)
  | 3, _ => exact (by decide : capB 79 = true)
theorem nm5_list (i : Nat) : (nm5 i).toList = (nm5 i).data.toList := ByteArray.toList_eq _
theorem nm5_lt : ∀ i j, j < i → i < 5 → lt (nm5 j).toList (nm5 i).toList = true := by
 intro i j hj hi
 rw [nm5_list, nm5_list]
 have : ∀ i, i < 5 → ∀ j, j < i → lt (nm5 j).data.toList (nm5 i).data.toList = true := by decide
 exact this i hi j hj
structure Hs (i : Nat) (l : List H) : Prop where
 len : l.length ≤ i
 v : vfrom [] l = true
 nm : ∀ h ∈ l, ∃ j, j < i ∧ h.nm = nm5 j
theorem Hs.nil : Hs 0 [] := ⟨by simp, rfl, by simp⟩
theorem Hs.skip {i : Nat} {l : List H} (h : Hs i l) : Hs (i + 1) l := ⟨Nat.le_succ_of_le h.len, h.v, fun g hg => by obtain ⟨j, hj, e⟩ := h.nm g hg; exact ⟨j, Nat.lt_succ_of_lt hj, e⟩⟩
theorem Hs.put {i : Nat} {l : List H} {q : Int} (h : Hs i l) (hi : i < 5) (h0 : 1 ≤ q) (h1 : q ≤ 1000000) : Hs (i + 1) (l ++ [⟨nm5 i, q⟩]) := by
 have hp := nm5_paper i hi
 refine ⟨by simp; exact h.len, vfrom_snoc h.v hp (decide_eq_true ⟨h0, by show q ≤ _; omega⟩) (lt_nil (paper_ne hp)) (fun g hg => ?_), fun g hg => ?_⟩
 ·obtain ⟨j, hj, e⟩ := h.nm g hg
  rw [e]
  exact nm5_lt i j hj hi
 ·rcases List.mem_append.1 hg with hg | hg
  ·obtain ⟨j, hj, e⟩ := h.nm g hg
   exact ⟨j, Nat.lt_succ_of_lt hj, e⟩
  ·rw [List.mem_singleton.1 hg]
   exact ⟨i, Nat.lt_succ_self i, rfl⟩
theorem Hs.val {i : Nat} {l : List H} (h : Hs i l) (hi : i ≤ 64) : val l = true := by
 unfold Lk.val
 rw [decide_eq_true (Nat.le_trans h.len hi), h.v]; rfl
theorem nm5_size : ∀ i, (nm5 i).size ≤ 9223372036854775807
 | 0 | 1 | 2 | 3 => by decide
 | _ + 4 => by show 4 ≤ _; decide
theorem Hs.sz {i : Nat} {l : List H} (h : Hs i l) : ∀ g ∈ l, g.nm.size ≤ 9223372036854775807 := fun g hg => by
 obtain ⟨j, _, e⟩ := h.nm g hg
 rw [e]; exact nm5_size j
theorem nm5_at : ∀ i, i < 5 → LA 9 (rowsOf [#[Value.string (nm5 0)], #[.string (nm5 1)], #[.string (nm5 2)], #[.string (nm5 3)], #[.string (nm5 4)]]) i (.string (nm5 i)) := by
 intro i hi
 refine LA.one (by kernel_rfl) ?_
 match i, hi with
 | 0, _ => rfl
 | 1, _ => rfl
 | 2, _ => rfl
 | 3, _ => rfl
 | 4, _ => rfl
theorem build (h : H) (w : World) : (Instr.build 54 #[(0, .string h.nm), (1, .int .i64 h.q)]).run Tryz.prog w = .ok (.agg (Lk.H.c h)) w := by kernel_rfl
end Lk
section
variable {Q : Exit → Act → World → Prop} {w w0 : World} {X : List Nat} {L : List (Nat × Array Value)} {oi : Oper} {d : Tmp} {a : Act} {R : Act → World → Prop}
theorem j_bss {t e : TypeId} {by_ : Nat} {x0 x1 x2 x3 x4 : Operand} {v0 v1 v2 v3 v4 : ByteArray} {a2 : Nat → Act} (HM : Mem w0 X L w) (h : ∀ b w', Mem w0 X ((b, rowsOf [#[.string v0], #[.string v1], #[.string v2], #[.string v3], #[.string v4]]) :: L) w' → R (a2 b) w') (hd : oi.dst = some d := by rfl) (ho : oi.op = .buildSlice t 5 #[(0, x0), (1, x1), (2, x2), (3, x3), (4, x4)] := by rfl) (hT : elemB t e 1 by_ = true := by with_reducible assumption) (h0 : a.eval x0 = .string v0 := by (conv => lhs; whnf) <;> rfl) (h1 : a.eval x1 = .string v1 := by (conv => lhs; whnf) <;> rfl) (h2 : a.eval x2 = .string v2 := by (conv => lhs; whnf) <;> rfl) (h3 : a.eval x3 = .string v3 := by (conv => lhs; whnf) <;> rfl) (h4 : a.eval x4 = .string v4 := by (conv => lhs; whnf) <;> rfl) (ha : ∀ b, ({ a with tmps := a.tmps.setIfInBounds d (.slice (some ⟨b, 0, none⟩) 5 5) } : Act) = a2 b := by intro b; ((try simp only [List.setIfInBounds_toArray, List.set_cons_succ, List.set_cons_zero]) <;> rfl)) : Oper.wp Tryz.prog oi a w R Q := by
 obtain ⟨i, z, hE⟩ := elemT hT
 have hr := run_bs hE [.string v0, .string v1, .string v2, .string v3, .string v4] (by simp [Value.cells]) (by simp) (parts := #[(0, .string v0), (1, .string v1), (2, .string v2), (3, .string v3), (4, .string v4)]) rfl w
 unfold Oper.wp execOp
 simp [ho, h0, h1, h2, h3, h4] at hr ⊢
 simp only [hr, Result.andThen]
 rw [Oper.upon_value, hd]
 have h9 := h _ _ (HM.new (rowsOf [#[.string v0], #[.string v1], #[.string v2], #[.string v3], #[.string v4]]) e)
 rw [← ha] at h9
 exact h9
end
set_option maxHeartbeats 1000000 in
theorem sunits_new {W w0 w : World} {X : List Nat} {L : List (Nat × Array Value)} {tb m : Nat} {cs : Array Value} (HMo : Mem w0 X L w) (hl : Look L tb cs) (hc : TapeC W m cs) (h0 : Below W.heap.size W w0) (hX : ∀ b ∈ X, W.heap.size ≤ b) (hm : m ≤ 900000000000) :
    Calls Tryz.prog 68 #[.pointer (some ⟨tb, 0, none⟩)] w fun e w' => ∃ (q : Int) (c' : Array Value), e = .returned (.int .i64 q) ∧ (1 ≤ q ∧ q ≤ 1000000) ∧ TapeC W (m + 4) c' ∧ Blk w' tb c' ∧ Only [tb] w w' := by
 have HM := Mem.start1 w (HMo.get hl)
 have HC := Lib.hid hc
 have HT := HMo.tp hl hc h0 hX
 have H0 : Hid (Below W.heap.size W w) := Lib.hid (by obtain ⟨_, _, _, h, _⟩ := HT; exact h)
 have hle : ∀ b ∈ [tb], W.heap.size ≤ b := by
  obtain ⟨_, _, _, _, h⟩ := HT
  intro b hb
  rw [List.mem_singleton.1 hb]; exact h
 clear HT hc h0 hX hl HMo
 go_enter Tryz.func68, Tryz.ntmps68
 go_wp2_with fail
 (refine (snext_any W tb _ _ _ (HM.tp (by ((repeat (first | exact Look.here | refine Look.there ?_)); done)) HC.out H0.out hle) (by omega) (by omega) (by omega)).mono ?_; rintro e9 w2 ⟨v, rfl, hv0, hv1, ⟨c1, hb1, hc1, -, -⟩, hg⟩; replace HM := HM.put (c' := c1) (by (repeat (first | exact At.here | apply At.there))) hb1 (Only.of_grown hg); clear hg hb1; replace HC := Lib.hid hc1; clear hc1)
 go_wp2_with fail
 (refine (snext_any W tb _ _ _ (HM.tp (by ((repeat (first | exact Look.here | refine Look.there ?_)); done)) HC.out H0.out hle) (by omega) (by omega) (by omega)).mono ?_; rintro e9 w2 ⟨u, rfl, hu0, hu1, ⟨c1, hb1, hc1, -, -⟩, hg⟩; replace HM := HM.put (c' := c1) (by (repeat (first | exact At.here | apply At.there))) hb1 (Only.of_grown hg); clear hg hb1; replace HC := Lib.hid hc1; clear hc1)
 go_wp2_with fail
 (refine (snext_any W tb _ _ _ (HM.tp (by ((repeat (first | exact Look.here | refine Look.there ?_)); done)) HC.out H0.out hle) (by omega) (by omega) (by omega)).mono ?_; rintro e9 w2 ⟨y, rfl, hy0, hy1, ⟨c1, hb1, hc1, -, -⟩, hg⟩; replace HM := HM.put (c' := c1) (by (repeat (first | exact At.here | apply At.there))) hb1 (Only.of_grown hg); clear hg hb1; replace HC := Lib.hid hc1; clear hc1)
 go_wp2_with fail
 (refine (spick_new (tb := tb) (W := W) HM (by ((repeat (first | exact Look.here | refine Look.there ?_)); done)) HC.out H0.out (by first | exact hle | simpa using hle) [1, 2, 3, 1 + v, 1 + u, 1 + y] _ (by omega) (by simp) (by simp)).mono ?_; rintro e9 w2 ⟨v1, c1, rfl, hv, hc1, hb1, hg⟩; replace HM := HM.put (c' := c1) (by (repeat (first | exact At.here | apply At.there))) hb1 hg; clear hg hb1; replace HC := Lib.hid hc1; clear hc1)
 have hx : 1 ≤ v1 ∧ v1 ≤ 1000000 := by
  simp at hv
  omega
 clear hv
 go_wp2_with fail
 go_ret
 exact ⟨v1, _, rfl, hx, HC.out.mono (by omega), HM.get .here, HM.only⟩
set_option maxRecDepth 100000 in
set_option maxHeartbeats 4000000 in
theorem sholdings_any (tb m : Nat) (c : Array Value) (R : List (Nat × Array Value)) (W w : World) (HM : Mem W [] ((tb, c) :: R) w) (HC : Hid (TapeC W m c)) (hm : m ≤ 900000000) :
    Calls Tryz.prog 46 #[.pointer (some ⟨tb, 0, none⟩), .int .i64 3] w fun e w' => ∃ (s : Value) (l : List Lk.H) (B : List (Nat × Array Value)) (c' : Array Value), e = .returned s ∧ Hid (Lk.Hs 3 l) ∧ Hid (SlAt 2 s (l.map Lk.H.c) B) ∧ Hid (TapeC W (m + 15) c') ∧ Mem W [] ((tb, c') :: (B ++ R)) w' := by
 have H0 : Hid (Below W.heap.size W W) := Below.refl _ _
 have hle : ∀ b ∈ ([] : List Nat), W.heap.size ≤ b := by simp
 have els : elemB 58 9 1 16 = true := by kernel_rfl
 have elo : elemB 27 54 2 24 = true := by kernel_rfl
 go_enter Tryz.func46, Tryz.ntmps46
 go_wp2_with (first | ((with_reducible refine g_ld ?_); refine a_ld HM ?_) | ((with_reducible refine g_bld ?_); refine a_bld ?_))
 go_loopw [5, 6] (fun ov iv wr => ∃ (i : Nat) (so : Value) (l : List Lk.H) (B : List (Nat × Array Value)) (c1 : Array Value), so = ov ∧ iv = .int .i64 (i : Nat) ∧ i ≤ 3 ∧ Hid (Lk.Hs i l) ∧ Hid (SlAt 2 so (l.map Lk.H.c) B) ∧ Hid (TapeC W (m + 5 * i) c1) ∧ Mem W [] ((tb, c1) :: (B ++ R)) wr) (fun _ iv _ => 3 - (intOf iv).toNat)
 case atStart => exact ⟨0, _, [], [], c, rfl, rfl, by omega, Lib.hid .nil, Lib.hid SlAt.nil, HC, HM⟩
 case round =>
  clear HM HC
  obtain ⟨i, so, l, B, c1, rfl, rfl, hi, HL, HS, HC, HM⟩ := hrel
  by_cases hlt : i < 3
  ·have hlt1 : (i : Int) < 3 := by omega
   have hlt5 : (i : Int) < 5 := by omega
   go_wp2_with (first | ((with_reducible refine g_ld ?_); refine a_ld HM ?_) | ((with_reducible refine g_bld ?_); refine a_bld ?_))
   (refine (sbool_any W tb _ 3 _ (HM.tp (by ((repeat (first | exact Look.here | refine Look.there ?_)); done)) HC.out H0.out hle) (by omega) (by omega) (by omega)).mono ?_; rintro e9 w2 ⟨g, rfl, ⟨c1, hb1, hc1, -, -⟩, hg⟩; replace HM := HM.put (c' := c1) (by (repeat (first | exact At.here | apply At.there))) hb1 (Only.of_grown hg); clear hg hb1; replace HC := Lib.hid hc1; clear hc1)
   cases g with
   | true =>
    go_wp2_with (first | ((with_reducible refine g_ld ?_); refine a_ld HM ?_) | ((with_reducible refine g_bld ?_); refine a_bld ?_))
    go_roundw
    case rel => exact ⟨i + 1, _, l, B, _, rfl, by go_num, by omega, Lib.hid HL.out.skip, HS, Lib.hid (HC.out.mono (by omega)), HM⟩
    case measure => simp [intOf]; omega
   | false =>
    have ks := Lk.nm5_at i (by omega)
    obtain ⟨nm, hnm⟩ : ∃ s, s = Lk.nm5 i := ⟨_, rfl⟩
    rw [← hnm] at ks
    have hll := HL.out.len
    go_upto_region 6 with (first | ((with_reducible refine g_ld ?_); refine a_ld HM ?_) | ((with_reducible refine g_bld ?_); refine a_bld ?_))
    refine start_M2 [] HM (Sub.nil) (by kernel_rfl) (fun w0x H9 => ?_)
    replace HM := H9; clear H9
    refine k_mv 0 (heldF HM) ?_
    refine k_mv 2 (heldF HM) ?_
    refine k_mv 5 (heldF HM) ?_
    refine j_two 1 6 ?_ ?_
    ·refine j_bss HM ?_ (hT := els); clear HM; intro bs w1 HM
     refine ⟨(heldF HM), ?_⟩; ((try simp only [List.setIfInBounds_toArray]); (try simp only [List.set_cons_succ]); (try simp only [List.set_cons_zero]))
     refine k_ia 3 (heldF HM) ?_
     refine j_two 4 6 ?_ ?_
     ·refine j_ld HM ?_
      refine ⟨(heldF HM), ?_⟩
      refine j_one 6 fun K9 hK9 => ?_
      refine o_callg (sunits_new (tb := tb) HM (by ((repeat (first | exact Look.here | refine Look.there ?_)); done)) HC.out H0.out hle (by omega)) rfl ?_ ?_; (focus (refine h_call1 (ts := ?_) (x1 := ?_) ?_ (by kernel_rfl) ?_; rotate_left 2; (focus rfl); rfl)); rintro e9 w1 ⟨q, c1, rfl, hq, hc1, hb1, hg9⟩; replace HM := HM.put (c' := c1) (by (repeat (first | exact At.here | apply At.there))) hb1 hg9; clear hg9 hb1; replace HC := Lib.hid hc1; clear hc1; refine ⟨_, rfl, ?_⟩
      refine hK9 _ _ (heldF HM) ?_; clear hK9 K9; ((try simp only [List.setIfInBounds_toArray]); (try simp only [List.set_cons_succ]); (try simp only [List.set_cons_zero]))
      refine t_pure (i := 7) (v := .agg (Lk.H.c ⟨nm, q⟩)) rfl rfl (by kernel_rfl) (fun _ _ _ h => h) (heldF HM) (by rfl) ?_ ?_; (focus (exact h_bl2 rfl (by (conv => lhs; whnf) <;> rfl) (by (conv => lhs; whnf) <;> rfl) (Lk.build ⟨nm, q⟩))); ((try simp only [List.setIfInBounds_toArray]); (try simp only [List.set_cons_succ]); (try simp only [List.set_cons_zero]))
      refine j_one 8 fun K9 hK9 => ?_
      refine j_bs1 (c0 := Lk.H.c ⟨nm, q⟩) HM ?_ (hT := elo) (z0 := rfl); clear HM; intro b9 w9 HM
      refine hK9 _ _ (heldF HM) ?_; clear hK9 K9; ((try simp only [List.setIfInBounds_toArray]); (try simp only [List.set_cons_succ]); (try simp only [List.set_cons_zero]))
      refine j_one 9 fun K9 hK9 => ?_
      refine j_app (hT := elo) (m := [Lk.H.c ⟨nm, q⟩]) (F := fun X => (tb, c1) :: (X ++ R)) HM HS.out ((SlAt.made1 b9 (c := Lk.H.c ⟨nm, q⟩) rfl).rd HM (by simp)) ?_ (Lk.c_one [⟨nm, q⟩]) (hlen := by rw [List.length_map]; simp; omega); clear HM; intro s9 B9 w9 HS9 HM
      refine hK9 _ _ (heldF HM) ?_; clear hK9 K9; ((try simp only [List.setIfInBounds_toArray]); (try simp only [List.set_cons_succ]); (try simp only [List.set_cons_zero]))
      refine k_mv 10 (heldF HM) ?_
      refine wpAnyL_done (by kernel_rfl) ?_ _
      ((have HL2 : Hid (Lk.Hs (i + 1) (l ++ [⟨nm, q⟩])) := Lib.hid (by rw [hnm]; exact HL.out.put (by omega) hq.1 hq.2)); (have HS2 : Hid (SlAt 2 s9 ((l ++ [(⟨nm, q⟩ : Lk.H)]).map Lk.H.c) B9) := Lib.hid (by rw [List.map_append]; exact HS9)); clear HS9 hnm hq; go_wp2_with fail; go_roundw; (case rel => exact ⟨i + 1, _, _, B9, _, rfl, by go_num, by omega, HL2, HS2, Lib.hid (HC.out.mono (by omega)), HM⟩); (case measure => simp [intOf]; omega))
     ·refine o_callg (sunits_new (tb := tb) HM (by ((repeat (first | exact Look.here | refine Look.there ?_)); done)) HC.out H0.out hle (by omega)) rfl ?_ ?_; (focus (refine h_call1 (ts := ?_) (x1 := ?_) ?_ (by kernel_rfl) ?_; rotate_left 2; (focus rfl); rfl)); rintro e9 w1 ⟨q, c1, rfl, hq, hc1, hb1, hg9⟩; replace HM := HM.put (c' := c1) (by (repeat (first | exact At.here | apply At.there))) hb1 hg9; clear hg9 hb1; replace HC := Lib.hid hc1; clear hc1; refine ⟨_, rfl, ?_⟩
      refine ⟨(heldF HM), ?_⟩; ((try simp only [List.setIfInBounds_toArray]); (try simp only [List.set_cons_succ]); (try simp only [List.set_cons_zero]))
      refine j_one 4 fun K9 hK9 => ?_
      refine j_ld HM ?_
      refine hK9 _ _ (heldF HM) ?_; clear hK9 K9
      refine t_pure (i := 7) (v := .agg (Lk.H.c ⟨nm, q⟩)) rfl rfl (by kernel_rfl) (fun _ _ _ h => h) (heldF HM) (by rfl) ?_ ?_; (focus (exact h_bl2 rfl (by (conv => lhs; whnf) <;> rfl) (by (conv => lhs; whnf) <;> rfl) (Lk.build ⟨nm, q⟩))); ((try simp only [List.setIfInBounds_toArray]); (try simp only [List.set_cons_succ]); (try simp only [List.set_cons_zero]))
      refine j_one 8 fun K9 hK9 => ?_
      refine j_bs1 (c0 := Lk.H.c ⟨nm, q⟩) HM ?_ (hT := elo) (z0 := rfl); clear HM; intro b9 w9 HM
      refine hK9 _ _ (heldF HM) ?_; clear hK9 K9; ((try simp only [List.setIfInBounds_toArray]); (try simp only [List.set_cons_succ]); (try simp only [List.set_cons_zero]))
      refine j_one 9 fun K9 hK9 => ?_
      refine j_app (hT := elo) (m := [Lk.H.c ⟨nm, q⟩]) (F := fun X => (tb, c1) :: (X ++ R)) HM HS.out ((SlAt.made1 b9 (c := Lk.H.c ⟨nm, q⟩) rfl).rd HM (by simp)) ?_ (Lk.c_one [⟨nm, q⟩]) (hlen := by rw [List.length_map]; simp; omega); clear HM; intro s9 B9 w9 HS9 HM
      refine hK9 _ _ (heldF HM) ?_; clear hK9 K9; ((try simp only [List.setIfInBounds_toArray]); (try simp only [List.set_cons_succ]); (try simp only [List.set_cons_zero]))
      refine k_mv 10 (heldF HM) ?_
      refine wpAnyL_done (by kernel_rfl) ?_ _
      ((have HL2 : Hid (Lk.Hs (i + 1) (l ++ [⟨nm, q⟩])) := Lib.hid (by rw [hnm]; exact HL.out.put (by omega) hq.1 hq.2)); (have HS2 : Hid (SlAt 2 s9 ((l ++ [(⟨nm, q⟩ : Lk.H)]).map Lk.H.c) B9) := Lib.hid (by rw [List.map_append]; exact HS9)); clear HS9 hnm hq; go_wp2_with fail; go_roundw; (case rel => exact ⟨i + 1, _, _, B9, _, rfl, by go_num, by omega, HL2, HS2, Lib.hid (HC.out.mono (by omega)), HM⟩); (case measure => simp [intOf]; omega))
    ·refine o_callg (sunits_new (tb := tb) HM (by ((repeat (first | exact Look.here | refine Look.there ?_)); done)) HC.out H0.out hle (by omega)) rfl ?_ ?_; (focus (refine h_call1 (ts := ?_) (x1 := ?_) ?_ (by kernel_rfl) ?_; rotate_left 2; (focus rfl); rfl)); rintro e9 w1 ⟨q, c1, rfl, hq, hc1, hb1, hg9⟩; replace HM := HM.put (c' := c1) (by (repeat (first | exact At.here | apply At.there))) hb1 hg9; clear hg9 hb1; replace HC := Lib.hid hc1; clear hc1; refine ⟨_, rfl, ?_⟩
     refine ⟨(heldF HM), ?_⟩; ((try simp only [List.setIfInBounds_toArray]); (try simp only [List.set_cons_succ]); (try simp only [List.set_cons_zero]))
     refine j_one 1 fun K9 hK9 => ?_
     refine j_bss HM ?_ (hT := els); clear HM; intro bs w1 HM
     refine hK9 _ _ (heldF HM) ?_; clear hK9 K9; ((try simp only [List.setIfInBounds_toArray]); (try simp only [List.set_cons_succ]); (try simp only [List.set_cons_zero]))
     refine k_ia 3 (heldF HM) ?_
     refine j_one 4 fun K9 hK9 => ?_
     refine j_ld HM ?_
     refine hK9 _ _ (heldF HM) ?_; clear hK9 K9
     refine t_pure (i := 7) (v := .agg (Lk.H.c ⟨nm, q⟩)) rfl rfl (by kernel_rfl) (fun _ _ _ h => h) (heldF HM) (by rfl) ?_ ?_; (focus (exact h_bl2 rfl (by (conv => lhs; whnf) <;> rfl) (by (conv => lhs; whnf) <;> rfl) (Lk.build ⟨nm, q⟩))); ((try simp only [List.setIfInBounds_toArray]); (try simp only [List.set_cons_succ]); (try simp only [List.set_cons_zero]))
     refine j_one 8 fun K9 hK9 => ?_
     refine j_bs1 (c0 := Lk.H.c ⟨nm, q⟩) HM ?_ (hT := elo) (z0 := rfl); clear HM; intro b9 w9 HM
     refine hK9 _ _ (heldF HM) ?_; clear hK9 K9; ((try simp only [List.setIfInBounds_toArray]); (try simp only [List.set_cons_succ]); (try simp only [List.set_cons_zero]))
     refine j_one 9 fun K9 hK9 => ?_
     refine j_app (hT := elo) (m := [Lk.H.c ⟨nm, q⟩]) (F := fun X => (tb, c1) :: (X ++ R)) HM HS.out ((SlAt.made1 b9 (c := Lk.H.c ⟨nm, q⟩) rfl).rd HM (by simp)) ?_ (Lk.c_one [⟨nm, q⟩]) (hlen := by rw [List.length_map]; simp; omega); clear HM; intro s9 B9 w9 HS9 HM
     refine hK9 _ _ (heldF HM) ?_; clear hK9 K9; ((try simp only [List.setIfInBounds_toArray]); (try simp only [List.set_cons_succ]); (try simp only [List.set_cons_zero]))
     refine k_mv 10 (heldF HM) ?_
     refine wpAnyL_done (by kernel_rfl) ?_ _
     ((have HL2 : Hid (Lk.Hs (i + 1) (l ++ [⟨nm, q⟩])) := Lib.hid (by rw [hnm]; exact HL.out.put (by omega) hq.1 hq.2)); (have HS2 : Hid (SlAt 2 s9 ((l ++ [(⟨nm, q⟩ : Lk.H)]).map Lk.H.c) B9) := Lib.hid (by rw [List.map_append]; exact HS9)); clear HS9 hnm hq; go_wp2_with fail; go_roundw; (case rel => exact ⟨i + 1, _, _, B9, _, rfl, by go_num, by omega, HL2, HS2, Lib.hid (HC.out.mono (by omega)), HM⟩); (case measure => simp [intOf]; omega))
  ·obtain rfl : i = 3 := by omega
   go_wp2_with (first | ((with_reducible refine g_ld ?_); refine a_ld HM ?_) | ((with_reducible refine g_bld ?_); refine a_bld ?_))
   go_ret
   exact ⟨_, l, B, c1, rfl, HL, HS, Lib.hid (HC.out.mono (by omega)), HM⟩
structure HsAt (n : Nat) (vs : List Value) (L : List (List Lk.H)) (BB : List (Nat × Array Value)) : Prop where
 l1 : vs.length = n
 l2 : L.length = n
 at_ : ∀ (i : Nat) (l : List Lk.H), L[i]? = some l → ∃ v B, vs[i]? = some v ∧ SlAt 2 v (l.map Lk.H.c) B ∧ (∀ p ∈ B, p ∈ BB) ∧ Lk.Hs 3 l
theorem HsAt.nil : HsAt 0 [] [] [] := ⟨rfl, rfl, by simp⟩
theorem HsAt.put {n : Nat} {vs : List Value} {L : List (List Lk.H)} {BB B : List (Nat × Array Value)} {v : Value} {l : List Lk.H} (h : HsAt n vs L BB) (hs : SlAt 2 v (l.map Lk.H.c) B) (hl : Lk.Hs 3 l) : HsAt (n + 1) (vs ++ [v]) (L ++ [l]) (B ++ BB) := by
 refine ⟨by simp [h.l1], by simp [h.l2], fun i m hi => ?_⟩
 by_cases hlt : i < n
 ·rw [List.getElem?_append_left (by rw [h.l2]; exact hlt)] at hi
  obtain ⟨v', B', h1, h2, h3, h4⟩ := h.at_ i m hi
  exact ⟨v', B', by rw [List.getElem?_append_left (by rw [h.l1]; exact hlt)]; exact h1, h2, fun p hp => List.mem_append_right _ (h3 p hp), h4⟩
 ·have hl1 := (List.getElem?_eq_some_iff.1 hi).1
  simp [h.l2] at hl1
  obtain rfl : i = n := by omega
  rw [List.getElem?_append_right (by rw [h.l2]; exact Nat.le_refl _), h.l2, Nat.sub_self] at hi
  injection hi with hi
  subst hi
  exact ⟨v, B, by rw [List.getElem?_append_right (by rw [h.l1]; exact Nat.le_refl _), h.l1, Nat.sub_self]; rfl, hs, fun p hp => List.mem_append_left _ hp, hl⟩
theorem HsAt.all {n : Nat} {vs : List Value} {L : List (List Lk.H)} {BB : List (Nat × Array Value)} (h : HsAt n vs L BB) : Lk.all L = true := by
 refine Lk.all_good fun i l _ hi => ?_
 obtain ⟨_, _, _, _, _, h4⟩ := h.at_ i l hi
 exact h4.val (by decide)
theorem HsAt.three {n : Nat} {vs : List Value} {L : List (List Lk.H)} {BB : List (Nat × Array Value)} (h : HsAt n vs L BB) : ∀ l ∈ L, l.length ≤ 3 := fun l hl => by
 obtain ⟨i, hi⟩ := List.getElem?_of_mem hl
 obtain ⟨_, _, _, _, _, h4⟩ := h.at_ i l hi
 exact h4.len
theorem HsAt.rd {n bo : Nat} {vs : List Value} {L : List (List Lk.H)} {BB K : List (Nat × Array Value)} {w0 w : World} {X : List Nat} (h : HsAt n vs L BB) (HM : Mem w0 X K w) (h1 : (bo, rowsOf (vs.map vc)) ∈ K) (h2 : ∀ p ∈ BB, p ∈ K) : RdL w (.slice (some ⟨bo, 0, none⟩) n n) L := by
 refine ⟨vs, ?_, by rw [h.l1, h.l2], fun i l hi => ?_⟩
 ·have h3 := (SlAt.row (n := 1) bo (vs.map vc) [] (by intro c hc; rw [List.append_nil] at hc; obtain ⟨x, _, rfl⟩ := List.mem_map.1 hc; rfl)).rd HM (by simpa using h1)
  rw [List.length_nil, Nat.add_zero, List.length_map, h.l1] at h3
  exact h3
 ·obtain ⟨v, B, h4, h5, h6, h7⟩ := h.at_ i l hi
  exact ⟨v, h4, h5.rd HM (fun p hp => h2 p (h6 p hp)), h7.sz⟩
theorem sa_valsO (l : List Value) {i : Nat} (v : Value) (h : i < l.length) (hv : v.oneCell' = true) : SA 27 (rowsOf (l.map vc)) i v (rowsOf ((l.set i v).map vc)) := by
 have h1 : (l.map vc)[i]? = some (vc l[i]) := by rw [List.getElem?_map, List.getElem?_eq_getElem h]; rfl
 have := sa_rowone (T := 27) (n := 1) (a := 0) (l := l.map vc) (k := i) (v := v) (by kernel_rfl) (by intro c hc; obtain ⟨x, _, rfl⟩ := List.mem_map.1 hc; rfl) h1 (by decide) hv
 rw [Nat.mul_one, Nat.add_zero] at this
 have e : (l.map vc).set i ((vc l[i]).setIfInBounds 0 v) = (l.set i v).map vc := by
  rw [List.map_set]; rfl
 rw [e] at this
 exact this
theorem za_slo : ZA 27 (vc (.slice none 0 0)) := ⟨.slice none 0 0, rfl, fun w => by kernel_rfl⟩
theorem Mem.hop {w0 w : World} {X : List Nat} {p q : Nat × Array Value} {N R : List (Nat × Array Value)} {BB : List (Nat × Array Value)} (h : Mem w0 X (p :: (N ++ (q :: (BB ++ R)))) w) : Mem w0 X (p :: q :: ((N ++ BB) ++ R)) w := by
 refine h.perm ?_
 rw [List.append_assoc]
 exact (List.Perm.cons p (List.perm_middle (l₁ := N) (l₂ := BB ++ R)).symm)
set_option maxHeartbeats 4000000 in
theorem holdings_any (n tb m : Nat) (c : Array Value) (R : List (Nat × Array Value)) (W w : World) (HM : Mem W [] ((tb, c) :: R) w) (HC : Hid (TapeC W m c)) (hm : m ≤ 90000000) (hn : n ≤ 8) :
    Calls Tryz.prog 18 #[.pointer (some ⟨tb, 0, none⟩), .int .i64 (n : Nat)] w fun e w' => ∃ (s : Value) (L : List (List Lk.H)), e = .returned s ∧ Hid (RdL w' s L) ∧ L.length = n ∧ Hid (Lk.all L = true) ∧ Hid (∀ l ∈ L, l.length ≤ 3) ∧ Mem W [] R w' := by
 have H0 : Hid (Below W.heap.size W W) := Below.refl _ _
 have hle : ∀ b ∈ ([] : List Nat), W.heap.size ≤ b := by simp
 have ell : elemB 26 27 1 24 = true := by kernel_rfl
 have zl := za_slo
 go_enter Tryz.func18, Tryz.ntmps18
 go_upto_region 2 with (first | ((with_reducible refine g_mks ?_); refine a_mks n HM ?_ (by omega); clear HM; intro bk w1 HM) | ((with_reducible refine g_st ?_); refine a_st HM ?_; clear HM; intro w1 HM))
 obtain ⟨bo, rfl⟩ := HM.nm0
 rw [rep_vals] at HM
 replace HM : Mem W [] ((tb, c) :: (bo, rowsOf (([] ++ List.replicate (n - 0) (Value.slice none 0 0)).map vc)) :: ([] ++ R)) _ := HM.pick
 go_wp2_with ((with_reducible refine g_st ?_); refine a_st HM ?_; clear HM; intro w1 HM)
 go_loopw [6] (fun iv wr => ∃ (i : Nat) (vs : List Value) (L : List (List Lk.H)) (BB : List (Nat × Array Value)) (c1 : Array Value), iv = .int .i64 (i : Nat) ∧ i ≤ n ∧ Hid (HsAt i vs L BB) ∧ Hid (TapeC W (m + 15 * i) c1) ∧ Mem W [] ((tb, c1) :: (bo, rowsOf ((vs ++ List.replicate (n - i) (Value.slice none 0 0)).map vc)) :: (BB ++ R)) wr) (fun iv _ => n - (intOf iv).toNat)
 case atStart => exact ⟨0, [], [], [], c, rfl, by omega, Lib.hid .nil, HC, HM⟩
 case round =>
  clear HM HC
  obtain ⟨i, vs, L, BB, c1, rfl, hi, HH, HC, HM⟩ := hrel
  by_cases hlt : i < n
  ·have hlt1 : (i : Int) < n := by omega
   go_wp2_with (first | (go_at_call 46; refine (sholdings_any tb _ _ _ W _ HM HC (by omega)).mono ?_; rintro e9 w2 ⟨s, l, B, c2, rfl, HL, HS, HC2, HM2⟩; replace HM := HM2.hop; clear HM2; replace HC := HC2; clear HC2; have hl1 := HH.out.l1; have hone : s.oneCell' = true := (by obtain ⟨A, cap, e, _⟩ := HS.out.val; rw [e]; rfl); have ss := sa_valsO (vs ++ List.replicate (n - i) (Value.slice none 0 0)) (i := i) s (by rw [List.length_append, List.length_replicate]; omega) hone; clear hl1 hone) | ((with_reducible refine g_st ?_); refine a_st HM ?_; clear HM; intro w1 HM))
   have hset : (vs ++ List.replicate (n - i) (Value.slice none 0 0)).set i s = (vs ++ [s]) ++ List.replicate (n - (i + 1)) (Value.slice none 0 0) := by
    have hl1 := HH.out.l1
    rw [List.set_append_right _ _ (by omega), hl1, Nat.sub_self, show n - i = (n - (i + 1)) + 1 by omega, List.replicate_succ, List.set_cons_zero, List.append_assoc]; rfl
   rw [hset] at HM
   clear hset ss
   go_roundw
   case rel => exact ⟨i + 1, _, _, _, _, by go_num, by omega, Lib.hid (HH.out.put HS.out HL.out), Lib.hid (HC.out.mono (by omega)), HM⟩
   case measure => simp [intOf]; omega
  ·obtain rfl : i = n := by omega
   rw [Nat.sub_self, List.replicate_zero, List.append_nil] at HM
   have HRD := Lib.hid (HH.out.rd (bo := bo) HM (by simp) (fun p hp => by simp [hp]))
   go_wp2_with ((with_reducible refine g_st ?_); refine a_st HM ?_; clear HM; intro w1 HM)
   go_ret
   exact ⟨_, L, rfl, HRD, HH.out.l2, Lib.hid HH.out.all, Lib.hid HH.out.three, HM.pk (by exact Pk.skip (Pk.skip (Pk.post _ _)))⟩
end Go.Proofs.YtckhdiljihhdmaaGreat
namespace Go.Proofs.YtckhdiljihhdmaaGreat
set_option maxRecDepth 8000
open Go.RowKit
theorem Sc.md_nat (v : Int) {n : Nat} (h : 1 ≤ n) : ∃ m : Nat, m < n ∧ Hid ((m : Int) = Sc.md v n) := by
 obtain ⟨h1, h2⟩ := Sc.md_in (v := v) (n := n) (by omega)
 exact ⟨(Sc.md v n).toNat, by omega, Lib.hid (by omega)⟩
section
variable {o : Oper} {a : Act}
theorem h_call4 {f : FuncId} {ts : Array TypeId} {x1 x2 x3 x4 : Operand} {v1 v2 v3 v4 : Value} (ho : o.op = .call { callee := .value (.func f), args := #[x1, x2, x3, x4], argTypes := ts }) (hf : goF f = true) (h1 : a.eval x1 = v1) (h2 : a.eval x2 = v2) (h3 : a.eval x3 = v3) (h4 : a.eval x4 = v4) : ∀ w, (execOp a.eval o).run Tryz.prog w = .ok (.enter f #[v1, v2, v3, v4]) w := h_call ho hf (by simp [h1, h2, h3, h4])
end
set_option maxRecDepth 100000 in
set_option maxHeartbeats 8000000 in
theorem lmade_any (A : Option Addr) (xs : List Int) (c0 : Nat) (ai an : Int) (free : Bool) (W : World) (hI : IntsAt W A xs) (hxl : xs.length ≤ 9223372036854775807) (_ : -9223372036854775808 ≤ ai) (_ : ai < 9223372036854775808) (_ : -9223372036854775808 ≤ an) (_ : an < 9223372036854775808) :
    Calls Tryz.prog 4 #[.slice A xs.length c0, .int .i64 ai, .int .i64 an, .bool free] W fun e w' => e = .returned (.bool true) ∧ Below W.heap.size W w' := by
 have HM := Mem.start W
 have HI := Lib.hid hI
 have zn := za_nest
 clear hI
 go_enter Tryz.func4, Tryz.ntmps4
 go_upto_region 2 with (first | (go_at_call 16; (with_reducible refine (snew_any _ _ _ _).mono ?_); rintro e9 w2 ⟨tb, rfl, HM1⟩; replace HM := HM.join HM1; clear HM1) | (first | ((with_reducible refine g_ld ?_); refine a_ld HM ?_) | ((with_reducible refine g_st ?_); refine a_st HM ?_; clear HM; intro w1 HM) | ((with_reducible refine g_al ?_); refine a_al HM ?_; clear HM; intro bk w1 HM)))
 replace HM : Mem W [] [(tb, #[Value.slice A xs.length c0, Value.int IntKind.i64 0])] w2 := HM
 have HC : Hid (TapeC W 0 #[.slice A xs.length c0, .int .i64 0]) := ⟨A, xs, c0, 0, rfl, by omega, by omega, HI.out, hxl⟩
 clear HI
 go_upto_region 3 with (first | (go_at_call 17; refine (snest_any 4 free tb 0 _ [] W _ HM HC (by omega) (by omega)).mono ?_; rintro e9 w2 ⟨n, bu, bh, U, H, rb, c1, rfl, hn, hUL, hRL, HMD, HC1, HM1⟩; replace HM := HM1; replace HC := HC1; clear HM1 HC1) | ((with_reducible refine g_st ?_); refine a_st (v := .agg #[_, _]) HM ?_ (hv := sa_nest _ _ rfl rfl); clear HM; intro w1 HM) | (first | ((with_reducible refine g_ld ?_); refine a_ld HM ?_) | ((with_reducible refine g_st ?_); refine a_st HM ?_; clear HM; intro w1 HM) | ((with_reducible refine g_al ?_); refine a_al HM ?_; clear HM; intro bk w1 HM)))
 obtain ⟨b10, rfl⟩ := HM.nm0
 have n0 := la_n0 (.slice (some ⟨bu, 0, none⟩) n n) (.slice (some ⟨bh, 0, none⟩) n n)
 have n2 := la_nest (.slice (some ⟨bu, 0, none⟩) n n) (.slice (some ⟨bh, 0, none⟩) n n)
 go_upto_region 4 with (first | (go_at_call 18; refine (holdings_any n tb _ c1 ((b10, #[.slice (some ⟨bu, 0, none⟩) n n, .slice (some ⟨bh, 0, none⟩) n n]) :: (bu, rowsOf (U.map ic)) :: (bh, rowsOf ((rv n rb).map vc)) :: (NR rb H ++ [])) W _ HM.pick HC (by omega) (by omega)).mono ?_; rintro e9 w2 ⟨sl, L, rfl, HL, hLL, HLA, HL3, HM1⟩; replace HM := HM1; clear HM1) | (first | ((with_reducible refine g_ld ?_); refine a_ld HM ?_) | ((with_reducible refine g_st ?_); refine a_st HM ?_; clear HM; intro w1 HM) | ((with_reducible refine g_al ?_); refine a_al HM ?_; clear HM; intro bk w1 HM)))
 subst hUL
 have hN : RdN w2 (.slice (some ⟨bu, 0, none⟩) U.length U.length) (.slice (some ⟨bh, 0, none⟩) U.length U.length) U H := rdN_own HM rfl HMD.out.good.sh.2 hRL HMD.out.lens (by simp) (by simp) (fun q hq => by simp [hq])
 have HN := Lib.hid hN
 have HBX : Hid (Rbk w2 b10 #[.slice (some ⟨bu, 0, none⟩) U.length U.length, .slice (some ⟨bh, 0, none⟩) U.length U.length]) := Lib.hid (HM.get (by ((repeat (first | exact Look.here | refine Look.there ?_)); done))).rbk
 have HB2 := Lib.hid HM.low
 clear hN HM hRL HC HL3
 have HM := Mem.start w2
 by_cases h0 : U.length = 0
 ·have h1 : ((U.length : Int) == 0) = true := by rw [h0]; rfl
  go_wp2_with (first | (go_at_call 7; ((with_reducible refine (awake36_any _).mono ?_); rintro e9 w2 ⟨rfl, hL⟩; replace HM := HM.call hL; clear hL)) | (first | ((with_reducible refine g_ld ?_); refine a_ld HM ?_) | ((with_reducible refine g_st ?_); refine a_st HM ?_; clear HM; intro w1 HM) | ((with_reducible refine g_al ?_); refine a_al HM ?_; clear HM; intro bk w1 HM)))
  go_ret
  exact ⟨rfl, below_seq HB2.out HM.low⟩
 have h1 : ((U.length : Int) == 0) = false := beq_eq_false_iff_ne.2 (by omega)
 obtain ⟨m, hm, HZ⟩ := Sc.md_nat ai (n := U.length) (by omega)
 have hm1 : (m : Int) < U.length := by omega
 obtain ⟨u, hu⟩ : ∃ u, U[m]? = some u := ⟨_, List.getElem?_eq_getElem hm⟩
 have HU := Lib.hid (Ns.gu_at hu)
 have hu0 := HMD.out.good.ok.u0 m hm
 have hu1 := HMD.out.small m hm
 rw [HU.out] at hu0 hu1
 obtain ⟨bU, offU, csU, e, HBU, ku⟩ := HN.out.u.at_ hu
 injection e with e
 injection e with e1 e2
 subst e1 e2
 rw [Nat.zero_add] at ku
 obtain ⟨z, hz⟩ : ∃ z, Hid (z = Sc.md an (u + 1)) := ⟨_, Lib.hid rfl⟩
 obtain ⟨hz0, hz1⟩ := Sc.md_in (v := an) (n := u + 1) (by omega)
 rw [← hz.out] at hz0 hz1
 have hck : Lk.chk U H L = 0 := Lk.chk_ok HMD.out.good.good hLL HLA.out
 obtain ⟨r, hr, hfr⟩ : ∃ r, Hid (r = Lk.lerr U H L m z) ∧ (free = true ∨ (free = false ∧ r = 0)) := by
  refine ⟨_, Lib.hid rfl, ?_⟩
  cases free with
  | true => exact .inl rfl
  | false => exact .inr ⟨rfl, Lk.lerr_ok hck hm hz0 (by rw [HU.out]; omega) (Ns.not_circ HMD.out.good.ok.h0 (HMD.out.out rfl))⟩
 have hr2 : Hid (253 = Lk.lerr U H L m (u + 1)) := Lib.hid (Lk.lerr_n hck hm (.inr (by rw [HU.out]; omega))).symm
 have S1 := Lib.hid fun w' hB => look_any _ _ sl U H L m z w' (HN.out.below hB) (HL.out.below hB) r hr
 have S2 := Lib.hid fun w' hB => rlook_any _ _ sl U H L m z w' (HN.out.below hB) (HL.out.below hB) r hr
 have S3 := Lib.hid fun w' hB => look_any _ _ sl U H L m (u + 1) w' (HN.out.below hB) (HL.out.below hB) 253 hr2
 have C1 := Lib.hid fun w' hB => lcheck_any _ _ sl U H L w' (HN.out.below hB) (HL.out.below hB) 0 (Lib.hid hck.symm)
 have HX := Lib.hid (Lk.xps_fit U H L m z)
 obtain ⟨X, hX⟩ : ∃ X, Hid (X = Lk.xps U H L m z) := ⟨_, Lib.hid rfl⟩
 rw [← hX.out] at HX S1 S2
 clear hX hr hr2 hck hu HU HMD HL HLA hLL
 go_upto_region 8 with (first | (go_at_call 19; (with_reducible refine (smod_any ai U.length m _ (by omega) (by omega) HZ).mono ?_); rintro e9 w9 ⟨rfl, rfl⟩) | (go_at_call 19; (with_reducible refine (smod_any an (u + 1) z _ (by omega) (by omega) hz).mono ?_); rintro e9 w9 ⟨rfl, rfl⟩) | (first | ((with_reducible refine g_ld ?_); refine a_ld HM ?_) | ((with_reducible refine g_st ?_); refine a_st HM ?_; clear HM; intro w1 HM) | ((with_reducible refine g_al ?_); refine a_al HM ?_; clear HM; intro bk w1 HM)))
 go_upto_region 9 with (first | (go_at_call 8; refine (S1.out _ HM.low).mono ?_; rintro e9 w3 ⟨s1, rfl, HX1, hL1⟩; replace HM := HM.call hL1; clear hL1) | (first | ((with_reducible refine g_ld ?_); refine a_ld HM ?_) | ((with_reducible refine g_st ?_); refine a_st HM ?_; clear HM; intro w1 HM) | ((with_reducible refine g_al ?_); refine a_al HM ?_; clear HM; intro bk w1 HM)))
 go_upto_region 10 with (first | (go_at_call 9; refine (S2.out _ HM.low).mono ?_; rintro e9 w4 ⟨s2, rfl, HX2, hL2⟩; replace HM := HM.call hL2) | (first | ((with_reducible refine g_ld ?_); refine a_ld HM ?_) | ((with_reducible refine g_st ?_); refine a_st HM ?_; clear HM; intro w1 HM) | ((with_reducible refine g_al ?_); refine a_al HM ?_; clear HM; intro bk w1 HM)))
 have HY1 : Hid (RdX w4 s1 X) := Lib.hid (HX1.out.below hL2)
 have E1 := Lib.hid fun w' hB => same36_any s1 s2 X w' (HY1.out.below hB) (HX2.out.below hB) HX.out.1 HX.out.2
 have HB4 := Lib.hid HM.low
 have HBX4 := Lib.hid (HBX.out.below HB4.out HBX.out.lt)
 have HBU4 := Lib.hid (HBU.out.below HB4.out HBU.out.lt)
 clear HX1 hL2 HM HBX HBU S1 S2
 have HM := Mem.start w4
 refine start_M [] HM (by kernel_rfl) (fun w0x H9 => ?_)
 replace HM := H9; clear H9
 refine k_ld 0 [] (heldF HM) ?_
 refine k_mv 1 (heldF HM) ?_
 refine k_mv 2 (heldF HM) ?_
 refine k_fa 3 (heldF HM) ?_
 refine k_ld 4 [] (heldF HM) ?_
 refine k_mv 5 (heldF HM) ?_
 refine k_ia 6 (heldF HM) ?_
 refine k_ld 7 [] (heldF HM) ?_
 refine k_add 8 (heldF HM) ?_
 refine j_one 9 fun K9 hK9 => ?_
 refine o_callg (S3.out _ (below_seq HB4.out HM.low)) rfl ?_ ?_; (focus (refine h_call4 (ts := ?_) (x1 := ?_) (x2 := ?_) (x3 := ?_) (x4 := ?_) ?_ (by kernel_rfl) ?_ ?_ ?_ ?_; rotate_left 5; (focus rfl); (focus rfl); (focus rfl); (focus rfl); rfl)); rintro e9 w5 ⟨s3, rfl, HX3, hL⟩; replace HM := HM.call hL; clear hL HX3; refine ⟨_, rfl, ?_⟩
 refine hK9 _ _ (heldF HM) ?_; clear hK9 K9; ((try simp only [List.setIfInBounds_toArray]); (try simp only [List.set_cons_succ]); (try simp only [List.set_cons_zero]))
 refine k_mv 10 (heldF HM) ?_
 refine k_ext 11 (heldF HM) ?_
 refine k_ext 12 (heldF HM) ?_
 refine k_mv 13 (heldF HM) ?_
 refine k_mv 14 (heldF HM) ?_
 refine wpAnyL_done (by kernel_rfl) ?_ _
 rcases hfr with rfl | ⟨rfl, rfl⟩
 all_goals
  go_wp2_with (first | (go_at_call 12; ((with_reducible refine (C1.out _ (below_seq HB4.out HM.low)).mono ?_); rintro e9 w2 ⟨rfl, hL⟩; replace HM := HM.call hL; clear hL)) | (go_at_call 14; ((with_reducible refine (E1.out _ HM.low).mono ?_); rintro e9 w2 ⟨rfl, hL⟩; replace HM := HM.call hL; clear hL)) | (go_at_call 7; ((with_reducible refine (awake36_any _).mono ?_); rintro e9 w2 ⟨rfl, hL⟩; replace HM := HM.call hL; clear hL)) | (first | ((with_reducible refine g_ld ?_); refine a_ld HM ?_) | ((with_reducible refine g_st ?_); refine a_st HM ?_; clear HM; intro w1 HM) | ((with_reducible refine g_al ?_); refine a_al HM ?_; clear HM; intro bk w1 HM)))
  go_ret
  exact ⟨rfl, below_seq HB2.out (below_seq HB4.out HM.low)⟩
end Go.Proofs.YtckhdiljihhdmaaGreat
