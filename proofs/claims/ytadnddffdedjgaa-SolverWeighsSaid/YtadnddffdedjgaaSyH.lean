/- SameRatios of equal prices; the scene's Ratio; nests and lists made by hand. -/
import Derived.Test.YtadnddffdedjgaaSyG
import Derived.Test.YtadnddffdedjgaaScnR
namespace Go.Proofs.Ytadnddffdedjgaa
set_option maxRecDepth 8000
open Go.RowKit
theorem qrows_at (f : Nat → Rat) {n i : Nat} (h : i < n) : (qrows n f)[i]? = some (Rt.qA (f i)) := So.ol_at _ h
theorem qrows_len (f : Nat → Rat) (n : Nat) : (qrows n f).length = n := by simp [qrows, So.ol]
theorem RdS.form66 {w : World} {s : Value} {n : Nat} {f : Nat → Rat} (h : RdS 66 w s (qrows n f)) : ∃ A cap, s = .slice A n cap := by
  obtain ⟨A, cap, e⟩ := h.form1
  rw [qrows_len] at e
  exact ⟨A, cap, e⟩
theorem RdS.at66 {w : World} {A : Option Addr} {k cap n : Nat} {f : Nat → Rat} (h : RdS 66 w (.slice A k cap) (qrows n f)) {i : Nat} (hi : i < n) : ∃ b off cs, A = Option.some ⟨b, off, none⟩ ∧ Hid (Rbk w b cs) ∧ LA 42 cs (off + i * 66) (.agg (Rt.qA (f i))) := by
  obtain ⟨b, off, cs, cap', e, hb, hc⟩ := h.get (qrows_at f hi)
  injection e with e1 e2 e3
  exact ⟨b, off, cs, e1, Lib.hid hb, la_in (n := 66) (by kernel_rfl) (by kernel_rfl) (qA_size _) hc (by decide)⟩
set_option maxHeartbeats 4000000 in
theorem same_any (a b : Value) (n : Nat) (f : Nat → Rat) (w : World) (ha : RdS 66 w a (qrows n f)) (hb : RdS 66 w b (qrows n f)) (hn : n ≤ 8) (hf : ∀ i, i < n → Rt.Fit (f i)) :
    Calls Try.prog 14 #[a, b] w fun e w' => e = .returned (.bool true) ∧ Below w.heap.size w w' := by
  have HM := Mem.start w
  have HA := Lib.hid ha
  have HB := Lib.hid hb
  have HF := Lib.hid hf
  obtain ⟨Aa, ca, rfl⟩ := ha.form66
  obtain ⟨Ab, cb, rfl⟩ := hb.form66
  clear ha hb hf
  go_enter Try.func14, Try.ntmps14
  go_wp2_with (first | fail | (first | ((with_reducible refine g_ld ?_); refine a_ld HM ?_) | ((with_reducible refine g_st ?_); refine a_st HM ?_; clear HM; intro w1 HM) | ((with_reducible refine g_al ?_); refine a_al HM ?_; clear HM; intro bk w1 HM) | ((with_reducible refine g_bx ?_); refine a_bx HM ?_; clear HM; intro bk w1 HM) | ((with_reducible refine g_bld ?_); refine a_bld ?_)))
  go_loopw [4, 5] (fun rv iv wr => ∃ i : Nat, rv = .bool false ∧ iv = .int .i64 (i : Nat) ∧ i ≤ n ∧ Mem w [] [] wr) (fun _ iv _ => n - (intOf iv).toNat)
  case atStart => exact ⟨0, rfl, rfl, by omega, HM⟩
  case round =>
    clear HM
    obtain ⟨i, rfl, rfl, hi, HM⟩ := hrel
    by_cases hlt : i < n
    · have hlt1 : (i : Int) < n := by omega
      obtain ⟨b1, off1, cs1, rfl, HB1, k1⟩ := HA.out.at66 hlt
      obtain ⟨b2, off2, cs2, rfl, HB2, k2⟩ := HB.out.at66 hlt
      have hfi := HF.out i hlt
      go_upto_region 6 with (first | fail | (first | ((with_reducible refine g_ld ?_); refine a_ld HM ?_) | ((with_reducible refine g_st ?_); refine a_st HM ?_; clear HM; intro w1 HM) | ((with_reducible refine g_al ?_); refine a_al HM ?_; clear HM; intro bk w1 HM) | ((with_reducible refine g_bx ?_); refine a_bx HM ?_; clear HM; intro bk w1 HM) | ((with_reducible refine g_bld ?_); refine a_bld ?_)))
      refine start_M [] HM (by kernel_rfl) (fun w0x H9 => ?_)
      replace HM := H9; clear H9
      refine k_mv 0 (heldE HM) ?_
      refine k_mv 1 (heldE HM) ?_
      refine k_ia 2 (heldE HM) ?_
      refine k_ld 3 [] (heldE HM) ?_
      refine k_mv 4 (heldE HM) ?_
      refine k_mv 5 (heldE HM) ?_
      refine k_ia 6 (heldE HM) ?_
      refine k_ld 7 [] (heldE HM) ?_
      refine t_eq (i := 8) (v := ?_) [] rfl rfl rfl (by kernel_rfl) (fun _ _ _ h => h) (heldE HM) ?_ ?_; rotate_left 1; (focus ((refine y_cmpq .neq (f i) (f i) false (.inr rfl) (by simp) (hfi) (hfi) (x := ?_) (y := ?_) (t := ?_) ?_ ?_ ?_ ?_; rotate_left 3; (focus rfl); (focus rfl); (focus ((conv => lhs; whnf) <;> rfl)); ((conv => lhs; whnf) <;> rfl)))); ((try simp only [List.setIfInBounds_toArray]); (try simp only [List.set_cons_succ]); (try simp only [List.set_cons_zero]))
      refine wpAnyL_done (by kernel_rfl) ?_ _
      go_wp2_with fail
      go_roundw
      case rel => exact ⟨i + 1, rfl, by go_num, by omega, HM⟩
      case measure => simp [intOf]; omega
    · obtain rfl : i = n := by omega
      go_wp2_with (first | fail | (first | ((with_reducible refine g_ld ?_); refine a_ld HM ?_) | ((with_reducible refine g_st ?_); refine a_st HM ?_; clear HM; intro w1 HM) | ((with_reducible refine g_al ?_); refine a_al HM ?_; clear HM; intro bk w1 HM) | ((with_reducible refine g_bx ?_); refine a_bx HM ?_; clear HM; intro bk w1 HM) | ((with_reducible refine g_bld ?_); refine a_bld ?_)))
      go_ret
      exact ⟨rfl, HM.low⟩
theorem made_i {w0 w : World} {X : List Nat} {L : List (Nat × Array Value)} {b : Nat} (HM : Mem w0 X L w) (l : List Int) (h : Look L b (rowsOf (l.map ic))) : RdI w (.slice (some ⟨b, 0, none⟩) l.length l.length) l := by
  have h1 := (SlAt.row (n := 1) b (l.map ic) [] (fun c hc => by
    rw [List.append_nil] at hc
    obtain ⟨x, _, rfl⟩ := List.mem_map.1 hc
    rfl)).rd HM (by simpa using h.mem)
  rw [List.length_nil, Nat.add_zero, List.length_map] at h1
  exact h1
theorem made_h2 {w0 w : World} {X : List Nat} {L : List (Nat × Array Value)} {b : Nat} {v1 v2 : Value} {l1 l2 : List Int} (HM : Mem w0 X L w) (h : Look L b (rowsOf [vc v1, vc v2])) (h1 : RdI w v1 l1) (h2 : RdI w v2 l2) : RdH w (.slice (some ⟨b, 0, none⟩) 2 2) [l1, l2] := by
  have h3 := (SlAt.row (n := 1) b [vc v1, vc v2] [] (by simp [vc])).rd HM (by simpa using h.mem)
  refine ⟨[v1, v2], h3, rfl, fun i l hl => ?_⟩
  match i with
  | 0 => exact ⟨v1, rfl, by simp at hl; subst hl; exact h1⟩
  | 1 => exact ⟨v2, rfl, by simp at hl; subst hl; exact h2⟩
  | i + 2 => simp at hl
namespace Sv
theorem good1 : Ns.Good [100, 100] [[0, 50], [50, 0]] := ⟨⟨by decide, by decide⟩, by decide, by decide, by decide, by decide, fun i j hi hj => (by decide : ∀ i, i < 2 → ∀ j, j < 2 → 0 ≤ Ns.gh [[0, 50], [50, 0]] i j) i hi j hj, fun i j hi hj => (by decide : ∀ i, i < 2 → ∀ j, j < 2 → Ns.gh [[0, 50], [50, 0]] i j ≤ 1000000000000000) i hi j hj, by decide⟩
theorem good2 : Ns.Good [1, 1] [[0, 1], [1, 0]] := ⟨⟨by decide, by decide⟩, by decide, by decide, by decide, by decide, fun i j hi hj => (by decide : ∀ i, i < 2 → ∀ j, j < 2 → 0 ≤ Ns.gh [[0, 1], [1, 0]] i j) i hi j hj, fun i j hi hj => (by decide : ∀ i, i < 2 → ∀ j, j < 2 → Ns.gh [[0, 1], [1, 0]] i j ≤ 1000000000000000) i hi j hj, by decide⟩
theorem err1 : err [100, 100] [[0, 50], [50, 0]] [1000, 0] = 0 := by
  unfold err
  rw [if_pos (chk_of (A := [1000, 0]) good1 rfl (by decide)), if_neg]
  exact Ns.not_circ good1.ok.h0 (by decide)
theorem err2 : err [1, 1] [[0, 1], [1, 0]] [1, 1] = 351 := by
  unfold err
  rw [if_pos (chk_of (A := [1, 1]) good2 rfl (by decide)), if_pos]
  have h01 : Ns.Rc 2 (Ns.gh [[0, 1], [1, 0]]) 0 1 := .step (by decide) (by decide) (by decide) .refl
  have h10 : Ns.Rc 2 (Ns.gh [[0, 1], [1, 0]]) 1 0 := .step (by decide) (by decide) (by decide) .refl
  have hm : ∀ i, i < 2 → Ns.Mu 2 (Ns.gh [[0, 1], [1, 0]]) 0 i := fun i hi => by
    have : i = 0 ∨ i = 1 := by omega
    rcases this with rfl | rfl
    · exact .refl
    · exact ⟨h01, h10⟩
  refine ⟨0, by decide, by decide, fun m hm2 _ => ?_⟩
  have hm3 : m < 2 := hm2
  refine Int.le_trans ?_ (Int.le_of_eq (Ns.zs_congr (n := 2) (f := fun i => Ns.gh [[0, 1], [1, 0]] i m) (fun i hi => (if_pos (hm i hi)).symm)))
  have : m = 0 ∨ m = 1 := by omega
  rcases this with rfl | rfl <;> decide
theorem px1 {f : Nat → Rat} (h : Px [100, 100] [[0, 50], [50, 0]] [1000, 0] f) : f 0 = Rat.divInt 40 3 ∧ f 1 = Rat.divInt 20 3 := by
  have h0 := h.1 0 (by decide)
  have h1 := h.1 1 (by decide)
  simp [Mx.sm, Ns.mat, Ns.rhs, Ns.gu, Ns.gh] at h0 h1
  rw [Rat.divInt_eq_div, Rat.divInt_eq_div]
  have e1 : ((40 : Int) : Rat) = 40 := rfl
  have e2 : ((20 : Int) : Rat) = 20 := rfl
  have e3 : ((3 : Int) : Rat) = 3 := rfl
  rw [e1, e2, e3]
  exact ⟨by grind, by grind⟩
end Sv
theorem za_nest : ZA 25 #[.slice none 0 0, .slice none 0 0] := ⟨.agg #[.slice none 0 0, .slice none 0 0], rfl, fun w => by kernel_rfl⟩
theorem sa_nest (us hs : Value) (h1 : us.oneCell' = true) (h2 : hs.oneCell' = true) : SA 25 #[.slice none 0 0, .slice none 0 0] 0 (.agg #[us, hs]) #[us, hs] := SA.whole (by kernel_rfl) (by simp [h1, h2]) rfl
theorem made_nest {w0 w : World} {X : List Nat} {L : List (Nat × Array Value)} {b4 b3 b2 b1 : Nat} (HM : Mem w0 X L w) (u1 u2 h11 h12 h21 h22 : Int) (k4 : Look L b4 (rowsOf [#[.int .i64 u1], #[.int .i64 u2]])) (k1 : Look L b1 (rowsOf [#[.slice (some ⟨b3, 0, none⟩) 2 2], #[.slice (some ⟨b2, 0, none⟩) 2 2]])) (k3 : Look L b3 (rowsOf [#[.int .i64 h11], #[.int .i64 h12]])) (k2 : Look L b2 (rowsOf [#[.int .i64 h21], #[.int .i64 h22]])) :
    RdN w (.slice (some ⟨b4, 0, none⟩) 2 2) (.slice (some ⟨b1, 0, none⟩) 2 2) [u1, u2] [[h11, h12], [h21, h22]] :=
  ⟨made_i HM [u1, u2] k4, made_h2 HM k1 (made_i HM [h11, h12] k3) (made_i HM [h21, h22] k2)⟩
set_option maxHeartbeats 4000000 in
theorem awake35_any (w : World) :
    Calls Try.prog 11 #[] w fun e w' => e = .returned (.bool true) ∧ Below w.heap.size w w' := by
  have HM := Mem.start w
  have eli : elemB 22 3 1 8 = true := by kernel_rfl
  have elh : elemB 23 22 1 24 = true := by kernel_rfl
  have zn := za_nest
  go_enter Try.func11, Try.ntmps11
  go_upto_region 1 with (first | fail | (first | ((with_reducible refine g_ld ?_); refine a_ld HM ?_) | ((with_reducible refine g_st ?_); refine a_st HM ?_; clear HM; intro w1 HM) | ((with_reducible refine g_al ?_); refine a_al HM ?_; clear HM; intro bk w1 HM) | ((with_reducible refine g_bx ?_); refine a_bx HM ?_; clear HM; intro bk w1 HM) | ((with_reducible refine g_bld ?_); refine a_bld ?_)))
  go_upto_region 2 with (first | first | ((with_reducible refine g_bs2 ?_); refine a_bs2 HM ?_; clear HM; intro bx w1 HM) | ((with_reducible refine g_st ?_); refine a_st (v := .agg #[_, _]) HM ?_ (hv := sa_nest _ _ rfl rfl); clear HM; intro w1 HM) | (first | ((with_reducible refine g_ld ?_); refine a_ld HM ?_) | ((with_reducible refine g_st ?_); refine a_st HM ?_; clear HM; intro w1 HM) | ((with_reducible refine g_al ?_); refine a_al HM ?_; clear HM; intro bk w1 HM) | ((with_reducible refine g_bx ?_); refine a_bx HM ?_; clear HM; intro bk w1 HM) | ((with_reducible refine g_bld ?_); refine a_bld ?_)))
  obtain ⟨b0, rfl⟩ := HM.nm0
  obtain ⟨b1, rfl⟩ := HM.nm1
  obtain ⟨b2, rfl⟩ := HM.nm2
  obtain ⟨b3, rfl⟩ := HM.nm3
  obtain ⟨b4, rfl⟩ := HM.nm4
  have hE1 := Lib.hid Sv.err1.symm
  have hE2 := Lib.hid Sv.err2.symm
  have n2 := la_nest (.slice (some ⟨b4, 0, none⟩) 2 2) (.slice (some ⟨b1, 0, none⟩) 2 2)
  go_upto_region 3 with (first | first | ((with_reducible refine g_bs2 ?_); refine a_bs2 HM ?_; clear HM; intro bx w1 HM) | (go_at_call 12; refine (ssolve_any _ _ _ [100, 100] [[0, 50], [50, 0]] [1000, 0] _ (made_nest HM 100 100 0 50 50 0 (by ((repeat (first | exact Look.here | refine Look.there ?_)); done)) (by ((repeat (first | exact Look.here | refine Look.there ?_)); done)) (by ((repeat (first | exact Look.here | refine Look.there ?_)); done)) (by ((repeat (first | exact Look.here | refine Look.there ?_)); done))) (made_i HM [1000, 0] (by ((repeat (first | exact Look.here | refine Look.there ?_)); done))) 0 hE1).mono ?_; rintro e9 w2 ⟨s1, rfl, hL, HS⟩; replace HM := HM.call hL; clear hL) | (first | ((with_reducible refine g_ld ?_); refine a_ld HM ?_) | ((with_reducible refine g_st ?_); refine a_st HM ?_; clear HM; intro w1 HM) | ((with_reducible refine g_al ?_); refine a_al HM ?_; clear HM; intro bk w1 HM) | ((with_reducible refine g_bx ?_); refine a_bx HM ?_; clear HM; intro bk w1 HM) | ((with_reducible refine g_bld ?_); refine a_bld ?_)))
  obtain ⟨-, f, hf, hR⟩ := HS.out.resolve_left (fun h => h.1 rfl)
  obtain ⟨f0, f1⟩ := Sv.px1 hf
  obtain ⟨A1, c1, rfl⟩ := hR.form66
  have fit0 := hf.2 0 (by decide)
  have fit1 := hf.2 1 (by decide)
  have HF0 := Lib.hid f0
  have HF1 := Lib.hid f1
  have HRS := Lib.hid fun w' (hB : Below w2.heap.size w2 w') => hR.below hB
  have HMS := Mem.start w2
  have HB0 := Lib.hid HM.low
  clear HS hf f0 f1 hR HM n2 hE1
  replace HM := HMS
  clear HMS
  go_upto_region 4 with (first | first | ((with_reducible refine g_bs2 ?_); refine a_bs2 HM ?_; clear HM; intro bx w1 HM) | (go_at_call 12; refine (ssolve_any _ _ _ [1, 1] [[0, 1], [1, 0]] [1, 1] _ (made_nest HM 1 1 0 1 1 0 (by ((repeat (first | exact Look.here | refine Look.there ?_)); done)) (by ((repeat (first | exact Look.here | refine Look.there ?_)); done)) (by ((repeat (first | exact Look.here | refine Look.there ?_)); done)) (by ((repeat (first | exact Look.here | refine Look.there ?_)); done))) (made_i HM [1, 1] (by ((repeat (first | exact Look.here | refine Look.there ?_)); done))) 351 hE2).mono ?_; rintro e9 w3 ⟨s2, rfl, hL, HS⟩; replace HM := HM.call hL; clear hL HS) | (first | ((with_reducible refine g_ld ?_); refine a_ld HM ?_) | ((with_reducible refine g_st ?_); refine a_st HM ?_; clear HM; intro w1 HM) | ((with_reducible refine g_al ?_); refine a_al HM ?_; clear HM; intro bk w1 HM) | ((with_reducible refine g_bx ?_); refine a_bx HM ?_; clear HM; intro bk w1 HM) | ((with_reducible refine g_bld ?_); refine a_bld ?_)))
  have hR3 := HRS.out _ HM.low
  have HB1 := Lib.hid (below_seq HB0.out HM.low)
  have HM3 := Mem.start w3
  clear HM HRS HB0
  have HM := HM3
  clear HM3
  obtain ⟨b, off, cs, rfl, HBK, k0⟩ := hR3.at66 (i := 0) (by decide)
  obtain ⟨b', off', cs', e, HBK', k1⟩ := hR3.at66 (i := 1) (by decide)
  injection e with e
  injection e with e1 e2
  subst e1 e2
  have hcs : cs' = cs := by
    obtain ⟨_, _, h1⟩ := HBK.out
    obtain ⟨_, _, h2⟩ := HBK'.out
    rw [h1] at h2
    injection h2 with h2
    injection h2 with h2
    exact h2.symm
  subst hcs
  clear HBK' hR3
  obtain ⟨x0, hx0⟩ : ∃ x, Hid (x = f 0) := ⟨_, Lib.hid rfl⟩
  obtain ⟨x1, hx1⟩ : ∃ x, Hid (x = f 1) := ⟨_, Lib.hid rfl⟩
  rw [← hx0.out] at k0 fit0
  rw [← hx1.out] at k1 fit1
  have R0 := fun w => sratio_any 40 3 x0 (by decide) (by decide) (by decide) (by decide) (Lib.hid (hx0.out.trans HF0.out)) w
  have R1 := fun w => sratio_any 20 3 x1 (by decide) (by decide) (by decide) (by decide) (Lib.hid (hx1.out.trans HF1.out)) w
  clear hx0 hx1 HF0 HF1
  refine start_M [] HM (by kernel_rfl) (fun w0x H9 => ?_)
  replace HM := H9; clear H9
  refine k_mv 0 (heldE HM) ?_
  refine k_bin 1 (heldE HM) ?_
  refine k_mv 2 (heldE HM) ?_
  refine k_mv 3 (heldE HM) ?_
  refine k_bin 4 (heldE HM) ?_
  refine k_pick 5 (heldE HM) ?_
  refine k_mv 6 (heldE HM) ?_
  refine k_mv 7 (heldE HM) ?_
  refine k_pv 8 (heldE HM) ?_
  refine k_bin 9 (heldE HM) ?_
  refine k_pick 10 (heldE HM) ?_
  refine k_mv 11 (heldE HM) ?_
  refine k_mv 12 (heldE HM) ?_
  refine k_ia 13 (heldE HM) ?_
  refine k_ld 14 [] (heldE HM) ?_
  refine j_one 15 fun K9 hK9 => ?_
  refine j_call2 (v := ?_) HM ?_ ?_; rotate_left 1; (focus (with_reducible (first | exact R0 _ | exact R1 _))); clear HM; intro w1 HM
  refine hK9 _ _ (heldE HM) ?_; clear hK9 K9
  refine t_eq (i := 16) (v := ?_) [] rfl rfl rfl (by kernel_rfl) (fun _ _ _ h => h) (heldE HM) ?_ ?_; rotate_left 1; (focus ((refine y_cmpq .eql (x0) (x0) true (.inl rfl) (by simp) (fit0) (fit0) (x := ?_) (y := ?_) (t := ?_) ?_ ?_ ?_ ?_; rotate_left 3; (focus rfl); (focus rfl); (focus ((conv => lhs; whnf) <;> rfl)); ((conv => lhs; whnf) <;> rfl)))); ((try simp only [List.setIfInBounds_toArray]); (try simp only [List.set_cons_succ]); (try simp only [List.set_cons_zero]))
  refine k_pick 17 (heldE HM) ?_
  refine k_mv 18 (heldE HM) ?_
  refine k_mv 19 (heldE HM) ?_
  refine k_ia 20 (heldE HM) ?_
  refine k_ld 21 [] (heldE HM) ?_
  refine j_one 22 fun K9 hK9 => ?_
  refine j_call2 (v := ?_) HM ?_ ?_; rotate_left 1; (focus (with_reducible (first | exact R0 _ | exact R1 _))); clear HM; intro w1 HM
  refine hK9 _ _ (heldE HM) ?_; clear hK9 K9
  refine t_eq (i := 23) (v := ?_) [] rfl rfl rfl (by kernel_rfl) (fun _ _ _ h => h) (heldE HM) ?_ ?_; rotate_left 1; (focus ((refine y_cmpq .eql (x1) (x1) true (.inl rfl) (by simp) (fit1) (fit1) (x := ?_) (y := ?_) (t := ?_) ?_ ?_ ?_ ?_; rotate_left 3; (focus rfl); (focus rfl); (focus ((conv => lhs; whnf) <;> rfl)); ((conv => lhs; whnf) <;> rfl)))); ((try simp only [List.setIfInBounds_toArray]); (try simp only [List.set_cons_succ]); (try simp only [List.set_cons_zero]))
  refine k_pick 24 (heldE HM) ?_
  refine k_mv 25 (heldE HM) ?_
  refine wpAnyL_done (by kernel_rfl) ?_ _
  go_wp2_with fail
  go_ret
  exact ⟨rfl, below_seq HB1.out HM.low⟩
end Go.Proofs.Ytadnddffdedjgaa
