/- The law SolverRises, walked. -/
import Derived.Test.YtadnddffdedjgaaSyN
namespace Go.Proofs.Ytadnddffdedjgaa
set_option maxRecDepth 8000
open Go.RowKit
namespace Ns
open Mx
theorem pr_sub {n : Nat} {u : Nat → Int} {h : Nat → Nat → Int} {a b : Nat → Int} {f g : Nat → Rat} (hf : Pr n u h a f) (hg : Pr n u h b g) : Pr n u h (fun i => b i - a i) (fun i => g i - f i) := by
  intro i hi
  have e : sm n (fun j => (mat u h i j : Rat) * (g j - f j)) = sm n (fun j => (mat u h i j : Rat) * g j) + -1 * sm n (fun j => (mat u h i j : Rat) * f j) := by
    rw [← sm_mul, ← sm_add]; exact sm_congr fun j _ => by grind
  rw [e, hf i hi, hg i hi]
  unfold rhs
  split
  · have e0 : ((0 : Int) : Rat) = 0 := rfl
    rw [e0]; grind
  · rw [Rat.intCast_sub]; grind
/-- More assets lower no price. -/
theorem rises {n : Nat} {u : Nat → Int} {h : Nat → Nat → Int} {a b : Nat → Int} {f g : Nat → Rat} (H : Ok n u h) (hc : ¬ Circ n u h) (hf : Pr n u h a f) (hg : Pr n u h b g) (hab : ∀ i, i < n → a i ≤ b i) : ∀ i, i < n → f i ≤ g i := fun i hi => by
  have := price_nonneg H hc (pr_sub hf hg) (fun i hi => by have := hab i hi; omega) i hi
  grind
theorem rises_own {n : Nat} {u : Nat → Int} {h : Nat → Nat → Int} {a b : Nat → Int} {f g : Nat → Rat} (H : Ok n u h) (hc : ¬ Circ n u h) (hf : Pr n u h a f) (hg : Pr n u h b g) (hab : ∀ i, i < n → a i ≤ b i) {k : Nat} (hk : k < n) (hu : 0 < u k) (hlt : a k < b k) : f k < g k := by
  have hle := rises H hc hf hg hab
  by_cases e : g k - f k = 0
  · exfalso
    have h1 := pr_sub hf hg k hk
    have h2 : sm n (fun j => (mat u h k j : Rat) * (g j - f j)) ≤ 0 := sm_nonpos fun j hj => by
      by_cases ej : k = j
      · subst ej; rw [e]; grind
      · have h3 := H.h0 k j hk hj
        have h4 := hle j hj
        unfold mat
        rw [if_neg (by omega), if_neg ej, Rat.intCast_neg]
        have h5 : (0 : Rat) ≤ (h k j : Rat) := Rat.intCast_nonneg.2 h3
        have h6 : 0 ≤ (h k j : Rat) * (g j - f j) := Rat.mul_nonneg h5 (by grind)
        grind
    rw [h1] at h2
    unfold rhs at h2
    rw [if_neg (by omega)] at h2
    have h3 : (0 : Rat) < ((b k - a k : Int) : Rat) := Rat.intCast_pos.2 (by omega)
    grind
  · have := hle k hk
    grind
end Ns
theorem sa_ints2 (A : List Int) (sp : List (Array Value)) {i : Nat} (x : Int) (h : i < A.length) (hs : ∀ c ∈ A.map ic ++ sp, c.size = 1) : SA 3 (rowsOf (A.map ic ++ sp)) i (.int .i64 x) (rowsOf ((A.set i x).map ic ++ sp)) := by
  have h1 : (A.map ic ++ sp)[i]? = some (ic A[i]) := by rw [List.getElem?_append_left (by rw [List.length_map]; exact h), List.getElem?_map, List.getElem?_eq_getElem h]; rfl
  have := sa_rowone (T := 3) (n := 1) (a := 0) (l := A.map ic ++ sp) (k := i) (v := .int .i64 x) (by kernel_rfl) hs h1 (by decide) rfl
  rw [Nat.mul_one, Nat.add_zero] at this
  have e : (A.map ic ++ sp).set i ((ic A[i]).setIfInBounds 0 (.int .i64 x)) = (A.set i x).map ic ++ sp := by
    rw [List.set_append_left _ _ (by rw [List.length_map]; exact h), List.map_set]; rfl
  rw [e] at this
  exact this
set_option maxRecDepth 100000 in
set_option maxHeartbeats 8000000 in
theorem rises_any (A : Option Addr) (xs : List Int) (c0 : Nat) (which more : Int) (W : World) (hI : IntsAt W A xs) (hxl : xs.length ≤ 9223372036854775807) (_ : -9223372036854775808 ≤ which) (_ : which < 9223372036854775808) (_ : -9223372036854775808 ≤ more) (_ : more < 9223372036854775808) :
    Calls Try.prog 7 #[.slice A xs.length c0, .int .i64 which, .int .i64 more] W fun e w' => e = .returned (.bool true) ∧ Below W.heap.size W w' := by
  have HM := Mem.start W
  have HI := Lib.hid hI
  have zn := za_nest
  have eli : elemB 22 3 1 8 = true := by kernel_rfl
  clear hI
  go_enter Try.func7, Try.ntmps7
  go_upto_region 2 with (first | (go_at_call 15; (with_reducible refine (snew_any _ _ _ _).mono ?_); rintro e9 w2 ⟨tb, rfl, HM1⟩; replace HM := HM.join HM1; clear HM1) | (first | ((with_reducible refine g_ld ?_); refine a_ld HM ?_) | ((with_reducible refine g_st ?_); refine a_st HM ?_; clear HM; intro w1 HM) | ((with_reducible refine g_al ?_); refine a_al HM ?_; clear HM; intro bk w1 HM) | ((with_reducible refine g_bx ?_); refine a_bx HM ?_; clear HM; intro bk w1 HM) | ((with_reducible refine g_bld ?_); refine a_bld ?_)))
  replace HM : Mem W [] [(tb, #[Value.slice A xs.length c0, Value.int IntKind.i64 0])] w2 := HM
  have HC : Hid (TapeC W 0 #[.slice A xs.length c0, .int .i64 0]) := ⟨A, xs, c0, 0, rfl, by omega, by omega, HI.out, hxl⟩
  clear HI
  go_upto_region 3 with (first | first | (go_at_call 16; refine (snest_any 4 false tb 0 _ [] W _ HM HC (by omega) (by omega)).mono ?_; rintro e9 w2 ⟨n, bu, bh, U, H, rb, c1, rfl, hn, hUL, hRL, HMD, HC1, HM1⟩; replace HM := HM1; replace HC := HC1; clear HM1 HC1) | ((with_reducible refine g_st ?_); refine a_st (v := .agg #[_, _]) HM ?_ (hv := sa_nest _ _ rfl rfl); clear HM; intro w1 HM) | (first | ((with_reducible refine g_ld ?_); refine a_ld HM ?_) | ((with_reducible refine g_st ?_); refine a_st HM ?_; clear HM; intro w1 HM) | ((with_reducible refine g_al ?_); refine a_al HM ?_; clear HM; intro bk w1 HM) | ((with_reducible refine g_bx ?_); refine a_bx HM ?_; clear HM; intro bk w1 HM) | ((with_reducible refine g_bld ?_); refine a_bld ?_)))
  obtain ⟨b8, rfl⟩ := HM.nm0
  have n0 := la_n0 (.slice (some ⟨bu, 0, none⟩) n n) (.slice (some ⟨bh, 0, none⟩) n n)
  have n2 := la_nest (.slice (some ⟨bu, 0, none⟩) n n) (.slice (some ⟨bh, 0, none⟩) n n)
  go_upto_region 5 with (first | (go_at_call 17; refine (sassets_any n true tb _ c1 ((b8, #[.slice (some ⟨bu, 0, none⟩) n n, .slice (some ⟨bh, 0, none⟩) n n]) :: (bu, rowsOf (U.map ic)) :: (bh, rowsOf ((rv n rb).map vc)) :: (NR rb H ++ [])) W _ HM.pick HC (by omega) (by omega)).mono ?_; rintro e9 w2 ⟨ba, As, c2, rfl, hAL, HAP, HC2, HM1⟩; replace HM := HM1; clear HM1 HC2) | (first | ((with_reducible refine g_ld ?_); refine a_ld HM ?_) | ((with_reducible refine g_st ?_); refine a_st HM ?_; clear HM; intro w1 HM) | ((with_reducible refine g_al ?_); refine a_al HM ?_; clear HM; intro bk w1 HM) | ((with_reducible refine g_bx ?_); refine a_bx HM ?_; clear HM; intro bk w1 HM) | ((with_reducible refine g_bld ?_); refine a_bld ?_)))
  by_cases hn0 : n = 0
  · have hn1 : (n : Int) = 0 := by omega
    go_wp2_with (first | (go_at_call 11; ((with_reducible refine (awake35_any _).mono ?_); rintro e9 w2 ⟨rfl, hL⟩; replace HM := HM.call hL; clear hL)) | (first | ((with_reducible refine g_ld ?_); refine a_ld HM ?_) | ((with_reducible refine g_st ?_); refine a_st HM ?_; clear HM; intro w1 HM) | ((with_reducible refine g_al ?_); refine a_al HM ?_; clear HM; intro bk w1 HM) | ((with_reducible refine g_bx ?_); refine a_bx HM ?_; clear HM; intro bk w1 HM) | ((with_reducible refine g_bld ?_); refine a_bld ?_)))
    go_ret
    exact ⟨rfl, HM.low⟩
  have hn1 : ¬ (n : Int) = 0 := by omega
  obtain ⟨z, hz⟩ : ∃ z, Hid (z = Sc.md which n) := ⟨_, Lib.hid rfl⟩
  obtain ⟨hz0, hz1⟩ := Sc.md_in (v := which) (n := n) (by omega)
  rw [← hz.out] at hz0 hz1
  obtain ⟨k, rfl⟩ : ∃ k : Nat, z = k := ⟨z.toNat, by omega⟩
  have hkn : k < n := by omega
  obtain ⟨p, hp⟩ : ∃ p, Hid (p = Sc.md more 1000000) := ⟨_, Lib.hid rfl⟩
  obtain ⟨hp0, hp1⟩ := Sc.md_in (v := more) (n := 1000000) (by decide)
  rw [← hp.out] at hp0 hp1
  have MD := fun w => smod_any which n k w (by omega) (by omega) hz
  have inA := Sv.asset_in HAP.out
  have hone : ∀ c ∈ As.map ic, c.all (·.oneCell') = true := by
    intro c hc
    obtain ⟨x, _, rfl⟩ := List.mem_map.1 hc
    simp [ic, Value.oneCell']
  have hcap : (([] : List (Array Value)).length + (As.map ic).length) * (8 + 1) ≤ 140737488355328 := by rw [List.length_map]; simp; omega
  have hRd : ∀ w', Mem W [] ((tb, c2) :: (ba, rowsOf (As.map ic)) :: (b8, #[.slice (some ⟨bu, 0, none⟩) n n, .slice (some ⟨bh, 0, none⟩) n n]) :: (bu, rowsOf (U.map ic)) :: (bh, rowsOf ((rv n rb).map vc)) :: (NR rb H ++ [])) w' → RdS 1 w' (.slice (some ⟨ba, 0, none⟩) n n) (As.map ic) := fun w' h => by
    have := (own_ints (b := ba) (A := As)).rd h (by simp)
    rwa [hAL] at this
  have HRD := Lib.hid hRd
  clear hRd hz0
  go_upto_region 9 with (first | first
    | (go_at_call 23; ((with_reducible refine (MD _).mono ?_); rintro e9 w2 ⟨rfl, rfl⟩))
    | ((with_reducible refine g_app ?_); refine a_app (m := As.map ic) (B := []) (F := fun X => X ++ ((tb, c2) :: (ba, rowsOf (As.map ic)) :: (b8, #[.slice (some ⟨bu, 0, none⟩) n n, .slice (some ⟨bh, 0, none⟩) n n]) :: (bu, rowsOf (U.map ic)) :: (bh, rowsOf ((rv n rb).map vc)) :: (NR rb H ++ []))) HM .nil (HRD.out _ HM) ?_ hone (hlen := hcap); clear HM; intro s2 B2 w1 HS2 HM) | (first | ((with_reducible refine g_ld ?_); refine a_ld HM ?_) | ((with_reducible refine g_st ?_); refine a_st HM ?_; clear HM; intro w1 HM) | ((with_reducible refine g_al ?_); refine a_al HM ?_; clear HM; intro bk w1 HM) | ((with_reducible refine g_bx ?_); refine a_bx HM ?_; clear HM; intro bk w1 HM) | ((with_reducible refine g_bld ?_); refine a_bld ?_)))
  rw [List.nil_append] at HS2
  obtain ⟨b11, sp, rfl, rfl, hsz⟩ := HS2.inv (fun h => by rw [List.map_eq_nil_iff] at h; rw [h] at hAL; simp at hAL; omega)
  rw [List.length_map, hAL]
  replace HM : Mem W [] ((b11, rowsOf (As.map ic ++ sp)) :: (tb, c2) :: (ba, rowsOf (As.map ic)) :: (b8, #[.slice (some ⟨bu, 0, none⟩) n n, .slice (some ⟨bh, 0, none⟩) n n]) :: (bu, rowsOf (U.map ic)) :: (bh, rowsOf ((rv n rb).map vc)) :: (NR rb H ++ [])) _ := HM
  obtain ⟨x, hx⟩ : ∃ x, As[k]? = some x := ⟨_, List.getElem?_eq_getElem (by omega)⟩
  have kx : LA 3 (rowsOf (As.map ic ++ sp)) k (.int .i64 x) := la_i1 hsz (by rw [List.getElem?_append_left (by rw [List.length_map]; omega), List.getElem?_map, hx]; rfl)
  have hxin := HAP.out x (List.mem_of_getElem? hx)
  obtain ⟨hx0, hx1, _⟩ := hxin
  have sx := sa_ints2 As sp (i := k) (x + 1 + p) (by omega) hsz
  have HX := Lib.hid (Ns.gu_at hx)
  have HSZ := Lib.hid hsz
  clear hx hsz MD HRD hone hcap HS2
  refine start_M [11] HM (by kernel_rfl) (fun w0x H9 => ?_)
  replace HM := H9; clear H9
  refine k_mv 0 (heldF HM) ?_
  refine k_mv 1 (heldF HM) ?_
  refine k_mv 2 (heldF HM) ?_
  refine k_mv 3 (heldF HM) ?_
  refine k_ia 4 (heldF HM) ?_
  refine k_ld 5 [6, 9, 10, 11] (heldF HM) ?_
  refine k_add 6 (heldF HM) ?_
  refine k_mv 7 (heldF HM) ?_
  refine j_one 8 fun K9 hK9 => ?_
  refine o_callg (smod_any more 1000000 p _ (by decide) (by decide) hp) rfl ?_ ?_; (focus (refine h_call2 (ts := ?_) (x1 := ?_) (x2 := ?_) ?_ (by kernel_rfl) ?_ ?_; rotate_left 3; (focus rfl); (focus rfl); rfl)); rintro e9 w1 ⟨rfl, rfl⟩; refine ⟨_, rfl, ?_⟩
  refine hK9 _ _ (heldF HM) ?_; clear hK9 K9; ((try simp only [List.setIfInBounds_toArray]); (try simp only [List.set_cons_succ]); (try simp only [List.set_cons_zero]))
  refine k_add 9 (heldF HM) ?_
  refine k_ia 10 (heldF HM) ?_
  refine j_one 11 fun K9 hK9 => ?_
  refine j_st HM ?_; clear HM; intro w1 HM
  refine hK9 _ _ heldN ?_; clear hK9 K9
  refine wpAnyL_done (by kernel_rfl) ?_ _
  obtain ⟨Bs, hBs⟩ : ∃ B, Hid (B = As.set k (x + 1 + p)) := ⟨_, Lib.hid rfl⟩
  rw [← hBs.out] at HM
  have hBL : Bs.length = n := by rw [hBs.out, List.length_set]; exact hAL
  have hBV : ∀ i, i < n → Ns.gu Bs i = if i = k then x + 1 + p else Ns.gu As i := fun i hi => by
    rw [hBs.out]
    by_cases e : i = k
    · subst e; rw [if_pos rfl]; exact Ns.gu_at (by rw [List.getElem?_set]; simp; omega)
    · rw [if_neg e]; unfold Ns.gu
      rw [List.getD_eq_getElem?_getD, List.getElem?_set, if_neg (fun h => e h.symm), ← List.getD_eq_getElem?_getD]
  have inB : ∀ a ∈ Bs, -1000000000000000 ≤ a ∧ a ≤ 1000000000000000 := fun a ha => by
    rw [hBs.out] at ha
    rcases List.mem_or_eq_of_mem_set ha with h | rfl
    · exact inA a h
    · omega
  have HLE : Hid (∀ i, i < n → Ns.gu As i ≤ Ns.gu Bs i) := Lib.hid (fun i hi => by
    rw [hBV i hi]
    split
    · rename_i e; subst e; rw [HX.out]; omega
    · exact Int.le_refl _)
  have HLT : Hid (Ns.gu As k < Ns.gu Bs k) := Lib.hid (by rw [hBV k hkn, if_pos rfl, HX.out]; omega)
  obtain ⟨herrA, hnc⟩ := Sv.made_err HMD.out (A := As) (by omega) inA
  obtain ⟨herrB, _⟩ := Sv.made_err HMD.out (A := Bs) (by omega) inB
  have HEA := Lib.hid herrA.symm
  have HEB := Lib.hid herrB.symm
  have hBS : RdI w1 (.slice (some ⟨b11, 0, none⟩) n (n + sp.length)) Bs := by
    have h1 := (SlAt.row (n := 1) b11 (Bs.map ic) sp (by
      intro c hc
      rcases List.mem_append.1 hc with h | h
      · exact ic_sizes Bs c h
      · exact HSZ.out c (List.mem_append_right _ h))).rd HM (by simp)
    rw [List.length_map, hBL] at h1
    exact h1
  subst hUL
  have hN : RdN w1 (.slice (some ⟨bu, 0, none⟩) U.length U.length) (.slice (some ⟨bh, 0, none⟩) U.length U.length) U H := rdN_own HM rfl HMD.out.good.sh.2 hRL HMD.out.lens (by simp) (by simp) (fun q hq => by simp [hq])
  have hAS : RdI w1 (.slice (some ⟨ba, 0, none⟩) U.length U.length) As := by
    have := (own_ints (b := ba) (A := As)).rd HM (by simp)
    rwa [hAL] at this
  have S1 := fun w' (hB : Below w1.heap.size w1 w') => ssolve_any _ _ _ U H As w' (hN.below hB) (hAS.below hB) 0 HEA
  have S2 := fun w' (hB : Below w1.heap.size w1 w') => ssolve_any _ _ _ U H Bs w' (hN.below hB) (hBS.below hB) 0 HEB
  have hbx : Rbk w1 b8 #[.slice (some ⟨bu, 0, none⟩) U.length U.length, .slice (some ⟨bh, 0, none⟩) U.length U.length] := (HM.get (by ((repeat (first | exact Look.here | refine Look.there ?_)); done))).rbk
  have HBX := Lib.hid hbx
  have HN1 := Lib.hid hN
  have HB2 := Lib.hid HM.low
  have hok := HMD.out.good.ok
  clear hbx hN hAS hBS HM herrA herrB kx sx
  have HM := Mem.start w1
  go_upto_region 11 with (first | (go_at_call 12; refine (S1 _ HM.low).mono ?_; rintro e9 w5 ⟨s1, rfl, hL1, HS1⟩; replace HM := HM.call hL1) | (first | ((with_reducible refine g_ld ?_); refine a_ld HM ?_) | ((with_reducible refine g_st ?_); refine a_st HM ?_; clear HM; intro w1 HM) | ((with_reducible refine g_al ?_); refine a_al HM ?_; clear HM; intro bk w1 HM) | ((with_reducible refine g_bx ?_); refine a_bx HM ?_; clear HM; intro bk w1 HM) | ((with_reducible refine g_bld ?_); refine a_bld ?_)))
  obtain ⟨-, f, hf, hR1⟩ := HS1.out.resolve_left (fun h => h.1 rfl)
  obtain ⟨A1, p1, rfl⟩ := hR1.form66
  clear HS1 hL1 S1
  go_upto_region 12 with (first | (go_at_call 12; refine (S2 _ HM.low).mono ?_; rintro e9 w6 ⟨s2, rfl, hL2, HS2⟩; replace HM := HM.call hL2) | (first | ((with_reducible refine g_ld ?_); refine a_ld HM ?_) | ((with_reducible refine g_st ?_); refine a_st HM ?_; clear HM; intro w1 HM) | ((with_reducible refine g_al ?_); refine a_al HM ?_; clear HM; intro bk w1 HM) | ((with_reducible refine g_bx ?_); refine a_bx HM ?_; clear HM; intro bk w1 HM) | ((with_reducible refine g_bld ?_); refine a_bld ?_)))
  obtain ⟨-, g, hg, hR2⟩ := HS2.out.resolve_left (fun h => h.1 rfl)
  obtain ⟨A2, p2, rfl⟩ := hR2.form66
  have HR1 := Lib.hid (hR1.below hL2)
  have HR2 := Lib.hid hR2
  have HUP : Hid (∀ i, i < U.length → f i ≤ g i) := Lib.hid (Ns.rises hok hnc hf.1 hg.1 HLE.out)
  have HOWN : Hid (0 < Ns.gu U k → f k < g k) := Lib.hid (fun hu => Ns.rises_own hok hnc hf.1 hg.1 HLE.out hkn hu HLT.out)
  have HFF := Lib.hid hf.2
  have HFG := Lib.hid hg.2
  have HB6 := Lib.hid (below_seq HB2.out HM.low)
  have HN6 := Lib.hid (HN1.out.below HM.low)
  have HBX6 : Hid (Rbk w6 b8 #[.slice (some ⟨bu, 0, none⟩) U.length U.length, .slice (some ⟨bh, 0, none⟩) U.length U.length]) := Lib.hid (HM.rro HBX.out (by simp))
  clear HS2 hL2 S2 hR1 hR2 hf hg hnc HM HB2 HN1 HBX
  have HM := Mem.start w6
  go_wp2_with (first | fail | (first | ((with_reducible refine g_ld ?_); refine a_ld HM ?_) | ((with_reducible refine g_st ?_); refine a_st HM ?_; clear HM; intro w1 HM) | ((with_reducible refine g_al ?_); refine a_al HM ?_; clear HM; intro bk w1 HM) | ((with_reducible refine g_bx ?_); refine a_bx HM ?_; clear HM; intro bk w1 HM) | ((with_reducible refine g_bld ?_); refine a_bld ?_)))
  go_loopw [6, 16] (fun rv iv wr => ∃ i : Nat, rv = .bool false ∧ iv = .int .i64 (i : Nat) ∧ i ≤ U.length ∧ Mem w6 [] [] wr) (fun _ iv _ => U.length - (intOf iv).toNat)
  case atStart => exact ⟨0, rfl, rfl, by omega, HM⟩
  case round =>
    clear HM
    obtain ⟨i, rfl, rfl, hi, HM⟩ := hrel
    by_cases hit : i < U.length
    · have hit1 : (i : Int) < U.length := by omega
      obtain ⟨c1', o1, cs1, rfl, HBP1, kp1⟩ := HR1.out.at66 hit
      obtain ⟨c2', o2, cs2, rfl, HBP2, kp2⟩ := HR2.out.at66 hit
      obtain ⟨x, hx⟩ : ∃ x, Hid (x = f i) := ⟨_, Lib.hid rfl⟩
      obtain ⟨y, hy⟩ : ∃ x, Hid (x = g i) := ⟨_, Lib.hid rfl⟩
      rw [← hx.out] at kp1
      rw [← hy.out] at kp2
      have fx : Rt.Fit x := by rw [hx.out]; exact HFF.out i hit
      have fy : Rt.Fit y := by rw [hy.out]; exact HFG.out i hit
      have LS := fun w => less_ex y x false fy fx (Lib.hid (decide_eq_false (Rat.not_lt.2 (by rw [hx.out, hy.out]; exact HUP.out i hit))).symm) w
      go_upto_region 17 with (first | fail | (first | ((with_reducible refine g_ld ?_); refine a_ld HM ?_) | ((with_reducible refine g_st ?_); refine a_st HM ?_; clear HM; intro w1 HM) | ((with_reducible refine g_al ?_); refine a_al HM ?_; clear HM; intro bk w1 HM) | ((with_reducible refine g_bx ?_); refine a_bx HM ?_; clear HM; intro bk w1 HM) | ((with_reducible refine g_bld ?_); refine a_bld ?_)))
      refine start_M [] HM (by kernel_rfl) (fun w0x H9 => ?_)
      replace HM := H9; clear H9
      refine k_mv 0 (heldE HM) ?_
      refine k_mv 1 (heldE HM) ?_
      refine k_ia 2 (heldE HM) ?_
      refine k_ld 3 [] (heldE HM) ?_
      refine k_mv 5 (heldE HM) ?_
      refine k_mv 6 (heldE HM) ?_
      refine k_ia 7 (heldE HM) ?_
      refine k_ld 8 [] (heldE HM) ?_
      refine j_one 4 fun K9 hK9 => ?_
      refine j_call1 (v := ?_) HM ?_ ?_; rotate_left 1; (focus (with_reducible (first | exact of_ex _ _ | exact LS _))); clear HM; intro w1 HM
      refine hK9 _ _ (heldE HM) ?_; clear hK9 K9
      refine j_one 9 fun K9 hK9 => ?_
      refine j_call1 (v := ?_) HM ?_ ?_; rotate_left 1; (focus (with_reducible (first | exact of_ex _ _ | exact LS _))); clear HM; intro w1 HM
      refine hK9 _ _ (heldE HM) ?_; clear hK9 K9
      refine j_one 10 fun K9 hK9 => ?_
      refine j_call2 (v := ?_) HM ?_ ?_; rotate_left 1; (focus (with_reducible (first | exact of_ex _ _ | exact LS _))); clear HM; intro w1 HM
      refine hK9 _ _ (heldE HM) ?_; clear hK9 K9
      refine wpAnyL_done (by kernel_rfl) ?_ _
      go_wp2_with fail
      go_roundw
      case rel => exact ⟨i + 1, rfl, by go_num, by omega, HM⟩
      case measure => simp [intOf]; omega
    · obtain rfl : i = U.length := by omega
      obtain ⟨c1', o1, cs1, rfl, HBP1, kp1⟩ := HR1.out.at66 hkn
      obtain ⟨c2', o2, cs2, rfl, HBP2, kp2⟩ := HR2.out.at66 hkn
      obtain ⟨x, hx⟩ : ∃ x, Hid (x = f k) := ⟨_, Lib.hid rfl⟩
      obtain ⟨y, hy⟩ : ∃ x, Hid (x = g k) := ⟨_, Lib.hid rfl⟩
      rw [← hx.out] at kp1
      rw [← hy.out] at kp2
      have fx : Rt.Fit x := by rw [hx.out]; exact HFF.out k hkn
      have fy : Rt.Fit y := by rw [hy.out]; exact HFG.out k hkn
      have hkn1 : (k : Int) < U.length := by omega
      obtain ⟨u, hu⟩ : ∃ u, U[k]? = some u := ⟨_, List.getElem?_eq_getElem hkn⟩
      obtain ⟨bU, offU, csU, e, HBU, ku⟩ := HN6.out.u.at_ hu
      injection e with e
      injection e with e1 e2
      subst e1 e2
      rw [Nat.zero_add] at ku
      have eu := Ns.gu_at hu
      by_cases hu0 : u = 0
      · subst hu0
        go_upto_region 19 with (first | fail | (first | ((with_reducible refine g_ld ?_); refine a_ld HM ?_) | ((with_reducible refine g_st ?_); refine a_st HM ?_; clear HM; intro w1 HM) | ((with_reducible refine g_al ?_); refine a_al HM ?_; clear HM; intro bk w1 HM) | ((with_reducible refine g_bx ?_); refine a_bx HM ?_; clear HM; intro bk w1 HM) | ((with_reducible refine g_bld ?_); refine a_bld ?_)))
        refine start_M [] HM (by kernel_rfl) (fun w0x H9 => ?_)
        replace HM := H9; clear H9
        refine k_fa 0 (heldE HM) ?_
        refine k_ld 1 [] (heldE HM) ?_
        refine k_mv 2 (heldE HM) ?_
        refine k_ia 3 (heldE HM) ?_
        refine k_ld 4 [] (heldE HM) ?_
        refine k_bin 5 (heldE HM) ?_
        refine k_mv 6 (heldE HM) ?_
        refine k_off 7 (heldE HM) ?_
        refine k_off 8 (heldE HM) ?_
        refine k_off 9 (heldE HM) ?_
        refine k_off 10 (heldE HM) ?_
        refine k_off 11 (heldE HM) ?_
        refine k_off 12 (heldE HM) ?_
        refine k_off 13 (heldE HM) ?_
        refine k_off 14 (heldE HM) ?_
        refine k_off 15 (heldE HM) ?_
        refine k_off 16 (heldE HM) ?_
        refine k_off 17 (heldE HM) ?_
        refine k_pick 18 (heldE HM) ?_
        refine k_mv 19 (heldE HM) ?_
        refine j_one 20 fun K9 hK9 => ?_
        refine j_call0 (v := ?_) HM ?_ ?_; rotate_left 1; (focus (with_reducible (exact awake35_any _))); clear HM; intro w1 HM
        refine hK9 _ _ (heldE HM) ?_; clear hK9 K9
        refine k_pick 21 (heldE HM) ?_
        refine k_mv 22 (heldE HM) ?_
        refine wpAnyL_done (by kernel_rfl) ?_ _
        go_wp2_with fail
        go_ret
        exact ⟨rfl, below_seq HB6.out HM.low⟩
      · have hup : 0 < Ns.gu U k := by
          have := hok.u0 k hkn
          omega
        have LS := fun w => less_ex x y true fx fy (Lib.hid (decide_eq_true (by rw [hx.out, hy.out]; exact HOWN.out hup)).symm) w
        have hu1 : (u == 0) = false := beq_eq_false_iff_ne.2 hu0
        clear hup eu hu
        go_upto_region 19 with (first | fail | (first | ((with_reducible refine g_ld ?_); refine a_ld HM ?_) | ((with_reducible refine g_st ?_); refine a_st HM ?_; clear HM; intro w1 HM) | ((with_reducible refine g_al ?_); refine a_al HM ?_; clear HM; intro bk w1 HM) | ((with_reducible refine g_bx ?_); refine a_bx HM ?_; clear HM; intro bk w1 HM) | ((with_reducible refine g_bld ?_); refine a_bld ?_)))
        refine start_M [] HM (by kernel_rfl) (fun w0x H9 => ?_)
        replace HM := H9; clear H9
        refine k_fa 0 (heldE HM) ?_
        refine k_ld 1 [] (heldE HM) ?_
        refine k_mv 2 (heldE HM) ?_
        refine k_ia 3 (heldE HM) ?_
        refine k_ld 4 [] (heldE HM) ?_
        refine k_bin 5 (heldE HM) ?_
        refine k_mv 6 (heldE HM) ?_
        refine k_mv 7 (heldE HM) ?_
        refine k_mv 8 (heldE HM) ?_
        refine k_ia 9 (heldE HM) ?_
        refine k_ld 10 [] (heldE HM) ?_
        refine k_mv 12 (heldE HM) ?_
        refine k_mv 13 (heldE HM) ?_
        refine k_ia 14 (heldE HM) ?_
        refine k_ld 15 [] (heldE HM) ?_
        refine j_one 11 fun K9 hK9 => ?_
        refine j_call1 (v := ?_) HM ?_ ?_; rotate_left 1; (focus (with_reducible (first | exact of_ex _ _ | exact LS _ | exact awake35_any _))); clear HM; intro w1 HM
        refine hK9 _ _ (heldE HM) ?_; clear hK9 K9
        refine j_one 16 fun K9 hK9 => ?_
        refine j_call1 (v := ?_) HM ?_ ?_; rotate_left 1; (focus (with_reducible (first | exact of_ex _ _ | exact LS _ | exact awake35_any _))); clear HM; intro w1 HM
        refine hK9 _ _ (heldE HM) ?_; clear hK9 K9
        refine j_one 17 fun K9 hK9 => ?_
        refine j_call2 (v := ?_) HM ?_ ?_; rotate_left 1; (focus (with_reducible (first | exact of_ex _ _ | exact LS _ | exact awake35_any _))); clear HM; intro w1 HM
        refine hK9 _ _ (heldE HM) ?_; clear hK9 K9
        refine k_pick 18 (heldE HM) ?_
        refine k_mv 19 (heldE HM) ?_
        refine j_one 20 fun K9 hK9 => ?_
        refine j_call0 (v := ?_) HM ?_ ?_; rotate_left 1; (focus (with_reducible (first | exact of_ex _ _ | exact LS _ | exact awake35_any _))); clear HM; intro w1 HM
        refine hK9 _ _ (heldE HM) ?_; clear hK9 K9
        refine k_pick 21 (heldE HM) ?_
        refine k_mv 22 (heldE HM) ?_
        refine wpAnyL_done (by kernel_rfl) ?_ _
        go_wp2_with fail
        go_ret
        exact ⟨rfl, below_seq HB6.out HM.low⟩
end Go.Proofs.Ytadnddffdedjgaa
