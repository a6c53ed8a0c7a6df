/- The document's prices as its determinants, and that there are prices. The document's solve, walked. -/
import Derived.Test.YtadnddffdedjgaaRfK
import Derived.Test.YtadnddffdedjgaaSyMa
import Derived.Test.YtadnddffdedjgaaSyH
namespace Go.Proofs.Ytadnddffdedjgaa
set_option maxRecDepth 8000
open Go.RowKit
theorem rmake_q (p q : Int) (x : Rat) (h0 : q ≠ 0) (hp : p.natAbs < Bg.p2 480) (hq : q.natAbs < Bg.p2 480) (hx : Hid (x = Rat.divInt p q)) (w : World) :
    Calls Try.prog 58 #[.agg (Bg.zA p), .agg (Bg.zA q)] w fun r w' => r = .returned (.tuple #[.agg (Rt.qA x), .int .i64 0]) ∧ Below w.heap.size w w' := by
  rw [qA_rZ]
  exact rmake_z p q _ _ 0 (lt480_lim hp) (lt480_lim hq) (Rt.mk_q h0 hp hq hx.out) w
namespace Ns
open Mx
theorem colA_unit {n i : Nat} {Z : Nat → Nat → Int} (hi : i < n) : ∀ r, r < n → ∃ q, ∀ r', r' < n → colA (ext n Z) n i r' q = if r' = r then 1 else 0 := fun r hr => ⟨n + 1 + r, fun r' hr' => by
  unfold colA ext
  rw [if_neg (show ¬ n + 1 + r = i by omega), if_neg (by omega)]
  by_cases e : r' = r
  · subst e; rw [if_pos rfl, if_pos rfl]
  · rw [if_neg (by omega), if_neg e]⟩
theorem mcol_none {u a : Nat → Int} {h : Nat → Nat → Int} {n : Nat} : ∀ i j, i < n → j < n → (mcol u a h (-1) i j : Rat) = ext n (zf n u h a) i j := fun i j _ hj => by
  unfold mcol ext zf
  rw [if_neg (by omega), if_pos (by omega), if_pos hj]
theorem mcol_at {u a : Nat → Int} {h : Nat → Nat → Int} {n k : Nat} (hk : k < n) : ∀ i j, i < n → j < n → (mcol u a h (k : Nat) i j : Rat) = colA (ext n (zf n u h a)) n k i j := fun i j _ hj => by
  unfold mcol colA ext zf
  by_cases e : j = k
  · subst e; rw [if_pos rfl, if_pos rfl, if_pos (Nat.le_refl _), if_neg (Nat.lt_irrefl _)]
  · rw [if_neg (by omega), if_neg e, if_pos (by omega), if_pos hj]
theorem colA_ent {A : Mat} {n k : Nat} {b : Rat} (h : Ent A n b) : Ent (colA A n k) n b := fun r _ hr => h r _ hr
theorem zf_ent {n : Nat} {u : Nat → Int} {h : Nat → Nat → Int} {a : Nat → Int} (H : Ok n u h) (ha : ∀ i, i < n → (a i).natAbs ≤ 1000000000000000) : Ent (ext n (zf n u h a)) n (1000000000000000 : Nat) := ext_ent (by decide) (zf_bound H ha)
theorem rden {n : Nat} {u : Nat → Int} {h : Nat → Nat → Int} {a : Nat → Int} {f : Nat → Rat} (H : Ok n u h) (hc : ¬ Circ n u h) (hf : Pr n u h a f) {D : Int} (hD : (D : Rat) = det n (ext n (zf n u h a))) : D ≠ 0 := fun e => by
  have := (cramer (zf_ns (a := a) H hc) ext_unit (zf_solves hf)).1
  rw [← hD, e] at this
  exact this rfl
theorem rprice {n : Nat} {u : Nat → Int} {h : Nat → Nat → Int} {a : Nat → Int} {f : Nat → Rat} (H : Ok n u h) (hc : ¬ Circ n u h) (hf : Pr n u h a f) {D E : Int} {i : Nat} (hi : i < n) (hD : (D : Rat) = det n (ext n (zf n u h a))) (hE : (E : Rat) = det n (colA (ext n (zf n u h a)) n i)) : f i = Rat.divInt E D := by
  have h2 := (cramer (zf_ns (a := a) H hc) ext_unit (zf_solves hf)).2 i hi
  rw [← hE, ← hD] at h2
  have hDr : (D : Rat) ≠ 0 := fun e => rden H hc hf hD (int_eq (by rw [e]; rfl))
  rw [Rat.divInt_eq_div, h2, Rat.div_def, Rat.mul_assoc, Rat.mul_inv_cancel _ hDr, Rat.mul_one]
theorem pr_exists {n : Nat} {u : Nat → Int} {h : Nat → Nat → Int} (a : Nat → Int) (H : Ok n u h) (hc : ¬ Circ n u h) : ∃ f, Pr n u h a f := by
  obtain ⟨U, d, s, hS⟩ := Ns.full (zf_ns (a := a) H hc) ext_unit n (Nat.le_refl _)
  refine ⟨fun i => U i n / d i, fun r hr => ?_⟩
  have h1 := hS.solves r hr
  have e : sm n (fun c => ext n (zf n u h a) r c * (U c n / d c)) = sm n (fun j => (mat u h r j : Rat) * (U j n / d j)) := sm_congr fun j hj => by unfold ext zf; rw [if_pos (by omega), if_pos hj]
  rw [e] at h1
  rw [h1]
  unfold ext zf
  rw [if_pos (Nat.le_refl _), if_neg (Nat.lt_irrefl _)]
end Ns
theorem Sv.px_exists {U : List Int} {H : List (List Int)} {A : List Int} (hG : Ns.Good U H) (hc : ¬ Ns.Circ U.length (Ns.gu U) (Ns.gh H)) (ha : ∀ i, i < U.length → (Ns.gu A i).natAbs ≤ 1000000000000000) : ∃ f, Sv.Px U H A f := by
  obtain ⟨f, hf⟩ := Ns.pr_exists (Ns.gu A) hG.ok hc
  have hcd := Ns.cd hG.ok hc ha hf
  exact ⟨f, hf, fun i hi => Ns.cd_self hcd hi⟩
end Go.Proofs.Ytadnddffdedjgaa
namespace Go.Proofs.Ytadnddffdedjgaa
set_option maxRecDepth 8000
open Go.RowKit
theorem So.ol_next (F : Nat → Array Value) (n : Nat) : So.ol F (n + 1) = So.ol F n ++ [F n] := by unfold So.ol; rw [List.range_succ, List.map_append]; rfl
theorem Sub.skips {K R : List (Nat × Array Value)} : ∀ {N : List (Nat × Array Value)}, Sub K R → Sub K (N ++ R)
  | [], h => h
  | _ :: _, h => .skip (Sub.skips h)
theorem Mem.tuck {w0 w : World} {X : List Nat} {p q : Nat × Array Value} {N R : List (Nat × Array Value)} (h : Mem w0 X (p :: q :: (N ++ R)) w) : Mem w0 X (q :: (N ++ (p :: R))) w :=
  h.perm ((List.Perm.swap q p _).trans (List.perm_middle.symm.cons q)).symm
section
variable {md : Region.Mode} {ops : Array Oper} {Q : Exit → Act → World → Prop} {K : List Nat} {w0 w : World} {X : List Nat} {L L' : List (Nat × Array Value)} {i : Nat} {oi : Oper} {d : Tmp} {fuel : Nat} {listed : Array Bool} {a : Act}
theorem heldG (HM : Mem w0 X L' w) (hs : Sub L L' := by first | exact Sub.refl _ | (repeat (first | exact Sub.nil | exact Sub.refl _ | refine Sub.keep ?_ | refine Sub.skip ?_ | refine Sub.skips ?_))) : Held (fun _ => True) (fun w' => Mem w0 X L w') K listed w := ⟨trivial, fun _ => HM.less hs⟩
end
set_option maxRecDepth 100000 in
set_option maxHeartbeats 8000000 in
theorem rsolve_any (us hs as_ : Value) (U : List Int) (H : List (List Int)) (As : List Int) (f : Nat → Rat) (n : Nat) (w : World) (hR : RdN w us hs U H) (hG : Ns.Good U H) (hA : RdI w as_ As) (hn : Hid (n = U.length)) (hAl : As.length = n) (hAb : ∀ i, i < n → (Ns.gu As i).natAbs ≤ 1000000000000000) (hc : ¬ Ns.Circ n (Ns.gu U) (Ns.gh H)) (hf : Ns.Pr n (Ns.gu U) (Ns.gh H) (Ns.gu As) f) (hft : ∀ i, i < n → Rt.Fit (f i)) :
    Calls Try.prog 34 #[.agg #[us, hs], as_] w fun e w' => ∃ s, e = .returned s ∧ Below w.heap.size w w' ∧ Hid (RdS 66 w' s (qrows n f)) := by
  have HM := Mem.start w
  have ok : Ns.Ok n (Ns.gu U) (Ns.gh H) := by rw [hn.out]; exact hG.ok
  have hn8 : n ≤ 8 := ok.n8
  have MX := fun (col : Int) (R : List (Nat × Array Value)) (w' : World) (HM : Mem w [] R w') (hcol : col = -1 ∨ (0 ≤ col ∧ col < n)) => rmatrix_any us hs as_ U H As col n w w' R HM hR hG hA hn hAl hAb hcol
  have D0 := fun (bo : Nat) (rb : List Nat) (R : List (Nat × Array Value)) (w' : World) (HM : Mem w [] ((bo, rowsOf ((rv n rb).map vc)) :: (NF rb (zR n (mcol (Ns.gu U) (Ns.gu As) (Ns.gh H) (-1))) ++ R)) w') (hr : rb.length = n) => rdet_any n _ (Ns.ext n (Ns.zf n (Ns.gu U) (Ns.gh H) (Ns.gu As))) bo rb w w' R HM hr hn8 Ns.ext_unit Ns.mcol_none (Ns.zf_ent ok hAb)
  have D1 := fun (k : Nat) (hk : k < n) (bo : Nat) (rb : List Nat) (R : List (Nat × Array Value)) (w' : World) (HM : Mem w [] ((bo, rowsOf ((rv n rb).map vc)) :: (NF rb (zR n (mcol (Ns.gu U) (Ns.gu As) (Ns.gh H) (k : Nat))) ++ R)) w') (hr : rb.length = n) => rdet_any n _ (Mx.colA (Ns.ext n (Ns.zf n (Ns.gu U) (Ns.gh H) (Ns.gu As))) n k) bo rb w w' R HM hr hn8 (Ns.colA_unit hk) (Ns.mcol_at hk) (Ns.colA_ent (Ns.zf_ent ok hAb))
  have b480 : Mx.big < Bg.p2 480 := Nat.lt_of_lt_of_le Sy.big_416 (Bg.p2_mono (by decide))
  have HFT := Lib.hid hft
  have MK := fun (D : Int) (hD : Hid ((D : Rat) = Mx.det n (Ns.ext n (Ns.zf n (Ns.gu U) (Ns.gh H) (Ns.gu As))))) (hDb : Hid (D.natAbs ≤ Mx.big)) (k : Nat) (hk : k < n) (E : Int) (hE : Hid ((E : Rat) = Mx.det n (Mx.colA (Ns.ext n (Ns.zf n (Ns.gu U) (Ns.gh H) (Ns.gu As))) n k))) (hEb : Hid (E.natAbs ≤ Mx.big)) (x : Rat) (hx : Hid (x = f k)) (w' : World) => rmake_q E D x (Ns.rden ok hc hf hD.out) (Nat.lt_of_le_of_lt hEb.out b480) (Nat.lt_of_le_of_lt hDb.out b480) (Lib.hid (by rw [hx.out]; exact Ns.rprice ok hc hf hk hD.out hE.out)) w'
  obtain ⟨Au, cu, rfl⟩ := hR.u.form
  obtain ⟨Ah, ch, rfl⟩ := hR.h.form
  rw [← hn.out] at MX ⊢
  have hzi := za_int
  have zq := za_rat
  have elq : elemB 27 42 66 264 = true := by kernel_rfl
  have n0 := la_n0 (.slice Au n cu) (.slice Ah H.length ch)
  have n2 := la_nest (.slice Au n cu) (.slice Ah H.length ch)
  clear hR hG hA hAl hAb hc hf hft ok b480
  go_enter Try.func34, Try.ntmps34
  go_upto_region 2 with (first | first | (go_at_call 57; refine (MX (-1) _ _ HM (.inl rfl)).mono ?_; rintro e9 w2 ⟨bo, rb, rfl, hrb, HM1⟩; replace HM := HM1; clear HM1) | (go_at_call 56; refine (D0 bo rb _ _ HM hrb).mono ?_; rintro e9 w3 ⟨D, rfl, hD, hDb, HM1⟩; replace HM := HM1; clear HM1) | (first | ((with_reducible refine g_ld ?_); refine a_ld HM ?_) | ((with_reducible refine g_st ?_); refine a_st HM ?_; clear HM; intro w1 HM) | ((with_reducible refine g_al ?_); refine a_al HM ?_; clear HM; intro bk w1 HM) | ((with_reducible refine g_bx ?_); refine a_bx HM ?_; clear HM; intro bk w1 HM) | ((with_reducible refine g_bld ?_); refine a_bld ?_)))
  obtain ⟨b5, rfl⟩ := HM.nm0
  obtain ⟨b2, rfl⟩ := HM.nm1
  replace MK := MK D hD hDb
  clear D0 hD hDb hrb
  go_wp2_with (first | fail | (first | ((with_reducible refine g_ld ?_); refine a_ld HM ?_) | ((with_reducible refine g_st ?_); refine a_st HM ?_; clear HM; intro w1 HM) | ((with_reducible refine g_al ?_); refine a_al HM ?_; clear HM; intro bk w1 HM) | ((with_reducible refine g_bx ?_); refine a_bx HM ?_; clear HM; intro bk w1 HM) | ((with_reducible refine g_bld ?_); refine a_bld ?_)))
  go_loopw [6, 7] (fun sv iv wr => ∃ (i : Nat) (B : List (Nat × Array Value)), iv = .int .i64 (i : Nat) ∧ i ≤ n ∧ Hid (SlAt 66 sv (qrows i f) B) ∧ Mem w [] ((b5, Bg.zA D) :: (b2, #[.slice Au n cu, .slice Ah H.length ch]) :: B) wr) (fun _ iv _ => n - (intOf iv).toNat)
  case atStart => exact ⟨0, [], rfl, by omega, Lib.hid .nil, HM⟩
  case round =>
    clear HM
    obtain ⟨i, B, rfl, hi, HO, HM⟩ := hrel
    by_cases hit : i < n
    · have hit1 : (i : Int) < n := by omega
      have hcol : (i : Int) = -1 ∨ (0 ≤ (i : Int) ∧ (i : Int) < n) := .inr ⟨by omega, by omega⟩
      obtain ⟨x, hx⟩ : ∃ x, Hid (x = f i) := ⟨_, Lib.hid rfl⟩
      have fx : Rt.Fit x := by rw [hx.out]; exact HFT.out i hit
      have MK1 := MK i hit
      have s1 := sa_q x (rZ_size 0 0)
      have k1 := la_q x
      have kz := la_z D
      go_upto_region 6 with (first | fail | (first | ((with_reducible refine g_ld ?_); refine a_ld HM ?_) | ((with_reducible refine g_st ?_); refine a_st HM ?_; clear HM; intro w1 HM) | ((with_reducible refine g_al ?_); refine a_al HM ?_; clear HM; intro bk w1 HM) | ((with_reducible refine g_bx ?_); refine a_bx HM ?_; clear HM; intro bk w1 HM) | ((with_reducible refine g_bld ?_); refine a_bld ?_)))
      go_cut [8, 9] (fun p ev wc => ∃ b8, p = .pointer (some ⟨b8, 0, none⟩) ∧ ev = .int .i64 0 ∧ Mem w [] ((b8, Rt.qA x) :: (b5, Bg.zA D) :: (b2, #[.slice Au n cu, .slice Ah H.length ch]) :: B) wc)
      case first =>
        refine start_M [11] HM (by kernel_rfl) (fun w0x H9 => ?_)
        replace HM := H9; clear H9
        refine k_ld 0 [3, 4, 6, 7, 8, 9, 11, 12] (heldG HM) ?_
        refine k_mv 1 (heldG HM) ?_
        refine k_mv 2 (heldG HM) ?_
        refine k_ld 5 [6, 7, 8, 9, 11, 12] (heldG HM) ?_
        refine j_two 3 10 ?_ ?_
        · refine o_callg (MX (i : Nat) _ _ HM hcol) rfl ?_ ?_; (focus (refine h_call3 (ts := ?_) (x1 := ?_) (x2 := ?_) (x3 := ?_) ?_ (by kernel_rfl) ?_ ?_ ?_; rotate_left 4; (focus rfl); (focus rfl); (focus rfl); rfl)); rintro e9 w1 ⟨bo, rb, rfl, hrb, HM1⟩; replace HM := HM1; clear HM1; refine ⟨_, rfl, ?_⟩
          refine ⟨(heldG HM), ?_⟩; ((try simp only [List.setIfInBounds_toArray]); (try simp only [List.set_cons_succ]); (try simp only [List.set_cons_zero]))
          refine j_two 4 10 ?_ ?_
          · refine o_callg (D1 i hit bo rb _ _ (by first | exact HM | exact HM.tuck) hrb) rfl ?_ ?_; (focus (refine h_call1 (ts := ?_) (x1 := ?_) ?_ (by kernel_rfl) ?_; rotate_left 2; (focus rfl); rfl)); rintro e9 w1 ⟨E, rfl, hE, hEb, HM1⟩; replace HM := HM1; clear HM1; refine ⟨_, rfl, ?_⟩
            refine ⟨(heldG HM), ?_⟩; ((try simp only [List.setIfInBounds_toArray]); (try simp only [List.set_cons_succ]); (try simp only [List.set_cons_zero]))
            refine j_two 6 10 ?_ ?_
            · refine j_call2 (v := ?_) HM ?_ ?_; rotate_left 1; (focus (with_reducible (exact MK1 _ hE hEb x hx _))); clear HM; intro w1 HM
              refine ⟨(heldG HM), ?_⟩
              refine k_mv 7 (heldG HM) ?_
              refine k_ext 8 (heldG HM) ?_
              refine k_ext 9 (heldG HM) ?_
              refine j_one 10 fun K9 hK9 => ?_
              refine j_al HM ?_; clear HM; intro bk w1 HM
              refine hK9 _ _ (heldG HM) ?_; clear hK9 K9
              refine j_one 11 fun K9 hK9 => ?_
              refine j_st HM ?_; clear HM; intro w1 HM
              refine hK9 _ _ heldN ?_; clear hK9 K9
              refine k_mv 12 heldN ?_
              refine wpAnyL_done (by kernel_rfl) ?_ _
              (go_wp2_with fail; go_meet; (case rel => exact ⟨_, rfl, rfl, HM⟩))
            · refine j_al HM ?_; clear HM; intro bk w1 HM
              refine ⟨(heldG HM), ?_⟩
              refine j_one 6 fun K9 hK9 => ?_
              refine j_call2 (v := ?_) HM ?_ ?_; rotate_left 1; (focus (with_reducible (exact MK1 _ hE hEb x hx _))); clear HM; intro w1 HM
              refine hK9 _ _ (heldG HM) ?_; clear hK9 K9
              refine k_mv 7 (heldG HM) ?_
              refine k_ext 8 (heldG HM) ?_
              refine k_ext 9 (heldG HM) ?_
              refine j_one 11 fun K9 hK9 => ?_
              refine j_st HM ?_; clear HM; intro w1 HM
              refine hK9 _ _ heldN ?_; clear hK9 K9
              refine k_mv 12 heldN ?_
              refine wpAnyL_done (by kernel_rfl) ?_ _
              (go_wp2_with fail; go_meet; (case rel => exact ⟨_, rfl, rfl, HM⟩))
          · refine j_al HM ?_; clear HM; intro bk w1 HM
            refine ⟨(heldG HM), ?_⟩
            refine j_one 4 fun K9 hK9 => ?_
            refine o_callg (D1 i hit bo rb _ _ (by first | exact HM | exact HM.tuck) hrb) rfl ?_ ?_; (focus (refine h_call1 (ts := ?_) (x1 := ?_) ?_ (by kernel_rfl) ?_; rotate_left 2; (focus rfl); rfl)); rintro e9 w1 ⟨E, rfl, hE, hEb, HM1⟩; replace HM := HM1; clear HM1; refine ⟨_, rfl, ?_⟩
            refine hK9 _ _ (heldG HM) ?_; clear hK9 K9; ((try simp only [List.setIfInBounds_toArray]); (try simp only [List.set_cons_succ]); (try simp only [List.set_cons_zero]))
            refine j_one 6 fun K9 hK9 => ?_
            refine j_call2 (v := ?_) HM ?_ ?_; rotate_left 1; (focus (with_reducible (exact MK1 _ hE hEb x hx _))); clear HM; intro w1 HM
            refine hK9 _ _ (heldG HM) ?_; clear hK9 K9
            refine k_mv 7 (heldG HM) ?_
            refine k_ext 8 (heldG HM) ?_
            refine k_ext 9 (heldG HM) ?_
            refine j_one 11 fun K9 hK9 => ?_
            refine j_st HM ?_; clear HM; intro w1 HM
            refine hK9 _ _ heldN ?_; clear hK9 K9
            refine k_mv 12 heldN ?_
            refine wpAnyL_done (by kernel_rfl) ?_ _
            (go_wp2_with fail; go_meet; (case rel => exact ⟨_, rfl, rfl, HM⟩))
        · refine j_al HM ?_; clear HM; intro bk w1 HM
          refine ⟨(heldG HM), ?_⟩
          refine j_one 3 fun K9 hK9 => ?_
          refine o_callg (MX (i : Nat) _ _ HM hcol) rfl ?_ ?_; (focus (refine h_call3 (ts := ?_) (x1 := ?_) (x2 := ?_) (x3 := ?_) ?_ (by kernel_rfl) ?_ ?_ ?_; rotate_left 4; (focus rfl); (focus rfl); (focus rfl); rfl)); rintro e9 w1 ⟨bo, rb, rfl, hrb, HM1⟩; replace HM := HM1; clear HM1; refine ⟨_, rfl, ?_⟩
          refine hK9 _ _ (heldG HM) ?_; clear hK9 K9; ((try simp only [List.setIfInBounds_toArray]); (try simp only [List.set_cons_succ]); (try simp only [List.set_cons_zero]))
          refine j_one 4 fun K9 hK9 => ?_
          refine o_callg (D1 i hit bo rb _ _ (by first | exact HM | exact HM.tuck) hrb) rfl ?_ ?_; (focus (refine h_call1 (ts := ?_) (x1 := ?_) ?_ (by kernel_rfl) ?_; rotate_left 2; (focus rfl); rfl)); rintro e9 w1 ⟨E, rfl, hE, hEb, HM1⟩; replace HM := HM1; clear HM1; refine ⟨_, rfl, ?_⟩
          refine hK9 _ _ (heldG HM) ?_; clear hK9 K9; ((try simp only [List.setIfInBounds_toArray]); (try simp only [List.set_cons_succ]); (try simp only [List.set_cons_zero]))
          refine j_one 6 fun K9 hK9 => ?_
          refine j_call2 (v := ?_) HM ?_ ?_; rotate_left 1; (focus (with_reducible (exact MK1 _ hE hEb x hx _))); clear HM; intro w1 HM
          refine hK9 _ _ (heldG HM) ?_; clear hK9 K9
          refine k_mv 7 (heldG HM) ?_
          refine k_ext 8 (heldG HM) ?_
          refine k_ext 9 (heldG HM) ?_
          refine j_one 11 fun K9 hK9 => ?_
          refine j_st HM ?_; clear HM; intro w1 HM
          refine hK9 _ _ heldN ?_; clear hK9 K9
          refine k_mv 12 heldN ?_
          refine wpAnyL_done (by kernel_rfl) ?_ _
          (go_wp2_with fail; go_meet; (case rel => exact ⟨_, rfl, rfl, HM⟩))
      case rest =>
        clear HM
        obtain ⟨b8, rfl, rfl, HM⟩ := hcut
        have hcap : ((qrows i f).length + [Rt.qA x].length) * (264 + 1) ≤ 140737488355328 := by rw [qrows_len]; simp; omega
        have hone : ∀ c ∈ [Rt.qA x], c.all (·.oneCell') = true := by
          intro c hc
          rw [List.mem_singleton.1 hc]
          exact qA_one x
        go_step
        go_wp2_with (first | first
          | ((with_reducible refine g_bs1 ?_); refine a_bs1 (c0 := Rt.qA x) HM ?_; clear HM; intro b9 w1 HM)
          | ((with_reducible refine g_app ?_); refine a_app (m := [Rt.qA x]) (F := fun X => (b8, Rt.qA x) :: (b5, Bg.zA D) :: (b2, #[.slice Au n cu, .slice Ah H.length ch]) :: X) HM HO.out ((SlAt.made1 b9 (qA_size x)).rd HM (by simp)) ?_ hone (hlen := hcap); clear HM; intro s2 B2 w1 HS2 HM) | (first | ((with_reducible refine g_ld ?_); refine a_ld HM ?_) | ((with_reducible refine g_st ?_); refine a_st HM ?_; clear HM; intro w1 HM) | ((with_reducible refine g_al ?_); refine a_al HM ?_; clear HM; intro bk w1 HM) | ((with_reducible refine g_bx ?_); refine a_bx HM ?_; clear HM; intro bk w1 HM) | ((with_reducible refine g_bld ?_); refine a_bld ?_)))
        go_roundw
        case rel => exact ⟨i + 1, B2, by go_num, by omega, Lib.hid (by unfold qrows at HS2 ⊢; rw [So.ol_next, ← hx.out]; exact HS2), HM.pick⟩
        case measure => simp [intOf]; omega
    · obtain rfl : i = n := by omega
      go_wp2_with (first | fail | (first | ((with_reducible refine g_ld ?_); refine a_ld HM ?_) | ((with_reducible refine g_st ?_); refine a_st HM ?_; clear HM; intro w1 HM) | ((with_reducible refine g_al ?_); refine a_al HM ?_; clear HM; intro bk w1 HM) | ((with_reducible refine g_bx ?_); refine a_bx HM ?_; clear HM; intro bk w1 HM) | ((with_reducible refine g_bld ?_); refine a_bld ?_)))
      go_ret
      exact ⟨_, rfl, HM.low, Lib.hid (HO.out.rd HM (fun p hp => by simp [hp]))⟩
end Go.Proofs.Ytadnddffdedjgaa
