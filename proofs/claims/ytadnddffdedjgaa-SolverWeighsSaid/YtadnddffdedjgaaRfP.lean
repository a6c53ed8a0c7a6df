/- Plain: assets of one unit, weights, prices as sums of weights. Weights of the program and of the document, walked. -/
import Derived.Test.YtadnddffdedjgaaRfN
import Derived.Test.YtadnddffdedjgaaSyM
namespace Go.Proofs.Ytadnddffdedjgaa
set_option maxRecDepth 8000
open Go.RowKit
namespace Sv
/-- One unit of assets of the fund k. -/
def unit (n k : Nat) : List Int := (List.replicate n (0 : Int)).set k 1
theorem unit_len (n k : Nat) : (unit n k).length = n := by simp [unit]
theorem unit_gu {n k : Nat} (hk : k < n) (j : Nat) : Ns.gu (unit n k) j = if j = k then 1 else 0 := by
  unfold Ns.gu unit
  rw [List.getD_eq_getElem?_getD, List.getElem?_set]
  by_cases e : k = j
  · subst e; simp [hk]
  · rw [if_neg e, if_neg (fun h => e h.symm), List.getElem?_replicate]
    split <;> rfl
theorem unit_abs {n k : Nat} (hk : k < n) : ∀ i, i < n → (Ns.gu (unit n k) i).natAbs ≤ 1000000000000000 := fun i _ => by
  rw [unit_gu hk]; split <;> decide
open Classical in
/-- The error of Weights. -/
noncomputable def werr (U : List Int) (H : List (List Int)) (i : Int) : Int :=
  if Ns.chk U H = 0 then (if 0 ≤ i ∧ i < U.length then (if Ns.Circ U.length (Ns.gu U) (Ns.gh H) then 351 else 0) else 340) else Ns.chk U H
theorem werr_chk {U : List Int} {H : List (List Int)} {i : Int} (h : Ns.chk U H ≠ 0) : werr U H i = Ns.chk U H := if_neg h
theorem werr_idx {U : List Int} {H : List (List Int)} {i : Int} (h : Ns.chk U H = 0) (hi : ¬ (0 ≤ i ∧ i < U.length)) : werr U H i = 340 := by
  unfold werr; rw [if_pos h, if_neg hi]
theorem werr_circ {U : List Int} {H : List (List Int)} {i : Int} (h : Ns.chk U H = 0) (hi : 0 ≤ i ∧ i < U.length) (hc : Ns.Circ U.length (Ns.gu U) (Ns.gh H)) : werr U H i = 351 := by
  unfold werr; rw [if_pos h, if_pos hi, if_pos hc]
theorem werr_none {U : List Int} {H : List (List Int)} {i : Int} (h : Ns.chk U H = 0) (hi : 0 ≤ i ∧ i < U.length) (hc : ¬ Ns.Circ U.length (Ns.gu U) (Ns.gh H)) : werr U H i = 0 := by
  unfold werr; rw [if_pos h, if_pos hi, if_neg hc]
/-- The prices for one unit of each fund. -/
def Gs (U : List Int) (H : List (List Int)) (G : Nat → Nat → Rat) : Prop := ∀ k, k < U.length → Px U H (unit U.length k) (G k)
theorem gs_exists {U : List Int} {H : List (List Int)} (hG : Ns.Good U H) (hc : ¬ Ns.Circ U.length (Ns.gu U) (Ns.gh H)) : ∃ G, Gs U H G := by
  have h : ∀ k, ∃ f, k < U.length → Px U H (unit U.length k) f := fun k => by
    by_cases hk : k < U.length
    · obtain ⟨f, hf⟩ := px_exists hG hc (unit_abs hk)
      exact ⟨f, fun _ => hf⟩
    · exact ⟨fun _ => 0, fun h => absurd h hk⟩
  exact ⟨fun k => Classical.choose (h k), fun k => Classical.choose_spec (h k)⟩
/-- What Weights hands back. -/
def Wans (U : List Int) (G : Nat → Nat → Rat) (i : Int) (r : Int) (w : World) (s : Value) : Prop := (r ≠ 0 ∧ s = .slice none 0 0) ∨ (r = 0 ∧ ∃ m : Nat, i = (m : Nat) ∧ m < U.length ∧ RdS 66 w s (qrows U.length fun k => G k m))
theorem Wans.below {U : List Int} {G : Nat → Nat → Rat} {i r : Int} {w w' : World} {s : Value} (h : Wans U G i r w s) (hb : Below w.heap.size w w') : Wans U G i r w' s :=
  h.imp id fun ⟨h0, m, e, hm, hR⟩ => ⟨h0, m, e, hm, RdS.below hR hb⟩
theorem Wans.both {U : List Int} {H : List (List Int)} {G : Nat → Nat → Rat} {i r : Int} {w : World} {s1 s2 : Value} (hn : r = 0 → U.length ≤ 8) (hG : r = 0 → Gs U H G) (h1 : Wans U G i r w s1) (h2 : Wans U G i r w s2) : ∃ m f, m ≤ 8 ∧ RdS 66 w s1 (qrows m f) ∧ RdS 66 w s2 (qrows m f) ∧ ∀ i, i < m → Rt.Fit (f i) := by
  rcases h1 with ⟨h0, rfl⟩ | ⟨h0, m, rfl, hm, hR1⟩
  · rcases h2 with ⟨_, rfl⟩ | ⟨h3, _⟩
    · exact ⟨0, fun _ => 0, by omega, rdS_nil _ _ _, rdS_nil _ _ _, fun i hi => by omega⟩
    · exact absurd h3 h0
  · rcases h2 with ⟨h3, _⟩ | ⟨_, m2, e, hm2, hR2⟩
    · exact absurd h0 h3
    obtain rfl : m = m2 := by omega
    exact ⟨_, _, hn h0, hR1, hR2, fun k hk => ((hG h0) k hk).2 m hm⟩
end Sv
namespace Ns
open Mx
/-- One denominator for all assets. -/
theorem cd_all {n : Nat} {u : Nat → Int} {h : Nat → Nat → Int} (H : Ok n u h) (hc : ¬ Circ n u h) : ∃ D : Int, D ≠ 0 ∧ D.natAbs ≤ big ∧ ∀ (a : Nat → Int) (f : Nat → Rat), (∀ i, i < n → (a i).natAbs ≤ 1000000000000000) → Pr n u h a f → ∀ i, i < n → ∃ N : Int, N.natAbs ≤ big ∧ f i = Rat.divInt N D := by
  obtain ⟨D, hD, hDb⟩ := bd_ent (zf_ent (a := fun _ => 0) H (fun _ _ => by decide)) H.n8 id
  have e : ∀ a : Nat → Int, (D : Rat) = det n (ext n (zf n u h a)) := fun a => by
    rw [← hD]
    refine det_congr fun r c hr hcn => ?_
    show ext n (zf n u h fun _ => 0) r c = _
    unfold ext zf
    simp only [if_pos (show c ≤ n by omega), if_pos hcn]
  obtain ⟨f0, hf0⟩ := pr_exists (fun _ => 0) H hc
  refine ⟨D, rden H hc hf0 (e _), hDb, fun a f ha hf i hi => ?_⟩
  obtain ⟨N, hN, hNb⟩ := bd_ent (zf_ent (a := a) H ha) H.n8 (fun c => if c = i then n else c)
  exact ⟨N, hNb, rprice H hc hf hi (e a) hN.symm⟩
theorem cd_weights {U : List Int} {H : List (List Int)} {G : Nat → Nat → Rat} (hO : Ok U.length (gu U) (gh H)) (hc : ¬ Circ U.length (gu U) (gh H)) (hG : Sv.Gs U H G) {i : Nat} (hi : i < U.length) : Cd U.length (fun k => G k i) := by
  obtain ⟨D, h0, hD, hN⟩ := cd_all hO hc
  exact ⟨D, h0, hD, fun k hk => hN _ _ (Sv.unit_abs hk) (hG k hk).1 i hi⟩
theorem weights_sum {U A : List Int} {H : List (List Int)} {G : Nat → Nat → Rat} {f : Nat → Rat} (hO : Ok U.length (gu U) (gh H)) (hc : ¬ Circ U.length (gu U) (gh H)) (hG : Sv.Gs U H G) (hf : Pr U.length (gu U) (gh H) (gu A) f) {i : Nat} (hi : i < U.length) : sm U.length (fun k => (gu A k : Rat) * G k i) = f i := by
  refine Pr.uniq (y := f) (x := fun i => sm U.length (fun k => (gu A k : Rat) * G k i)) hO hc (fun r hr => ?_) hf i hi
  have e1 : sm U.length (fun j => (mat (gu U) (gh H) r j : Rat) * sm U.length (fun k => (gu A k : Rat) * G k j)) = sm U.length (fun k => (gu A k : Rat) * sm U.length (fun j => (mat (gu U) (gh H) r j : Rat) * G k j)) := by
    have a1 : sm U.length (fun j => (mat (gu U) (gh H) r j : Rat) * sm U.length (fun k => (gu A k : Rat) * G k j)) = sm U.length (fun j => sm U.length (fun k => (mat (gu U) (gh H) r j : Rat) * ((gu A k : Rat) * G k j))) := sm_congr fun j _ => (sm_mul _).symm
    have a2 : sm U.length (fun k => (gu A k : Rat) * sm U.length (fun j => (mat (gu U) (gh H) r j : Rat) * G k j)) = sm U.length (fun k => sm U.length (fun j => (gu A k : Rat) * ((mat (gu U) (gh H) r j : Rat) * G k j))) := sm_congr fun k _ => (sm_mul _).symm
    rw [a1, a2, sm_swap]
    exact sm_congr fun k _ => sm_congr fun j _ => by grind
  rw [e1]
  have e2 : sm U.length (fun k => (gu A k : Rat) * sm U.length (fun j => (mat (gu U) (gh H) r j : Rat) * G k j)) = sm U.length (fun k => (gu A k : Rat) * ((rhs (gu U) (gu (Sv.unit U.length k)) r : Int) : Rat)) := sm_congr fun k hk => by rw [(hG k hk).1 r hr]
  rw [e2]
  by_cases h0 : gu U r = 0
  · rw [sm_zero (fun k _ => by unfold rhs; rw [if_pos h0]; have : ((0 : Int) : Rat) = 0 := rfl; rw [this]; grind)]
    unfold rhs; rw [if_pos h0]; rfl
  · rw [sm_one (k := r) hr (fun k hk hne => by unfold rhs; rw [if_neg h0, Sv.unit_gu hk, if_neg (fun h => hne h.symm)]; have : ((0 : Int) : Rat) = 0 := rfl; rw [this]; grind)]
    unfold rhs
    rw [if_neg h0, if_neg h0, Sv.unit_gu hr, if_pos rfl]
    have : ((1 : Int) : Rat) = 1 := rfl
    rw [this]; grind
theorem weights_nonneg {U : List Int} {H : List (List Int)} {G : Nat → Nat → Rat} (hO : Ok U.length (gu U) (gh H)) (hc : ¬ Circ U.length (gu U) (gh H)) (hG : Sv.Gs U H G) {k : Nat} (hk : k < U.length) : ∀ i, i < U.length → 0 ≤ G k i :=
  price_nonneg hO hc (hG k hk).1 fun i _ => by rw [Sv.unit_gu hk]; split <;> decide
end Ns
end Go.Proofs.Ytadnddffdedjgaa
namespace Go.Proofs.Ytadnddffdedjgaa
set_option maxRecDepth 8000
open Go.RowKit
section
variable {ops : Array Oper} {rest : List Oper} {a a2 : Act} {w : World} {Q : Exit → Act → World → Prop} {d : Option Tmp} {ty T : TypeId} {ps : String} {af : Array Edge} {g : Option (Nat × Bool)} {x : Operand} {v : Value} {b k : Nat} {c : Array Value}
/-- A load from a block that is readable in the world as it stands. -/
theorem a_ldw (hb : Hid (Rbk w b c)) (h : wpList Try.prog ops Q rest a2 w) (hw : WantT ops { dst := d, op := .load T x, type := ty, pos := ps, after := af, guard := g } a := by first | exact Or.inl rfl | exact Or.inr ⟨_, _, _, rfl, rfl, rfl⟩) (hx : a.eval x = .pointer (some ⟨b, k, none⟩) := by (conv => lhs; whnf) <;> rfl) (hv : LA T c k v := by with_reducible assumption) (ha : a.put d v = a2 := by ((try simp only [Act.put, List.setIfInBounds_toArray, List.set_cons_succ, List.set_cons_zero]) <;> rfl)) : OpG ops Q rest a w { dst := d, op := .load T x, type := ty, pos := ps, after := af, guard := g } := m_ld hw hx hb.out hv (ha ▸ h)
end
theorem prices_g (us hs as_ : Value) (U : List Int) (H : List (List Int)) (A : List Int) (g : Nat → Rat) (w : World) (hR : RdN w us hs U H) (hG : Ns.Good U H) (hA : RdI w as_ A) (hAl : A.length = U.length) (ha : ∀ i, i < U.length → (Ns.gu A i).natAbs ≤ 1000000000000000) (hc : ¬ Ns.Circ U.length (Ns.gu U) (Ns.gh H)) (hg : Sv.Px U H A g) :
    Calls Try.prog 32 #[.agg #[us, hs], as_] w fun e w' => ∃ s, e = .returned (.tuple #[s, .int .i64 0]) ∧ Below w.heap.size w w' ∧ Hid (RdS 66 w' s (qrows U.length g)) := by
  refine (prices_any us hs as_ U H A w hR hG hA hAl ha).mono ?_
  rintro e w' ⟨hL, ⟨h, _⟩ | ⟨_, s, f, rfl, HS, HF⟩⟩
  · exact absurd h hc
  · refine ⟨s, rfl, hL, Lib.hid ?_⟩
    have e : qrows U.length g = qrows U.length f := So.ol_congr fun i hi => by rw [Ns.Pr.uniq hG.ok hc hg.1 HF.out.1 i hi]
    rw [e]; exact HS.out
theorem prices_c (us hs as_ : Value) (U : List Int) (H : List (List Int)) (A : List Int) (w : World) (hR : RdN w us hs U H) (hG : Ns.Good U H) (hA : RdI w as_ A) (hAl : A.length = U.length) (ha : ∀ i, i < U.length → (Ns.gu A i).natAbs ≤ 1000000000000000) (hc : Ns.Circ U.length (Ns.gu U) (Ns.gh H)) :
    Calls Try.prog 32 #[.agg #[us, hs], as_] w fun e w' => e = .returned (.tuple #[.slice none 0 0, .int .i64 351]) ∧ Below w.heap.size w w' := by
  refine (prices_any us hs as_ U H A w hR hG hA hAl ha).mono ?_
  rintro e w' ⟨hL, ⟨_, h⟩ | ⟨h, _⟩⟩
  · exact ⟨h, hL⟩
  · exact absurd hc h
theorem sa_unit {n k : Nat} (hk : k < n) : SA 3 (rowsOf ((List.replicate n (0 : Int)).map ic)) k (.int .i64 1) (rowsOf ((Sv.unit n k).map ic)) := sa_ints _ 1 (by simpa using hk)
theorem rd_unit {w0 w : World} {X : List Nat} {L : List (Nat × Array Value)} {b n k : Nat} (HM : Mem w0 X ((b, rowsOf ((Sv.unit n k).map ic)) :: L) w) : RdI w (.slice (some ⟨b, 0, none⟩) n n) (Sv.unit n k) := by
  have := (own_ints (b := b) (A := Sv.unit n k)).rd HM (by simp)
  rwa [Sv.unit_len] at this
set_option maxHeartbeats 4000000 in
theorem sweights_any (us hs : Value) (U : List Int) (H : List (List Int)) (i : Int) (G : Nat → Nat → Rat) (w : World) (hR : RdN w us hs U H) (r : Int) (hr : Hid (r = Sv.werr U H i)) (hGs : r = 0 → Sv.Gs U H G) :
    Calls Try.prog 25 #[.agg #[us, hs], .int .i64 i] w fun e w' => ∃ s, e = .returned (.tuple #[s, .int .i64 r]) ∧ Below w.heap.size w w' ∧ Hid (Sv.Wans U G i r w' s) := by
  have HM := Mem.start w
  have HR := Lib.hid hR
  have HGS := Lib.hid hGs
  obtain ⟨Au, cu, rfl⟩ := hR.u.form
  obtain ⟨c, hc⟩ : ∃ c, Hid (c = Ns.chk U H) := ⟨_, Lib.hid rfl⟩
  have C := fun w' hB => ncheck_any _ _ U H w' (hR.below hB) c hc
  have n0 := la_n0 (.slice Au U.length cu) hs
  have n2 := la_nest (.slice Au U.length cu) hs
  have eli : elemB 22 3 1 8 = true := by kernel_rfl
  have elq : elemB 27 42 66 264 = true := by kernel_rfl
  have zi := za_i
  clear hR hGs
  by_cases h0 : c = 0
  case neg =>
    obtain rfl : r = c := by rw [hr.out, Sv.werr_chk (by rw [← hc.out]; exact h0), ← hc.out]
    clear hr hc
    go_enter Try.func25, Try.ntmps25
    go_wp2_with (first | (go_at_call 44; ((with_reducible refine (C _ HM.low).mono ?_); rintro e9 w2 ⟨rfl, hL⟩; replace HM := HM.call hL; clear hL)) | (first | ((with_reducible refine g_ld ?_); refine a_ld HM ?_) | ((with_reducible refine g_st ?_); refine a_st HM ?_; clear HM; intro w1 HM) | ((with_reducible refine g_al ?_); refine a_al HM ?_; clear HM; intro bk w1 HM) | ((with_reducible refine g_bx ?_); refine a_bx HM ?_; clear HM; intro bk w1 HM) | ((with_reducible refine g_bld ?_); refine a_bld ?_)))
    go_ret2
    exact ⟨_, rfl, HM.low, Lib.hid (.inl ⟨h0, rfl⟩)⟩
  case pos =>
  subst h0
  by_cases hi0 : i < 0
  · obtain rfl : r = 340 := by rw [hr.out, Sv.werr_idx hc.out.symm (by omega)]
    clear hr hc
    go_enter Try.func25, Try.ntmps25
    go_wp2_with (first | (go_at_call 44; ((with_reducible refine (C _ HM.low).mono ?_); rintro e9 w2 ⟨rfl, hL⟩; replace HM := HM.call hL; clear hL)) | (first | ((with_reducible refine g_ld ?_); refine a_ld HM ?_) | ((with_reducible refine g_st ?_); refine a_st HM ?_; clear HM; intro w1 HM) | ((with_reducible refine g_al ?_); refine a_al HM ?_; clear HM; intro bk w1 HM) | ((with_reducible refine g_bx ?_); refine a_bx HM ?_; clear HM; intro bk w1 HM) | ((with_reducible refine g_bld ?_); refine a_bld ?_)))
    go_ret2
    exact ⟨_, rfl, HM.low, Lib.hid (.inl ⟨by decide, rfl⟩)⟩
  have hd0 : decide (i < 0) = false := by simp; omega
  by_cases hi1 : (U.length : Int) ≤ i
  · obtain rfl : r = 340 := by rw [hr.out, Sv.werr_idx hc.out.symm (by omega)]
    clear hr hc
    go_enter Try.func25, Try.ntmps25
    go_wp2_with (first | (go_at_call 44; ((with_reducible refine (C _ HM.low).mono ?_); rintro e9 w2 ⟨rfl, hL⟩; replace HM := HM.call hL; clear hL)) | (first | ((with_reducible refine g_ld ?_); refine a_ld HM ?_) | ((with_reducible refine g_st ?_); refine a_st HM ?_; clear HM; intro w1 HM) | ((with_reducible refine g_al ?_); refine a_al HM ?_; clear HM; intro bk w1 HM) | ((with_reducible refine g_bx ?_); refine a_bx HM ?_; clear HM; intro bk w1 HM) | ((with_reducible refine g_bld ?_); refine a_bld ?_)))
    go_ret2
    exact ⟨_, rfl, HM.low, Lib.hid (.inl ⟨by decide, rfl⟩)⟩
  obtain ⟨m, rfl⟩ : ∃ m : Nat, i = (m : Nat) := ⟨i.toNat, by omega⟩
  have hm : m < U.length := by omega
  have hd1 : decide ((U.length : Int) ≤ (m : Nat)) = false := by simp; omega
  have hd2 : decide (U.length ≤ m) = false := by simp; omega
  have hG := Ns.chk_good hc.out.symm
  have HG := Lib.hid hG
  have hn8 := hG.sh.1
  by_cases hcc : Ns.Circ U.length (Ns.gu U) (Ns.gh H)
  · obtain rfl : r = 351 := by rw [hr.out, Sv.werr_circ hc.out.symm ⟨by omega, by omega⟩ hcc]
    have HCC := Lib.hid hcc
    clear hr hc hcc hG
    have hpos : (0 : Int) < U.length := by omega
    go_enter Try.func25, Try.ntmps25
    go_wp2_with (first | (go_at_call 44; ((with_reducible refine (C _ HM.low).mono ?_); rintro e9 w2 ⟨rfl, hL⟩; replace HM := HM.call hL; clear hL)) | (first | ((with_reducible refine g_ld ?_); refine a_ld HM ?_) | ((with_reducible refine g_st ?_); refine a_st HM ?_; clear HM; intro w1 HM) | ((with_reducible refine g_al ?_); refine a_al HM ?_; clear HM; intro bk w1 HM) | ((with_reducible refine g_bx ?_); refine a_bx HM ?_; clear HM; intro bk w1 HM) | ((with_reducible refine g_bld ?_); refine a_bld ?_)))
    obtain ⟨b2, rfl⟩ := HM.nm0
    go_loopw [4, 5, 7, 29] (fun sv rv ov iv wr => sv = .slice none 0 0 ∧ rv = .int .i64 0 ∧ ov = .slice none 0 0 ∧ iv = .int .i64 0 ∧ Mem w [] [(b2, #[.slice Au U.length cu, hs])] wr) (fun _ _ _ _ _ => 0)
    case atStart => exact ⟨rfl, rfl, rfl, rfl, HM⟩
    case round =>
      clear HM
      obtain ⟨rfl, rfl, rfl, rfl, HM⟩ := hrel
      have s1 := sa_unit (n := U.length) (k := 0) (by omega)
      go_upto_region 11 with (first | ((with_reducible refine g_mks ?_); refine a_mks U.length HM ?_ (by omega); clear HM; intro bm w1 HM) | (first | ((with_reducible refine g_ld ?_); refine a_ld HM ?_) | ((with_reducible refine g_st ?_); refine a_st HM ?_; clear HM; intro w1 HM) | ((with_reducible refine g_al ?_); refine a_al HM ?_; clear HM; intro bk w1 HM) | ((with_reducible refine g_bx ?_); refine a_bx HM ?_; clear HM; intro bk w1 HM) | ((with_reducible refine g_bld ?_); refine a_bld ?_)))
      rw [rep_ints] at HM
      go_upto_region 12 with (first | fail | (first | ((with_reducible refine g_ld ?_); refine a_ld HM ?_) | ((with_reducible refine g_st ?_); refine a_st HM ?_; clear HM; intro w1 HM) | ((with_reducible refine g_al ?_); refine a_al HM ?_; clear HM; intro bk w1 HM) | ((with_reducible refine g_bx ?_); refine a_bx HM ?_; clear HM; intro bk w1 HM) | ((with_reducible refine g_bld ?_); refine a_bld ?_)))
      have P := prices_c _ _ _ U H _ _ (HR.out.below HM.low) HG.out (rd_unit HM) (Sv.unit_len _ _) (Sv.unit_abs (by omega)) HCC.out
      go_wp2_with (first | (go_at_call 32; ((with_reducible refine (P).mono ?_); rintro e9 w2 ⟨rfl, hL⟩; replace HM := HM.call hL; clear hL)) | (first | ((with_reducible refine g_ld ?_); refine a_ld HM ?_) | ((with_reducible refine g_st ?_); refine a_st HM ?_; clear HM; intro w1 HM) | ((with_reducible refine g_al ?_); refine a_al HM ?_; clear HM; intro bk w1 HM) | ((with_reducible refine g_bx ?_); refine a_bx HM ?_; clear HM; intro bk w1 HM) | ((with_reducible refine g_bld ?_); refine a_bld ?_)))
      go_ret2
      exact ⟨_, rfl, HM.low, Lib.hid (.inl ⟨by decide, rfl⟩)⟩
  · obtain rfl : r = 0 := by rw [hr.out, Sv.werr_none hc.out.symm ⟨by omega, by omega⟩ hcc]
    have HCC := Lib.hid hcc
    have hgs := HGS.out rfl
    have HG2 := Lib.hid hgs
    clear hr hc hcc hG hgs HGS
    go_enter Try.func25, Try.ntmps25
    go_wp2_with (first | (go_at_call 44; ((with_reducible refine (C _ HM.low).mono ?_); rintro e9 w2 ⟨rfl, hL⟩; replace HM := HM.call hL; clear hL)) | (first | ((with_reducible refine g_ld ?_); refine a_ld HM ?_) | ((with_reducible refine g_st ?_); refine a_st HM ?_; clear HM; intro w1 HM) | ((with_reducible refine g_al ?_); refine a_al HM ?_; clear HM; intro bk w1 HM) | ((with_reducible refine g_bx ?_); refine a_bx HM ?_; clear HM; intro bk w1 HM) | ((with_reducible refine g_bld ?_); refine a_bld ?_)))
    obtain ⟨b2, rfl⟩ := HM.nm0
    clear C
    go_loopw [4, 5, 7, 29] (fun sv rv ov iv wr => ∃ (k : Nat) (B : List (Nat × Array Value)), sv = .slice none 0 0 ∧ rv = .int .i64 0 ∧ iv = .int .i64 (k : Nat) ∧ k ≤ U.length ∧ Hid (SlAt 66 ov (qrows k fun k => G k m) B) ∧ Mem w [] ((b2, #[.slice Au U.length cu, hs]) :: B) wr) (fun _ _ _ iv _ => U.length - (intOf iv).toNat)
    case atStart => exact ⟨0, [], rfl, rfl, rfl, by omega, Lib.hid .nil, HM⟩
    case round =>
      clear HM
      obtain ⟨k, B, rfl, rfl, rfl, hk, HO, HM⟩ := hrel
      by_cases hkt : k < U.length
      · have hkt1 : (k : Int) < U.length := by omega
        have s1 := sa_unit hkt
        have hcap : ((qrows k fun k => G k m).length + [Rt.qA (G k m)].length) * (264 + 1) ≤ 140737488355328 := by rw [qrows_len]; simp; omega
        have hone : ∀ c ∈ [Rt.qA (G k m)], c.all (·.oneCell') = true := by
          intro c hc
          rw [List.mem_singleton.1 hc]
          exact qA_one _
        go_upto_region 11 with (first | ((with_reducible refine g_mks ?_); refine a_mks U.length HM ?_ (by omega); clear HM; intro bm w1 HM) | (first | ((with_reducible refine g_ld ?_); refine a_ld HM ?_) | ((with_reducible refine g_st ?_); refine a_st HM ?_; clear HM; intro w1 HM) | ((with_reducible refine g_al ?_); refine a_al HM ?_; clear HM; intro bk w1 HM) | ((with_reducible refine g_bx ?_); refine a_bx HM ?_; clear HM; intro bk w1 HM) | ((with_reducible refine g_bld ?_); refine a_bld ?_)))
        rw [rep_ints] at HM
        go_upto_region 12 with (first | fail | (first | ((with_reducible refine g_ld ?_); refine a_ld HM ?_) | ((with_reducible refine g_st ?_); refine a_st HM ?_; clear HM; intro w1 HM) | ((with_reducible refine g_al ?_); refine a_al HM ?_; clear HM; intro bk w1 HM) | ((with_reducible refine g_bx ?_); refine a_bx HM ?_; clear HM; intro bk w1 HM) | ((with_reducible refine g_bld ?_); refine a_bld ?_)))
        have P := prices_g _ _ _ U H _ (G k) _ (HR.out.below HM.low) HG.out (rd_unit HM) (Sv.unit_len _ _) (Sv.unit_abs hkt) HCC.out (HG2.out k hkt)
        go_wp2_with (first | first | (go_at_call 32; refine P.mono ?_; rintro e9 w5 ⟨s1, rfl, hL1, HS1⟩; replace HM := HM.call hL1; obtain ⟨A1, p1, rfl⟩ := HS1.out.form66; obtain ⟨b1, o1, cs1, rfl, HBP, kp⟩ := HS1.out.at66 hm) | ((with_reducible refine g_ld ?_); refine a_ldw HBP ?_) | ((with_reducible refine g_bs1 ?_); refine a_bs1 (c0 := Rt.qA (G k m)) HM ?_; clear HM; intro b9 w1 HM) | ((with_reducible refine g_app ?_); refine a_app (m := [Rt.qA (G k m)]) (F := fun X => (bm, rowsOf ((Sv.unit U.length k).map ic)) :: (b2, #[.slice Au U.length cu, hs]) :: X) HM HO.out ((SlAt.made1 b9 (qA_size (G k m))).rd HM (by simp)) ?_ hone (hlen := hcap); clear HM; intro s2 B2 w1 HS2 HM) | (first | ((with_reducible refine g_ld ?_); refine a_ld HM ?_) | ((with_reducible refine g_st ?_); refine a_st HM ?_; clear HM; intro w1 HM) | ((with_reducible refine g_al ?_); refine a_al HM ?_; clear HM; intro bk w1 HM) | ((with_reducible refine g_bx ?_); refine a_bx HM ?_; clear HM; intro bk w1 HM) | ((with_reducible refine g_bld ?_); refine a_bld ?_)))
        go_roundw
        case rel => exact ⟨k + 1, B2, rfl, rfl, by go_num, by omega, Lib.hid (by unfold qrows at HS2 ⊢; rw [So.ol_next]; exact HS2), HM.pick⟩
        case measure => simp [intOf]; omega
      · obtain rfl : k = U.length := by omega
        go_wp2_with (first | fail | (first | ((with_reducible refine g_ld ?_); refine a_ld HM ?_) | ((with_reducible refine g_st ?_); refine a_st HM ?_; clear HM; intro w1 HM) | ((with_reducible refine g_al ?_); refine a_al HM ?_; clear HM; intro bk w1 HM) | ((with_reducible refine g_bx ?_); refine a_bx HM ?_; clear HM; intro bk w1 HM) | ((with_reducible refine g_bld ?_); refine a_bld ?_)))
        go_ret2
        exact ⟨_, rfl, HM.low, Lib.hid (.inr ⟨rfl, m, rfl, hm, HO.out.rd HM (fun p hp => by simp [hp])⟩)⟩
set_option maxHeartbeats 4000000 in
theorem rweights_any (us hs : Value) (U : List Int) (H : List (List Int)) (i : Int) (G : Nat → Nat → Rat) (w : World) (hR : RdN w us hs U H) (r : Int) (hr : Hid (r = Sv.werr U H i)) (hGs : r = 0 → Sv.Gs U H G) :
    Calls Try.prog 26 #[.agg #[us, hs], .int .i64 i] w fun e w' => ∃ s, e = .returned (.tuple #[s, .int .i64 r]) ∧ Below w.heap.size w w' ∧ Hid (Sv.Wans U G i r w' s) := by
  have HM := Mem.start w
  have HR := Lib.hid hR
  have HGS := Lib.hid hGs
  obtain ⟨Au, cu, rfl⟩ := hR.u.form
  obtain ⟨c, hc⟩ : ∃ c, Hid (c = Ns.chk U H) := ⟨_, Lib.hid rfl⟩
  have C := fun w' hB => rncheck_any _ _ U H w' (hR.below hB) c hc
  have n0 := la_n0 (.slice Au U.length cu) hs
  have n2 := la_nest (.slice Au U.length cu) hs
  have eli : elemB 22 3 1 8 = true := by kernel_rfl
  have elq : elemB 27 42 66 264 = true := by kernel_rfl
  have zi := za_i
  clear hR hGs
  by_cases h0 : c = 0
  case neg =>
    obtain rfl : r = c := by rw [hr.out, Sv.werr_chk (by rw [← hc.out]; exact h0), ← hc.out]
    clear hr hc
    go_enter Try.func26, Try.ntmps26
    go_wp2_with (first | (go_at_call 33; ((with_reducible refine (C _ HM.low).mono ?_); rintro e9 w2 ⟨rfl, hL⟩; replace HM := HM.call hL; clear hL)) | (first | ((with_reducible refine g_ld ?_); refine a_ld HM ?_) | ((with_reducible refine g_st ?_); refine a_st HM ?_; clear HM; intro w1 HM) | ((with_reducible refine g_al ?_); refine a_al HM ?_; clear HM; intro bk w1 HM) | ((with_reducible refine g_bx ?_); refine a_bx HM ?_; clear HM; intro bk w1 HM) | ((with_reducible refine g_bld ?_); refine a_bld ?_)))
    go_ret2
    exact ⟨_, rfl, HM.low, Lib.hid (.inl ⟨h0, rfl⟩)⟩
  case pos =>
  subst h0
  by_cases hi0 : i < 0
  · obtain rfl : r = 340 := by rw [hr.out, Sv.werr_idx hc.out.symm (by omega)]
    clear hr hc
    go_enter Try.func26, Try.ntmps26
    go_wp2_with (first | (go_at_call 33; ((with_reducible refine (C _ HM.low).mono ?_); rintro e9 w2 ⟨rfl, hL⟩; replace HM := HM.call hL; clear hL)) | (first | ((with_reducible refine g_ld ?_); refine a_ld HM ?_) | ((with_reducible refine g_st ?_); refine a_st HM ?_; clear HM; intro w1 HM) | ((with_reducible refine g_al ?_); refine a_al HM ?_; clear HM; intro bk w1 HM) | ((with_reducible refine g_bx ?_); refine a_bx HM ?_; clear HM; intro bk w1 HM) | ((with_reducible refine g_bld ?_); refine a_bld ?_)))
    go_ret2
    exact ⟨_, rfl, HM.low, Lib.hid (.inl ⟨by decide, rfl⟩)⟩
  have hd0 : decide (i < 0) = false := by simp; omega
  by_cases hi1 : (U.length : Int) ≤ i
  · obtain rfl : r = 340 := by rw [hr.out, Sv.werr_idx hc.out.symm (by omega)]
    clear hr hc
    go_enter Try.func26, Try.ntmps26
    go_wp2_with (first | (go_at_call 33; ((with_reducible refine (C _ HM.low).mono ?_); rintro e9 w2 ⟨rfl, hL⟩; replace HM := HM.call hL; clear hL)) | (first | ((with_reducible refine g_ld ?_); refine a_ld HM ?_) | ((with_reducible refine g_st ?_); refine a_st HM ?_; clear HM; intro w1 HM) | ((with_reducible refine g_al ?_); refine a_al HM ?_; clear HM; intro bk w1 HM) | ((with_reducible refine g_bx ?_); refine a_bx HM ?_; clear HM; intro bk w1 HM) | ((with_reducible refine g_bld ?_); refine a_bld ?_)))
    go_ret2
    exact ⟨_, rfl, HM.low, Lib.hid (.inl ⟨by decide, rfl⟩)⟩
  obtain ⟨m, rfl⟩ : ∃ m : Nat, i = (m : Nat) := ⟨i.toNat, by omega⟩
  have hm : m < U.length := by omega
  have hd1 : decide ((U.length : Int) ≤ (m : Nat)) = false := by simp; omega
  have hd2 : decide (U.length ≤ m) = false := by simp; omega
  have hG := Ns.chk_good hc.out.symm
  have HG := Lib.hid hG
  have hn8 := hG.sh.1
  by_cases hcc : Ns.Circ U.length (Ns.gu U) (Ns.gh H)
  · obtain rfl : r = 351 := by rw [hr.out, Sv.werr_circ hc.out.symm ⟨by omega, by omega⟩ hcc]
    have K := fun w' hB => rcircle_any _ _ U H w' (HR.out.below hB) hG 351 (fun h => absurd hcc h) (fun _ => rfl)
    clear hr hc hcc hG
    go_enter Try.func26, Try.ntmps26
    go_wp2_with (first | first | (go_at_call 33; ((with_reducible refine (C _ HM.low).mono ?_); rintro e9 w2 ⟨rfl, hL⟩; replace HM := HM.call hL; clear hL)) | (go_at_call 27; ((with_reducible refine (K _ HM.low).mono ?_); rintro e9 w2 ⟨rfl, hL⟩; replace HM := HM.call hL; clear hL)) | (first | ((with_reducible refine g_ld ?_); refine a_ld HM ?_) | ((with_reducible refine g_st ?_); refine a_st HM ?_; clear HM; intro w1 HM) | ((with_reducible refine g_al ?_); refine a_al HM ?_; clear HM; intro bk w1 HM) | ((with_reducible refine g_bx ?_); refine a_bx HM ?_; clear HM; intro bk w1 HM) | ((with_reducible refine g_bld ?_); refine a_bld ?_)))
    go_ret2
    exact ⟨_, rfl, HM.low, Lib.hid (.inl ⟨by decide, rfl⟩)⟩
  · obtain rfl : r = 0 := by rw [hr.out, Sv.werr_none hc.out.symm ⟨by omega, by omega⟩ hcc]
    have K := fun w' hB => rcircle_any _ _ U H w' (HR.out.below hB) hG 0 (fun _ => rfl) (fun h => absurd h hcc)
    have HCC := Lib.hid hcc
    have hgs := HGS.out rfl
    have HG2 := Lib.hid hgs
    clear hr hc hcc hG hgs HGS
    go_enter Try.func26, Try.ntmps26
    go_wp2_with (first | first | (go_at_call 33; ((with_reducible refine (C _ HM.low).mono ?_); rintro e9 w2 ⟨rfl, hL⟩; replace HM := HM.call hL; clear hL)) | (go_at_call 27; ((with_reducible refine (K _ HM.low).mono ?_); rintro e9 w2 ⟨rfl, hL⟩; replace HM := HM.call hL; clear hL)) | (first | ((with_reducible refine g_ld ?_); refine a_ld HM ?_) | ((with_reducible refine g_st ?_); refine a_st HM ?_; clear HM; intro w1 HM) | ((with_reducible refine g_al ?_); refine a_al HM ?_; clear HM; intro bk w1 HM) | ((with_reducible refine g_bx ?_); refine a_bx HM ?_; clear HM; intro bk w1 HM) | ((with_reducible refine g_bld ?_); refine a_bld ?_)))
    obtain ⟨b2, rfl⟩ := HM.nm0
    clear C K
    go_loopw [8, 9] (fun ov iv wr => ∃ (k : Nat) (B : List (Nat × Array Value)), iv = .int .i64 (k : Nat) ∧ k ≤ U.length ∧ Hid (SlAt 66 ov (qrows k fun k => G k m) B) ∧ Mem w [] ((b2, #[.slice Au U.length cu, hs]) :: B) wr) (fun _ iv _ => U.length - (intOf iv).toNat)
    case atStart => exact ⟨0, [], rfl, by omega, Lib.hid .nil, HM⟩
    case round =>
      clear HM
      obtain ⟨k, B, rfl, hk, HO, HM⟩ := hrel
      by_cases hkt : k < U.length
      · have hkt1 : (k : Int) < U.length := by omega
        have s1 := sa_unit hkt
        have hcap : ((qrows k fun k => G k m).length + [Rt.qA (G k m)].length) * (264 + 1) ≤ 140737488355328 := by rw [qrows_len]; simp; omega
        have hone : ∀ c ∈ [Rt.qA (G k m)], c.all (·.oneCell') = true := by
          intro c hc
          rw [List.mem_singleton.1 hc]
          exact qA_one _
        go_upto_region 14 with (first | ((with_reducible refine g_mks ?_); refine a_mks U.length HM ?_ (by omega); clear HM; intro bm w1 HM) | (first | ((with_reducible refine g_ld ?_); refine a_ld HM ?_) | ((with_reducible refine g_st ?_); refine a_st HM ?_; clear HM; intro w1 HM) | ((with_reducible refine g_al ?_); refine a_al HM ?_; clear HM; intro bk w1 HM) | ((with_reducible refine g_bx ?_); refine a_bx HM ?_; clear HM; intro bk w1 HM) | ((with_reducible refine g_bld ?_); refine a_bld ?_)))
        rw [rep_ints] at HM
        go_upto_region 15 with (first | fail | (first | ((with_reducible refine g_ld ?_); refine a_ld HM ?_) | ((with_reducible refine g_st ?_); refine a_st HM ?_; clear HM; intro w1 HM) | ((with_reducible refine g_al ?_); refine a_al HM ?_; clear HM; intro bk w1 HM) | ((with_reducible refine g_bx ?_); refine a_bx HM ?_; clear HM; intro bk w1 HM) | ((with_reducible refine g_bld ?_); refine a_bld ?_)))
        have P := rsolve_any _ _ _ U H _ (G k) U.length _ (HR.out.below HM.low) HG.out (rd_unit HM) (Lib.hid rfl) (Sv.unit_len _ _) (Sv.unit_abs hkt) HCC.out (HG2.out k hkt).1 (HG2.out k hkt).2
        go_wp2_with (first | first | (go_at_call 34; refine P.mono ?_; rintro e9 w5 ⟨s1, rfl, hL1, HS1⟩; replace HM := HM.call hL1; obtain ⟨A1, p1, rfl⟩ := HS1.out.form66; obtain ⟨b1, o1, cs1, rfl, HBP, kp⟩ := HS1.out.at66 hm) | ((with_reducible refine g_ld ?_); refine a_ldw HBP ?_) | ((with_reducible refine g_bs1 ?_); refine a_bs1 (c0 := Rt.qA (G k m)) HM ?_; clear HM; intro b9 w1 HM) | ((with_reducible refine g_app ?_); refine a_app (m := [Rt.qA (G k m)]) (F := fun X => (bm, rowsOf ((Sv.unit U.length k).map ic)) :: (b2, #[.slice Au U.length cu, hs]) :: X) HM HO.out ((SlAt.made1 b9 (qA_size (G k m))).rd HM (by simp)) ?_ hone (hlen := hcap); clear HM; intro s2 B2 w1 HS2 HM) | (first | ((with_reducible refine g_ld ?_); refine a_ld HM ?_) | ((with_reducible refine g_st ?_); refine a_st HM ?_; clear HM; intro w1 HM) | ((with_reducible refine g_al ?_); refine a_al HM ?_; clear HM; intro bk w1 HM) | ((with_reducible refine g_bx ?_); refine a_bx HM ?_; clear HM; intro bk w1 HM) | ((with_reducible refine g_bld ?_); refine a_bld ?_)))
        go_roundw
        case rel => exact ⟨k + 1, B2, by go_num, by omega, Lib.hid (by unfold qrows at HS2 ⊢; rw [So.ol_next]; exact HS2), HM.pick⟩
        case measure => simp [intOf]; omega
      · obtain rfl : k = U.length := by omega
        go_wp2_with (first | fail | (first | ((with_reducible refine g_ld ?_); refine a_ld HM ?_) | ((with_reducible refine g_st ?_); refine a_st HM ?_; clear HM; intro w1 HM) | ((with_reducible refine g_al ?_); refine a_al HM ?_; clear HM; intro bk w1 HM) | ((with_reducible refine g_bx ?_); refine a_bx HM ?_; clear HM; intro bk w1 HM) | ((with_reducible refine g_bld ?_); refine a_bld ?_)))
        go_ret2
        exact ⟨_, rfl, HM.low, Lib.hid (.inr ⟨rfl, m, rfl, hm, HO.out.rd HM (fun p hp => by simp [hp])⟩)⟩
end Go.Proofs.Ytadnddffdedjgaa
