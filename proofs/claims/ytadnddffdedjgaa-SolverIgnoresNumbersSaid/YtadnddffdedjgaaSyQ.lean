/- Turned and scaled nests. -/
import Derived.Test.YtadnddffdedjgaaSyP
namespace Go.Proofs.Ytadnddffdedjgaa
set_option maxRecDepth 8000
open Go.RowKit
namespace Ns
open Mx
/-- Place i, turned. -/
def rt (n t i : Nat) : Nat := if i + t < n then i + t else i + t - n
theorem rt_mod {n t i : Nat} (ht : t < n) (hi : i < n) : (i + t) % n = rt n t i := by
  unfold rt
  split
  · exact Nat.mod_eq_of_lt ‹_›
  · rw [Nat.mod_eq_sub_mod (by omega)]; exact Nat.mod_eq_of_lt (by omega)
theorem rt_lt {n t i : Nat} (ht : t < n) (hi : i < n) : rt n t i < n := by unfold rt; split <;> omega
theorem rt_inj {n t i j : Nat} (_ht : t < n) (hi : i < n) (hj : j < n) (h : rt n t i = rt n t j) : i = j := by unfold rt at h; split at h <;> split at h <;> omega
theorem rt_sur {n t m : Nat} (ht : t < n) (hm : m < n) : ∃ i, i < n ∧ rt n t i = m := by
  by_cases h : m < t
  · exact ⟨m + n - t, by omega, by unfold rt; split <;> omega⟩
  · exact ⟨m - t, by omega, by unfold rt; split <;> omega⟩
theorem sm_split {a b : Nat} {F : Nat → Rat} : sm (a + b) F = sm a F + sm b fun j => F (a + j) := by
  induction b with
  | zero => show sm a F = sm a F + 0; grind
  | succ b ih => show sm (a + b) F + F (a + b) = sm a F + (sm b (fun j => F (a + j)) + F (a + b)); rw [ih]; grind
theorem zs_split {a b : Nat} {F : Nat → Int} : zs (a + b) F = zs a F + zs b fun j => F (a + j) := by
  induction b with
  | zero => show zs a F = zs a F + 0; omega
  | succ b ih => show zs (a + b) F + F (a + b) = zs a F + (zs b (fun j => F (a + j)) + F (a + b)); rw [ih]; omega
theorem sm_rt {n t : Nat} {F : Nat → Rat} (ht : t < n) : sm n (fun j => F (rt n t j)) = sm n F := by
  have e1 : sm n (fun j => F (rt n t j)) = sm (n - t + t) (fun j => F (rt n t j)) := by rw [Nat.sub_add_cancel (Nat.le_of_lt ht)]
  have e2 : sm n F = sm (t + (n - t)) F := by rw [Nat.add_sub_cancel' (Nat.le_of_lt ht)]
  rw [e1, e2, sm_split, sm_split, Rat.add_comm]
  congr 1
  · exact sm_congr fun j hj => by congr 1; unfold rt; split <;> omega
  · exact sm_congr fun j hj => by congr 1; unfold rt; split <;> omega
theorem zs_rt {n t : Nat} {F : Nat → Int} (ht : t < n) : zs n (fun j => F (rt n t j)) = zs n F := by
  have e1 : zs n (fun j => F (rt n t j)) = zs (n - t + t) (fun j => F (rt n t j)) := by rw [Nat.sub_add_cancel (Nat.le_of_lt ht)]
  have e2 : zs n F = zs (t + (n - t)) F := by rw [Nat.add_sub_cancel' (Nat.le_of_lt ht)]
  rw [e1, e2, zs_split, zs_split, Int.add_comm]
  congr 1
  · exact zs_congr fun j hj => by congr 1; unfold rt; split <;> omega
  · exact zs_congr fun j hj => by congr 1; unfold rt; split <;> omega
theorem zs_scale {n : Nat} {F : Nat → Int} {b : Int} : zs n (fun j => F j * b) = zs n F * b := by
  induction n with
  | zero => rw [zs, zs, Int.zero_mul]
  | succ n ih => rw [zs, zs, ih, Int.add_mul]
/-- A nest turned by t and scaled by b. -/
structure Tn (n t : Nat) (b : Int) (u u' : Nat → Int) (h h' : Nat → Nat → Int) : Prop where
  hu : ∀ i, i < n → u' (rt n t i) = u i * b
  hh : ∀ i j, i < n → j < n → h' (rt n t i) (rt n t j) = h i j * b
section
variable {n t : Nat} {b : Int} {u u' : Nat → Int} {h h' : Nat → Nat → Int}
theorem Tn.col (T : Tn n t b u u' h h') (ht : t < n) {j : Nat} (hj : j < n) : zs n (fun i => h' i (rt n t j)) = zs n (fun i => h i j) * b := by
  rw [← zs_scale, ← zs_rt ht]
  exact zs_congr fun i hi => T.hh i j hi hj
theorem Tn.ok (T : Tn n t b u u' h h') (ht : t < n) (H : Ok n u h) (hs : ∀ j, j < n → u j ≤ 1000000) (b0 : 1 ≤ b) (b1 : b ≤ 1000) : Ok n u' h' := by
  have ub : ∀ j, j < n → 0 ≤ u j * b ∧ u j * b ≤ 1000000000 := fun j hj => by
    have h0 := H.u0 j hj
    have h1 := hs j hj
    refine ⟨Int.mul_nonneg h0 (by omega), ?_⟩
    exact Int.le_trans (Int.mul_le_mul h1 b1 (by omega) (by decide)) (by decide)
  have hb : ∀ i j, i < n → j < n → 0 ≤ h i j * b ∧ h i j * b ≤ 1000000000 := fun i j hi hj => by
    have h0 := H.h0 i j hi hj
    have h1 := H.le hi hj
    have h2 := hs j hj
    refine ⟨Int.mul_nonneg h0 (by omega), ?_⟩
    exact Int.le_trans (Int.mul_le_mul (show h i j ≤ 1000000 by omega) b1 (by omega) (by decide)) (by decide)
  refine ⟨H.n8, fun i hi => ?_, fun i hi => ?_, fun i j hi hj => ?_, fun i j hi hj => ?_, fun j hj => ?_⟩
  · obtain ⟨k, hk, rfl⟩ := rt_sur ht hi
    rw [T.hu k hk]; exact (ub k hk).1
  · obtain ⟨k, hk, rfl⟩ := rt_sur ht hi
    rw [T.hu k hk]; have := (ub k hk).2; omega
  · obtain ⟨k, hk, rfl⟩ := rt_sur ht hi
    obtain ⟨m, hm, rfl⟩ := rt_sur ht hj
    rw [T.hh k m hk hm]; exact (hb k m hk hm).1
  · obtain ⟨k, hk, rfl⟩ := rt_sur ht hi
    obtain ⟨m, hm, rfl⟩ := rt_sur ht hj
    rw [T.hh k m hk hm]; have := (hb k m hk hm).2; omega
  · obtain ⟨m, hm, rfl⟩ := rt_sur ht hj
    rw [T.col ht hm, T.hu m hm]
    exact Int.mul_le_mul_of_nonneg_right (H.held m hm) (by omega)
theorem Tn.not_circ (T : Tn n t b u u' h h') (ht : t < n) (H' : Ok n u' h') (b0 : 1 ≤ b) (ho : ∀ j, j < n → 0 < u j → zs n (fun i => h i j) < u j) : ¬ Circ n u' h' := by
  refine Ns.not_circ H'.h0 fun j hj hu => ?_
  obtain ⟨m, hm, rfl⟩ := rt_sur ht hj
  rw [T.hu m hm] at hu ⊢
  rw [T.col ht hm]
  have h0 : 0 < u m := by
    by_cases e : 0 < u m
    · exact e
    · have : u m * b ≤ 0 := Int.mul_nonpos_of_nonpos_of_nonneg (by omega) (by omega)
      omega
  exact Int.mul_lt_mul_of_pos_right (ho m hm h0) (by omega)
/-- Its prices are the old ones over b, turned. -/
theorem Tn.price (T : Tn n t b u u' h h') (ht : t < n) (H : Ok n u h) (hc : ¬ Circ n u h) (b0 : 1 ≤ b) {a a' : Nat → Int} (ha : ∀ i, i < n → a' (rt n t i) = a i) {f g : Nat → Rat} (hf : Pr n u h a f) (hg : Pr n u' h' a' g) : ∀ i, i < n → g (rt n t i) * (b : Rat) = f i := by
  refine Pr.uniq H hc (x := fun i => g (rt n t i) * (b : Rat)) (fun i hi => ?_) hf
  by_cases hu : u i = 0
  · have h1 : u' (rt n t i) = 0 := by rw [T.hu i hi, hu, Int.zero_mul]
    have h2 := pr_none hg (rt_lt ht hi) h1
    rw [row_none (x := fun i => g (rt n t i) * (b : Rat)) hi hu]
    show g (rt n t i) * (b : Rat) = _
    rw [h2]
    unfold rhs; rw [if_pos hu]
    have e0 : ((0 : Int) : Rat) = 0 := rfl
    rw [e0]; grind
  · have hu' : ¬ u' (rt n t i) = 0 := by
      rw [T.hu i hi]; intro e
      rcases Int.mul_eq_zero.1 e with e | e <;> omega
    have h1 := hg (rt n t i) (rt_lt ht hi)
    have e1 : rhs u' a' (rt n t i) = rhs u a i := by unfold rhs; rw [if_neg hu, if_neg hu', ha i hi]
    have e3 := sm_rt (F := fun k => (mat u' h' (rt n t i) k : Rat) * g k) ht
    rw [← e1, ← h1, ← e3]
    refine sm_congr fun j hj => ?_
    have e2 : mat u' h' (rt n t i) (rt n t j) = mat u h i j * b := by
      unfold mat
      rw [if_neg hu, if_neg hu']
      by_cases e : i = j
      · subst e; rw [if_pos rfl, if_pos rfl, T.hu i hi, T.hh i i hi hi, Int.sub_mul]
      · rw [if_neg e, if_neg (fun h => e (rt_inj ht hi hj h)), T.hh i j hi hj, Int.neg_mul]
    rw [e2, Rat.intCast_mul]; grind
end
/-- Rows in their turned order. -/
def tl (n t : Nat) (Hc : List (List Int)) : List (List Int) := (List.range n).map fun m => Hc.getD (rt n (n - t) m) []
theorem rt_back {n t k : Nat} (ht : t < n) (hk : k < n) : rt n (n - t) (rt n t k) = k := by unfold rt; split <;> split <;> omega
theorem tl_len {n t : Nat} {Hc : List (List Int)} : (tl n t Hc).length = n := by simp [tl]
theorem tl_at {n t k : Nat} {Hc : List (List Int)} (ht : t < n) (hk : k < n) : (tl n t Hc)[rt n t k]? = some (Hc.getD k []) := by
  unfold tl
  rw [List.getElem?_map, List.getElem?_range (rt_lt ht hk)]
  show some (Hc.getD (rt n (n - t) (rt n t k)) []) = _
  rw [rt_back ht hk]
theorem tl_gh {n t k m : Nat} {Hc : List (List Int)} (ht : t < n) (hk : k < n) : gh (tl n t Hc) (rt n t k) m = gu (Hc.getD k []) m := by
  unfold gh gu
  rw [List.getD_eq_getElem?_getD (l := tl n t Hc), tl_at ht hk]
  rfl
theorem tn_err {n t : Nat} {b : Int} {U U' A' : List Int} {H Hc : List (List Int)} (M : Made false U H) (hn : U.length = n) (ht : t < n) (b0 : 1 ≤ b) (b1 : b ≤ 1000) (hl : U'.length = n) (hrow : ∀ k, k < n → (Hc.getD k []).length = n)
    (T : Tn n t b (gu U) (gu U') (gh H) (gh (tl n t Hc))) (hA : A'.length = n) (ha : ∀ a ∈ A', -1000000000000000 ≤ a ∧ a ≤ 1000000000000000) : Sv.err U' (tl n t Hc) A' = 0 := by
  subst hn
  have hok := T.ok ht M.good.ok M.small b0 b1
  have hG : Good U' (tl U.length t Hc) := by
    refine ⟨⟨by rw [hl]; exact M.good.sh.1, by rw [tl_len, hl]⟩, fun i hi => ?_, by rw [hl]; exact hok⟩
    rw [hl] at hi
    obtain ⟨k, hk, rfl⟩ := rt_sur ht hi
    rw [List.getD_eq_getElem?_getD, tl_at ht hk, hl]
    exact hrow k hk
  unfold Sv.err
  rw [if_pos (Sv.chk_ok hG.good (by rw [hA, hl]) ha), if_neg (by rw [hl]; exact T.not_circ ht hok b0 (M.out rfl))]
end Ns
theorem rdN_turn {w0 w : World} {X : List Nat} {L : List (Nat × Array Value)} {n t bu bh : Nat} {U : List Int} {Hc : List (List Int)} {rb : List Nat} {vs : List Value} (HM : Mem w0 X L w) (ht : t < n) (hu : U.length = n) (hh : Hc.length = n) (hr : rb.length = n) (hv : vs.length = n) (hl : ∀ l ∈ Hc, l.length = n)
    (hvs : ∀ k b, rb[k]? = some b → vs[Ns.rt n t k]? = some (.slice (some ⟨b, 0, none⟩) n n))
    (h1 : (bu, rowsOf (U.map ic)) ∈ L) (h2 : (bh, rowsOf (vs.map vc)) ∈ L) (h3 : ∀ q ∈ NR rb Hc, q ∈ L) : RdN w (.slice (some ⟨bu, 0, none⟩) n n) (.slice (some ⟨bh, 0, none⟩) n n) U (Ns.tl n t Hc) := by
  refine ⟨?_, vs, ?_, by rw [Ns.tl_len, hv], fun i l hil => ?_⟩
  · have := (own_ints (b := bu) (A := U)).rd HM (by simpa using h1)
    rw [hu] at this
    exact this
  · have h := (SlAt.row (n := 1) bh (vs.map vc) [] (by intro c hc; rw [List.append_nil] at hc; obtain ⟨x, _, rfl⟩ := List.mem_map.1 hc; rfl)).rd HM (by simpa using h2)
    rw [List.length_nil, Nat.add_zero, List.length_map, hv] at h
    exact h
  · have hi := (List.getElem?_eq_some_iff.1 hil).1
    rw [Ns.tl_len] at hi
    obtain ⟨k, hk, rfl⟩ := Ns.rt_sur ht hi
    rw [Ns.tl_at ht hk] at hil
    injection hil with e
    have hk2 : Hc[k]? = some Hc[k] := List.getElem?_eq_getElem (by omega)
    have e2 : Hc.getD k [] = Hc[k] := by rw [List.getD_eq_getElem?_getD, hk2]; rfl
    rw [e2] at e
    subst e
    have hb : rb[k]? = some rb[k] := List.getElem?_eq_getElem (by omega)
    refine ⟨_, hvs k _ hb, ?_⟩
    have h := (own_ints (b := rb[k]) (A := Hc[k])).rd HM (by simpa using h3 _ (List.mem_of_getElem? (NR_at hb hk2)))
    rw [hl _ (List.mem_of_getElem? hk2)] at h
    exact h
end Go.Proofs.Ytadnddffdedjgaa
