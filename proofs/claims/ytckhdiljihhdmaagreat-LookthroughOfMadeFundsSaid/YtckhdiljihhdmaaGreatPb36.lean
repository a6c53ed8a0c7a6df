/- Walks, and plain facts for them. -/
import Derived.Test.YtckhdiljihhdmaaGreatPb29
import Derived.Test.YtckhdiljihhdmaaGreatPb35
import Derived.Test.YtckhdiljihhdmaaGreatPb34
namespace Go.Proofs.YtckhdiljihhdmaaGreat
set_option maxRecDepth 8000
open Go.RowKit
namespace Lk
theorem vfrom_in : ∀ {last : List UInt8} {l : List H}, vfrom last l = true → ∀ h ∈ l, inr h.q = true ∧ paper h.nm = true
 | _, [], _, h, hm => by cases hm
 | last, g :: t, hv, h, hm => by
  rw [vfrom] at hv
  simp only [Bool.and_eq_true] at hv
  rcases List.mem_cons.1 hm with rfl | hm
  ·exact ⟨hv.1.2, hv.1.1.1⟩
  ·exact vfrom_in hv.2 h hm
theorem val_in {l : List H} (hv : val l = true) : ∀ h ∈ l, 1 ≤ h.q ∧ h.q ≤ 1000000000000000 := by
 unfold val at hv
 rw [Bool.and_eq_true] at hv
 intro h hm
 exact of_decide_eq_true (vfrom_in hv.2 h hm).1
theorem val_paper {l : List H} (hv : val l = true) : ∀ h ∈ l, paper h.nm = true := by
 unfold val at hv
 rw [Bool.and_eq_true] at hv
 exact fun h hm => (vfrom_in hv.2 h hm).2
theorem fold_in (s : List UInt8) : ∀ (l : List H) (a : Int), (∀ h ∈ l, 1 ≤ h.q ∧ h.q ≤ 1000000000000000) → 0 ≤ a → a ≤ 1000000000000000 → 0 ≤ l.foldl (fun a h => if (h.nm.toList == s) = true then h.q else a) a ∧ l.foldl (fun a h => if (h.nm.toList == s) = true then h.q else a) a ≤ 1000000000000000
 | [], a, _, h0, h1 => ⟨h0, h1⟩
 | g :: l, a, hm, h0, h1 => by
  rw [List.foldl_cons]
  have hg := hm g List.mem_cons_self
  refine fold_in s l _ (fun h hh => hm h (List.mem_cons_of_mem _ hh)) ?_ ?_ <;> split <;> omega
theorem ql_in {l : List H} (hv : val l = true) (s : List UInt8) : 0 ≤ ql s l ∧ ql s l ≤ 1000000000000000 := fold_in s l 0 (val_in hv) (by omega) (by omega)
theorem qty_len (L : List (List H)) (s : List UInt8) : (qty L s).length = L.length := by simp [qty]
theorem qty_at {L : List (List H)} {i : Nat} {l : List H} (h : L[i]? = some l) (s : List UInt8) : Ns.gu (qty L s) i = ql s l := Ns.gu_at (by unfold qty; rw [List.getElem?_map, h]; rfl)
theorem qty_in {L : List (List H)} (hv : all L = true) (s : List UInt8) {i : Nat} (hi : i < L.length) : 0 ≤ Ns.gu (qty L s) i ∧ Ns.gu (qty L s) i ≤ 1000000000000000 := by
 have hl := List.getElem?_eq_getElem hi
 rw [qty_at hl]
 exact ql_in (all_at hv hl) s
theorem qty_abs {L : List (List H)} {n : Nat} (hv : all L = true) (s : List UInt8) (hn : L.length = n) : ∀ i, i < n → (Ns.gu (qty L s) i).natAbs ≤ 1000000000000000 := fun i hi => by
 have := qty_in hv s (i := i) (by omega)
 omega
noncomputable def pr (U : List Int) (Hs : List (List Int)) (A : List Int) (i : Nat) : Rat := open Classical in if h : ∃ f, Sv.Px U Hs A f then Classical.choose h i else 0
theorem pr_eq {U : List Int} {Hs : List (List Int)} {A : List Int} (hG : Ns.Good U Hs) (hc : ¬ Ns.Circ U.length (Ns.gu U) (Ns.gh Hs)) {f : Nat → Rat} (hf : Sv.Px U Hs A f) {i : Nat} (hi : i < U.length) : f i = pr U Hs A i := by
 have h : ∃ f, Sv.Px U Hs A f := ⟨f, hf⟩
 unfold pr
 rw [dif_pos h]
 exact Ns.Pr.uniq hG.ok hc hf.1 (Classical.choose_spec h).1 i hi
noncomputable def ex (U : List Int) (Hs : List (List Int)) (L : List (List H)) (i : Nat) (n : Int) (s : List UInt8) : Rat := (n : Rat) * pr U Hs (qty L s) i
noncomputable def one (U : List Int) (Hs : List (List Int)) (L : List (List H)) (i : Nat) (n : Int) (s : List UInt8) : List Xp := open Classical in if ex U Hs L i n s = 0 then [] else [⟨bs s, ex U Hs L i n s⟩]
noncomputable def exps (U : List Int) (Hs : List (List Int)) (L : List (List H)) (i : Nat) (n : Int) (N : List (List UInt8)) : List Xp := N.flatMap (one U Hs L i n)
theorem exps_step {U : List Int} {Hs : List (List Int)} {L : List (List H)} {i : Nat} {n : Int} {N : List (List UInt8)} {k : Nat} {s : List UInt8} (h : N[k]? = some s) : exps U Hs L i n (N.take (k + 1)) = exps U Hs L i n (N.take k) ++ one U Hs L i n s := by
 unfold exps; rw [List.take_add_one, h, List.flatMap_append]; simp
theorem exps_len (U : List Int) (Hs : List (List Int)) (L : List (List H)) (i : Nat) (n : Int) : ∀ N : List (List UInt8), (exps U Hs L i n N).length ≤ N.length
 | [] => by simp [exps]
 | s :: N => by
  have h := exps_len U Hs L i n N
  unfold exps at h ⊢
  rw [List.flatMap_cons, List.length_append, List.length_cons]
  have h2 : (one U Hs L i n s).length ≤ 1 := by unfold one; split <;> simp
  omega
noncomputable def lerr (U : List Int) (Hs : List (List Int)) (L : List (List H)) (i n : Int) : Int := open Classical in
 if chk U Hs L = 0 then (if i < 0 ∨ (U.length : Int) ≤ i then 340 else if n < 0 ∨ Ns.gu U i.toNat < n then 253 else if Ns.Circ U.length (Ns.gu U) (Ns.gh Hs) then 351 else 0) else chk U Hs L
noncomputable def xps (U : List Int) (Hs : List (List Int)) (L : List (List H)) (i n : Int) : List Xp := if lerr U Hs L i n = 0 then exps U Hs L i.toNat n (names L) else []
theorem xps_no {U : List Int} {Hs : List (List Int)} {L : List (List H)} {i n r : Int} (h : r = lerr U Hs L i n) (h0 : r ≠ 0) : xps U Hs L i n = [] := by unfold xps; rw [if_neg (by rw [← h]; exact h0)]
theorem lerr_chk {U : List Int} {Hs : List (List Int)} {L : List (List H)} {i n : Int} (h : chk U Hs L ≠ 0) : lerr U Hs L i n = chk U Hs L := if_neg h
theorem lerr_i {U : List Int} {Hs : List (List Int)} {L : List (List H)} {i n : Int} (h : chk U Hs L = 0) (h1 : i < 0 ∨ (U.length : Int) ≤ i) : lerr U Hs L i n = 340 := by unfold lerr; rw [if_pos h, if_pos h1]
theorem lerr_n {U : List Int} {Hs : List (List Int)} {L : List (List H)} {n : Int} {m : Nat} (h : chk U Hs L = 0) (h1 : m < U.length) (h2 : n < 0 ∨ Ns.gu U m < n) : lerr U Hs L (m : Nat) n = 253 := by unfold lerr; rw [if_pos h, if_neg (by omega), if_pos (by simpa using h2)]
theorem lerr_c {U : List Int} {Hs : List (List Int)} {L : List (List H)} {n : Int} {m : Nat} (h : chk U Hs L = 0) (h1 : m < U.length) (h2 : 0 ≤ n) (h3 : n ≤ Ns.gu U m) (hc : Ns.Circ U.length (Ns.gu U) (Ns.gh Hs)) : lerr U Hs L (m : Nat) n = 351 := by
 unfold lerr; rw [if_pos h, if_neg (by omega), if_neg (by simp; omega), if_pos hc]
theorem lerr_ok {U : List Int} {Hs : List (List Int)} {L : List (List H)} {n : Int} {m : Nat} (h : chk U Hs L = 0) (h1 : m < U.length) (h2 : 0 ≤ n) (h3 : n ≤ Ns.gu U m) (hc : ¬ Ns.Circ U.length (Ns.gu U) (Ns.gh Hs)) : lerr U Hs L (m : Nat) n = 0 := by
 unfold lerr; rw [if_pos h, if_neg (by omega), if_neg (by simp; omega), if_neg hc]
theorem xps_ok {U : List Int} {Hs : List (List Int)} {L : List (List H)} {n : Int} {m : Nat} (h : chk U Hs L = 0) (h1 : m < U.length) (h2 : 0 ≤ n) (h3 : n ≤ Ns.gu U m) (hc : ¬ Ns.Circ U.length (Ns.gu U) (Ns.gh Hs)) : xps U Hs L (m : Nat) n = exps U Hs L m n (names L) := by
 unfold xps; rw [if_pos (lerr_ok h h1 h2 h3 hc)]; simp
theorem px {U : List Int} {Hs : List (List Int)} {L : List (List H)} (hG : Ns.Good U Hs) (hc : ¬ Ns.Circ U.length (Ns.gu U) (Ns.gh Hs)) (hl : L.length = U.length) (hv : all L = true) (s : List UInt8) : ∃ f, Sv.Px U Hs (qty L s) f ∧ Sv.err U Hs (qty L s) = 0 := by
 have ha := qty_abs hv s hl
 exact ⟨(Sv.px_exists hG hc ha).choose, (Sv.px_exists hG hc ha).choose_spec, Sv.err_none (Sv.chk_of hG (by rw [qty_len, hl]) ha) hc⟩
theorem ex_fit {U : List Int} {Hs : List (List Int)} {L : List (List H)} (hG : Ns.Good U Hs) (hc : ¬ Ns.Circ U.length (Ns.gu U) (Ns.gh Hs)) (hl : L.length = U.length) (hv : all L = true) {i : Nat} {n : Int} (hi : i < U.length) (h0 : 0 ≤ n) (h1 : n ≤ Ns.gu U i) (s : List UInt8) : Rt.Fit (ex U Hs L i n s) := by
 obtain ⟨f, hf, _⟩ := px hG hc hl hv s
 unfold ex
 rw [← pr_eq hG hc hf hi]
 have h2 := hG.ok.u1 i hi
 exact Ns.cd_one (Ns.cd hG.ok hc (qty_abs hv s hl) hf.1) hi (by omega)
theorem err_zero {U : List Int} {Hs : List (List Int)} (hG : Ns.Good U Hs) : (Ns.Circ U.length (Ns.gu U) (Ns.gh Hs) → Sv.err U Hs (List.replicate U.length 0) = 351) ∧ (¬ Ns.Circ U.length (Ns.gu U) (Ns.gh Hs) → Sv.err U Hs (List.replicate U.length 0) = 0 ∧ ∃ f, Sv.Px U Hs (List.replicate U.length 0) f) := by
 have hg : ∀ i, i < U.length → (Ns.gu (List.replicate U.length 0) i).natAbs ≤ 1000000000000000 := fun i hi => by
  rw [Ns.gu_at (x := 0) (by rw [List.getElem?_replicate, if_pos hi])]; decide
 have hk := Sv.chk_of hG (A := List.replicate U.length 0) (by simp) hg
 exact ⟨fun hc => Sv.err_circ hk hc, fun hc => ⟨Sv.err_none hk hc, Sv.px_exists hG hc hg⟩⟩
theorem exps_fit {U : List Int} {Hs : List (List Int)} {L : List (List H)} (hG : Ns.Good U Hs) (hc : ¬ Ns.Circ U.length (Ns.gu U) (Ns.gh Hs)) (hl : L.length = U.length) (hv : all L = true) {i : Nat} {n : Int} (hi : i < U.length) (h0 : 0 ≤ n) (h1 : n ≤ Ns.gu U i) (N : List (List UInt8)) : ∀ x ∈ exps U Hs L i n N, Rt.Fit x.q := by
 intro x hx
 unfold exps at hx
 obtain ⟨s, _, hs⟩ := List.mem_flatMap.1 hx
 unfold one at hs
 split at hs
 ·cases hs
 ·rw [List.mem_singleton] at hs
  subst hs
  exact ex_fit hG hc hl hv hi h0 h1 s
theorem nml_len : ∀ (l : List H) (acc : List (List UInt8)), (nml acc l).length ≤ acc.length + l.length
 | [], _ => Nat.le_refl _
 | h :: l, acc => by
  have h1 := nml_len l (ins acc h.nm.toList)
  have h2 := ins_len acc h.nm.toList
  show (nml (ins acc h.nm.toList) l).length ≤ _
  rw [List.length_cons]; omega
theorem nms_len : ∀ (L : List (List H)) (acc : List (List UInt8)), (∀ l ∈ L, l.length ≤ 64) → (nms acc L).length ≤ acc.length + 64 * L.length
 | [], _, _ => Nat.le_add_right _ _
 | l :: L, acc, hl => by
  have h1 := nms_len L (nml acc l) (fun m hm => hl m (List.mem_cons_of_mem _ hm))
  have h2 := nml_len l acc
  have h3 := hl l List.mem_cons_self
  show (nms (nml acc l) L).length ≤ _
  rw [List.length_cons]; omega
theorem names_len {L : List (List H)} (hv : all L = true) (hl : L.length ≤ 8) : (names L).length ≤ 512 := by
 have h := nms_len L [] (fun l hm => by
  unfold all at hv
  rw [List.all_eq_true] at hv
  exact val_len (hv l hm))
 rw [List.length_nil] at h
 have : (names L).length = (nms [] L).length := rfl
 omega
theorem int_fit {n : Int} (h : n.natAbs ≤ 1125899906842623) : Rt.Fit (n : Rat) := by
 have h1 := Bg.p2_mono (show 50 ≤ 480 by decide)
 have h2 : Bg.p2 50 = 1125899906842624 := by unfold Bg.p2; rfl
 exact Rt.fit_le (p := n) (q := 1) (by decide) (by omega) (by show 1 < _; omega) (Rt.int_divInt n)
end Lk
end Go.Proofs.YtckhdiljihhdmaaGreat
