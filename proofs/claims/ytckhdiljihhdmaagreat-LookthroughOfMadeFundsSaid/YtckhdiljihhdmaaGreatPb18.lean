/- Walks, and plain facts for them. -/
import Derived.Test.YtckhdiljihhdmaaGreatPb14
import Derived.Test.YtckhdiljihhdmaaGreatPb17
namespace Go.Proofs.YtckhdiljihhdmaaGreat
set_option maxRecDepth 8000
open Go.RowKit
namespace Ns
@[irreducible] def mm (A : Nat → Nat → Bool) : Array Value := rowsOf ((List.range 8).map fun i => mk (A i))
theorem mm_def (A : Nat → Nat → Bool) : mm A = rowsOf ((List.range 8).map fun i => mk (A i)) := by unfold mm; rfl
theorem mm_sizes (A : Nat → Nat → Bool) : ∀ c ∈ (List.range 8).map (fun i => mk (A i)), c.size = 8 := by
 intro c hc
 obtain ⟨i, _, rfl⟩ := List.mem_map.1 hc
 exact mk_size _
theorem mm_row (A : Nat → Nat → Bool) {i : Nat} (hi : i < 8) : ((List.range 8).map fun i => mk (A i))[i]? = some (mk (A i)) := by simp [hi]
def setr (A : Nat → Nat → Bool) (i : Nat) (M : Nat → Bool) : Nat → Nat → Bool := fun r => if r = i then M else A r
theorem mm_set (A : Nat → Nat → Bool) (i : Nat) (M : Nat → Bool) : ((List.range 8).map fun r => mk (A r)).set i (mk M) = (List.range 8).map fun r => mk (setr A i M r) := by
 apply List.ext_getElem?
 intro j
 rw [List.getElem?_set]
 by_cases e : i = j
 ·subst e
  rw [if_pos rfl]
  by_cases hi : i < 8
  ·rw [if_pos (by simpa using hi), mm_row _ hi]; unfold setr; rw [if_pos rfl]
  ·rw [if_neg (by simpa using hi), List.getElem?_eq_none (by simp; omega)]
 ·rw [if_neg e]
  by_cases hj : j < 8
  ·rw [mm_row _ hj, mm_row _ hj]; unfold setr; rw [if_neg (fun h => e h.symm)]
  ·rw [List.getElem?_eq_none (by simp; omega), List.getElem?_eq_none (by simp; omega)]
def rdy (n : Nat) (h : Nat → Nat → Int) (L : Nat → Bool) (i : Nat) : Prop := L i = false ∧ ∀ j, j < n → rch n h i j = true → L j = true ∨ rch n h j i = true
open Classical in
noncomputable def nxt (n : Nat) (h : Nat → Nat → Int) (L : Nat → Bool) : Option Nat := (List.range n).find? fun i => decide (rdy n h L i)
theorem nxt_some {n : Nat} {h : Nat → Nat → Int} {L : Nat → Bool} {i : Nat} (hi : i < n) (hr : rdy n h L i) (hm : ∀ k, k < i → ¬ rdy n h L k) : nxt n h L = some i := by
 unfold nxt
 rw [List.find?_range_eq_some]
 exact ⟨by simpa using hr, by simpa using hi, fun j hj => by simpa using hm j hj⟩
theorem nxt_none {n : Nat} {h : Nat → Nat → Int} {L : Nat → Bool} (hm : ∀ k, k < n → ¬ rdy n h L k) : nxt n h L = none := by
 unfold nxt
 rw [List.find?_range_eq_none]
 exact fun j hj => by simpa using hm j hj
open Classical in
noncomputable def mark (n : Nat) (h : Nat → Nat → Int) (L : Nat → Bool) (i m : Nat) : Nat → Bool := fun j => L j || (decide (j < m) && (rch n h i j && rch n h j i))
noncomputable def stt (n : Nat) (h : Nat → Nat → Int) : Nat → List (List Nat) × (Nat → Bool)
 | 0 => ([], fun _ => false)
 | k + 1 => match nxt n h (stt n h k).2 with
  | none => stt n h k
  | some i => ((stt n h k).1 ++ [cls n h i], mark n h (stt n h k).2 i n)
theorem stt_stop {n : Nat} {h : Nat → Nat → Int} {k : Nat} (hn : nxt n h (stt n h k).2 = none) (m : Nat) : stt n h (k + m) = stt n h k := by
 induction m with
 | zero => rfl
 | succ m ih => rw [← Nat.add_assoc, stt, ih, hn]
noncomputable def pts (n : Nat) (h : Nat → Nat → Int) : List (List Nat) := (stt n h 8).1
structure Lst (n : Nat) (h : Nat → Nat → Int) (P : List (List Nat)) (L : Nat → Bool) : Prop where
 one : ∀ p ∈ P, ∃ i, i < n ∧ p = cls n h i
 all : ∀ j, j < n → L j = true → ∃ p ∈ P, j ∈ p
 len : P.length + free L ≤ 8
 st : (P, L) = stt n h P.length
theorem free_zero : free (fun _ => false) ≤ 8 := cnt_bound 8
theorem Lst.start {n : Nat} {h : Nat → Nat → Int} : Lst n h [] (fun _ => false) := ⟨by simp, by simp, by have := free_zero; simpa using this, rfl⟩
theorem Lst.done {n : Nat} {h : Nat → Nat → Int} {P : List (List Nat)} {L : Nat → Bool} (K : Lst n h P L) (hr : ∀ i, i < n → ¬ rdy n h L i) : Pts n h P ∧ P = pts n h := by
 refine ⟨⟨K.one, fun j hj => K.all j hj ?_, by have := K.len; omega⟩, ?_⟩
 case refine_2 =>
  have h1 := stt_stop (k := P.length) (by rw [← K.st]; exact nxt_none hr) (8 - P.length)
  rw [show P.length + (8 - P.length) = 8 by have := K.len; omega, ← K.st] at h1
  unfold pts; rw [h1]
 cases hL : L j with
 | true => rfl
 | false =>
  obtain ⟨i, h1, h2, h3⟩ := ready (n := n) (h := h) (fun j => L j = true) hj (by rw [hL]; simp)
  refine absurd ⟨by simpa using h2, fun k hk hr => ?_⟩ (hr i h1)
  by_cases hb : Rc n h k i
  ·exact .inr (rch_iff.2 hb)
  ·exact .inl (h3 k hk (rch_iff.1 hr) hb)
open Classical in
noncomputable def clsTo (n : Nat) (h : Nat → Nat → Int) (i m : Nat) : List Nat := (List.range m).filter fun j => decide (Mu n h i j)
theorem mu_iff {n : Nat} {h : Nat → Nat → Int} {i j : Nat} : Mu n h i j ↔ (rch n h i j = true ∧ rch n h j i = true) := by unfold Mu; rw [rch_iff, rch_iff]
theorem clsTo_yes {n : Nat} {h : Nat → Nat → Int} {i m : Nat} (a : rch n h i m = true) (b : rch n h m i = true) : clsTo n h i (m + 1) = clsTo n h i m ++ [m] := by
 have : Mu n h i m := mu_iff.2 ⟨a, b⟩
 unfold clsTo
 rw [List.range_succ, List.filter_append]
 simp [this]
theorem clsTo_no {n : Nat} {h : Nat → Nat → Int} {i m : Nat} (a : (rch n h i m && rch n h m i) = false) : clsTo n h i (m + 1) = clsTo n h i m := by
 have : ¬ Mu n h i m := fun hm => by obtain ⟨h1, h2⟩ := mu_iff.1 hm; rw [h1, h2] at a; cases a
 unfold clsTo
 rw [List.range_succ, List.filter_append]
 simp [this]
theorem clsTo_len {n : Nat} {h : Nat → Nat → Int} {i m : Nat} : (clsTo n h i m).length ≤ m := by
 unfold clsTo
 exact Nat.le_trans (List.length_filter_le _ _) (by simp)
theorem mark_yes {n : Nat} {h : Nat → Nat → Int} {L : Nat → Bool} {i m : Nat} (a : rch n h i m = true) (b : rch n h m i = true) : set (mark n h L i m) m = mark n h L i (m + 1) := by
 funext j
 unfold set mark
 by_cases e : j = m
 ·subst e; rw [if_pos rfl, a, b]; simp
 ·rw [if_neg e]
  have : decide (j < m + 1) = decide (j < m) := by simp; omega
  rw [this]
theorem mark_no {n : Nat} {h : Nat → Nat → Int} {L : Nat → Bool} {i m : Nat} (a : (rch n h i m && rch n h m i) = false) : mark n h L i (m + 1) = mark n h L i m := by
 funext j
 unfold mark
 by_cases e : j = m
 ·subst e; rw [a]; simp
 ·have : decide (j < m + 1) = decide (j < m) := by simp; omega
  rw [this]
theorem mark_zero {n : Nat} {h : Nat → Nat → Int} {L : Nat → Bool} {i : Nat} : mark n h L i 0 = L := by funext j; unfold mark; simp
theorem Lst.next {n : Nat} {h : Nat → Nat → Int} {P : List (List Nat)} {L : Nat → Bool} (K : Lst n h P L) {i : Nat} (h8 : n ≤ 8) (hi : i < n) (hrd : rdy n h L i) (hm : ∀ k, k < i → ¬ rdy n h L k) : Lst n h (P ++ [cls n h i]) (mark n h L i n) ∧ free (mark n h L i n) < free L := by
 have hr := hrd.1
 have hf : free (mark n h L i n) < free L := free_lt (i := i) (by omega) hr (by unfold mark; rw [rch_iff.2 .refl]; simp [hi]) (fun j hj => by unfold mark; rw [hj]; rfl)
 refine ⟨⟨fun p hp => ?_, fun j hj hL => ?_, ?_, ?_⟩, hf⟩
 ·rcases List.mem_append.1 hp with hp | hp
  ·exact K.one p hp
  ·exact ⟨i, hi, List.mem_singleton.1 hp⟩
 ·unfold mark at hL
  cases hLj : L j with
  | true =>
   obtain ⟨p, hp, hjp⟩ := K.all j hj hLj
   exact ⟨p, List.mem_append_left _ hp, hjp⟩
  | false =>
   rw [hLj] at hL
   simp only [Bool.false_or, Bool.and_eq_true] at hL
   exact ⟨_, List.mem_append_right _ (List.mem_singleton.2 rfl), mem_cls.2 ⟨hj, mu_iff.2 hL.2⟩⟩
 ·rw [List.length_append]
  have := K.len
  simp only [List.length_singleton]; omega
 ·rw [List.length_append, List.length_singleton, stt, ← K.st]
  simp only [nxt_some hi hrd hm]
noncomputable def freeW (b : Nat) (w : World) : Nat := free fun j => match w.cell? ⟨b, j, none⟩ with
 | some (.bool x) => x
 | _ => false
theorem cnt_congr {p q : Nat → Prop} {n : Nat} (h : ∀ i, i < n → (p i ↔ q i)) : cnt p n = cnt q n :=
 Nat.le_antisymm (cnt_le fun i hi => (h i hi).1) (cnt_le fun i hi => (h i hi).2)
theorem freeW_eq {b : Nat} {w : World} {L : Nat → Bool} (h : Blk w b (mk L)) : freeW b w = free L := by
 unfold freeW free
 refine cnt_congr fun i hi => ?_
 show ((match w.cell? ⟨b, i, none⟩ with | some (.bool x) => x | _ => false) = false) ↔ _
 rw [h.cell i, mk_at L hi]
theorem clsTo_cls {n : Nat} {h : Nat → Nat → Int} {i : Nat} : clsTo n h i n = cls n h i := rfl
end Ns
theorem la_mm (A : Nat → Nat → Bool) {i j : Nat} (hi : i < 8) (hj : j < 8) : LA 4 (Ns.mm A) (i * 8 + j) (.bool (A i j)) := by
 rw [Ns.mm_def]
 exact la_rowone (by kernel_rfl) (Ns.mm_sizes A) (Ns.mm_row A hi) hj (Ns.mk_at _ hj)
theorem sa_mm (A : Nat → Nat → Bool) (M : Nat → Bool) {i : Nat} (hi : i < 8) : SA 191 (Ns.mm A) (i * 8) (.agg (Ns.mk M)) (Ns.mm (Ns.setr A i M)) := by
 rw [Ns.mm_def, Ns.mm_def, ← Ns.mm_set]
 exact sa_row (by kernel_rfl) (Ns.mm_sizes A) (Ns.mm_row A hi) (Ns.mk_size M) (Ns.mk_one M)
theorem za_mm : ZA 192 (Ns.mm fun _ _ => false) := ⟨.agg (Ns.mm fun _ _ => false), rfl, fun w => by rw [Ns.mm_def, Ns.mk_zero]; kernel_rfl⟩
structure PtL (pv : List Value) (P : List (List Nat)) (B : List (Nat × Array Value)) : Prop where
 len : pv.length = P.length
 at_ : ∀ (i : Nat) (p : List Nat), P[i]? = some p → ∃ v Bk, pv[i]? = some v ∧ SlAt 1 v (p.map fun x : Nat => ic x) Bk ∧ ∀ q ∈ Bk, q ∈ B
theorem PtL.add {pv : List Value} {P : List (List Nat)} {B Bk : List (Nat × Array Value)} {v : Value} {p : List Nat} (h : PtL pv P B) (hv : SlAt 1 v (p.map fun x : Nat => ic x) Bk) : PtL (pv ++ [v]) (P ++ [p]) (Bk ++ B) := by
 refine ⟨by simp [h.len], fun i q hq => ?_⟩
 by_cases e : i < P.length
 ·rw [List.getElem?_append_left e] at hq
  obtain ⟨v', Bk', h1, h2, h3⟩ := h.at_ i q hq
  exact ⟨v', Bk', by rw [List.getElem?_append_left (by rw [h.len]; exact e)]; exact h1, h2, fun x hx => List.mem_append_right _ (h3 x hx)⟩
 ·have hi := (List.getElem?_eq_some_iff.1 hq).1
  simp at hi
  obtain rfl : i = P.length := by omega
  rw [List.getElem?_append_right (Nat.le_refl _), Nat.sub_self] at hq
  obtain rfl : p = q := by simpa using hq
  exact ⟨v, Bk, by rw [← h.len, List.getElem?_append_right (Nat.le_refl _), Nat.sub_self]; rfl, hv, fun x hx => List.mem_append_left _ hx⟩
def pI (P : List (List Nat)) : List (List Int) := P.map fun p => p.map fun x : Nat => (x : Int)
theorem PtL.rd {pv : List Value} {P : List (List Nat)} {B B7 L : List (Nat × Array Value)} {sv : Value} {w0 w : World} {X : List Nat} (h : PtL pv P B) (hs : SlAt 1 sv (pv.map vc) B7) (HM : Mem w0 X L w) (h7 : ∀ q ∈ B7, q ∈ L) (hB : ∀ q ∈ B, q ∈ L) : RdH w sv (pI P) := by
 refine ⟨pv, hs.rd HM h7, by rw [h.len]; simp [pI], fun i l hl => ?_⟩
 unfold pI at hl
 rw [List.getElem?_map] at hl
 cases hp : P[i]? with
 | none => rw [hp] at hl; cases hl
 | some p =>
  rw [hp] at hl
  obtain rfl : p.map (fun x : Nat => (x : Int)) = l := by simpa using hl
  obtain ⟨v, Bk, h1, h2, h3⟩ := h.at_ i p hp
  refine ⟨v, h1, ?_⟩
  unfold RdI
  rw [List.map_map]
  exact h2.rd HM fun q hq => hB q (h3 q hq)
set_option maxHeartbeats 4000000 in
theorem parts_any (us hs : Value) (U : List Int) (H : List (List Int)) (w : World) (hR : RdN w us hs U H) (hG : Ns.Good U H) :
    Calls Tryz.prog 106 #[.agg #[us, hs]] w fun e w' => ∃ s P, e = .returned s ∧ Hid (Ns.Pts U.length (Ns.gh H) P ∧ P = Ns.pts U.length (Ns.gh H)) ∧ Hid (RdH w' s (pI P)) ∧ Below w.heap.size w w' := by
 have HM := Mem.start w
 have HR := Lib.hid hR
 have HG := Lib.hid hG
 obtain ⟨Au, cu, rfl⟩ := hR.u.form
 have hn8 := hG.sh.1
 have R := fun i hi w' hB => reach_any (.slice Au U.length cu) hs U H i w' (hR.below hB) hG hi
 have HRC := Lib.hid R
 have zm := za_mm
 have zl := za_mk
 have n2 := la_nest (.slice Au U.length cu) hs
 have n0 := la_n0 (.slice Au U.length cu) hs
 clear hR hG R
 go_enter Tryz.func106, Tryz.ntmps106
 go_upto_region 3 with (first | ((with_reducible refine g_ld ?_); refine a_ld HM ?_) | ((with_reducible refine g_st ?_); refine a_st HM ?_; clear HM; intro w1 HM) | ((with_reducible refine g_al ?_); refine a_al HM ?_; clear HM; intro bk w1 HM) | ((with_reducible refine g_bx ?_); refine a_bx HM ?_; clear HM; intro bk w1 HM))
 obtain ⟨ba, rfl⟩ := HM.nm0
 obtain ⟨bg, rfl⟩ := HM.nm1
 go_wp2_with (first | ((with_reducible refine g_ld ?_); refine a_ld HM ?_) | ((with_reducible refine g_st ?_); refine a_st HM ?_; clear HM; intro w1 HM) | ((with_reducible refine g_al ?_); refine a_al HM ?_; clear HM; intro bk w1 HM) | ((with_reducible refine g_bx ?_); refine a_bx HM ?_; clear HM; intro bk w1 HM))
 go_loopw [18] (fun iv wr => ∃ (i : Nat) (A : Nat → Nat → Bool), iv = .int .i64 (i : Nat) ∧ i ≤ U.length ∧ Hid (∀ k, k < i → A k = Ns.rch U.length (Ns.gh H) k) ∧ Mem w [] [(ba, Ns.mm A), (bg, #[.slice Au U.length cu, hs])] wr) (fun iv _ => U.length - (intOf iv).toNat)
 case atStart => exact ⟨0, _, rfl, by omega, Lib.hid (fun k hk => absurd hk (by omega)), HM⟩
 case round =>
  clear HM
  obtain ⟨i, A, rfl, hi, HA, HM⟩ := hrel
  by_cases hlt : i < U.length
  ·have hlt1 : (i : Int) < U.length := by omega
   have hi8 : (i : Int) < 8 := by omega
   obtain ⟨M, hM⟩ : ∃ M, Hid (M = Ns.rch U.length (Ns.gh H) i) := ⟨_, Lib.hid rfl⟩
   have R : ∀ w', Below w.heap.size w w' → Calls Tryz.prog 143 #[.agg #[.slice Au U.length cu, hs], .int .i64 (i : Nat)] w' fun e w2 => e = .returned (.agg (Ns.mk M)) ∧ Below w'.heap.size w' w2 := fun w' hB => by rw [hM.out]; exact HRC.out i hlt w' hB
   have sA := sa_mm A M (i := i) (by omega)
   go_wp2_with (first | (go_at_call 143; ((with_reducible refine (R _ HM.low).mono ?_); rintro e9 w2 ⟨rfl, hL⟩; replace HM := HM.call hL; clear hL)) | (first | ((with_reducible refine g_ld ?_); refine a_ld HM ?_) | ((with_reducible refine g_st ?_); refine a_st HM ?_; clear HM; intro w1 HM) | ((with_reducible refine g_al ?_); refine a_al HM ?_; clear HM; intro bk w1 HM) | ((with_reducible refine g_bx ?_); refine a_bx HM ?_; clear HM; intro bk w1 HM)))
   go_roundw
   case rel => exact ⟨i + 1, _, by go_num, by omega, Lib.hid (fun k hk => by
    show Ns.setr A i M k = _
    unfold Ns.setr
    by_cases e : k = i
    ·subst e; rw [if_pos rfl, hM.out]
    ·rw [if_neg e]; exact HA.out k (by omega)), HM.pick⟩
   case measure => simp [intOf]; omega
  ·obtain rfl : i = U.length := by omega
   clear HRC
   go_upto_region 9 with (first | ((with_reducible refine g_ld ?_); refine a_ld HM ?_) | ((with_reducible refine g_st ?_); refine a_st HM ?_; clear HM; intro w1 HM) | ((with_reducible refine g_al ?_); refine a_al HM ?_; clear HM; intro bk w1 HM) | ((with_reducible refine g_bx ?_); refine a_bx HM ?_; clear HM; intro bk w1 HM))
   obtain ⟨bl, rfl⟩ := HM.nm0
   go_wp2_with (first | ((with_reducible refine g_ld ?_); refine a_ld HM ?_) | ((with_reducible refine g_st ?_); refine a_st HM ?_; clear HM; intro w1 HM) | ((with_reducible refine g_al ?_); refine a_al HM ?_; clear HM; intro bk w1 HM) | ((with_reducible refine g_bx ?_); refine a_bx HM ?_; clear HM; intro bk w1 HM))
   go_loopw [2, 7] (fun rv sv wr => ∃ (P : List (List Nat)) (L : Nat → Bool) (pv : List Value) (B7 B : List (Nat × Array Value)), rv = .slice none 0 0 ∧ Hid (Ns.Lst U.length (Ns.gh H) P L) ∧ Hid (SlAt 1 sv (pv.map vc) B7) ∧ Hid (PtL pv P B) ∧ Mem w [] ((bl, Ns.mk L) :: (ba, Ns.mm A) :: (bg, #[.slice Au U.length cu, hs]) :: (B7 ++ B)) wr) (fun _ _ wr => Ns.freeW bl wr)
   case atStart => exact ⟨[], fun _ => false, [], [], [], rfl, Lib.hid .start, Lib.hid .nil, Lib.hid ⟨rfl, by simp⟩, HM⟩
   case round =>
    clear HM
    obtain ⟨P, L, pv, B7, B, rfl, HLS, HS7, HPT, HM⟩ := hrel
    have hfw := Ns.freeW_eq (HM.get .here)
    have HFW := Lib.hid hfw
    clear hfw
    go_wp2_with (first | ((with_reducible refine g_ld ?_); refine a_ld HM ?_) | ((with_reducible refine g_st ?_); refine a_st HM ?_; clear HM; intro w1 HM) | ((with_reducible refine g_al ?_); refine a_al HM ?_; clear HM; intro bk w1 HM) | ((with_reducible refine g_bx ?_); refine a_bx HM ?_; clear HM; intro bk w1 HM))
    go_loopw [8, 9] (fun nv iv wr => ∃ (i : Nat) (x : Int), nv = .int .i64 x ∧ iv = .int .i64 (i : Nat) ∧ i ≤ U.length ∧ Hid ((x = -1 ∧ ∀ k, k < i → ¬ Ns.rdy U.length (Ns.gh H) L k) ∨ ∃ k : Nat, x = k ∧ k < U.length ∧ Ns.rdy U.length (Ns.gh H) L k ∧ ∀ m, m < k → ¬ Ns.rdy U.length (Ns.gh H) L m) ∧ Mem w [] ((bl, Ns.mk L) :: (ba, Ns.mm A) :: (bg, #[.slice Au U.length cu, hs]) :: (B7 ++ B)) wr) (fun _ iv _ => U.length - (intOf iv).toNat)
    case atStart => exact ⟨0, -1, rfl, rfl, by omega, Lib.hid (.inl ⟨rfl, fun k hk => absurd hk (by omega)⟩), HM⟩
    case round =>
     clear HM
     obtain ⟨i, x, rfl, rfl, hi, HX, HM⟩ := hrel
     by_cases hgo : i < U.length ∧ x < 0
     ·obtain ⟨hlt, hx0⟩ := hgo
      have hlt1 : (i : Int) < U.length := by omega
      have kl := la_mk L (i := i) (by omega)
      obtain ⟨l0, hl0⟩ : ∃ l, l = L i := ⟨_, rfl⟩
      rw [← hl0] at kl
      have HL0 := Lib.hid hl0
      have hdg : ¬ (x = 0) := by omega
      clear hl0 hdg
      go_wp2_with (first | ((with_reducible refine g_ld ?_); refine a_ld HM ?_) | ((with_reducible refine g_st ?_); refine a_st HM ?_; clear HM; intro w1 HM) | ((with_reducible refine g_al ?_); refine a_al HM ?_; clear HM; intro bk w1 HM) | ((with_reducible refine g_bx ?_); refine a_bx HM ?_; clear HM; intro bk w1 HM))
      go_loopw [10, 11] (fun bv jv wr => ∃ (j : Nat) (b : Bool), bv = .bool b ∧ jv = .int .i64 (j : Nat) ∧ j ≤ U.length ∧ Hid ((b = true ∧ l0 = false ∧ ∀ m, m < j → Ns.rch U.length (Ns.gh H) i m = true → L m = true ∨ Ns.rch U.length (Ns.gh H) m i = true) ∨ (b = false ∧ ¬ Ns.rdy U.length (Ns.gh H) L i)) ∧ Mem w [] ((bl, Ns.mk L) :: (ba, Ns.mm A) :: (bg, #[.slice Au U.length cu, hs]) :: (B7 ++ B)) wr) (fun _ jv _ => U.length - (intOf jv).toNat)
      case atStart => exact ⟨0, _, rfl, rfl, by omega, Lib.hid (by
       cases l0 with
       | true => exact .inr ⟨rfl, fun hr => by rw [hr.1] at HL0; exact absurd HL0.out (by decide)⟩
       | false => exact .inl ⟨rfl, rfl, fun m hm => absurd hm (by omega)⟩), HM⟩
      case round =>
       clear HM
       obtain ⟨j, b, rfl, rfl, hj, HB, HM⟩ := hrel
       by_cases hjt : j < U.length
       ·have hjt1 : (j : Int) < U.length := by omega
        cases b with
        | true =>
         have k1 := la_mm A (i := i) (j := j) (by omega) (by omega)
         have k2 := la_mk L (i := j) (by omega)
         have k3 := la_mm A (i := j) (j := i) (by omega) (by omega)
         obtain ⟨b1, e1⟩ : ∃ b, b = A i j := ⟨_, rfl⟩
         obtain ⟨b2, e2⟩ : ∃ b, b = L j := ⟨_, rfl⟩
         obtain ⟨b3, e3⟩ : ∃ b, b = A j i := ⟨_, rfl⟩
         rw [← e1] at k1
         rw [← e2] at k2
         rw [← e3] at k3
         rw [HA.out i hlt] at e1
         rw [HA.out j hjt] at e3
         have hB := (HB.out.resolve_right (by simp)).2
         have HN : Hid (((!b1 || b2 || b3) = true ∧ l0 = false ∧ ∀ m, m < j + 1 → Ns.rch U.length (Ns.gh H) i m = true → L m = true ∨ Ns.rch U.length (Ns.gh H) m i = true) ∨ ((!b1 || b2 || b3) = false ∧ ¬ Ns.rdy U.length (Ns.gh H) L i)) := Lib.hid (by
          cases hb : (!b1 || b2 || b3) with
          | true =>
           refine .inl ⟨rfl, hB.1, fun m hm hr => ?_⟩
           by_cases e : m = j
           ·subst e
            rw [← e1] at hr
            rw [hr] at hb
            rw [← e2, ← e3]
            simpa using hb
           ·exact hB.2 m (by omega) hr
          | false =>
           refine .inr ⟨rfl, fun hr => ?_⟩
           simp only [Bool.or_eq_false_iff] at hb
           have h1 : b1 = true := by simpa using hb.1.1
           have := hr.2 j hjt (by rw [← e1]; exact h1)
           rw [← e2, ← e3, hb.1.2, hb.2] at this
           simp at this)
         clear e1 e2 e3 hB
         cases b1 with
         | false =>
          go_wp2_with (first | ((with_reducible refine g_ld ?_); refine a_ld HM ?_) | ((with_reducible refine g_st ?_); refine a_st HM ?_; clear HM; intro w1 HM) | ((with_reducible refine g_al ?_); refine a_al HM ?_; clear HM; intro bk w1 HM) | ((with_reducible refine g_bx ?_); refine a_bx HM ?_; clear HM; intro bk w1 HM))
          go_roundw
          case rel => exact ⟨j + 1, true, rfl, by go_num, by omega, HN, HM.pick⟩
          case measure => simp [intOf]; omega
         | true =>
          cases b2 with
          | true =>
           go_wp2_with (first | ((with_reducible refine g_ld ?_); refine a_ld HM ?_) | ((with_reducible refine g_st ?_); refine a_st HM ?_; clear HM; intro w1 HM) | ((with_reducible refine g_al ?_); refine a_al HM ?_; clear HM; intro bk w1 HM) | ((with_reducible refine g_bx ?_); refine a_bx HM ?_; clear HM; intro bk w1 HM))
           go_roundw
           case rel => exact ⟨j + 1, true, rfl, by go_num, by omega, HN, HM.pick⟩
           case measure => simp [intOf]; omega
          | false =>
           go_wp2_with (first | ((with_reducible refine g_ld ?_); refine a_ld HM ?_) | ((with_reducible refine g_st ?_); refine a_st HM ?_; clear HM; intro w1 HM) | ((with_reducible refine g_al ?_); refine a_al HM ?_; clear HM; intro bk w1 HM) | ((with_reducible refine g_bx ?_); refine a_bx HM ?_; clear HM; intro bk w1 HM))
           go_roundw
           case rel => exact ⟨j + 1, b3, rfl, by go_num, by omega, by simpa using HN, HM.pick⟩
           case measure => simp [intOf]; omega
        | false =>
         have hnr := (HB.out.resolve_left (by simp)).2
         have HNR := Lib.hid hnr
         clear hnr
         go_wp2_with (first | ((with_reducible refine g_ld ?_); refine a_ld HM ?_) | ((with_reducible refine g_st ?_); refine a_st HM ?_; clear HM; intro w1 HM) | ((with_reducible refine g_al ?_); refine a_al HM ?_; clear HM; intro bk w1 HM) | ((with_reducible refine g_bx ?_); refine a_bx HM ?_; clear HM; intro bk w1 HM))
         go_roundw
         case rel => exact ⟨i + 1, x, rfl, by go_num, by omega, Lib.hid (by
          rcases HX.out with ⟨rfl, hx⟩ | ⟨k, rfl, _, _, _⟩
          ·refine .inl ⟨rfl, fun k hk => ?_⟩
           by_cases e : k = i
           ·subst e; exact HNR.out
           ·exact hx k (by omega)
          ·omega), HM.pick⟩
         case measure => simp [intOf]; omega
       ·obtain rfl : j = U.length := by omega
        cases b with
        | true =>
         have hB := (HB.out.resolve_right (by simp)).2
         have HY : Hid (Ns.rdy U.length (Ns.gh H) L i) := Lib.hid ⟨by rw [← HL0.out]; exact hB.1, hB.2⟩
         clear hB
         go_wp2_with (first | ((with_reducible refine g_ld ?_); refine a_ld HM ?_) | ((with_reducible refine g_st ?_); refine a_st HM ?_; clear HM; intro w1 HM) | ((with_reducible refine g_al ?_); refine a_al HM ?_; clear HM; intro bk w1 HM) | ((with_reducible refine g_bx ?_); refine a_bx HM ?_; clear HM; intro bk w1 HM))
         go_roundw
         case rel => exact ⟨i + 1, i, rfl, by go_num, by omega, Lib.hid (.inr ⟨i, rfl, hlt, HY.out, (HX.out.resolve_right (fun ⟨k, e, _⟩ => by omega)).2⟩), HM.pick⟩
         case measure => simp [intOf]; omega
        | false =>
         have hnr := (HB.out.resolve_left (by simp)).2
         have HNR := Lib.hid hnr
         clear hnr
         go_wp2_with (first | ((with_reducible refine g_ld ?_); refine a_ld HM ?_) | ((with_reducible refine g_st ?_); refine a_st HM ?_; clear HM; intro w1 HM) | ((with_reducible refine g_al ?_); refine a_al HM ?_; clear HM; intro bk w1 HM) | ((with_reducible refine g_bx ?_); refine a_bx HM ?_; clear HM; intro bk w1 HM))
         go_roundw
         case rel => exact ⟨i + 1, x, rfl, by go_num, by omega, Lib.hid (by
          rcases HX.out with ⟨rfl, hx⟩ | ⟨k, rfl, _, _, _⟩
          ·refine .inl ⟨rfl, fun k hk => ?_⟩
           by_cases e : k = i
           ·subst e; exact HNR.out
           ·exact hx k (by omega)
          ·omega), HM.pick⟩
         case measure => simp [intOf]; omega
     ·by_cases hx0 : x < 0
      ·obtain rfl : i = U.length := by omega
       have hnr : ∀ k, k < U.length → ¬ Ns.rdy U.length (Ns.gh H) L k := by
        rcases HX.out with ⟨_, h⟩ | ⟨k, rfl, _, _, _⟩
        ·exact h
        ·omega
       have HP := Lib.hid (HLS.out.done hnr)
       clear hnr
       go_wp2_with (first | ((with_reducible refine g_ld ?_); refine a_ld HM ?_) | ((with_reducible refine g_st ?_); refine a_st HM ?_; clear HM; intro w1 HM) | ((with_reducible refine g_al ?_); refine a_al HM ?_; clear HM; intro bk w1 HM) | ((with_reducible refine g_bx ?_); refine a_bx HM ?_; clear HM; intro bk w1 HM))
       go_ret
       exact ⟨_, P, rfl, HP, Lib.hid (HPT.out.rd HS7.out HM (fun p hp => by simp [hp]) (fun p hp => by simp [hp])), HM.low⟩
      ·obtain ⟨k, rfl⟩ : ∃ k : Nat, x = k := ⟨x.toNat, by omega⟩
       have hk2 : k < U.length ∧ Ns.rdy U.length (Ns.gh H) L k ∧ ∀ m, m < k → ¬ Ns.rdy U.length (Ns.gh H) L m := by
        rcases HX.out with ⟨h, _⟩ | ⟨k', e, h1, h2, h3⟩
        ·omega
        ·obtain rfl : k = k' := by omega
         exact ⟨h1, h2, h3⟩
       obtain ⟨hkn, hrd⟩ := hk2
       have HRD := Lib.hid hrd
       have hkn1 : (k : Int) < U.length := by omega
       have hk0 : ¬ (k : Int) < 0 := by omega
       clear hrd HX hx0
       have eli : elemB 22 3 1 8 = true := by kernel_rfl
       have elh : elemB 23 22 1 24 = true := by kernel_rfl
       have hx1 : ((i : Int) < U.length) ∨ ¬ ((i : Int) < U.length) := Classical.em _
       clear hgo
       rcases hx1 with hx1 | hx1
       all_goals
        go_upto_region 25 with (first | ((with_reducible refine g_ld ?_); refine a_ld HM ?_) | ((with_reducible refine g_st ?_); refine a_st HM ?_; clear HM; intro w1 HM) | ((with_reducible refine g_al ?_); refine a_al HM ?_; clear HM; intro bk w1 HM) | ((with_reducible refine g_bx ?_); refine a_bx HM ?_; clear HM; intro bk w1 HM))
        clear hx1
        go_loopw [12, 72] (fun sv jv wr => ∃ (j : Nat) (Bk : List (Nat × Array Value)), jv = .int .i64 (j : Nat) ∧ j ≤ U.length ∧ Hid (SlAt 1 sv ((Ns.clsTo U.length (Ns.gh H) k j).map fun x : Nat => ic x) Bk) ∧ Mem w [] ((bl, Ns.mk (Ns.mark U.length (Ns.gh H) L k j)) :: (ba, Ns.mm A) :: (bg, #[.slice Au U.length cu, hs]) :: (Bk ++ (B7 ++ B))) wr) (fun _ jv _ => U.length - (intOf jv).toNat)
        case atStart => exact ⟨0, [], rfl, by omega, Lib.hid .nil, by rw [Ns.mark_zero]; exact HM⟩
        case round =>
         clear HM
         obtain ⟨j, Bk, rfl, hj, HK, HM⟩ := hrel
         by_cases hjt : j < U.length
         ·have hjt1 : (j : Int) < U.length := by omega
          have k1 := la_mm A (i := k) (j := j) (by omega) (by omega)
          have k3 := la_mm A (i := j) (j := k) (by omega) (by omega)
          obtain ⟨b1, e1⟩ : ∃ b, b = A k j := ⟨_, rfl⟩
          obtain ⟨b3, e3⟩ : ∃ b, b = A j k := ⟨_, rfl⟩
          rw [← e1] at k1
          rw [← e3] at k3
          rw [HA.out k hkn] at e1
          rw [HA.out j hjt] at e3
          by_cases hb : (b1 && b3) = false
          ·have hc := Ns.clsTo_no (n := U.length) (h := Ns.gh H) (i := k) (m := j) (by rw [← e1, ← e3]; exact hb)
           have hm := Ns.mark_no (n := U.length) (h := Ns.gh H) (L := L) (i := k) (m := j) (by rw [← e1, ← e3]; exact hb)
           have HCM := Lib.hid (And.intro hc hm)
           clear e1 e3 hc hm
           cases b1 with
           | false =>
            go_wp2_with (first | ((with_reducible refine g_ld ?_); refine a_ld HM ?_) | ((with_reducible refine g_st ?_); refine a_st HM ?_; clear HM; intro w1 HM) | ((with_reducible refine g_al ?_); refine a_al HM ?_; clear HM; intro bk w1 HM) | ((with_reducible refine g_bx ?_); refine a_bx HM ?_; clear HM; intro bk w1 HM))
            go_roundw
            case rel => exact ⟨j + 1, Bk, by go_num, by omega, by rw [HCM.out.1]; exact HK, by rw [HCM.out.2]; exact HM⟩
            case measure => simp [intOf]; omega
           | true =>
            obtain rfl : b3 = false := by simpa using hb
            go_wp2_with (first | ((with_reducible refine g_ld ?_); refine a_ld HM ?_) | ((with_reducible refine g_st ?_); refine a_st HM ?_; clear HM; intro w1 HM) | ((with_reducible refine g_al ?_); refine a_al HM ?_; clear HM; intro bk w1 HM) | ((with_reducible refine g_bx ?_); refine a_bx HM ?_; clear HM; intro bk w1 HM))
            go_roundw
            case rel => exact ⟨j + 1, Bk, by go_num, by omega, by rw [HCM.out.1]; exact HK, by rw [HCM.out.2]; exact HM⟩
            case measure => simp [intOf]; omega
          ·obtain ⟨rfl, rfl⟩ : b1 = true ∧ b3 = true := by cases b1 <;> cases b3 <;> simp at hb ⊢
           have hc := Ns.clsTo_yes e1.symm e3.symm
           have hm := Ns.mark_yes (L := L) e1.symm e3.symm
           have HCM := Lib.hid (And.intro hc hm)
           have sM := sa_mk (Ns.mark U.length (Ns.gh H) L k j) (i := j) (by omega)
           rw [hm] at sM
           have hcl := Ns.clsTo_len (n := U.length) (h := Ns.gh H) (i := k) (m := j)
           have hcap : (((Ns.clsTo U.length (Ns.gh H) k j).map fun x : Nat => ic x).length + [#[Value.int .i64 (j : Int)]].length) * (8 + 1) ≤ 140737488355328 := by rw [List.length_map]; simp; omega
           clear e1 e3 hc hm hb hcl
           go_wp2_with (first | first
            | ((with_reducible refine g_bs1 ?_); refine a_bs1 (c0 := #[.int .i64 (j : Int)]) HM ?_; clear HM; intro bx w1 HM)
            | ((with_reducible refine g_app ?_); refine a_app (m := [#[.int .i64 (j : Int)]]) (F := fun X => (bl, Ns.mk (Ns.mark U.length (Ns.gh H) L k j)) :: (ba, Ns.mm A) :: (bg, #[.slice Au U.length cu, hs]) :: (X ++ (B7 ++ B))) HM HK.out ((SlAt.made1 bx rfl).rd HM (by simp)) ?_ (by simp [Value.oneCell']) (hlen := hcap); clear HM; intro s2 B2 w1 HS2 HM) | (first | ((with_reducible refine g_ld ?_); refine a_ld HM ?_) | ((with_reducible refine g_st ?_); refine a_st HM ?_; clear HM; intro w1 HM) | ((with_reducible refine g_al ?_); refine a_al HM ?_; clear HM; intro bk w1 HM) | ((with_reducible refine g_bx ?_); refine a_bx HM ?_; clear HM; intro bk w1 HM)))
           go_roundw
           case rel => exact ⟨j + 1, B2, by go_num, by omega, Lib.hid (by rw [HCM.out.1, List.map_append]; exact HS2), HM.pick⟩
           case measure => simp [intOf]; omega
         ·obtain rfl : j = U.length := by omega
          obtain ⟨A12, c12, rfl, h12⟩ := HK.out.val
          have HN := Lib.hid (HLS.out.next hn8 hkn HRD.out.1 HRD.out.2)
          have hpl : pv.length ≤ 8 := by have := HPT.out.len; have := HLS.out.len; omega
          have hcap : ((pv.map vc).length + [vc (Value.slice A12 0 c12)].length) * (24 + 1) ≤ 140737488355328 := by rw [List.length_map]; simp; omega
          clear hpl HRD h12
          generalize hgl : (List.map (fun x : Nat => ic x) (Ns.clsTo U.length (Ns.gh H) k U.length)).length = n12 at HK ⊢
          clear hgl
          replace HM : Mem w [] ((bl, Ns.mk (Ns.mark U.length (Ns.gh H) L k U.length)) :: (ba, Ns.mm A) :: (bg, #[.slice Au U.length cu, hs]) :: (B7 ++ (Bk ++ B))) _ := HM.perm ((((List.perm_append_comm_assoc _ _ _).cons _).cons _).cons _)
          go_wp2_with (first | first
              | ((with_reducible refine g_bs1 ?_); refine a_bs1 (c0 := #[.slice A12 n12 c12]) HM ?_; clear HM; intro bx w1 HM)
              | ((with_reducible refine g_app ?_); refine a_app (m := [#[.slice A12 n12 c12]]) (F := fun X => (bl, Ns.mk (Ns.mark U.length (Ns.gh H) L k U.length)) :: (ba, Ns.mm A) :: (bg, #[.slice Au U.length cu, hs]) :: (X ++ (Bk ++ B))) HM HS7.out ((SlAt.made1 bx rfl).rd HM (by simp)) ?_ (by simp [Value.oneCell']) (hlen := hcap); clear HM; intro s2 B2 w1 HS2 HM) | (first | ((with_reducible refine g_ld ?_); refine a_ld HM ?_) | ((with_reducible refine g_st ?_); refine a_st HM ?_; clear HM; intro w1 HM) | ((with_reducible refine g_al ?_); refine a_al HM ?_; clear HM; intro bk w1 HM) | ((with_reducible refine g_bx ?_); refine a_bx HM ?_; clear HM; intro bk w1 HM)))
          go_roundw
          case rel => exact ⟨P ++ [Ns.cls U.length (Ns.gh H) k], Ns.mark U.length (Ns.gh H) L k U.length, pv ++ [.slice A12 n12 c12], B2, Bk ++ B, rfl, Lib.hid HN.out.1, Lib.hid (by rw [List.map_append]; exact HS2), Lib.hid (HPT.out.add HK.out), HM.pick⟩
          case measure =>
           have := Ns.freeW_eq (HM.get .here)
           have h2 := HN.out.2
           have h3 := HFW.out
           show Ns.freeW bl _ < Ns.freeW bl _
           omega
end Go.Proofs.YtckhdiljihhdmaaGreat
namespace Go.Proofs.YtckhdiljihhdmaaGreat
set_option maxRecDepth 8000
open Go.RowKit
theorem below_seq {w w2 w3 : World} (h : Below w.heap.size w w2) (k : Below w2.heap.size w2 w3) : Below w.heap.size w w3 :=
 ⟨k.os.trans h.os, k.tape.trans h.tape, k.output.trans h.output, Nat.le_trans h.size k.size, fun b hb => (k.block b (Nat.lt_of_lt_of_le hb h.size)).trans (h.block b hb)⟩
namespace Ns
def gr (U : List Int) (H : List (List Int)) (p : List Nat) : Bool := p.any fun m => decide (ls p (fun k => gh H k m) < gu U m)
theorem ls_take {l : List Nat} {f : Nat → Int} {k x : Nat} (h : l[k]? = some x) : ls (l.take (k + 1)) f = ls (l.take k) f + f x := by
 unfold ls
 rw [List.take_add_one, h]
 simp
theorem Pts.mem {n : Nat} {h : Nat → Nat → Int} {P : List (List Nat)} (K : Pts n h P) {p : List Nat} (hp : p ∈ P) : (∀ m ∈ p, m < n) ∧ p.length ≤ n := by
 obtain ⟨i, hi, rfl⟩ := K.one p hp
 exact ⟨fun m hm => (mem_cls.1 hm).1, clsTo_len⟩
theorem gr_whole {U : List Int} {H : List (List Int)} {i : Nat} : gr U H (cls U.length (gh H) i) = false ↔ whole U.length (gu U) (gh H) (cls U.length (gh H) i) := by
 rw [whole_ls]
 unfold gr
 rw [List.any_eq_false]
 constructor
 ·intro a m hm; have := a m hm; simp at this; omega
 ·intro a m hm; have := a m hm; simp; omega
end Ns
theorem pI_at {P : List (List Nat)} {i : Nat} {p : List Nat} (h : P[i]? = some p) : (pI P)[i]? = some (p.map fun x : Nat => (x : Int)) := by
 unfold pI; rw [List.getElem?_map, h]; rfl
theorem pI_len (P : List (List Nat)) : (pI P).length = P.length := by unfold pI; simp
def bc (b : Bool) : Array Value := #[.bool b]
set_option maxHeartbeats 4000000 in
theorem nparts_any (us hs : Value) (U : List Int) (H : List (List Int)) (w : World) (hR : RdN w us hs U H) (hG : Ns.Good U H) :
    Calls Tryz.prog 76 #[.agg #[us, hs]] w fun e w' => ∃ s P, e = .returned (.tuple #[s, .int .i64 0]) ∧ Hid (Ns.Pts U.length (Ns.gh H) P ∧ P = Ns.pts U.length (Ns.gh H)) ∧ Hid (RdH w' s (pI P)) ∧ Below w.heap.size w w' := by
 have HM := Mem.start w
 have C := fun w' hB => ncheck_any us hs U H w' (hR.below hB) 0 (Lib.hid hG.good.symm)
 have K := fun w' hB => parts_any us hs U H w' (hR.below hB) hG
 have n2 := la_nest us hs
 clear hR hG
 go_enter Tryz.func76, Tryz.ntmps76
 go_wp2_with (first | first
  | (go_at_call 36; ((with_reducible refine (C _ HM.low).mono ?_); rintro e9 w2 ⟨rfl, hL⟩; replace HM := HM.call hL; clear hL))
  | (go_at_call 106; (with_reducible refine (K _ HM.low).mono ?_); rintro e9 w2 ⟨s, P, rfl, HP, HS, hL⟩; replace HM := HM.call hL; clear hL) | (first | ((with_reducible refine g_ld ?_); refine a_ld HM ?_) | ((with_reducible refine g_bx ?_); refine a_bx HM ?_; clear HM; intro bk w1 HM)))
 go_ret2
 exact ⟨s, P, rfl, HP, HS, HM.low⟩
set_option maxHeartbeats 4000000 in
theorem ngrounded_any (us hs : Value) (U : List Int) (H : List (List Int)) (w : World) (hR : RdN w us hs U H) (hG : Ns.Good U H) :
    Calls Tryz.prog 75 #[.agg #[us, hs]] w fun e w' => ∃ s, e = .returned (.tuple #[s, .int .i64 0]) ∧ Hid (RdS 1 w' s (((Ns.pts U.length (Ns.gh H)).map (Ns.gr U H)).map bc)) ∧ Below w.heap.size w w' := by
 have HM := Mem.start w
 have HG := Lib.hid hG
 have HR := Lib.hid hR
 have hn8 := hG.sh.1
 obtain ⟨Au, cu, rfl⟩ := hR.u.form
 obtain ⟨Ah, ch, rfl⟩ := hR.h.form
 have C := fun w' hB => ncheck_any _ _ U H w' (hR.below hB) 0 (Lib.hid hG.good.symm)
 have K := fun w' hB => parts_any _ _ U H w' (hR.below hB) hG
 have n0 := la_n0 (.slice Au U.length cu) (.slice Ah H.length ch)
 have n1 := la_n1 (.slice Au U.length cu) (.slice Ah H.length ch)
 have n2 := la_nest (.slice Au U.length cu) (.slice Ah H.length ch)
 clear hR hG
 go_enter Tryz.func75, Tryz.ntmps75
 go_upto_region 5 with (first | (go_at_call 36; ((with_reducible refine (C _ HM.low).mono ?_); rintro e9 w2 ⟨rfl, hL⟩; replace HM := HM.call hL; clear hL)) | (first | ((with_reducible refine g_ld ?_); refine a_ld HM ?_) | ((with_reducible refine g_bx ?_); refine a_bx HM ?_; clear HM; intro bk w1 HM)))
 obtain ⟨bg, rfl⟩ := HM.nm0
 go_wp2_with (first | ((with_reducible refine g_ld ?_); refine a_ld HM ?_) | ((with_reducible refine g_bx ?_); refine a_bx HM ?_; clear HM; intro bk w1 HM))
 refine (K _ HM.low).mono ?_
 rintro e9 w2 ⟨s, P, rfl, HP, HS, hL⟩
 obtain ⟨A, cp, rfl⟩ := HS.out.form
 rw [pI_len] at HS
 rw [pI_len]
 replace HM := HM.call hL
 clear hL C K
 have HB0 := Lib.hid HM.low
 have HN2 := Lib.hid (HR.out.below HM.low)
 have HBG : Hid (Rbk w2 bg #[.slice Au U.length cu, .slice Ah H.length ch]) := Lib.hid (HM.get .here).rbk
 clear HR HM
 have HM := Mem.start w2
 have HPE : Hid (P = Ns.pts U.length (Ns.gh H)) := Lib.hid HP.out.2
 have HPT : Hid (Ns.Pts U.length (Ns.gh H) P) := Lib.hid HP.out.1
 have hPl := HP.out.1.len
 clear HP
 have eli : elemB 116 4 1 1 = true := by kernel_rfl
 go_wp2_with (first | ((with_reducible refine g_ld ?_); refine a_ld HM ?_) | ((with_reducible refine g_bx ?_); refine a_bx HM ?_; clear HM; intro bk w1 HM))
 go_loopw [5, 22] (fun sv iv wr => ∃ (i : Nat) (B : List (Nat × Array Value)), iv = .int .i64 (i : Nat) ∧ i ≤ P.length ∧ Hid (SlAt 1 sv (((P.take i).map (Ns.gr U H)).map bc) B) ∧ Mem w2 [] B wr) (fun _ iv _ => P.length - (intOf iv).toNat)
 case atStart => exact ⟨0, [], rfl, by omega, Lib.hid .nil, HM⟩
 case round =>
  clear HM
  obtain ⟨i, B, rfl, hi, HO, HM⟩ := hrel
  by_cases hlt : i < P.length
  ·have hlt1 : (i : Int) < P.length := by omega
   obtain ⟨p, hp⟩ : ∃ p, P[i]? = some p := ⟨_, List.getElem?_eq_getElem hlt⟩
   obtain ⟨hpm, hpl⟩ := HPT.out.mem (List.mem_of_getElem? hp)
   obtain ⟨b, off, cs, A2, c2, rfl, HB, k1, HL⟩ := HS.out.at_ (pI_at hp)
   rw [List.length_map] at k1 HL
   have HPM := Lib.hid hpm
   have HPA := Lib.hid hp
   clear hp hpm
   go_wp2_with (first | ((with_reducible refine g_ld ?_); refine a_ld HM ?_) | ((with_reducible refine g_bx ?_); refine a_bx HM ?_; clear HM; intro bk w1 HM))
   go_loopw [8, 28] (fun bv jv wr => ∃ (j : Nat) (g : Bool), bv = .bool g ∧ jv = .int .i64 (j : Nat) ∧ j ≤ p.length ∧ Hid (g = (p.take j).any fun m => decide (Ns.ls p (fun k => Ns.gh H k m) < Ns.gu U m)) ∧ Mem w2 [] B wr) (fun _ jv _ => p.length - (intOf jv).toNat)
   case atStart => exact ⟨0, false, rfl, rfl, by omega, Lib.hid rfl, HM⟩
   case round =>
    clear HM
    obtain ⟨j, g, rfl, rfl, hj, HGV, HM⟩ := hrel
    by_cases hjt : j < p.length
    ·have hjt1 : (j : Int) < p.length := by omega
     obtain ⟨m, hm⟩ : ∃ m, p[j]? = some m := ⟨_, List.getElem?_eq_getElem hjt⟩
     have hmn := HPM.out m (List.mem_of_getElem? hm)
     have hmn1 : (m : Int) < U.length := by omega
     obtain ⟨b3, off3, cs3, rfl, HB3, K3⟩ := HL.out.all (by rw [List.length_map]; omega)
     have k3 := K3.out j m (by rw [List.getElem?_map, hm]; rfl)
     obtain ⟨u, hu⟩ : ∃ u, U[m]? = some u := ⟨_, List.getElem?_eq_getElem hmn⟩
     obtain ⟨b5, off5, cs5, rfl, HB5, k5⟩ := HN2.out.u.at_ hu
     have HU := Lib.hid (Ns.gu_at hu)
     have HMA := Lib.hid hm
     clear hm hu
     go_wp2_with (first | ((with_reducible refine g_ld ?_); refine a_ld HM ?_) | ((with_reducible refine g_bx ?_); refine a_bx HM ?_; clear HM; intro bk w1 HM))
     go_loopw [11, 34] (fun av kv wr => ∃ (k : Nat) (S : Int), av = .int .i64 S ∧ kv = .int .i64 (k : Nat) ∧ k ≤ p.length ∧ Hid (S = Ns.ls (p.take k) fun x => Ns.gh H x m) ∧ 0 ≤ S ∧ S ≤ k * 1000000000000000 ∧ Mem w2 [] B wr) (fun _ kv _ => p.length - (intOf kv).toNat)
     case atStart => exact ⟨0, 0, rfl, rfl, by omega, Lib.hid rfl, by omega, by omega, HM⟩
     case round =>
      clear HM
      obtain ⟨k, S, rfl, rfl, hk, HSV, hS0, hS1, HM⟩ := hrel
      by_cases hkt : k < p.length
      ·have hkt1 : (k : Int) < p.length := by omega
       obtain ⟨x, hx⟩ : ∃ x, p[k]? = some x := ⟨_, List.getElem?_eq_getElem hkt⟩
       have hxn := HPM.out x (List.mem_of_getElem? hx)
       have hxn1 : (x : Int) < H.length := by have := HG.out.sh.2; omega
       have k4 := K3.out k x (by rw [List.getElem?_map, hx]; rfl)
       obtain ⟨l, hl, hll⟩ := HG.out.at_ hxn
       obtain ⟨y, hy⟩ : ∃ y, l[m]? = some y := ⟨_, List.getElem?_eq_getElem (by omega)⟩
       obtain ⟨b6, off6, cs6, A6, c6, rfl, HB6, k6, HL6⟩ := HN2.out.h.at_ hl
       obtain ⟨b7, off7, cs7, rfl, HB7, k7⟩ := HL6.out.at_ hy
       have ey := Ns.gh_at hl hy
       have hy0 := HG.out.ok.h0 x m hxn hmn
       have hy1 := HG.out.ok.h1 x m hxn hmn
       rw [ey] at hy0 hy1
       have hml : (m : Int) < l.length := by omega
       have HS2 : Hid (S + y = Ns.ls (p.take (k + 1)) fun x => Ns.gh H x m) := Lib.hid (by rw [Ns.ls_take hx, ← HSV.out, ey])
       clear hx hl hll hy ey
       go_wp2_with (first | ((with_reducible refine g_ld ?_); refine a_ld HM ?_) | ((with_reducible refine g_bx ?_); refine a_bx HM ?_; clear HM; intro bk w1 HM))
       go_roundw
       case rel => exact ⟨k + 1, S + y, by go_num, by go_num, by omega, HS2, by omega, by omega, HM.pick⟩
       case measure => simp [intOf]; omega
      ·obtain rfl : k = p.length := by omega
       have HS2 : Hid (S = Ns.ls p fun x => Ns.gh H x m) := by rw [List.take_length] at HSV; exact HSV
       have HGN : Hid ((g || decide (S < u)) = (p.take (j + 1)).any fun m => decide (Ns.ls p (fun k => Ns.gh H k m) < Ns.gu U m)) := Lib.hid (by
        rw [List.take_add_one, HMA.out, List.any_append, ← HGV.out, HS2.out, ← HU.out]
        simp)
       cases g with
       | true =>
        go_wp2_with (first | ((with_reducible refine g_ld ?_); refine a_ld HM ?_) | ((with_reducible refine g_bx ?_); refine a_bx HM ?_; clear HM; intro bk w1 HM))
        go_roundw
        case rel => exact ⟨j + 1, true, rfl, by go_num, by omega, by simpa using HGN, HM.pick⟩
        case measure => simp [intOf]; omega
       | false =>
        go_wp2_with (first | ((with_reducible refine g_ld ?_); refine a_ld HM ?_) | ((with_reducible refine g_bx ?_); refine a_bx HM ?_; clear HM; intro bk w1 HM))
        go_roundw
        case rel => exact ⟨j + 1, decide (S < u), rfl, by go_num, by omega, by simpa using HGN, HM.pick⟩
        case measure => simp [intOf]; omega
    ·obtain rfl : j = p.length := by omega
     have HG2 : Hid (g = Ns.gr U H p) := by rw [List.take_length] at HGV; exact HGV
     have hcap : ((((P.take i).map (Ns.gr U H)).map bc).length + [bc g].length) * (1 + 1) ≤ 140737488355328 := by simp; omega
     go_wp2_with (first | first
      | ((with_reducible refine g_bs1 ?_); refine a_bs1 (c0 := #[.bool g]) HM ?_; clear HM; intro bx w1 HM)
      | ((with_reducible refine g_app ?_); refine a_app (m := [#[.bool g]]) (F := fun X => X) HM HO.out ((SlAt.made1 bx rfl).rd HM (by simp)) ?_ (by simp [Value.oneCell']) (hlen := hcap); clear HM; intro s2 B2 w1 HS2 HM) | (first | ((with_reducible refine g_ld ?_); refine a_ld HM ?_) | ((with_reducible refine g_bx ?_); refine a_bx HM ?_; clear HM; intro bk w1 HM)))
     go_roundw
     case rel => exact ⟨i + 1, B2, by go_num, by omega, Lib.hid (by
      rw [List.take_add_one, HPA.out, List.map_append, List.map_append]
      show SlAt 1 s2 (_ ++ [bc (Ns.gr U H p)]) B2
      rw [← HG2.out]; exact HS2), HM.pick⟩
     case measure => simp [intOf]; omega
  ·obtain rfl : i = P.length := by omega
   go_wp2_with (first | ((with_reducible refine g_ld ?_); refine a_ld HM ?_) | ((with_reducible refine g_bx ?_); refine a_bx HM ?_; clear HM; intro bk w1 HM))
   go_ret2
   refine ⟨_, rfl, Lib.hid ?_, below_seq HB0.out HM.low⟩
   rw [List.take_length] at HO
   rw [← HPE.out]
   exact HO.out.rd HM fun _ h => h
end Go.Proofs.YtckhdiljihhdmaaGreat
