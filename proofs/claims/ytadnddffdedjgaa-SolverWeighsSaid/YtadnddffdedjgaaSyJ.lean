/- Rows of ints in blocks of their own; making slices where the order is drawn; nests in the making. -/
import Derived.Test.YtadnddffdedjgaaSyI
namespace Go.Proofs.Ytadnddffdedjgaa
set_option maxRecDepth 8000
open Go.RowKit
section
variable {Q : Exit → Act → World → Prop} {w w0 : World} {X : List Nat} {L : List (Nat × Array Value)} {oi : Oper} {d : Tmp} {a : Act} {R : Act → World → Prop}
theorem j_mks {t e : TypeId} {n by_ : Nat} {x y : Operand} {c : Array Value} {a2 : Nat → Act} (k : Nat) (HM : Mem w0 X L w) (h : ∀ b w', Mem w0 X ((b, rowsOf (List.replicate k c)) :: L) w' → R (a2 b) w') (hk : k ≤ 1000000) (hd : oi.dst = some d := by rfl) (ho : oi.op = .makeSlice t x y := by rfl) (hT : elemB t e n by_ = true := by with_reducible assumption) (hZ : ZA e c := by with_reducible assumption) (hb : by_ ≤ 100000 := by decide) (hx : a.eval x = .int .i64 (k : Nat) := by (conv => lhs; whnf) <;> rfl) (hy : a.eval y = .int .i64 (k : Nat) := by (conv => lhs; whnf) <;> rfl) (ha : ∀ b, ({ a with tmps := a.tmps.setIfInBounds d (.slice (some ⟨b, 0, none⟩) k k) } : Act) = a2 b := by intro b; ((try simp only [List.setIfInBounds_toArray, List.set_cons_succ, List.set_cons_zero]) <;> rfl)) : Oper.wp Try.prog oi a w R Q := by
  have hr := run_mks hT hZ k hk hb w
  unfold Oper.wp execOp
  simp only [ho, hx, hy]
  rw [Sem.run_bind, hr]
  simp only [Result.andThen_ok, Sem.run_pure, Oper.upon_value]
  rw [hd]
  have h9 := h _ _ (HM.new (rowsOf (List.replicate k c)) e)
  rw [← ha] at h9
  exact h9
theorem j_bs5 {t e : TypeId} {by_ : Nat} {x0 x1 x2 x3 x4 : Operand} {v0 v1 v2 v3 v4 : Int} {a2 : Nat → Act} (HM : Mem w0 X L w) (h : ∀ b w', Mem w0 X ((b, rowsOf ([v0, v1, v2, v3, v4].map ic)) :: L) w' → R (a2 b) w') (hd : oi.dst = some d := by rfl) (ho : oi.op = .buildSlice t 5 #[(0, x0), (1, x1), (2, x2), (3, x3), (4, x4)] := by rfl) (hT : elemB t e 1 by_ = true := by with_reducible assumption) (h0 : a.eval x0 = .int .i64 v0 := by (conv => lhs; whnf) <;> rfl) (h1 : a.eval x1 = .int .i64 v1 := by (conv => lhs; whnf) <;> rfl) (h2 : a.eval x2 = .int .i64 v2 := by (conv => lhs; whnf) <;> rfl) (h3 : a.eval x3 = .int .i64 v3 := by (conv => lhs; whnf) <;> rfl) (h4 : a.eval x4 = .int .i64 v4 := by (conv => lhs; whnf) <;> rfl) (ha : ∀ b, ({ a with tmps := a.tmps.setIfInBounds d (.slice (some ⟨b, 0, none⟩) 5 5) } : Act) = a2 b := by intro b; ((try simp only [List.setIfInBounds_toArray, List.set_cons_succ, List.set_cons_zero]) <;> rfl)) : Oper.wp Try.prog oi a w R Q := by
  obtain ⟨i, z, hE⟩ := elemT hT
  have hr := run_bs hE [.int .i64 v0, .int .i64 v1, .int .i64 v2, .int .i64 v3, .int .i64 v4] (by simp [Value.cells]) (by simp) (parts := #[(0, .int .i64 v0), (1, .int .i64 v1), (2, .int .i64 v2), (3, .int .i64 v3), (4, .int .i64 v4)]) rfl w
  unfold Oper.wp execOp
  simp [ho, h0, h1, h2, h3, h4] at hr ⊢
  simp only [hr, Result.andThen]
  rw [Oper.upon_value, hd]
  have h9 := h _ _ (HM.new (rowsOf ([v0, v1, v2, v3, v4].map ic)) e)
  rw [← ha] at h9
  exact h9
end
/-- Ints in a block of the list, as a list of defaults. -/
theorem ints_own {w : World} {b : Nat} {ds : List Int} (hb : Blk w b (rowsOf (ds.map ic))) : IntsAt w (some ⟨b, 0, none⟩) ds := by
  refine .inr ⟨b, 0, rfl, hb.lt, fun j hj => ?_⟩
  rw [Nat.zero_add, hb.cell j]
  have := rows_at (ic_sizes ds) (k := j) (j := 0) (c := ic ds[j]) (by rw [List.getElem?_map, List.getElem?_eq_getElem hj]; rfl) (by decide)
  rw [Nat.one_mul, Nat.add_zero] at this
  rw [this, List.getD_eq_getElem?_getD, List.getElem?_eq_getElem hj]; rfl
theorem perm_at {α : Type} : ∀ {l : List α} {i : Nat} {p : α}, l[i]? = some p → (p :: l.eraseIdx i).Perm l
  | [], i, p, h => by simp at h
  | x :: l, 0, p, h => by
    obtain rfl : x = p := by simpa using h
    exact .refl _
  | x :: l, i + 1, p, h => by
    have := perm_at (l := l) (i := i) (p := p) (by simpa using h)
    exact (List.Perm.swap x p _).trans (this.cons x)
theorem Mem.openRow {w0 w : World} {X : List Nat} (K : List (Nat × Array Value)) {rows R : List (Nat × Array Value)} {i : Nat} {p : Nat × Array Value} (HM : Mem w0 X (K ++ (rows ++ R)) w) (hi : rows[i]? = some p) : Mem w0 X (p :: (K ++ (rows.eraseIdx i ++ R))) w := by
  refine HM.perm ?_
  refine List.perm_middle.symm.trans (List.Perm.append_left K ?_)
  exact (perm_at hi).append_right R
theorem Mem.closeRow {w0 w : World} {X : List Nat} (K : List (Nat × Array Value)) {rows R : List (Nat × Array Value)} {i : Nat} {p : Nat × Array Value} (HM : Mem w0 X (p :: (K ++ (rows.eraseIdx i ++ R))) w) (hi : i < rows.length) : Mem w0 X (K ++ (rows.set i p ++ R)) w := by
  have := perm_at (l := rows.set i p) (i := i) (p := p) (by rw [List.getElem?_set]; simp [hi])
  rw [List.eraseIdx_set_eq] at this
  refine HM.perm ?_
  refine List.Perm.trans (List.Perm.append_left K (this.symm.append_right R)) ?_
  exact List.perm_middle
/-- Rows of ints, each in its block. -/
def NR (rb : List Nat) (H : List (List Int)) : List (Nat × Array Value) := List.zipWith (fun b l => (b, rowsOf (l.map ic))) rb H
theorem NR_at {rb : List Nat} {H : List (List Int)} {i b : Nat} {l : List Int} (h1 : rb[i]? = some b) (h2 : H[i]? = some l) : (NR rb H)[i]? = some (b, rowsOf (l.map ic)) := by
  unfold NR; rw [List.getElem?_zipWith, h1, h2]
theorem NR_len {rb : List Nat} {H : List (List Int)} (h : rb.length = H.length) : (NR rb H).length = rb.length := by unfold NR; simp [h]
theorem NR_add {rb : List Nat} {H : List (List Int)} (b : Nat) (l : List Int) (h : rb.length = H.length) : NR (rb ++ [b]) (H ++ [l]) = NR rb H ++ [(b, rowsOf (l.map ic))] := by
  unfold NR; rw [List.zipWith_append h]; rfl
theorem NR_set {rb : List Nat} {H : List (List Int)} {i b : Nat} (l : List Int) (h : rb.length = H.length) (h1 : rb[i]? = some b) : (NR rb H).set i (b, rowsOf (l.map ic)) = NR rb (H.set i l) := by
  have hi := (List.getElem?_eq_some_iff.1 h1).1
  apply List.ext_getElem?
  intro j
  rw [List.getElem?_set]
  by_cases e : i = j
  · subst e
    rw [if_pos rfl, if_pos (by rw [NR_len h]; exact hi), NR_at h1 (l := l) (by rw [List.getElem?_set]; simp; omega)]
  · rw [if_neg e]
    unfold NR
    rw [List.getElem?_zipWith, List.getElem?_zipWith, List.getElem?_set, if_neg e]
/-- The values of the rows. -/
def rv (n : Nat) (rb : List Nat) : List Value := rb.map fun b => .slice (some ⟨b, 0, none⟩) n n
theorem rdN_own {w0 w : World} {X : List Nat} {L : List (Nat × Array Value)} {n bu bh : Nat} {U : List Int} {H : List (List Int)} {rb : List Nat} (HM : Mem w0 X L w) (hu : U.length = n) (hh : H.length = n) (hr : rb.length = n) (hl : ∀ l ∈ H, l.length = n)
    (h1 : (bu, rowsOf (U.map ic)) ∈ L) (h2 : (bh, rowsOf ((rv n rb).map vc)) ∈ L) (h3 : ∀ q ∈ NR rb H, q ∈ L) : RdN w (.slice (some ⟨bu, 0, none⟩) n n) (.slice (some ⟨bh, 0, none⟩) n n) U H := by
  refine ⟨?_, rv n rb, ?_, by simp [rv, hr, hh], fun i l hil => ?_⟩
  · have := (own_ints (b := bu) (A := U)).rd HM (by simpa using h1)
    rw [hu] at this
    exact this
  · have h := (SlAt.row (n := 1) bh ((rv n rb).map vc) [] (by intro c hc; rw [List.append_nil] at hc; obtain ⟨x, _, rfl⟩ := List.mem_map.1 hc; rfl)).rd HM (by simpa using h2)
    rw [List.length_nil, Nat.add_zero, List.length_map] at h
    have e : (rv n rb).length = n := by simp [rv, hr]
    rw [e] at h
    exact h
  · have hi := (List.getElem?_eq_some_iff.1 hil).1
    have hb : rb[i]? = some rb[i] := List.getElem?_eq_getElem (by omega)
    refine ⟨_, by unfold rv; rw [List.getElem?_map, hb]; rfl, ?_⟩
    have h := (own_ints (b := rb[i]) (A := l)).rd HM (by simpa using h3 _ (List.mem_of_getElem? (NR_at hb hil)))
    rw [hl l (List.mem_of_getElem? hil)] at h
    exact h
namespace Ns
theorem gh_set {H : List (List Int)} {i j : Nat} {l : List Int} {k : Int} (hi : H[i]? = some l) (hj : j < l.length) (r c : Nat) : gh (H.set i (l.set j k)) r c = if r = i ∧ c = j then k else gh H r c := by
  have hil := (List.getElem?_eq_some_iff.1 hi).1
  unfold gh
  rw [List.getD_eq_getElem?_getD (l := H.set i (l.set j k)), List.getElem?_set]
  by_cases e : r = i
  · subst e
    rw [if_pos rfl, if_pos hil]
    have e2 : H.getD r [] = l := by rw [List.getD_eq_getElem?_getD, hi]; rfl
    rw [e2]
    show (l.set j k).getD c 0 = _
    rw [List.getD_eq_getElem?_getD, List.getElem?_set]
    by_cases e3 : c = j
    · subst e3; rw [if_pos rfl, if_pos hj, if_pos ⟨rfl, rfl⟩]; rfl
    · rw [if_neg (fun h => e3 h.symm), if_neg (fun h => e3 h.2), ← List.getD_eq_getElem?_getD]
  · rw [if_neg (fun h => e h.symm), if_neg (fun h => e h.1), ← List.getD_eq_getElem?_getD]
theorem zs_upd {n i : Nat} {f g : Nat → Int} (hi : i < n) (h : ∀ r, r < n → r ≠ i → g r = f r) : zs n g = zs n f - f i + g i := by
  induction n with
  | zero => omega
  | succ n ih =>
    rw [zs, zs]
    by_cases e : i = n
    · subst e
      rw [zs_congr (fun r hr => h r (by omega) (by omega))]; omega
    · rw [ih (by omega) (fun r hr hne => h r (by omega) hne), h n (by omega) (fun h => e h.symm)]; omega
theorem zs_zero {n : Nat} : zs n (fun _ => 0) = 0 := by
  induction n with
  | zero => rfl
  | succ n ih => rw [zs, ih]; rfl
theorem gh_zero {n r c : Nat} {H : List (List Int)} (h : ∀ l ∈ H, l = List.replicate n 0) : gh H r c = 0 := by
  unfold gh
  rw [List.getD_eq_getElem?_getD (l := H)]
  cases hr : H[r]? with
  | none => rfl
  | some l =>
    rw [h l (List.mem_of_getElem? hr)]
    show (List.replicate n (0 : Int)).getD c 0 = 0
    rw [List.getD_eq_getElem?_getD, List.getElem?_replicate]
    split <;> rfl
/-- A nest that the scene makes. -/
structure Made (free : Bool) (U : List Int) (H : List (List Int)) : Prop where
  good : Good U H
  lens : ∀ l ∈ H, l.length = U.length
  small : ∀ j, j < U.length → gu U j ≤ 1000000
  out : free = false → ∀ j, j < U.length → 0 < gu U j → zs U.length (fun i => gh H i j) < gu U j
end Ns
end Go.Proofs.Ytadnddffdedjgaa
