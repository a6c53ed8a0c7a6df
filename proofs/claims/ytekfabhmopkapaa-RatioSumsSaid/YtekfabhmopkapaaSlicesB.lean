/- Building slices, appending to them, reading them: arms for walks. -/
import Derived.Test.YtekfabhmopkapaaSlices
namespace Go.Proofs.Ytekfabhmopkapaa
set_option maxRecDepth 8000
open Go.RowKit
/-- What is asked of a slice type t of elements e: n cells, so many bytes. -/
noncomputable def elemB (t e : TypeId) (n by_ : Nat) : Bool := match Try.prog.underlying t, Try.prog.info? e with
  | some (.slice e'), some i => (match i.zero with
    | some z => e' == e && i.size == n && z.cells.size == n && i.bytes == by_ && decide (0 < n)
    | none => false)
  | _, _ => false
structure ElemT (t e : TypeId) (n by_ : Nat) (i : TypeInfo) (z : Value) : Prop where
  ht : Try.prog.underlying t = some (.slice e)
  hi : Try.prog.info? e = some i
  hz : i.zero = some z
  hn : i.size = n
  hb : i.bytes = by_
  hzn : z.cells.size = n
  pos : 0 < n
theorem elemT {t e : TypeId} {n by_ : Nat} (h : elemB t e n by_ = true) : ∃ i z, ElemT t e n by_ i z := by
  unfold elemB at h
  cases hu : Try.prog.underlying t with
  | none => rw [hu] at h; simp at h
  | some d =>
    cases hi : Try.prog.info? e with
    | none => rw [hu, hi] at h; cases d <;> simp at h
    | some i =>
      rw [hu, hi] at h
      cases d <;> simp only [Bool.false_eq_true] at h
      case slice e' =>
        cases hz : i.zero with
        | none => rw [hz] at h; simp at h
        | some z =>
          rw [hz] at h
          simp only [Bool.and_eq_true, beq_iff_eq, decide_eq_true_eq] at h
          obtain ⟨⟨⟨⟨rfl, h2⟩, h3⟩, h4⟩, h5⟩ := h
          exact ⟨i, z, hu, hi, hz, h2, h4, h3, h5⟩
theorem fold_setAll : ∀ (l : List Value) (k o : Nat) (c : Array Value), (l.zipIdx k).foldl (fun cs (p : Value × Nat) => cs.setIfInBounds (o + p.2) p.1) c = setAll c (o + k) l := by
  intro l
  induction l with
  | nil => intro k o c; rfl
  | cons x l ih =>
    intro k o c
    rw [List.zipIdx_cons, List.foldl_cons, ih, setAll, Nat.add_assoc]
theorem fold_setAll' (v : Array Value) (o : Nat) (c : Array Value) : v.zipIdx.foldl (fun cs (p : Value × Nat) => cs.setIfInBounds (o + p.2) p.1) c = setAll c o v.toList := by
  have h := fold_setAll v.toList 0 o c
  rw [Nat.add_zero] at h
  rw [← h, ← Array.foldl_toList, Array.toList_zipIdx]
theorem fill_rows {n : Nat} {z : Array Value} (hz : z.size = n) : ∀ (vs : List Value) (k : Nat) (done : List (Array Value)), done.length = k → (∀ c ∈ done, c.size = n) → (∀ v ∈ vs, v.cells.size = n) →
    Instr.fill (fun i => some (i * n, n)) (rowsOf (done ++ List.replicate vs.length z)) ((vs.zipIdx k).map fun p => (p.2, p.1)) = some (rowsOf (done ++ vs.map Value.cells)) := by
  intro vs
  induction vs with
  | nil => intro k done _ _ _; simp [Instr.fill]
  | cons v vs ih =>
    intro k done hk hd hv
    have hvs := hv v List.mem_cons_self
    have hall : ∀ c ∈ done ++ List.replicate (v :: vs).length z, c.size = n := by
      intro c hc
      rcases List.mem_append.1 hc with h | h
      · exact hd c h
      · rw [List.eq_of_mem_replicate h]; exact hz
    have hat : (done ++ List.replicate (v :: vs).length z)[k]? = some z := by
      rw [List.getElem?_append_right (by omega), hk, Nat.sub_self, List.length_cons, List.replicate_succ]; rfl
    have hlt := rows_lt hall hat
    rw [List.zipIdx_cons, List.map_cons, Instr.fill]
    simp only [hvs, ne_eq, not_true_eq_false, Bool.or_eq_true, decide_eq_true_eq, false_or]
    rw [if_neg (by simp; rw [Nat.mul_comm k n]; omega), fold_setAll', Nat.mul_comm k n, rows_set hall hat hvs]
    have e : (done ++ List.replicate (v :: vs).length z).set k v.cells = (done ++ [v.cells]) ++ List.replicate vs.length z := by
      rw [List.set_append_right _ _ (by omega), hk, Nat.sub_self, List.length_cons, List.replicate_succ]; simp
    rw [e, ih (k + 1) (done ++ [v.cells]) (by simp [hk]) (by
      intro c hc
      rcases List.mem_append.1 hc with h | h
      · exact hd c h
      · rw [List.mem_singleton.1 h]; exact hvs) (fun u hu => hv u (List.mem_cons_of_mem _ hu))]
    simp
theorem run_bs {t e : TypeId} {n by_ : Nat} {i : TypeInfo} {z : Value} (hT : ElemT t e n by_ i z) (vs : List Value) (hv : ∀ v ∈ vs, v.cells.size = n) (hs : vs.length * n ≤ 16777216) {parts : Array (Nat × Value)} (hp : parts.toList = vs.zipIdx.map fun p => (p.2, p.1)) (w : World) :
    (Instr.buildSlice t vs.length parts).run Try.prog w = .ok (.slice (some ⟨w.heap.size, 0, none⟩) vs.length vs.length) (w.alloc (.cells (rowsOf (vs.map Value.cells)) e)) := by
  have hpos := hT.pos
  have hsz : sizeOf e = sizeOf e := rfl
  have hh : ¬ (2 ^ 24 < vs.length * n) := by omega
  by_cases h0 : vs = []
  · subst h0
    have hp' : parts.toList = [] := by rw [hp]; rfl
    simp [Instr.buildSlice, run_underlying hT.ht, sizeOf, typeInfo, hT.hi, hp', Instr.fill, newRow, rowsOf]
    congr 2
    exact Array.eq_empty_of_size_eq_zero (by simp)
  · have hl : vs.length ≠ 0 := fun h => h0 (List.eq_nil_of_length_eq_zero h)
    have hm : ¬ (vs.length * n = 0) := Nat.mul_ne_zero hl (by omega)
    have hzc : (Array.range (vs.length * n)).map (fun j => z.cells[j % z.cells.size]!) = rowsOf (List.replicate vs.length z.cells) := by
      rw [← zeroCells_rows]; unfold Builtin.zeroCells; rw [hT.hzn]
    have hf := fill_rows hT.hzn vs 0 [] rfl (by simp) hv
    rw [List.nil_append, List.nil_append] at hf
    simp [Instr.buildSlice, run_underlying hT.ht, sizeOf, typeInfo, hT.hi, hT.hn, hh, hm, zeroValue, hT.hz, hzc, hp, hf, newRow]
/-- What a slice value reads as, in a world. -/
def RdS (n : Nat) (w : World) (sv : Value) (m : List (Array Value)) : Prop :=
  (∀ c ∈ m, c.size = n) ∧ ∃ A cap, sv = .slice A m.length cap ∧ m.length ≤ cap ∧ (m = [] ∨ ∃ b off cs, A = some ⟨b, off, none⟩ ∧ Blk w b cs ∧ ∀ j, j < m.length * n → cs[off + j]? = (rowsOf m)[j]?)
theorem RdS.sizes {n : Nat} {w : World} {sv : Value} {m : List (Array Value)} (h : RdS n w sv m) : ∀ c ∈ m, c.size = n := h.1
theorem SlAt.rd {n : Nat} {s : Value} {l : List (Array Value)} {B L : List (Nat × Array Value)} {w0 w : World} {X : List Nat} (h : SlAt n s l B) (HM : Mem w0 X L w) (hp : ∀ p ∈ B, p ∈ L) : RdS n w s l := by
  cases h with
  | nil => exact ⟨by simp, none, 0, rfl, Nat.le_refl _, .inl rfl⟩
  | row b l sp h =>
    refine ⟨fun c hc => h c (List.mem_append_left _ hc), _, _, rfl, Nat.le_add_right _ _, .inr ⟨b, 0, _, rfl, HM.blk (b, rowsOf (l ++ sp)) (hp _ (by simp)), fun j hj => ?_⟩⟩
    rw [Nat.zero_add, rows_append, Array.getElem?_append, if_pos]
    rw [rows_size (fun c hc => h c (List.mem_append_left _ hc)), Nat.mul_comm]; exact hj
theorem RdS.kept {n : Nat} {w w' : World} {sv : Value} {m : List (Array Value)} (h : RdS n w sv m) (hk : ∀ b c, Blk w b c → Blk w' b c) : RdS n w' sv m := by
  obtain ⟨h1, A, cap, h2, h3, h4⟩ := h
  refine ⟨h1, A, cap, h2, h3, h4.imp id ?_⟩
  rintro ⟨b, off, cs, e, hb, hc⟩
  exact ⟨b, off, cs, e, hk _ _ hb, hc⟩
theorem RdS.below {n : Nat} {w w' : World} {sv : Value} {m : List (Array Value)} (h : RdS n w sv m) (hb : Below w.heap.size w w') : RdS n w' sv m := h.kept fun _ _ h => h.below hb h.lt
theorem RdS.src {n : Nat} {w : World} {sv : Value} {m : List (Array Value)} (h : RdS n w sv m) {tx e' : TypeId} (hk : Try.prog.underlying tx = some (.slice e')) (h1 : ∀ c ∈ m, c.all (·.oneCell') = true) : Src Try.prog n tx sv m.length (rowsOf m).toList w := by
  obtain ⟨hs, A, cap, rfl, hc, h4⟩ := h
  have hl : (rowsOf m).toList.length = m.length * n := by rw [Array.length_toList, rows_size hs, Nat.mul_comm]
  have ho : ∀ u ∈ (rowsOf m).toList, u.oneCell' = true := by
    have := rows_cells_one h1
    rw [← Array.all_toList] at this
    exact List.all_eq_true.1 this
  have hcell : ∀ (w' : World), (∀ b c, Blk w b c → Blk w' b c) → (Builtin.firstCells n m.length (.slice A m.length cap)).run Try.prog w' = .ok (rowsOf m).toList.toArray w' := by
    intro w' hk
    cases A with
    | none =>
      have h0 : m = [] := by
        rcases h4 with h | ⟨_, _, _, e, _⟩
        · exact h
        · cases e
      subst h0
      rw [run_firstCells_none]; simp [rowsOf]
    | some a =>
      refine run_firstCells_some w' n m.length a m.length cap _ hl (fun j v hv => ?_)
      have hj := (List.getElem?_eq_some_iff.1 hv).1
      rcases h4 with h | ⟨b, off, cs, e, hb, hc⟩
      · subst h; simp [rowsOf] at hj
      · cases e
        rw [Addr.add_lit, (hk _ _ hb).cell, hc j (by omega), ← Array.getElem?_toList]
        exact hv
  exact ⟨.inl ⟨e', hk⟩, fun _ => rfl, hcell w fun _ _ h => h, hcell w.drew fun _ _ h => h, hl, ho⟩
/-- An element of a slice, loaded. -/
theorem RdS.get {n : Nat} {w : World} {sv : Value} {m : List (Array Value)} (h : RdS n w sv m) {k : Nat} {c : Array Value} (hk : m[k]? = some c) : ∃ b off cs cap, sv = .slice (some ⟨b, off, none⟩) m.length cap ∧ Blk w b cs ∧ ∀ j, j < n → cs[off + k * n + j]? = c[j]? := by
  obtain ⟨hs, A, cap, rfl, hc, h4⟩ := h
  have hkl := (List.getElem?_eq_some_iff.1 hk).1
  rcases h4 with h | ⟨b, off, cs, rfl, hb, hc⟩
  · subst h; simp at hk
  · refine ⟨b, off, cs, cap, rfl, hb, fun j hj => ?_⟩
    have h1 := Nat.mul_le_mul_right n (show k + 1 ≤ m.length by omega)
    rw [Nat.add_mul] at h1
    rw [Nat.add_assoc, hc _ (by omega), Nat.mul_comm k n]
    exact rows_at hs hk hj
theorem la_in {T : TypeId} {n p : Nat} {cs c : Array Value} (hT : aggT T = some true) (hs : sizT T = some n) (hc : c.size = n) (h : ∀ j, j < n → cs[p + j]? = c[j]?) (h0 : 0 < n) : LA T cs p (.agg c) := by
  have hl : p + n ≤ cs.size := by
    have h1 := h (n - 1) (by omega)
    rw [Array.getElem?_eq_getElem (show n - 1 < c.size by omega)] at h1
    have := (Array.getElem?_eq_some_iff.1 h1).1
    omega
  refine LA.mid hT hs hl ?_
  apply Array.ext_getElem?
  intro j
  rw [Array.getElem?_extract]
  by_cases hj : j < n
  · rw [if_pos (by omega)]; exact h j hj
  · rw [if_neg (by omega), Array.getElem?_eq_none (by omega)]
section
variable {ops : Array Oper} {rest : List Oper} {a : Act} {w w0 : World} {X : List Nat} {L : List (Nat × Array Value)} {Q : Exit → Act → World → Prop} {d : Option Tmp} {ty t tx e : TypeId} {n by_ : Nat} {ps : String} {af : Array Edge} {g : Option (Nat × Bool)} {x y : Operand}
theorem g_app (h : OpG ops Q rest a w { dst := d, op := .call { callee := .builtin .append, args := #[x, y], argTypes := #[t, tx] }, type := ty, pos := ps, after := af, guard := g }) : wpList Try.prog ops Q ({ dst := d, op := .call { callee := .builtin .append, args := #[x, y], argTypes := #[t, tx] }, type := ty, pos := ps, after := af, guard := g } :: rest) a w := h
theorem a_app {a2 : Value → Act} {F : List (Nat × Array Value) → List (Nat × Array Value)} {K B : List (Nat × Array Value)} {s sv : Value} {l m : List (Array Value)} (HM : Mem w0 X L w) (HS : SlAt n s l B) (hR : RdS n w sv m) (h : ∀ s' B' w', SlAt n s' (l ++ m) B' → Mem w0 X (F B') w' → wpList Try.prog ops Q rest (a2 s') w') (h1 : ∀ c ∈ m, c.all (·.oneCell') = true) (hT : elemB t e n by_ = true := by with_reducible assumption) (hTx : elemB tx e n by_ = true := by with_reducible assumption) (hw : WantT ops { dst := d, op := .call { callee := .builtin .append, args := #[x, y], argTypes := #[t, tx] }, type := ty, pos := ps, after := af, guard := g } a := by first | exact Or.inl rfl | exact Or.inr ⟨_, _, _, rfl, rfl, rfl⟩) (hx : a.eval x = s := by (conv => lhs; whnf) <;> rfl) (hy : a.eval y = sv := by (conv => lhs; whnf) <;> rfl) (hF : Hole F K := by repeat (first | exact Hole.id | exact Hole.front | apply Hole.cons | apply Hole.app)) (hp : Pk (F B) L := by (repeat (first | exact Pk.nil | exact Pk.refl _ | exact Pk.pre _ _ | exact Pk.post _ _ | (apply Pk.cons; focus (repeat (first | exact Rm.here | apply Rm.there))) | apply Pk.skip))) (ha : ∀ s', a.put d s' = a2 s' := by intro s'; ((try simp only [Act.put, List.setIfInBounds_toArray, List.set_cons_succ, List.set_cons_zero]) <;> rfl)) (hlen : (l.length + m.length) * (by_ + 1) ≤ 140737488355328 := by (try simp only [List.length_cons, List.length_nil, List.length_append, List.length_map]); omega) : OpG ops Q rest a w { dst := d, op := .call { callee := .builtin .append, args := #[x, y], argTypes := #[t, tx] }, type := ty, pos := ps, after := af, guard := g } := by
  obtain ⟨i, z, hE⟩ := elemT hT
  obtain ⟨i', z', hE'⟩ := elemT hTx
  refine wpList_step fun K9 hK => ?_
  rw [if_pos hw.wanted]
  obtain ⟨s', B', w', hr, hS', hM'⟩ := run_app (ty := ty) HM HS hF hp hE.ht hE.hi hE.hz hE.hn hE.hb hE.hzn hE.pos (hR.src hE'.ht h1) hR.1 hlen
  unfold Oper.wp
  simp [execOp, resolve, invoke, builtin, hx, hy, hr, Result.andThen]
  exact hK _ _ (ha s' ▸ h s' B' w' hS' hM')
theorem g_bs0 (h : OpG ops Q rest a w { dst := d, op := .buildSlice t 0 #[], type := ty, pos := ps, after := af, guard := g }) : wpList Try.prog ops Q ({ dst := d, op := .buildSlice t 0 #[], type := ty, pos := ps, after := af, guard := g } :: rest) a w := h
theorem a_bs0 {a2 : Nat → Act} (HM : Mem w0 X L w) (h : ∀ b w', Mem w0 X ((b, rowsOf []) :: L) w' → wpList Try.prog ops Q rest (a2 b) w') (hT : elemB t e n by_ = true := by with_reducible assumption) (hw : WantT ops { dst := d, op := .buildSlice t 0 #[], type := ty, pos := ps, after := af, guard := g } a := by first | exact Or.inl rfl | exact Or.inr ⟨_, _, _, rfl, rfl, rfl⟩)  (hn : 0 * n ≤ 16777216 := by decide) (ha : ∀ b, a.put d (.slice (some ⟨b, 0, none⟩) 0 0) = a2 b := by intro b; ((try simp only [Act.put, List.setIfInBounds_toArray, List.set_cons_succ, List.set_cons_zero]) <;> rfl)) : OpG ops Q rest a w { dst := d, op := .buildSlice t 0 #[], type := ty, pos := ps, after := af, guard := g } := by
  obtain ⟨i, z, hE⟩ := elemT hT
  refine wpList_step fun K9 hK => ?_
  rw [if_pos hw.wanted]
  have hr := run_bs hE [] (by simp) hn (parts := #[]) rfl w
  unfold Oper.wp
  simp [execOp, List.map_nil] at hr ⊢
  simp [hr, Result.andThen]
  refine hK _ _ (ha _ ▸ h _ _ ?_)
  exact HM.new _ e
theorem g_bs1 {x0 : Operand} (h : OpG ops Q rest a w { dst := d, op := .buildSlice t 1 #[(0, x0)], type := ty, pos := ps, after := af, guard := g }) : wpList Try.prog ops Q ({ dst := d, op := .buildSlice t 1 #[(0, x0)], type := ty, pos := ps, after := af, guard := g } :: rest) a w := h
theorem a_bs1 {x0 : Operand} {v0 : Value} {c0 : Array Value} {a2 : Nat → Act} (HM : Mem w0 X L w) (h : ∀ b w', Mem w0 X ((b, rowsOf [c0]) :: L) w' → wpList Try.prog ops Q rest (a2 b) w') (hT : elemB t e n by_ = true := by with_reducible assumption) (hw : WantT ops { dst := d, op := .buildSlice t 1 #[(0, x0)], type := ty, pos := ps, after := af, guard := g } a := by first | exact Or.inl rfl | exact Or.inr ⟨_, _, _, rfl, rfl, rfl⟩) (h0 : a.eval x0 = v0 := by (conv => lhs; whnf) <;> rfl) (k0 : v0.cells = c0 := by (conv => lhs; whnf) <;> rfl) (z0 : c0.size = n := by (first | exact qA_size _ | exact rZ_size _ _ | exact ratA_size _ _ _ _ | exact zA_size _ | exact Bg.intA_size _ _ | assumption | rfl)) (hn : 1 * n ≤ 16777216 := by decide) (ha : ∀ b, a.put d (.slice (some ⟨b, 0, none⟩) 1 1) = a2 b := by intro b; ((try simp only [Act.put, List.setIfInBounds_toArray, List.set_cons_succ, List.set_cons_zero]) <;> rfl)) : OpG ops Q rest a w { dst := d, op := .buildSlice t 1 #[(0, x0)], type := ty, pos := ps, after := af, guard := g } := by
  obtain ⟨i, z, hE⟩ := elemT hT
  refine wpList_step fun K9 hK => ?_
  rw [if_pos hw.wanted]
  have hr := run_bs hE [v0] (by simp [k0, z0]) hn (parts := #[(0, v0)]) rfl w
  unfold Oper.wp
  simp [execOp, List.map_cons, List.map_nil, h0, k0] at hr ⊢
  simp [hr, Result.andThen]
  refine hK _ _ (ha _ ▸ h _ _ ?_)
  exact HM.new _ e
theorem g_bs2 {x0 x1 : Operand} (h : OpG ops Q rest a w { dst := d, op := .buildSlice t 2 #[(0, x0), (1, x1)], type := ty, pos := ps, after := af, guard := g }) : wpList Try.prog ops Q ({ dst := d, op := .buildSlice t 2 #[(0, x0), (1, x1)], type := ty, pos := ps, after := af, guard := g } :: rest) a w := h
theorem a_bs2 {x0 x1 : Operand} {v0 v1 : Value} {c0 c1 : Array Value} {a2 : Nat → Act} (HM : Mem w0 X L w) (h : ∀ b w', Mem w0 X ((b, rowsOf [c0, c1]) :: L) w' → wpList Try.prog ops Q rest (a2 b) w') (hT : elemB t e n by_ = true := by with_reducible assumption) (hw : WantT ops { dst := d, op := .buildSlice t 2 #[(0, x0), (1, x1)], type := ty, pos := ps, after := af, guard := g } a := by first | exact Or.inl rfl | exact Or.inr ⟨_, _, _, rfl, rfl, rfl⟩) (h0 : a.eval x0 = v0 := by (conv => lhs; whnf) <;> rfl) (k0 : v0.cells = c0 := by (conv => lhs; whnf) <;> rfl) (z0 : c0.size = n := by (first | exact qA_size _ | exact rZ_size _ _ | exact ratA_size _ _ _ _ | exact zA_size _ | exact Bg.intA_size _ _ | assumption | rfl)) (h1 : a.eval x1 = v1 := by (conv => lhs; whnf) <;> rfl) (k1 : v1.cells = c1 := by (conv => lhs; whnf) <;> rfl) (z1 : c1.size = n := by (first | exact qA_size _ | exact rZ_size _ _ | exact ratA_size _ _ _ _ | exact zA_size _ | exact Bg.intA_size _ _ | assumption | rfl)) (hn : 2 * n ≤ 16777216 := by decide) (ha : ∀ b, a.put d (.slice (some ⟨b, 0, none⟩) 2 2) = a2 b := by intro b; ((try simp only [Act.put, List.setIfInBounds_toArray, List.set_cons_succ, List.set_cons_zero]) <;> rfl)) : OpG ops Q rest a w { dst := d, op := .buildSlice t 2 #[(0, x0), (1, x1)], type := ty, pos := ps, after := af, guard := g } := by
  obtain ⟨i, z, hE⟩ := elemT hT
  refine wpList_step fun K9 hK => ?_
  rw [if_pos hw.wanted]
  have hr := run_bs hE [v0, v1] (by simp [k0, z0, k1, z1]) hn (parts := #[(0, v0), (1, v1)]) rfl w
  unfold Oper.wp
  simp [execOp, List.map_cons, List.map_nil, h0, h1, k0, k1] at hr ⊢
  simp [hr, Result.andThen]
  refine hK _ _ (ha _ ▸ h _ _ ?_)
  exact HM.new _ e
theorem g_bs3 {x0 x1 x2 : Operand} (h : OpG ops Q rest a w { dst := d, op := .buildSlice t 3 #[(0, x0), (1, x1), (2, x2)], type := ty, pos := ps, after := af, guard := g }) : wpList Try.prog ops Q ({ dst := d, op := .buildSlice t 3 #[(0, x0), (1, x1), (2, x2)], type := ty, pos := ps, after := af, guard := g } :: rest) a w := h
theorem a_bs3 {x0 x1 x2 : Operand} {v0 v1 v2 : Value} {c0 c1 c2 : Array Value} {a2 : Nat → Act} (HM : Mem w0 X L w) (h : ∀ b w', Mem w0 X ((b, rowsOf [c0, c1, c2]) :: L) w' → wpList Try.prog ops Q rest (a2 b) w') (hT : elemB t e n by_ = true := by with_reducible assumption) (hw : WantT ops { dst := d, op := .buildSlice t 3 #[(0, x0), (1, x1), (2, x2)], type := ty, pos := ps, after := af, guard := g } a := by first | exact Or.inl rfl | exact Or.inr ⟨_, _, _, rfl, rfl, rfl⟩) (h0 : a.eval x0 = v0 := by (conv => lhs; whnf) <;> rfl) (k0 : v0.cells = c0 := by (conv => lhs; whnf) <;> rfl) (z0 : c0.size = n := by (first | exact qA_size _ | exact rZ_size _ _ | exact ratA_size _ _ _ _ | exact zA_size _ | exact Bg.intA_size _ _ | assumption | rfl)) (h1 : a.eval x1 = v1 := by (conv => lhs; whnf) <;> rfl) (k1 : v1.cells = c1 := by (conv => lhs; whnf) <;> rfl) (z1 : c1.size = n := by (first | exact qA_size _ | exact rZ_size _ _ | exact ratA_size _ _ _ _ | exact zA_size _ | exact Bg.intA_size _ _ | assumption | rfl)) (h2 : a.eval x2 = v2 := by (conv => lhs; whnf) <;> rfl) (k2 : v2.cells = c2 := by (conv => lhs; whnf) <;> rfl) (z2 : c2.size = n := by (first | exact qA_size _ | exact rZ_size _ _ | exact ratA_size _ _ _ _ | exact zA_size _ | exact Bg.intA_size _ _ | assumption | rfl)) (hn : 3 * n ≤ 16777216 := by decide) (ha : ∀ b, a.put d (.slice (some ⟨b, 0, none⟩) 3 3) = a2 b := by intro b; ((try simp only [Act.put, List.setIfInBounds_toArray, List.set_cons_succ, List.set_cons_zero]) <;> rfl)) : OpG ops Q rest a w { dst := d, op := .buildSlice t 3 #[(0, x0), (1, x1), (2, x2)], type := ty, pos := ps, after := af, guard := g } := by
  obtain ⟨i, z, hE⟩ := elemT hT
  refine wpList_step fun K9 hK => ?_
  rw [if_pos hw.wanted]
  have hr := run_bs hE [v0, v1, v2] (by simp [k0, z0, k1, z1, k2, z2]) hn (parts := #[(0, v0), (1, v1), (2, v2)]) rfl w
  unfold Oper.wp
  simp [execOp, List.map_cons, List.map_nil, h0, h1, h2, k0, k1, k2] at hr ⊢
  simp [hr, Result.andThen]
  refine hK _ _ (ha _ ▸ h _ _ ?_)
  exact HM.new _ e
end
end Go.Proofs.Ytekfabhmopkapaa
