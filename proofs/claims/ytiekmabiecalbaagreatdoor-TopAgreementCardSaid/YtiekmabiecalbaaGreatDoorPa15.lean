/- Walks. -/
import Derived.ChangeKeysEq
import Derived.Test.YtiekmabiecalbaaGreatDoorPa04
namespace Go.Proofs.YtiekmabiecalbaaGreatDoor
set_option maxHeartbeats 16000000
open Go.RowKit
set_option maxRecDepth 8000
section
theorem SlAt.inv {n : Nat} {s : Value} {l : List (Array Value)} {B : List (Nat × Array Value)} (h : SlAt n s l B) (h0 : l ≠ []) : ∃ b sp, s = .slice (some ⟨b, 0, none⟩) l.length (l.length + sp.length) ∧ B = [(b, rowsOf (l ++ sp))] ∧ ∀ c ∈ l ++ sp, c.size = n := by
 cases h with
 | nil => exact absurd rfl h0
 | row b l sp h => exact ⟨b, sp, rfl, rfl, h⟩
theorem RdS.form1 {n : Nat} {w : World} {sv : Value} {m : List (Array Value)} (h : RdS n w sv m) : ∃ A cap, sv = .slice A m.length cap := by
 obtain ⟨_, A, cap, e, _⟩ := h; exact ⟨A, cap, e⟩
theorem Mem.join {w0 w w' : World} {X : List Nat} {L B : List (Nat × Array Value)} (h : Mem w0 X L w) (k : Mem w [] B w') : Mem w0 X (B ++ L) w' := by
 have hc := h.call k.low
 have hB : ∀ p ∈ B, w.heap.size ≤ p.1 := fun p hp => (k.own p hp).resolve_right Zs
 refine ⟨hc.only, fun p hp => ?_, fun p hp => ?_, ?_⟩
 ·rcases List.mem_append.1 hp with hp | hp
  ·exact k.blk p hp
  ·exact hc.blk p hp
 ·rcases List.mem_append.1 hp with hp | hp
  ·exact .inl (Nat.le_trans h.only.size (hB p hp))
  ·exact h.own p hp
 ·rw [List.map_append]
  refine List.nodup_append.2 ⟨k.nod, h.nod, fun a ha b hb e => ?_⟩
  obtain ⟨p, hp, rfl⟩ := List.mem_map.1 ha
  obtain ⟨q, hq, rfl⟩ := List.mem_map.1 hb
  have h1 := hB p hp
  have h2 := (h.blk q hq).lt
  omega
end
section
theorem z9_57 {P : Prop} (h : P := by
 rw [run_eql_struct, he, Result.andThen_ok, if_pos rfl]) : P := h
theorem z9_58 {P : Prop} (h : P := by
 rw [run_neq_struct, he, Result.andThen_ok, if_neg Zs]) : P := h
theorem z9_59 {P : Prop} (h : P := by
 rw [← hv] at hr
 unfold execOp
 simp only [Sem.run_bind] at hr
 simp only [ho, hx, hy, Sem.run_bind, hr, Result.andThen_ok, Sem.run_pure]) : P := h
end
section
def offs : List (Array Value) → Nat → Nat
 | _, 0 => 0
 | [], _ + 1 => 0
 | c :: l, i + 1 => c.size + offs l i
theorem rows_fld : ∀ {l : List (Array Value)} {i : Nat} {c : Array Value}, l[i]? = some c → ∀ j, j < c.size → (rowsOf l)[offs l i + j]? = c[j]?
 | [], i, c, h, j, _ => by simp at h
 | d :: l, 0, c, h, j, hj => by
  obtain rfl : d = c := by simpa using h
  rw [rowsOf, offs, Array.getElem?_append, if_pos Zo, Nat.zero_add]
 | d :: l, i + 1, c, h, j, hj => by
  rw [rowsOf, offs, Array.getElem?_append, if_neg Zo, Nat.add_assoc, Nat.add_sub_cancel_left]
  exact rows_fld (by simpa using h) j hj
theorem rows_fld_lt : ∀ {l : List (Array Value)} {i : Nat} {c : Array Value}, l[i]? = some c → offs l i + c.size ≤ (rowsOf l).size
 | [], i, c, h => by simp at h
 | d :: l, 0, c, h => by
  obtain rfl : d = c := by simpa using h
  rw [rowsOf, offs, Array.size_append]; omega
 | d :: l, i + 1, c, h => by
  rw [rowsOf, offs, Array.size_append]
  have := rows_fld_lt (l := l) (i := i) (c := c) (by simpa using h)
  omega
theorem rows_fld_ext {l : List (Array Value)} {i : Nat} {c : Array Value} (h : l[i]? = some c) : (rowsOf l).extract (offs l i) (offs l i + c.size) = c := by
 have hl := rows_fld_lt h
 apply Array.ext_getElem?
 intro j
 rw [Array.getElem?_extract]
 by_cases hj : j < c.size
 ·rw [if_pos Zo]; exact rows_fld h j hj
 ·rw [if_neg Zo, Array.getElem?_eq_none Zo]
theorem offs_set : ∀ {l : List (Array Value)} {i : Nat} {c d : Array Value}, l[i]? = some c → d.size = c.size → ∀ k, offs (l.set i d) k = offs l k
 | [], i, c, d, h, _, k => by simp at h
 | e :: l, 0, c, d, h, hd, 0 => rfl
 | e :: l, 0, c, d, h, hd, k + 1 => by
  obtain rfl : e = c := by simpa using h
  rw [Zy, offs, offs, hd]
 | e :: l, i + 1, c, d, h, hd, 0 => rfl
 | e :: l, i + 1, c, d, h, hd, k + 1 => by
  rw [Zx, offs, offs, offs_set (by simpa using h) hd]
theorem flds_set {l : List (Array Value)} {i : Nat} {c d : Array Value} (h : l[i]? = some c) (hd : d.size = c.size) : ∀ j, (rowsOf (l.set i d))[j]? = if offs l i ≤ j ∧ j < offs l i + d.size then d[j - offs l i]? else (rowsOf l)[j]? := by
 intro j
 have hset : (l.set i d)[i]? = some d := by
  have := (List.getElem?_eq_some_iff.1 h).1
  simp [this]
 by_cases hj : offs l i ≤ j ∧ j < offs l i + d.size
 ·rw [if_pos hj]
  have := rows_fld hset (j - offs l i) Zo
  rw [offs_set h hd, show offs l i + (j - offs l i) = j by omega] at this
  exact this
 ·rw [if_neg hj]
  clear hset
  induction l generalizing i j with
  | nil => simp at h
  | cons e l ih =>
   cases i with
   | zero =>
    obtain rfl : e = c := by simpa using h
    rw [offs] at hj
    rw [Zy, rowsOf, rowsOf, Array.getElem?_append, Array.getElem?_append, if_neg Zo, if_neg Zo, hd]
   | succ i =>
    rw [offs] at hj
    rw [Zx, rowsOf, rowsOf, Array.getElem?_append, Array.getElem?_append]
    by_cases he : j < e.size
    ·rw [if_pos he, if_pos he]
    ·rw [if_neg he, if_neg he]
     exact ih (by simpa using h) (j - e.size) Zo
theorem flds_setAll {l : List (Array Value)} {i : Nat} {c d : Array Value} (h : l[i]? = some c) (hd : d.size = c.size) : setAll (rowsOf l) (offs l i) d.toList = rowsOf (l.set i d) := by
 have hl := rows_fld_lt h
 apply Array.ext_getElem?
 intro j
 rw [sets_at, Array.length_toList, flds_set h hd]
 by_cases hj : offs l i ≤ j ∧ j < offs l i + d.size
 ·rw [if_pos ⟨hj.1, hj.2, by omega⟩, if_pos hj, Array.getElem?_toList]
 ·rw [if_neg (fun h => hj ⟨h.1, h.2.1⟩), if_neg hj]
def FA (T : TypeId) (c : Array Value) (k : Nat) (v : Value) : Prop :=
 (aggT T = some false ∧ c[k]? = some v) ∨ (aggT T = some true ∧ ∃ cs, sizT T = some cs.size ∧ k + cs.size ≤ c.size ∧ c.extract k (k + cs.size) = cs ∧ v = .agg cs)
theorem FA.la {T : TypeId} {c : Array Value} {k : Nat} {v : Value} (h : FA T c k v) : LA T c k v := by
 rcases h with ⟨h1, h2⟩ | ⟨h1, cs, h2, h3, h4, rfl⟩
 ·exact LA.one h1 h2
 ·exact LA.mid h1 h2 h3 h4
theorem FA.pt {T : TypeId} {c : Array Value} {k : Nat} {v : Value} (h : FA T c k v) (w : World) : (part T c k).run Tryz.prog w = .ok v w := by
 rcases h with ⟨h1, h2⟩ | ⟨h1, cs, h2, h3, h4, rfl⟩
 ·simp only [part, Sem.run_bind, run_agg h1, Result.andThen_ok, Bool.false_eq_true, if_false]
  simp [h2]
 ·simp only [part, Sem.run_bind, run_agg h1, Result.andThen_ok, if_true, run_siz h2]
  simp [h4]
theorem fa_agg {T : TypeId} {l : List (Array Value)} {c : Array Value} (i : Nat) {k : Nat} (hT : aggT T = some true) (hs : sizT T = some c.size) (hi : l[i]? = some c) (hk : k = offs l i) : FA T (rowsOf l) k (.agg c) :=
 .inr ⟨hT, c, hs, by rw [hk]; exact rows_fld_lt hi, by rw [hk]; exact rows_fld_ext hi, rfl⟩
theorem fa_one {T : TypeId} {l : List (Array Value)} {v : Value} (i : Nat) {k : Nat} (hT : aggT T = some false) (hi : l[i]? = some #[v]) (hk : k = offs l i) : FA T (rowsOf l) k v :=
 .inl ⟨hT, by
  have := rows_fld hi 0 Zs
  rw [Nat.add_zero, ← hk] at this
  rw [this]; rfl⟩
theorem sa_fld_agg {T : TypeId} {l : List (Array Value)} {c d : Array Value} (i : Nat) {k : Nat} (hs : sizT T = some d.size) (h1 : d.all (·.oneCell') = true) (hi : l[i]? = some c) (hd : d.size = c.size) (hk : k = offs l i) : SA T (rowsOf l) k (.agg d) (rowsOf (l.set i d)) := by
 subst hk
 exact SA.mid hs h1 (by rw [hd]; exact rows_fld_lt hi) (flds_setAll hi hd)
theorem sa_fld_one {T : TypeId} {l : List (Array Value)} {c : Array Value} {v : Value} (i : Nat) {k : Nat} (hs : sizT T = some 1) (hv : v.oneCell' = true) (hi : l[i]? = some c) (hc : c.size = 1) (hk : k = offs l i) : SA T (rowsOf l) k v (rowsOf (l.set i #[v])) := by
 subst hk
 have hl := rows_fld_lt hi
 have h := SA.one (T := T) (c := rowsOf l) (k := offs l i) hs hv Zo
 have e := flds_setAll hi (d := #[v]) (by simp [hc])
 have e2 : setAll (rowsOf l) (offs l i) (#[v] : Array Value).toList = (rowsOf l).setIfInBounds (offs l i) v := rfl
 rw [e2] at e
 rwa [e] at h
def setsL : List (Array Value) → List (Nat × Value) → List (Array Value)
 | l, [] => l
 | l, (i, v) :: r => setsL (l.set i v.cells) r
theorem fold_sets : ∀ (l : List Value) (k o : Nat) (c : Array Value), (l.zipIdx k).foldl (fun (cs : Array Value) (x : Value × Nat) => cs.setIfInBounds (o + x.2) x.1) c = setAll c (o + k) l
 | [], k, o, c => rfl
 | v :: l, k, o, c => by
  rw [List.zipIdx_cons, List.foldl_cons, fold_sets l (k + 1) o, setAll]
  rfl
theorem arr_fold_flds (a c : Array Value) (o : Nat) : a.zipIdx.foldl (fun (cs : Array Value) (x : Value × Nat) => cs.setIfInBounds (o + x.2) x.1) c = setAll c o a.toList := by
 rw [← Array.foldl_toList, Array.toList_zipIdx, fold_sets, Nat.add_zero]
def shapeOf (l : List (Array Value)) : List (Nat × Nat) := (List.range l.length).map fun i => (offs l i, ((l[i]?).map Array.size).getD 0)
theorem shape_at {l : List (Array Value)} {i : Nat} {c : Array Value} (h : l[i]? = some c) : (shapeOf l)[i]? = some (offs l i, c.size) := by
 have := (List.getElem?_eq_some_iff.1 h).1
 unfold shapeOf
 rw [List.getElem?_map, List.getElem?_range this, Option.map_some, h]
 rfl
theorem shape_set {l : List (Array Value)} {i : Nat} {c d : Array Value} (h : l[i]? = some c) (hd : d.size = c.size) : shapeOf (l.set i d) = shapeOf l := by
 unfold shapeOf
 rw [List.length_set]
 refine List.map_congr_left fun k hk => ?_
 rw [offs_set h hd]
 by_cases e : i = k
 ·subst e
  have := (List.getElem?_eq_some_iff.1 h).1
  rw [h, List.getElem?_set_self this]
  simp [hd]
 ·rw [List.getElem?_set_ne e]
theorem fill_sets {S : List (Nat × Nat)} : ∀ (ps : List (Nat × Value)) (l : List (Array Value)), shapeOf l = S → (∀ p ∈ ps, ∃ n, S[p.1]?.map Prod.snd = some n ∧ p.2.cells.size = n) → Instr.fill (fun i => S[i]?) (rowsOf l) ps = some (rowsOf (setsL l ps))
 | [], l, _, _ => rfl
 | (i, v) :: ps, l, hS, h => by
  obtain ⟨n, h1, h2⟩ := h (i, v) List.mem_cons_self
  cases hi : l[i]? with
  | none =>
   have : (shapeOf l)[i]? = none := by
    rw [List.getElem?_eq_none]
    unfold shapeOf
    have := List.getElem?_eq_none_iff.1 hi
    simpa using this
   rw [hS] at this
   rw [this] at h1; cases h1
  | some c =>
   have hs := shape_at hi
   rw [hS] at hs
   rw [hs] at h1
   have hc : c.size = n := by simpa using h1
   have hl := rows_fld_lt hi
   have hv : v.cells.size = c.size := by rw [h2, hc]
   have hne : ¬ ((v.cells.size ≠ c.size || offs l i + v.cells.size > (rowsOf l).size) = true) := by simp [hv]; omega
   unfold Instr.fill
   simp only [hs]
   rw [if_neg hne, arr_fold_flds, flds_setAll hi hv, setsL]
   exact fill_sets ps _ (by rw [shape_set hi hv, hS]) (fun p hp => h p (List.mem_cons_of_mem _ hp))
theorem run_build_flds {T : TypeId} {fs : Array Field} {l : List (Array Value)} {S : List (Nat × Nat)} {parts : Array (Nat × Value)} {r : Array Value} (hu : Tryz.prog.underlying T = some (.struct fs)) (hz : ∀ w, (zeroValue T).run Tryz.prog w = .ok (.agg (rowsOf l)) w)
    (hp : ∀ w, (fs.mapM (fun f => do pure (f.offset, ← sizeOf f.type)) : Sem (Array (Nat × Nat))).run Tryz.prog w = .ok S.toArray w) (hS : shapeOf l = S) (h : ∀ p ∈ parts.toList, ∃ n, S[p.1]?.map Prod.snd = some n ∧ p.2.cells.size = n) (hr : rowsOf (setsL l parts.toList) = r) (w : World) : (Instr.build T parts).run Tryz.prog w = .ok (.agg r) w := by
 have hf := fill_sets parts.toList l hS h
 have e : (fun i : Nat => S.toArray[i]?) = fun i : Nat => S[i]? := by funext i; simp
 simp only [Instr.build, Sem.run_bind, hz, Result.andThen_ok, run_underlying hu, hp, Value.cells, e, hf, hr]
 simp
def EqT (d : Nat) (T : TypeId) (x y : Value) (b : Bool) : Prop := ∀ w, (Op.equalIn d T x y).run Tryz.prog w = .ok b w
inductive EqF (d : Nat) (xs ys : Array Value) : List (TypeId × Nat) → Bool → Prop
 | nil : EqF d xs ys [] true
 | cons {t : TypeId} {o : Nat} {x y : Value} {b b2 : Bool} {l : List (TypeId × Nat)} (hx : FA t xs o x) (hy : FA t ys o y) (he : EqT d t x y b) (h : EqF d xs ys l b2) : EqF d xs ys ((t, o) :: l) (b && b2)
theorem eq_fields {d : Nat} {xs ys : Array Value} : ∀ {S : List (TypeId × Nat)} {b : Bool} (_ : EqF d xs ys S b) (fs : List Field) (_ : fs.map (fun f => (decide (f.name ≠ "_"), f.type, f.offset)) = S.map (fun p => (true, p.1, p.2))) (w : World), (Op.eqFields d xs ys fs).run Tryz.prog w = .ok b w := by
 intro S b h
 induction h with
 | nil =>
  intro fs hf w
  obtain rfl : fs = [] := by simpa using hf
  simp [Op.eqFields]
 | @cons t o x y b b2 l hx hy he h ih =>
  intro fs hf w
  cases fs with
  | nil => simp at hf
  | cons f fs =>
   rw [List.map_cons, List.map_cons] at hf
   injection hf with h1 h2
   injection h1 with n1 h1
   injection h1 with t1 o1
   simp only at t1 o1 n1
   have hn : f.name ≠ "_" := by simpa using n1
   have p1 := hx.pt w
   have p2 := hy.pt w
   have p3 := he w
   rw [← t1, ← o1] at p1 p2
   rw [← t1] at p3
   unfold Op.eqFields
   rw [if_pos hn]
   simp only [Sem.run_bind, p1, p2, Result.andThen_ok, p3]
   cases b with
   | true => simp only [Bool.not_true, Bool.false_eq_true, if_false, Bool.true_and]; exact ih fs h2 w
   | false => simp
theorem eq_agg {d : Nat} {T : TypeId} {xs ys : Array Value} {S : List (TypeId × Nat)} {b : Bool} (h0 : Tryz.prog.underlying T = some (.struct (Tryz.prog.fieldsOf T))) (hp : Tryz.prog.stoodInHeld T = false) (hf : (Tryz.prog.fieldsOf T).toList.map (fun f => (decide (f.name ≠ "_"), f.type, f.offset)) = S.map (fun p => (true, p.1, p.2))) (h : EqF d xs ys S b) : EqT (d + 1) T (.agg xs) (.agg ys) b := fun w => by
 rw [run_equalIn_agg w d T _ _ h0 hp]
 exact eq_fields h _ hf w
theorem eq_t_int {d : Nat} {T : TypeId} {k : IntKind} (hu : Tryz.prog.underlying T = some (.int k)) (a b : Int) : EqT (d + 1) T (.int k a) (.int k b) (a == b) := fun w => by
 simp [Op.equalIn, run_underlying hu]
theorem eq_t_str {d : Nat} {T : TypeId} (hu : Tryz.prog.underlying T = some .string) (a b : ByteArray) : EqT (d + 1) T (.string a) (.string b) (a == b) := fun w => by
 simp [Op.equalIn, run_underlying hu]
theorem eq_t_bool {d : Nat} {T : TypeId} (hu : Tryz.prog.underlying T = some .bool) (a b : Bool) : EqT (d + 1) T (.bool a) (.bool b) (a == b) := fun w => by
 simp [Op.equalIn, run_underlying hu]
theorem run_cmp_s {op : BinOp} {T : TypeId} {xs ys : Array Value} {b : Bool} (h : op = .eql ∨ op = .neq) (hE : EqT 10000 T (.agg xs) (.agg ys) b) (hm : Tryz.prog.eqGuardType Tryz.prog.depth T = false) (x y : Operand) (w : World) :
    (do eqGuard op T x y (.agg xs) (.agg ys); binOp op T (.agg xs) (.agg ys) : Sem Value).run Tryz.prog w = .ok (.bool (if op = .eql then b else !b)) w := by
 have he := hE w
 simp only [Sem.run_bind, run_eqGuard_agg w op _ x y _ _ hm, Result.andThen_ok]
 rcases h with rfl | rfl
 ·exact z9_57
 ·exact z9_58
theorem y_cmps (op : BinOp) {T : TypeId} {xs ys : Array Value} {b : Bool} (v : Bool) (he : op = .eql ∨ op = .neq) (hE : EqT 10000 T (.agg xs) (.agg ys) b) (hv : v = if op = .eql then b else !b) (hm : Tryz.prog.eqGuardType Tryz.prog.depth T = false) {ops : Array Oper} {S : World → Prop} {o : Oper} {a : Act} {x y : Operand} {t : TypeId} (hw : Region.wanted o (yielded ops a.tmps) = true) (ho : o.op = .binOp op T x y t) (hx : a.eval x = .agg xs) (hy : a.eval y = .agg ys) :
    YieldsIf Tryz.prog ops S o (.bool v) a := by
 refine Or.inl ⟨hw, fun w _ => ?_⟩
 have hr := run_cmp_s he hE hm x y w
 exact z9_59
section
variable {ops : Array Oper} {rest : List Oper} {a a2 : Act} {w : World} {Q : Exit → Act → World → Prop} {d : Option Tmp} {ty T t : TypeId} {ps : String} {af : Array Edge} {g : Option (Nat × Bool)} {x y : Operand}
theorem a_cmps (op : BinOp) {xs ys : Array Value} {b : Bool} (v : Bool) (he : op = .eql ∨ op = .neq) (hE : EqT 10000 T (.agg xs) (.agg ys) b) (hv : v = if op = .eql then b else !b) (hm : Tryz.prog.eqGuardType Tryz.prog.depth T = false) (h : wpList Tryz.prog ops Q rest a2 w)
    (hw : WantT ops { dst := d, op := .binOp op T x y t, type := ty, pos := ps, after := af, guard := g } a := by first | exact Or.inl rfl | exact Or.inr ⟨_, _, _, rfl, rfl, rfl⟩) (hx : a.eval x = .agg xs := by (conv => lhs; whnf) <;> rfl) (hy : a.eval y = .agg ys := by (conv => lhs; whnf) <;> rfl) (ha : a.put d (.bool v) = a2 := by ((try simp only [Act.put, Za, Zx, Zy]) <;> rfl)) : OpG ops Q rest a w { dst := d, op := .binOp op T x y t, type := ty, pos := ps, after := af, guard := g } := by
 have hr := run_cmp_s he hE hm x y w
 rw [← hv] at hr
 refine wpList_step fun K hK => ?_
 rw [if_pos hw.wanted]
 unfold Oper.wp execOp
 simp only [Sem.run_bind] at hr
 simp only [hx, hy, Sem.run_bind, hr, Result.andThen_ok, Sem.run_pure]
 exact hK _ _ (ha ▸ h)
end
end
end Go.Proofs.YtiekmabiecalbaaGreatDoor
