/- Numbers and magnitudes in memory, as the words of Mem have them. -/
import Derived.Test.YtekfabhmopkapaaDraw
import Derived.Test.YtekfabhmopkapaaEngC
namespace Go.Proofs.Ytekfabhmopkapaa
set_option maxRecDepth 8000
open Go.RowKit
theorem zA_size (z : Int) : (Bg.zA z).size = 33 := by rw [zA_int]; exact Bg.intA_size _ _
theorem zA_one (z : Int) : (Bg.zA z).all (·.oneCell') = true := by rw [zA_int]; exact Bg.intA_one _ _
theorem sT_int : sizT 25 = some 33 := by kernel_rfl
theorem sT_mag : sizT 79 = some 32 := by kernel_rfl
theorem sT_arr : sizT 23 = some 32 := by kernel_rfl
theorem la_z (z : Int) : LA 25 (Bg.zA z) 0 (.agg (Bg.zA z)) := LA.whole (by kernel_rfl) (by rw [zA_size]; exact sT_int)
theorem la_i (s : Bool) (N : Nat) : LA 25 (Bg.intA s N) 0 (.agg (Bg.intA s N)) := LA.whole (by kernel_rfl) (by rw [Bg.intA_size]; exact sT_int)
theorem la_mag (N : Nat) : LA 79 (Bg.row 32 N) 0 (.agg (Bg.row 32 N)) := LA.whole (by kernel_rfl) (by rw [Bg.row_size]; exact sT_mag)
theorem la_arr (N : Nat) : LA 23 (Bg.row 32 N) 0 (.agg (Bg.row 32 N)) := LA.whole (by kernel_rfl) (by rw [Bg.row_size]; exact sT_arr)
theorem la_fld (s : Bool) (N : Nat) : LA 23 (Bg.intA s N) 1 (.agg (Bg.row 32 N)) := LA.mid (n := 32) (by kernel_rfl) sT_arr (by rw [Bg.intA_size]; omega) (intA_mag s N)
theorem la_neg (s : Bool) (N : Nat) : LA 4 (Bg.intA s N) 0 (.bool s) := LA.one (by kernel_rfl) (Bg.intA_neg s N)
theorem la_fldz (z : Int) : LA 23 (Bg.zA z) 1 (.agg (Bg.row 32 z.natAbs)) := by rw [zA_int]; exact la_fld _ _
theorem la_negz (z : Int) : LA 4 (Bg.zA z) 0 (.bool (decide (z < 0))) := by rw [zA_int]; exact la_neg _ _
theorem la_lim (N i : Nat) (h : i < 32) : LA 22 (Bg.row 32 N) i (.int .u32 (Bg.limb N i : Nat)) := LA.one (by kernel_rfl) (Bg.row_at 32 N i h)
theorem la_limi (s : Bool) (N i : Nat) (h : i < 32) : LA 22 (Bg.intA s N) (1 + i) (.int .u32 (Bg.limb N i : Nat)) := LA.one (by kernel_rfl) (by rw [Nat.add_comm]; exact Bg.intA_at s N i h)
theorem sa_z (z : Int) {c : Array Value} (h : c.size = 33) : SA 25 c 0 (.agg (Bg.zA z)) (Bg.zA z) := SA.whole (by rw [zA_size]; exact sT_int) (zA_one z) (by rw [zA_size, h])
theorem sa_i (s : Bool) (N : Nat) {c : Array Value} (h : c.size = 33) : SA 25 c 0 (.agg (Bg.intA s N)) (Bg.intA s N) := SA.whole (by rw [Bg.intA_size]; exact sT_int) (Bg.intA_one s N) (by rw [Bg.intA_size, h])
theorem sa_mag (N : Nat) {c : Array Value} (h : c.size = 32) : SA 79 c 0 (.agg (Bg.row 32 N)) (Bg.row 32 N) := SA.whole (by rw [Bg.row_size]; exact sT_mag) (Bg.row_one 32 N) (by rw [Bg.row_size, h])
theorem sa_arr (N : Nat) {c : Array Value} (h : c.size = 32) : SA 23 c 0 (.agg (Bg.row 32 N)) (Bg.row 32 N) := SA.whole (by rw [Bg.row_size]; exact sT_arr) (Bg.row_one 32 N) (by rw [Bg.row_size, h])
theorem intA_set0 (s t : Bool) (N : Nat) : (Bg.intA s N).setIfInBounds 0 (.bool t) = Bg.intA t N := by
  apply Array.ext_getElem?
  intro j
  rw [Array.getElem?_setIfInBounds]
  match j with
  | 0 => rw [if_pos rfl, if_pos (by rw [Bg.intA_size]; omega), Bg.intA_neg]
  | j + 1 =>
    rw [if_neg (by omega)]
    by_cases hj : j < 32
    · rw [Bg.intA_at s N j hj, Bg.intA_at t N j hj]
    · rw [Array.getElem?_eq_none (by rw [Bg.intA_size]; omega), Array.getElem?_eq_none (by rw [Bg.intA_size]; omega)]
theorem intA_setL (s : Bool) (N i x : Nat) (hx : x < 4294967296) : (Bg.intA s N).setIfInBounds (1 + i) (.int .u32 (x : Nat)) = Bg.intA s (Bg.setL N i x) := by
  apply Array.ext_getElem?
  intro j
  rw [Array.getElem?_setIfInBounds]
  match j with
  | 0 => rw [if_neg (by omega), Bg.intA_neg, Bg.intA_neg]
  | j + 1 =>
    by_cases hj : j < 32
    · rw [Bg.intA_at s N j hj, Bg.intA_at s _ j hj, Bg.intA_size]
      by_cases e : j = i
      · subst e; rw [if_pos (by omega), if_pos (by omega)]; simp [Bg.lv, Bg.setL_limb _ _ _ _ hx]
      · rw [if_neg (by omega)]; simp [Bg.lv, Bg.setL_limb _ _ _ _ hx, e]
    · rw [Array.getElem?_eq_none (by rw [Bg.intA_size]; omega), Array.getElem?_eq_none (by rw [Bg.intA_size]; omega), Bg.intA_size]
      by_cases e : 1 + i = j + 1
      · rw [if_pos e, if_neg (by omega)]
      · rw [if_neg e]
theorem sa_neg (s t : Bool) (N : Nat) : SA 4 (Bg.intA s N) 0 (.bool t) (Bg.intA t N) := by
  have h := SA.one (T := 4) (c := Bg.intA s N) (k := 0) (v := .bool t) (by kernel_rfl) rfl (by rw [Bg.intA_size]; omega)
  rwa [intA_set0] at h
theorem sa_lim (N i x : Nat) (hx : x < 4294967296) (hi : i < 32) : SA 22 (Bg.row 32 N) i (.int .u32 (x : Nat)) (Bg.row 32 (Bg.setL N i x)) := by
  have h := SA.one (T := 22) (c := Bg.row 32 N) (k := i) (v := .int .u32 (x : Nat)) (by kernel_rfl) rfl (by rw [Bg.row_size]; exact hi)
  rwa [Bg.row_set 32 N i x hx] at h
theorem sa_limi (s : Bool) (N i x : Nat) (hx : x < 4294967296) (hi : i < 32) : SA 22 (Bg.intA s N) (1 + i) (.int .u32 (x : Nat)) (Bg.intA s (Bg.setL N i x)) := by
  have h := SA.one (T := 22) (c := Bg.intA s N) (k := 1 + i) (v := .int .u32 (x : Nat)) (by kernel_rfl) rfl (by rw [Bg.intA_size]; omega)
  rwa [intA_setL s N i x hx] at h
theorem za_int : ZA 25 (Bg.zA 0) := ⟨.agg (Bg.zA 0), rfl, fun w => by rw [← zA_zero, ← Bg.zeroInt]; kernel_rfl⟩
theorem za_mag : ZA 79 (Bg.row 32 0) := ⟨.agg (Bg.row 32 0), rfl, fun w => by rw [← Bg.zero32]; kernel_rfl⟩
theorem za_arr : ZA 23 (Bg.row 32 0) := ⟨.agg (Bg.row 32 0), rfl, fun w => by rw [← Bg.zero32]; kernel_rfl⟩
section
variable {fn : Func} {P : Program} {w : World} {p q t u x : Tmp} {T T2 T3 : TypeId} {b b2 b3 k k2 k3 : Nat} {c c2 c3 : Array Value} {v v2 v3 : Value}
theorem lv_at (hb : Blk w b c) (hv : LA T c k v) : (loadVar T ⟨b, k, none⟩).run Try.prog w = .ok v w := hv w b hb
theorem r_c (h : fn.results = #[.cell p T]) {tmps : Array Value} (hp : tmps.getD p undef = .pointer (some ⟨b, k, none⟩)) (hb : Blk w b c) (hv : LA T c k v) : (results fn tmps).run Try.prog w = .ok v w := res_cell h tmps hp (hv w b hb)
theorem r_ct (h : fn.results = #[.cell p T, .tmp t]) {tmps : Array Value} (hp : tmps.getD p undef = .pointer (some ⟨b, k, none⟩)) (hb : Blk w b c) (hv : LA T c k v) : (results fn tmps).run Try.prog w = .ok (.tuple #[v, tmps.getD t undef]) w := res_cell_tmp h tmps hp (hv w b hb)
theorem r_tc (h : fn.results = #[.tmp t, .cell p T]) {tmps : Array Value} (hp : tmps.getD p undef = .pointer (some ⟨b, k, none⟩)) (hb : Blk w b c) (hv : LA T c k v) : (results fn tmps).run Try.prog w = .ok (.tuple #[tmps.getD t undef, v]) w := res_tmp_cell h tmps hp (hv w b hb)
theorem r_cc (h : fn.results = #[.cell p T, .cell q T2]) {tmps : Array Value} (hp : tmps.getD p undef = .pointer (some ⟨b, k, none⟩)) (hq : tmps.getD q undef = .pointer (some ⟨b2, k2, none⟩)) (hb : Blk w b c) (hv : LA T c k v) (hb2 : Blk w b2 c2) (hv2 : LA T2 c2 k2 v2) : (results fn tmps).run Try.prog w = .ok (.tuple #[v, v2]) w := res_cell_cell h tmps hp hq (hv w b hb) (hv2 w b2 hb2)
theorem r_cct (h : fn.results = #[.cell p T, .cell q T2, .tmp t]) {tmps : Array Value} (hp : tmps.getD p undef = .pointer (some ⟨b, k, none⟩)) (hq : tmps.getD q undef = .pointer (some ⟨b2, k2, none⟩)) (hb : Blk w b c) (hv : LA T c k v) (hb2 : Blk w b2 c2) (hv2 : LA T2 c2 k2 v2) : (results fn tmps).run Try.prog w = .ok (.tuple #[v, v2, tmps.getD t undef]) w := res_cell_cell_tmp h tmps hp hq (hv w b hb) (hv2 w b2 hb2)
end
theorem run_build_int (s : Bool) (N : Nat) (w : World) : (Instr.build 25 #[(0, .bool s), (1, .agg (Bg.row 32 N))]).run Try.prog w = .ok (.agg (Bg.intA s N)) w := by
  have hf := fill_int s N
  have hz := Bg.zeroInt
  have hs1 := Bg.row_size 32 N
  have hs2 := Bg.intA_size false 0
  have hz2 : ∀ w, (zeroValue 25).run Try.prog w = .ok (.agg (Bg.intA false 0)) w := fun w => by rw [← Bg.zeroInt]; kernel_rfl
  clear hz
  have hn := intA_ne false 0
  simp [Instr.build, hz2, go_sem, hs1, hs2, hf, Instr.fill, Value.cells, hn]
theorem run_build_int0 (w : World) : (Instr.build 25 #[]).run Try.prog w = .ok (.agg (Bg.zA 0)) w := by
  rw [← zA_zero, ← Bg.zeroInt]; kernel_rfl
section
variable {ops : Array Oper} {rest : List Oper} {o : Oper} {a : Act} {w : World} {Q : Exit → Act → World → Prop}
theorem h_bi {x y : Operand} {s : Bool} {N : Nat} (ho : o.op = .build 25 #[(0, x), (1, y)]) (hx : a.eval x = .bool s) (hy : a.eval y = .agg (Bg.row 32 N)) : ∀ w, (execOp a.eval o).run Try.prog w = .ok (.value (.agg (Bg.intA s N))) w := fun w => by
  unfold execOp
  simp only [ho, Sem.run_bind, List.map_toArray, List.map_cons, List.map_nil, hx, hy, run_build_int, Result.andThen_ok, Sem.run_pure]
theorem h_b0 (ho : o.op = .build 25 #[]) : ∀ w, (execOp a.eval o).run Try.prog w = .ok (.value (.agg (Bg.zA 0))) w := fun w => by
  unfold execOp
  simp only [ho, Sem.run_bind, List.map_toArray, List.map_nil, run_build_int0, Result.andThen_ok, Sem.run_pure]
theorem m_bld {d : Option Tmp} {ty : TypeId} {ps : String} {af : Array Edge} {g : Option (Nat × Bool)} {T : TypeId} {xs : Array (Nat × Operand)} {v : Value} (hw : WantT ops { dst := d, op := .build T xs, type := ty, pos := ps, after := af, guard := g } a) (hy : ∀ w, (execOp a.eval { dst := d, op := .build T xs, type := ty, pos := ps, after := af, guard := g }).run Try.prog w = .ok (.value v) w)
    (h : wpList Try.prog ops Q rest (a.put d v) w) : wpList Try.prog ops Q ({ dst := d, op := .build T xs, type := ty, pos := ps, after := af, guard := g } :: rest) a w := by
  refine wpList_step fun K hK => ?_
  rw [if_pos hw.wanted]
  unfold Oper.wp
  rw [hy]
  exact hK _ _ h
end
theorem y_cmpz (op : BinOp) (p d : Int) (v : Bool) (he : op = .eql ∨ op = .neq) (hv : v = if op = .eql then decide (p = d) else !decide (p = d)) (hp : p.natAbs < Bg.lim) (hd : d.natAbs < Bg.lim) {ops : Array Oper} {S : World → Prop} {o : Oper} {a : Act} {x y : Operand} {t : TypeId} (hw : Region.wanted o (yielded ops a.tmps) = true) (ho : o.op = .binOp op 25 x y t) (hx : a.eval x = .agg (Bg.zA p)) (hy : a.eval y = .agg (Bg.zA d)) :
    YieldsIf Try.prog ops S o (.bool v) a := by
  refine Or.inl ⟨hw, fun w _ => ?_⟩
  have hr := run_cmp_z op p d hp hd x y w he
  rw [← hv] at hr
  unfold execOp
  simp only [Sem.run_bind] at hr
  simp only [ho, hx, hy, Sem.run_bind, hr, Result.andThen_ok, Sem.run_pure]
theorem m_cmpz (op : BinOp) (p d2 : Int) (v : Bool) (he : op = .eql ∨ op = .neq) (hv : v = if op = .eql then decide (p = d2) else !decide (p = d2)) (hp : p.natAbs < Bg.lim) (hd : d2.natAbs < Bg.lim) {ops : Array Oper} {rest : List Oper} {a : Act} {w : World} {Q : Exit → Act → World → Prop} {x y : Operand} {t : TypeId} {d : Option Tmp} {ty : TypeId} {ps : String} {af : Array Edge} {g : Option (Nat × Bool)} (hw : WantT ops { dst := d, op := .binOp op 25 x y t, type := ty, pos := ps, after := af, guard := g } a) (hx : a.eval x = .agg (Bg.zA p)) (hy : a.eval y = .agg (Bg.zA d2))
    (h : wpList Try.prog ops Q rest (a.put d (.bool v)) w) : wpList Try.prog ops Q ({ dst := d, op := .binOp op 25 x y t, type := ty, pos := ps, after := af, guard := g } :: rest) a w :=
  gls_cmpz op p d2 v he hv hp hd hw.wanted x y t rfl hx hy h
section
variable {ops : Array Oper} {rest : List Oper} {a a2 : Act} {w : World} {Q : Exit → Act → World → Prop} {d : Option Tmp} {ty T t : TypeId} {ps : String} {af : Array Edge} {g : Option (Nat × Bool)} {x y : Operand} {v : Value} {xs : Array (Nat × Operand)} {bop : BinOp}
theorem g_bld (h : OpG ops Q rest a w { dst := d, op := .build T xs, type := ty, pos := ps, after := af, guard := g }) : wpList Try.prog ops Q ({ dst := d, op := .build T xs, type := ty, pos := ps, after := af, guard := g } :: rest) a w := h
theorem g_bin (h : OpG ops Q rest a w { dst := d, op := .binOp bop T x y t, type := ty, pos := ps, after := af, guard := g }) : wpList Try.prog ops Q ({ dst := d, op := .binOp bop T x y t, type := ty, pos := ps, after := af, guard := g } :: rest) a w := h
theorem a_bld (h : wpList Try.prog ops Q rest a2 w) (hw : WantT ops { dst := d, op := .build T xs, type := ty, pos := ps, after := af, guard := g } a := by first | exact Or.inl rfl | exact Or.inr ⟨_, _, _, rfl, rfl, rfl⟩) (hy : ∀ w, (execOp a.eval { dst := d, op := .build T xs, type := ty, pos := ps, after := af, guard := g }).run Try.prog w = .ok (.value v) w := by (first | (refine h_bi (x := ?_) (y := ?_) (s := ?_) (N := ?_) ?_ ?_ ?_; rotate_left 4; (focus rfl); (focus rfl); (focus rfl)) | (refine h_b0 ?_; rfl))) (ha : a.put d v = a2 := by ((try simp only [Act.put, List.setIfInBounds_toArray, List.set_cons_succ, List.set_cons_zero]) <;> rfl)) : OpG ops Q rest a w { dst := d, op := .build T xs, type := ty, pos := ps, after := af, guard := g } := m_bld hw hy (ha ▸ h)
theorem a_cmpz (op : BinOp) (p d2 : Int) (v : Bool) (he : op = .eql ∨ op = .neq) (hv : v = if op = .eql then decide (p = d2) else !decide (p = d2)) (hp : p.natAbs < Bg.lim) (hd : d2.natAbs < Bg.lim) (h : wpList Try.prog ops Q rest a2 w) (hw : WantT ops { dst := d, op := .binOp op 25 x y t, type := ty, pos := ps, after := af, guard := g } a := by first | exact Or.inl rfl | exact Or.inr ⟨_, _, _, rfl, rfl, rfl⟩) (hx : a.eval x = .agg (Bg.zA p) := by (conv => lhs; whnf) <;> rfl) (hy : a.eval y = .agg (Bg.zA d2) := by (conv => lhs; whnf) <;> rfl) (ha : a.put d (.bool v) = a2 := by ((try simp only [Act.put, List.setIfInBounds_toArray, List.set_cons_succ, List.set_cons_zero]) <;> rfl)) : OpG ops Q rest a w { dst := d, op := .binOp op 25 x y t, type := ty, pos := ps, after := af, guard := g } := m_cmpz op p d2 v he hv hp hd hw hx hy (ha ▸ h)
end
end Go.Proofs.Ytekfabhmopkapaa
