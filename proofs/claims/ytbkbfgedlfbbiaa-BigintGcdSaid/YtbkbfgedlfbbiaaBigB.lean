/- Comparing limbs, and the sign and magnitude of a number: bigint's made and split. -/
import Derived.Test.YtbkbfgedlfbbiaaBigA
import Derived.StillTailTactics
namespace Go.Proofs.Ytbkbfgedlfbbiaa
open Go.RowKit
theorem u32_info : ∃ i, Try.prog.info? 22 = some i := Option.isSome_iff_exists.1 (by kernel_rfl)
theorem u32_cells : Try.prog.cellsOf 22 = 1 := by kernel_rfl
theorem eq_items (N M n : Nat) (W : World) (d : Nat) : ∀ is : List Nat, (∀ i ∈ is, i < n) →
    (Op.eqItems (d + 1) 22 1 (Bg.row n N) (Bg.row n M) is).run Try.prog W = .ok (is.all fun i => decide (Bg.limb N i = Bg.limb M i)) W
  | [], _ => by simp [Op.eqItems]
  | i :: is, h => by
    have hi : i < n := h i (by simp)
    have ih := eq_items N M n W d is (fun j hj => h j (by simp [hj]))
    have hb := fun a b => run_equalIn_int (P := Try.prog) W d 22 .u32 .u32 a b Try.underlying22
    have h1 := Bg.row_at n N i hi
    have h2 := Bg.row_at n M i hi
    have hl : (Bg.lv N i, Bg.lv M i) = (.int .u32 (Bg.limb N i : Nat), .int .u32 (Bg.limb M i : Nat)) := rfl
    injection hl with l1 l2
    rw [l1] at h1
    rw [l2] at h2
    have hd : ((Bg.limb N i : Int) == (Bg.limb M i : Int)) = decide (Bg.limb N i = Bg.limb M i) := by
      by_cases e : Bg.limb N i = Bg.limb M i
      · simp [e]
      · simp [e]
        omega
    simp only [Op.eqItems, List.all_cons, Nat.mul_one, Sem.run_bind]
    simp [part, h1, h2, hb, hd, Result.andThen, ih]
    by_cases e : Bg.limb N i = Bg.limb M i <;> simp [e]
theorem eq_mag (N M : Nat) (hN : N < Bg.lim) (hM : M < Bg.lim) (W : World) :
    (Op.equalIn 10000 57 (.agg (Bg.row 32 N)) (.agg (Bg.row 32 M))).run Try.prog W = .ok (decide (N = M)) W := by
  obtain ⟨i, hi⟩ := u32_info
  rw [run_equalIn_array W 9999 _ _ und_mag hi, u32_cells, eq_items N M 32 W 9998 _ (by simp)]
  congr 1
  by_cases e : N = M
  · simp [e]
  · simp only [e, decide_false]
    refine Bool.eq_false_iff.2 (fun h => e ?_)
    refine Bg.limb_ext 32 N M hN hM (fun i hi => ?_)
    have := List.all_eq_true.1 h i (by simpa using hi)
    simpa using this
theorem below_box {w w' : World} {o : Obj} (h : Below (w.heap.size + 1) (w.alloc o) w') : Below w.heap.size w w' := (below_new w o).trans (h.mono (by omega))
section
variable {ops : Array Oper} {o : Oper} {a : Act} {w : World} {K : Act → Prop}
theorem sl_mag (N : Nat) (hw : Region.wanted o (yielded ops a.tmps) = true) (x : Operand) (ho : o.op = .load 57 x) (b : Nat) (hx : a.eval x = .pointer (some ⟨b, 0, none⟩)) (hb : Blk w b (Bg.row 32 N))
    (h : K (a.put o.dst (.agg (Bg.row 32 N)))) : if Region.wanted o (yielded ops a.tmps) = true then o.still Try.prog a w K else K (a.put o.dst undef) := by
  obtain ⟨t, hb⟩ := hb
  rw [if_pos hw]
  unfold Oper.still execOp
  simp only [ho, hx, Instr.loadAt, Instr.sureAddr, Sem.run_bind, Sem.run_pure, Result.andThen_ok, run_loadVar_row w b t _ _ _ _ hb und_mag rfl (by rw [Bg.row_size]; exact siz_mag)]
  rw [Oper.stillUpon_value]
  exact h
theorem sl_arr (N : Nat) (hw : Region.wanted o (yielded ops a.tmps) = true) (x : Operand) (ho : o.op = .load 23 x) (b : Nat) (hx : a.eval x = .pointer (some ⟨b, 0, none⟩)) (hb : Blk w b (Bg.row 32 N))
    (h : K (a.put o.dst (.agg (Bg.row 32 N)))) : if Region.wanted o (yielded ops a.tmps) = true then o.still Try.prog a w K else K (a.put o.dst undef) := by
  obtain ⟨t, hb⟩ := hb
  rw [if_pos hw]
  unfold Oper.still execOp
  simp only [ho, hx, Instr.loadAt, Instr.sureAddr, Sem.run_bind, Sem.run_pure, Result.andThen_ok, run_loadVar_row w b t _ _ _ _ hb und_arr rfl (by rw [Bg.row_size]; exact siz_arr)]
  rw [Oper.stillUpon_value]
  exact h
end
theorem sl_int (s : Bool) (N : Nat) {ops : Array Oper} {o : Oper} {a : Act} {w : World} {K : Act → Prop} (hw : Region.wanted o (yielded ops a.tmps) = true) (x : Operand) (ho : o.op = .load 25 x) (b : Nat) (hx : a.eval x = .pointer (some ⟨b, 0, none⟩)) (hb : Blk w b (Bg.intA s N))
    (h : K (a.put o.dst (.agg (Bg.intA s N)))) : if Region.wanted o (yielded ops a.tmps) = true then o.still Try.prog a w K else K (a.put o.dst undef) := by
  obtain ⟨t, hb⟩ := hb
  obtain ⟨fs, hu⟩ := und_int
  rw [if_pos hw]
  unfold Oper.still execOp
  simp only [ho, hx, Instr.loadAt, Instr.sureAddr, Sem.run_bind, Sem.run_pure, Result.andThen_ok, run_loadVar_row w b t _ _ _ _ hb hu rfl (by rw [Bg.intA_size]; exact siz_int)]
  rw [Oper.stillUpon_value]
  exact h
theorem run_cmp_mag (op : BinOp) (N M : Nat) (hN : N < Bg.lim) (hM : M < Bg.lim) (x y : Operand) (w : World) (h : op = .eql ∨ op = .neq) :
    (do eqGuard op 57 x y (.agg (Bg.row 32 N)) (.agg (Bg.row 32 M)); binOp op 57 (.agg (Bg.row 32 N)) (.agg (Bg.row 32 M)) : Sem Value).run Try.prog w = .ok (.bool (if op = .eql then decide (N = M) else !decide (N = M))) w := by
  have hm : Try.prog.eqGuardType Try.prog.depth 57 = false := by kernel_rfl
  simp only [Sem.run_bind, run_eqGuard_agg w op _ x y _ _ hm, Result.andThen_ok]
  rcases h with rfl | rfl
  · rw [run_eql_struct, eq_mag N M hN hM, Result.andThen_ok, if_pos rfl]
  · rw [run_neq_struct, eq_mag N M hN hM, Result.andThen_ok, if_neg (by simp)]
theorem sl_neq (N M : Nat) {ops : Array Oper} {o : Oper} {a : Act} {w : World} {K : Act → Prop} (hw : Region.wanted o (yielded ops a.tmps) = true) (x y : Operand) (t : TypeId) (ho : o.op = .binOp .neq 57 x y t) (hx : a.eval x = .agg (Bg.row 32 N)) (hy : a.eval y = .agg (Bg.row 32 M)) (hN : N < Bg.lim) (hM : M < Bg.lim)
    (h : K (a.put o.dst (.bool (!decide (N = M))))) : if Region.wanted o (yielded ops a.tmps) = true then o.still Try.prog a w K else K (a.put o.dst undef) := by
  have hr := run_cmp_mag .neq N M hN hM x y w (.inr rfl)
  rw [if_neg (by simp)] at hr
  rw [if_pos hw]
  unfold Oper.still execOp
  simp only [ho, hx, hy, Sem.run_bind, hr]
  simp only [Sem.run_bind] at hr
  simp only [Result.andThen_ok, Sem.run_pure]
  rw [Oper.stillUpon_value]
  exact h
theorem ls_cmp (op : BinOp) (N M : Nat) {ops : Array Oper} {rest : List Oper} {o : Oper} {a : Act} {w : World} {Q : Exit → Act → World → Prop} (hg : o.guard = none) (x y : Operand) (t : TypeId) (ho : o.op = .binOp op 57 x y t) (he : op = .eql ∨ op = .neq) (hx : a.eval x = .agg (Bg.row 32 N)) (hy : a.eval y = .agg (Bg.row 32 M)) (hN : N < Bg.lim) (hM : M < Bg.lim)
    (h : wpList Try.prog ops Q rest (a.put o.dst (.bool (if op = .eql then decide (N = M) else !decide (N = M)))) w) : wpList Try.prog ops Q (o :: rest) a w := by
  have hr := run_cmp_mag op N M hN hM x y w he
  refine wpList_plain hg fun _ hK => ?_
  unfold Oper.wp execOp
  simp only [Sem.run_bind] at hr
  simp only [ho, hx, hy, Sem.run_bind, hr, Result.andThen_ok, Sem.run_pure]
  exact hK _ _ h
/-- A region that draws: all but its last operations only read; the draw is one more in the world. -/
theorem still_tail {id : Nat} {Q : Exit → Act → World → Prop} {a : Act} {w : World} {l : List Oper} (n : Nat) (hB : Region.lexTailB .any l.toArray n = true)
    (h : ∀ w2 : World, Hid (w2 = w.drew) → wpStill Try.prog l.toArray w2 (fun a' => wpList Try.prog l.toArray Q (l.drop n) a' w2) (l.take n) a) : (Code.region id l.toArray true).wp Try.prog Q a w :=
  wp_region_still_tail n (by kernel_rfl) hB (h w.drew rfl)
section
variable {fn : Func} {P : Program} {w : World} {p q t u : Tmp} {ty ty2 : TypeId} {a b : Addr} {v v2 : Value}
theorem res_cell (h : fn.results = #[.cell p ty]) (tmps : Array Value) (hp : tmps.getD p undef = .pointer (some a)) (hl : (loadVar ty a).run P w = .ok v w) : (results fn tmps).run P w = .ok v w := by
  have hp' : tmps[p]?.getD undef = .pointer (some a) := by simpa using hp
  simp [results, h, hp', asAddr, hl]
theorem res_tmp_cell (h : fn.results = #[.tmp t, .cell p ty]) (tmps : Array Value) (hp : tmps.getD p undef = .pointer (some a)) (hl : (loadVar ty a).run P w = .ok v w) : (results fn tmps).run P w = .ok (.tuple #[tmps.getD t undef, v]) w := by
  have hp' : tmps[p]?.getD undef = .pointer (some a) := by simpa using hp
  simp [results, h, hp', asAddr, hl, Result.andThen]
theorem res_cell_tmp (h : fn.results = #[.cell p ty, .tmp t]) (tmps : Array Value) (hp : tmps.getD p undef = .pointer (some a)) (hl : (loadVar ty a).run P w = .ok v w) : (results fn tmps).run P w = .ok (.tuple #[v, tmps.getD t undef]) w := by
  have hp' : tmps[p]?.getD undef = .pointer (some a) := by simpa using hp
  simp [results, h, hp', asAddr, hl, Result.andThen]
theorem res_cell_cell (h : fn.results = #[.cell p ty, .cell q ty2]) (tmps : Array Value) (hp : tmps.getD p undef = .pointer (some a)) (hq : tmps.getD q undef = .pointer (some b)) (hl : (loadVar ty a).run P w = .ok v w) (hl2 : (loadVar ty2 b).run P w = .ok v2 w) : (results fn tmps).run P w = .ok (.tuple #[v, v2]) w := by
  have hp' : tmps[p]?.getD undef = .pointer (some a) := by simpa using hp
  have hq' : tmps[q]?.getD undef = .pointer (some b) := by simpa using hq
  simp [results, h, hp', hq', asAddr, hl, hl2, Result.andThen]
theorem res_cell_cell_tmp (h : fn.results = #[.cell p ty, .cell q ty2, .tmp t]) (tmps : Array Value) (hp : tmps.getD p undef = .pointer (some a)) (hq : tmps.getD q undef = .pointer (some b)) (hl : (loadVar ty a).run P w = .ok v w) (hl2 : (loadVar ty2 b).run P w = .ok v2 w) : (results fn tmps).run P w = .ok (.tuple #[v, v2, tmps.getD t undef]) w := by
  have hp' : tmps[p]?.getD undef = .pointer (some a) := by simpa using hp
  have hq' : tmps[q]?.getD undef = .pointer (some b) := by simpa using hq
  simp [results, h, hp', hq', asAddr, hl, hl2, Result.andThen]
end
theorem lv_mag {w : World} {b N : Nat} (hb : Blk w b (Bg.row 32 N)) : (loadVar 57 ⟨b, 0, none⟩).run Try.prog w = .ok (.agg (Bg.row 32 N)) w := by
  obtain ⟨t, hb⟩ := hb
  exact run_loadVar_row w b t _ _ _ _ hb und_mag rfl (by rw [Bg.row_size]; exact siz_mag)
theorem lv_arr {w : World} {b N : Nat} (hb : Blk w b (Bg.row 32 N)) : (loadVar 23 ⟨b, 0, none⟩).run Try.prog w = .ok (.agg (Bg.row 32 N)) w := by
  obtain ⟨t, hb⟩ := hb
  exact run_loadVar_row w b t _ _ _ _ hb und_arr rfl (by rw [Bg.row_size]; exact siz_arr)
theorem lv_int {w : World} {s : Bool} {b N : Nat} (hb : Blk w b (Bg.intA s N)) : (loadVar 25 ⟨b, 0, none⟩).run Try.prog w = .ok (.agg (Bg.intA s N)) w := by
  obtain ⟨t, hb⟩ := hb
  obtain ⟨fs, hu⟩ := und_int
  exact run_loadVar_row w b t _ _ _ _ hb hu rfl (by rw [Bg.intA_size]; exact siz_int)
theorem fill_at (l : List Value) : ∀ (k : Nat) (c : Array Value) (j : Nat), ((l.zipIdx k).foldl (fun (cs : Array Value) (x : Value × Nat) => cs.setIfInBounds (1 + x.snd) x.fst) c)[j]? =
    if k + 1 ≤ j ∧ j < k + 1 + l.length ∧ j < c.size then l[j - (k + 1)]? else c[j]? := by
  induction l with
  | nil => intro k c j; simp; omega
  | cons x l ih =>
    intro k c j
    rw [List.zipIdx_cons, List.foldl_cons, ih (k + 1)]
    simp only [Array.size_setIfInBounds, Array.getElem?_setIfInBounds, List.length_cons]
    by_cases h1 : j = k + 1
    · subst h1
      by_cases h2 : k + 1 < c.size
      · rw [if_neg (by omega), if_pos (by omega), if_pos (by omega), if_pos (by omega)]
        simp
      · rw [if_neg (by omega), if_pos (by omega), if_neg (by omega), if_neg (by omega)]
        rw [Array.getElem?_eq_none (by omega)]
    · by_cases h2 : k + 1 + 1 ≤ j ∧ j < k + 1 + 1 + l.length ∧ j < c.size
      · rw [if_pos h2, if_pos (by omega)]
        obtain ⟨d, rfl⟩ : ∃ d, j = k + 1 + 1 + d := ⟨j - (k + 2), by omega⟩
        rw [show k + 1 + 1 + d - (k + 1 + 1) = d from by omega, show k + 1 + 1 + d - (k + 1) = d + 1 from by omega]
        simp
      · rw [if_neg h2]
        by_cases h3 : k + 1 ≤ j ∧ j < k + 1 + (l.length + 1) ∧ j < c.size
        · omega
        · rw [if_neg h3, if_neg (by omega)]
theorem fill_int (s : Bool) (N : Nat) : Array.foldl (fun (cs : Array Value) (x : Value × Nat) => cs.setIfInBounds (1 + x.snd) x.fst) ((Bg.intA false 0).setIfInBounds 0 (Value.bool s)) (Bg.row 32 N).zipIdx 0 32 = Bg.intA s N := by
  have e : (Bg.row 32 N).zipIdx = ((Bg.lims 32 N).zipIdx 0).toArray := by simp [Bg.row]
  have hs : (Bg.row 32 N).zipIdx.size = 32 := by simp [Bg.row_size]
  have h32 : Array.foldl (fun (cs : Array Value) (x : Value × Nat) => cs.setIfInBounds (1 + x.snd) x.fst) ((Bg.intA false 0).setIfInBounds 0 (Value.bool s)) (Bg.row 32 N).zipIdx 0 32 = Array.foldl (fun (cs : Array Value) (x : Value × Nat) => cs.setIfInBounds (1 + x.snd) x.fst) ((Bg.intA false 0).setIfInBounds 0 (Value.bool s)) (Bg.row 32 N).zipIdx := by rw [hs]
  rw [h32, e, List.foldl_toArray]
  apply Array.ext_getElem?
  intro j
  rw [fill_at]
  simp only [Bg.lims_length, Array.size_setIfInBounds, Bg.intA_size]
  match j with
  | 0 => simp [Bg.intA]
  | j + 1 =>
    by_cases hj : j < 32
    · rw [if_pos (by omega), Bg.intA_at s N j hj, show j + 1 - (0 + 1) = j from by omega, Bg.lims_at 32 N j hj]
    · rw [if_neg (by omega), Array.getElem?_eq_none (by simp [Bg.intA_size]; omega), Array.getElem?_eq_none (by rw [Bg.intA_size]; omega)]
theorem alloc_size (w : World) (o : Obj) : (w.alloc o).heap.size = w.heap.size + 1 := by simp
theorem intA_ne (s : Bool) (N : Nat) : (Bg.intA s N = #[]) = False := by
  simp [Bg.intA]
set_option maxHeartbeats 1000000 in
theorem made_any (s : Bool) (N : Nat) (hN : N < Bg.lim) (w : World) :
    Calls Try.prog 48 #[.bool s, Bg.magV N] w fun e w' => e = .returned (Bg.intV (s && decide (N ≠ 0)) N) ∧ Below w.heap.size w w' := by
  unfold Bg.magV Bg.intV
  have hz := Bg.zero32
  have hzi := Bg.zeroInt
  go_enter Try.func48, Try.ntmps48
  go_wp2_with fail
  have HB := Lib.hid ((Blk.new w (Bg.row 32 N) 57).alloc (.cells (Bg.intA false 0) 25))
  have HR := Lib.hid (Blk.new (w.alloc (.cells (Bg.row 32 N) 57)) (Bg.intA false 0) 25)
  have HL := Lib.hid ((below_new w (.cells (Bg.row 32 N) 57)).alloc (by simp) (.cells (Bg.intA false 0) 25))
  rw [alloc_size] at HR
  generalize (w.alloc (.cells (Bg.row 32 N) 57)).alloc (.cells (Bg.intA false 0) 25) = w1 at HB HR HL ⊢
  have hn := intA_ne false 0
  have hs1 := Bg.row_size 32 N
  have hs2 := Bg.intA_size false 0
  have hf := fun s => fill_int s N
  have HR2 := Lib.hid (fun w2 (h : Hid (w2 = w1.drew)) => (show Blk w2 (w.heap.size + 1) (Bg.intA false 0) from h.out ▸ HR.out))
  cases s with
  | false =>
    refine still_tail 8 (by kernel_rfl) (fun w2 H2 => ?_)
    simp only [List.take_succ_cons, List.take_zero, List.drop_succ_cons, List.drop_zero]
    iterate 6 still_step
    refine wpStill_step (fun K hK => ?_)
    refine sl_mag N (by kernel_rfl) _ rfl _ rfl (H2.out ▸ HB.out) ?_
    refine hK _ ?_
    clear hK K
    still_step
    refine wpStill_nil ?_
    refine st_int false N _ rfl _ _ rfl _ rfl rfl (HR2.out _ H2) hs2 ?_
    have HF := Lib.hid ((HR2.out _ H2).setRow (Bg.intA false N))
    have HG := Lib.hid (below_setRow (show Below w.heap.size w w2 from H2.out ▸ HL.out.drew) (g := w.heap.size + 1) (by omega) (Bg.intA false N))
    generalize w2.setRow (w.heap.size + 1) (Bg.intA false N) = w3 at HF HG ⊢
    go_wp2_with fail
    refine bodyPost_ret (res_cell rfl _ rfl (lv_int HF.out)) rfl ⟨by simp, HG.out⟩
  | true =>
    refine still_tail 8 (by kernel_rfl) (fun w2 H2 => ?_)
    simp only [List.take_succ_cons, List.take_zero, List.drop_succ_cons, List.drop_zero]
    iterate 2 still_step
    refine wpStill_step (fun K hK => ?_)
    refine sl_mag N (by kernel_rfl) _ rfl _ rfl (H2.out ▸ HB.out) ?_
    refine hK _ ?_
    clear hK K
    still_step
    refine wpStill_step (fun K hK => ?_)
    refine sl_neq N 0 (by kernel_rfl) _ _ _ rfl rfl rfl hN (Bg.ppos 32) ?_
    refine hK _ ?_
    clear hK K
    still_step
    refine wpStill_step (fun K hK => ?_)
    refine sl_mag N (by kernel_rfl) _ rfl _ rfl (H2.out ▸ HB.out) ?_
    refine hK _ ?_
    clear hK K
    still_step
    refine wpStill_nil ?_
    refine st_int (!decide (N = 0)) N _ rfl _ _ rfl _ rfl rfl (HR2.out _ H2) hs2 ?_
    have HF := Lib.hid ((HR2.out _ H2).setRow (Bg.intA (!decide (N = 0)) N))
    have HG := Lib.hid (below_setRow (show Below w.heap.size w w2 from H2.out ▸ HL.out.drew) (g := w.heap.size + 1) (by omega) (Bg.intA (!decide (N = 0)) N))
    generalize w2.setRow (w.heap.size + 1) (Bg.intA (!decide (N = 0)) N) = w3 at HF HG ⊢
    go_wp2_with fail
    refine bodyPost_ret (res_cell rfl _ rfl (lv_int HF.out)) rfl ⟨by simp, HG.out⟩
end Go.Proofs.Ytbkbfgedlfbbiaa
