/- Walks. -/
import Derived.Deep.CutBlock
import Derived.Test.YtiekmabiecalbaaGreatDoorPa04
import Derived.Test.YtiekmabiecalbaaGreatDoorPa08
namespace Go.Proofs.YtiekmabiecalbaaGreatDoor
set_option maxHeartbeats 16000000
open Go.RowKit
set_option maxRecDepth 8000
section
theorem z9_23 {P : Prop} (h : P := by
 go_enter Tryz.func17, Tryz.ntmps17
 go_wp2
 go_ret
 exact ⟨0, rfl, by omega, by omega, rfl⟩) : P := h
theorem z9_24 {P : Prop} (h : P := by
 go_wp2
 go_quiet (fail)
 go_wp2_with (go_at_call 17; refine (fold_any _ n _ h0 h1).mono ?_; rintro e w' ⟨v, rfl, v0, v1, rfl⟩)
 go_ret
 exact ⟨v, rfl, v0, v1, HS.out _⟩) : P := h
theorem z9_25 {P : Prop} (h : P := by
 refine start_M [] HM Zk (fun w0x H9 => ?_)
 replace HM := H9; clear H9
 refine k_mv 0 (heldE HM) ?_
 refine k_ia 1 (heldE HM) ?_
 refine k_ld 2 [] (heldE HM) ?_
 refine k_mv 3 (heldE HM) ?_
 refine k_ia 4 (heldE HM) ?_
 refine k_ld 5 [] (heldE HM) ?_
 refine k_bin 6 (heldE HM) ?_
 refine wpAnyL_done Zk ?_ _
 go_wp2_with fail
 go_ret
 exact ⟨by rw [hg.out, HR.out]; rfl, HM.low⟩) : P := h
theorem z9_26 {P : Prop} (h : P := by
 go_enter Tryz.func87, Tryz.ntmps87
 go_upto_region 4 with (first | ((with_reducible refine g_ld ?_); refine a_ld HM ?_) | ((with_reducible refine g_st ?_); refine a_st HM ?_; clear HM; intro w1 HM) | ((with_reducible refine g_al ?_); refine a_al HM ?_; clear HM; intro bk w1 HM))
 go_upto_region 5 with (first | ((with_reducible refine g_ld ?_); refine a_ld HM ?_) | ((with_reducible refine g_st ?_); refine a_st HM ?_; clear HM; intro w1 HM) | ((with_reducible refine g_al ?_); refine a_al HM ?_; clear HM; intro bk w1 HM))
 simp only [← zA_zero] at HM
 go_wp2_with (first | ((with_reducible refine g_ld ?_); refine a_ld HM ?_) | ((with_reducible refine g_st ?_); refine a_st HM ?_; clear HM; intro w1 HM) | ((with_reducible refine g_al ?_); refine a_al HM ?_; clear HM; intro bk w1 HM))
 obtain ⟨br, rfl⟩ := HM.nm1
 rw [hfin.out] at HM
 refine bodyPost_ret (r_c (b := br) (k := 0) rfl rfl (HM.get Zl) (la_z _)) rfl ⟨?_, HM.low⟩
 simp [Bg.toZ]) : P := h
theorem z9_27 {P : Prop} (h : P := by
 refine bodyPost_ret (r_c rfl rfl (HM.get Zl) (la_z _)) rfl ⟨rfl, HM.low⟩) : P := h
theorem z9_28 {P : Prop} (h : P := by
 rw [if_neg (by rw [ratA_size]; omega), Array.getElem?_eq_none (by rw [Bg.intA_size]; omega)]) : P := h
theorem z9_29 {P : Prop} (h : P := by
 induction l with
 | nil => intro c; rfl
 | cons x l ih => intro c; rw [List.foldl_cons, ih, Array.size_setIfInBounds]) : P := h
theorem z9_30 {P : Prop} (h : P := by
 rw [← hv] at hr
 unfold execOp
 simp only [Sem.run_bind] at hr
 simp only [ho, hx, hy, Sem.run_bind, hr, Result.andThen_ok, Sem.run_pure]) : P := h
end
section
theorem zA_size (z : Int) : (Bg.zA z).size = 33 := by rw [zA_int]; exact Bg.intA_size _ _
theorem zA_one (z : Int) : (Bg.zA z).all (·.oneCell') = true := by rw [zA_int]; exact Bg.intA_one _ _
theorem sT_int : sizT 33 = some 33 := by kernel_rfl
theorem sT_mag : sizT 167 = some 32 := by kernel_rfl
theorem sT_arr : sizT 31 = some 32 := by kernel_rfl
theorem la_z (z : Int) : LA 33 (Bg.zA z) 0 (.agg (Bg.zA z)) := LA.whole Zk (by rw [zA_size]; exact sT_int)
theorem la_i (s : Bool) (N : Nat) : LA 33 (Bg.intA s N) 0 (.agg (Bg.intA s N)) := LA.whole Zk (by rw [Bg.intA_size]; exact sT_int)
theorem la_mag (N : Nat) : LA 167 (Bg.row 32 N) 0 (.agg (Bg.row 32 N)) := LA.whole Zk (by rw [Bg.row_size]; exact sT_mag)
theorem la_arr (N : Nat) : LA 31 (Bg.row 32 N) 0 (.agg (Bg.row 32 N)) := LA.whole Zk (by rw [Bg.row_size]; exact sT_arr)
theorem la_fld (s : Bool) (N : Nat) : LA 31 (Bg.intA s N) 1 (.agg (Bg.row 32 N)) := LA.mid (n := 32) Zk sT_arr (by rw [Bg.intA_size]; omega) (intA_mag s N)
theorem la_neg (s : Bool) (N : Nat) : LA 4 (Bg.intA s N) 0 (.bool s) := LA.one Zk (Bg.intA_neg s N)
theorem la_lim (N i : Nat) (h : i < 32) : LA 30 (Bg.row 32 N) i (.int .u32 (Bg.limb N i : Nat)) := LA.one Zk (Bg.row_at 32 N i h)
theorem la_limi (s : Bool) (N i : Nat) (h : i < 32) : LA 30 (Bg.intA s N) (1 + i) (.int .u32 (Bg.limb N i : Nat)) := LA.one Zk (by rw [Nat.add_comm]; exact Bg.intA_at s N i h)
theorem sa_z (z : Int) {c : Array Value} (h : c.size = 33) : SA 33 c 0 (.agg (Bg.zA z)) (Bg.zA z) := SA.whole (by rw [zA_size]; exact sT_int) (zA_one z) (by rw [zA_size, h])
theorem sa_i (s : Bool) (N : Nat) {c : Array Value} (h : c.size = 33) : SA 33 c 0 (.agg (Bg.intA s N)) (Bg.intA s N) := SA.whole (by rw [Bg.intA_size]; exact sT_int) (Bg.intA_one s N) (by rw [Bg.intA_size, h])
theorem sa_mag (N : Nat) {c : Array Value} (h : c.size = 32) : SA 167 c 0 (.agg (Bg.row 32 N)) (Bg.row 32 N) := SA.whole (by rw [Bg.row_size]; exact sT_mag) (Bg.row_one 32 N) (by rw [Bg.row_size, h])
theorem sa_arr (N : Nat) {c : Array Value} (h : c.size = 32) : SA 31 c 0 (.agg (Bg.row 32 N)) (Bg.row 32 N) := SA.whole (by rw [Bg.row_size]; exact sT_arr) (Bg.row_one 32 N) (by rw [Bg.row_size, h])
theorem intA_set0 (s t : Bool) (N : Nat) : (Bg.intA s N).setIfInBounds 0 (.bool t) = Bg.intA t N := by
 apply Array.ext_getElem?
 intro j
 rw [Array.getElem?_setIfInBounds]
 match j with
 | 0 => rw [if_pos rfl, if_pos (by rw [Bg.intA_size]; omega), Bg.intA_neg]
 | j + 1 =>
  rw [if_neg Zo]
  by_cases hj : j < 32
  ·rw [Bg.intA_at s N j hj, Bg.intA_at t N j hj]
  ·rw [Array.getElem?_eq_none (by rw [Bg.intA_size]; omega), Array.getElem?_eq_none (by rw [Bg.intA_size]; omega)]
theorem intA_setL (s : Bool) (N i x : Nat) (hx : x < 4294967296) : (Bg.intA s N).setIfInBounds (1 + i) (.int .u32 (x : Nat)) = Bg.intA s (Bg.setL N i x) := by
 apply Array.ext_getElem?
 intro j
 rw [Array.getElem?_setIfInBounds]
 match j with
 | 0 => rw [if_neg Zo, Bg.intA_neg, Bg.intA_neg]
 | j + 1 =>
  by_cases hj : j < 32
  ·rw [Bg.intA_at s N j hj, Bg.intA_at s _ j hj, Bg.intA_size]
   by_cases e : j = i
   ·subst e; rw [if_pos Zo, if_pos Zo]; simp [Bg.lv, Bg.setL_limb _ _ _ _ hx]
   ·rw [if_neg Zo]; simp [Bg.lv, Bg.setL_limb _ _ _ _ hx, e]
  ·rw [Array.getElem?_eq_none (by rw [Bg.intA_size]; omega), Array.getElem?_eq_none (by rw [Bg.intA_size]; omega), Bg.intA_size]
   by_cases e : 1 + i = j + 1
   ·rw [if_pos e, if_neg Zo]
   ·rw [if_neg e]
theorem sa_neg (s t : Bool) (N : Nat) : SA 4 (Bg.intA s N) 0 (.bool t) (Bg.intA t N) := by
 have h := SA.one (T := 4) (c := Bg.intA s N) (k := 0) (v := .bool t) Zk rfl (by rw [Bg.intA_size]; omega)
 rwa [intA_set0] at h
theorem sa_lim (N i x : Nat) (hx : x < 4294967296) (hi : i < 32) : SA 30 (Bg.row 32 N) i (.int .u32 (x : Nat)) (Bg.row 32 (Bg.setL N i x)) := by
 have h := SA.one (T := 30) (c := Bg.row 32 N) (k := i) (v := .int .u32 (x : Nat)) Zk rfl (by rw [Bg.row_size]; exact hi)
 rwa [Bg.row_set 32 N i x hx] at h
theorem sa_limi (s : Bool) (N i x : Nat) (hx : x < 4294967296) (hi : i < 32) : SA 30 (Bg.intA s N) (1 + i) (.int .u32 (x : Nat)) (Bg.intA s (Bg.setL N i x)) := by
 have h := SA.one (T := 30) (c := Bg.intA s N) (k := 1 + i) (v := .int .u32 (x : Nat)) Zk rfl (by rw [Bg.intA_size]; omega)
 rwa [intA_setL s N i x hx] at h
theorem za_int : ZA 33 (Bg.zA 0) := ⟨.agg (Bg.zA 0), rfl, fun w => by rw [← zA_zero, ← Bg.zeroInt]; kernel_rfl⟩
theorem za_mag : ZA 167 (Bg.row 32 0) := ⟨.agg (Bg.row 32 0), rfl, fun w => by rw [← Bg.zero32]; kernel_rfl⟩
theorem za_arr : ZA 31 (Bg.row 32 0) := ⟨.agg (Bg.row 32 0), rfl, fun w => by rw [← Bg.zero32]; kernel_rfl⟩
section
variable {fn : Func} {P : Program} {w : World} {p q t u x : Tmp} {T T2 T3 : TypeId} {b b2 b3 k k2 k3 : Nat} {c c2 c3 : Array Value} {v v2 v3 : Value}
theorem r_c (h : fn.results = #[.cell p T]) {tmps : Array Value} (hp : tmps.getD p undef = .pointer (some ⟨b, k, none⟩)) (hb : Blk w b c) (hv : LA T c k v) : (results fn tmps).run Tryz.prog w = .ok v w := res_cell h tmps hp (hv w b hb.rbk)
theorem r_ct (h : fn.results = #[.cell p T, .tmp t]) {tmps : Array Value} (hp : tmps.getD p undef = .pointer (some ⟨b, k, none⟩)) (hb : Blk w b c) (hv : LA T c k v) : (results fn tmps).run Tryz.prog w = .ok (.tuple #[v, tmps.getD t undef]) w := res_cell_tmp h tmps hp (hv w b hb.rbk)
theorem r_cc (h : fn.results = #[.cell p T, .cell q T2]) {tmps : Array Value} (hp : tmps.getD p undef = .pointer (some ⟨b, k, none⟩)) (hq : tmps.getD q undef = .pointer (some ⟨b2, k2, none⟩)) (hb : Blk w b c) (hv : LA T c k v) (hb2 : Blk w b2 c2) (hv2 : LA T2 c2 k2 v2) : (results fn tmps).run Tryz.prog w = .ok (.tuple #[v, v2]) w := res_cell_cell h tmps hp hq (hv w b hb.rbk) (hv2 w b2 hb2.rbk)
theorem r_cct (h : fn.results = #[.cell p T, .cell q T2, .tmp t]) {tmps : Array Value} (hp : tmps.getD p undef = .pointer (some ⟨b, k, none⟩)) (hq : tmps.getD q undef = .pointer (some ⟨b2, k2, none⟩)) (hb : Blk w b c) (hv : LA T c k v) (hb2 : Blk w b2 c2) (hv2 : LA T2 c2 k2 v2) : (results fn tmps).run Tryz.prog w = .ok (.tuple #[v, v2, tmps.getD t undef]) w := res_cell_cell_tmp h tmps hp hq (hv w b hb.rbk) (hv2 w b2 hb2.rbk)
end
theorem run_build_int (s : Bool) (N : Nat) (w : World) : (Instr.build 33 #[(0, .bool s), (1, .agg (Bg.row 32 N))]).run Tryz.prog w = .ok (.agg (Bg.intA s N)) w := by
 have hf := fill_int s N
 have hz := Bg.zeroInt
 have hs1 := Bg.row_size 32 N
 have hs2 := Bg.intA_size false 0
 have hz2 : ∀ w, (zeroValue 33).run Tryz.prog w = .ok (.agg (Bg.intA false 0)) w := fun w => by rw [← Bg.zeroInt]; kernel_rfl
 clear hz
 have hn := intA_ne false 0
 simp [Instr.build, hz2, go_sem, hs1, hs2, hf, Instr.fill, Value.cells, hn]
section
variable {ops : Array Oper} {rest : List Oper} {o : Oper} {a : Act} {w : World} {Q : Exit → Act → World → Prop}
theorem h_bi {x y : Operand} {s : Bool} {N : Nat} (ho : o.op = .build 33 #[(0, x), (1, y)]) (hx : a.eval x = .bool s) (hy : a.eval y = .agg (Bg.row 32 N)) : ∀ w, (execOp a.eval o).run Tryz.prog w = .ok (.value (.agg (Bg.intA s N))) w := fun w => by
 unfold execOp
 simp only [ho, Sem.run_bind, List.map_toArray, List.map_cons, List.map_nil, hx, hy, run_build_int, Result.andThen_ok, Sem.run_pure]
theorem m_bld {d : Option Tmp} {ty : TypeId} {ps : String} {af : Array Edge} {g : Option (Nat × Bool)} {T : TypeId} {xs : Array (Nat × Operand)} {v : Value} (hw : WantT ops { dst := d, op := .build T xs, type := ty, pos := ps, after := af, guard := g } a) (hy : ∀ w, (execOp a.eval { dst := d, op := .build T xs, type := ty, pos := ps, after := af, guard := g }).run Tryz.prog w = .ok (.value v) w)
    (h : wpList Tryz.prog ops Q rest (a.put d v) w) : wpList Tryz.prog ops Q ({ dst := d, op := .build T xs, type := ty, pos := ps, after := af, guard := g } :: rest) a w := by
 refine wpList_step fun K hK => ?_
 rw [if_pos hw.wanted]
 unfold Oper.wp
 rw [hy]
 exact hK _ _ h
end
theorem m_cmpz (op : BinOp) (p d2 : Int) (v : Bool) (he : op = .eql ∨ op = .neq) (hv : v = if op = .eql then decide (p = d2) else !decide (p = d2)) (hp : p.natAbs < Bg.lim) (hd : d2.natAbs < Bg.lim) {ops : Array Oper} {rest : List Oper} {a : Act} {w : World} {Q : Exit → Act → World → Prop} {x y : Operand} {t : TypeId} {d : Option Tmp} {ty : TypeId} {ps : String} {af : Array Edge} {g : Option (Nat × Bool)} (hw : WantT ops { dst := d, op := .binOp op 33 x y t, type := ty, pos := ps, after := af, guard := g } a) (hx : a.eval x = .agg (Bg.zA p)) (hy : a.eval y = .agg (Bg.zA d2))
    (h : wpList Tryz.prog ops Q rest (a.put d (.bool v)) w) : wpList Tryz.prog ops Q ({ dst := d, op := .binOp op 33 x y t, type := ty, pos := ps, after := af, guard := g } :: rest) a w :=
 gls_cmpz op p d2 v he hv hp hd hw.wanted x y t rfl hx hy h
section
variable {ops : Array Oper} {rest : List Oper} {a a2 : Act} {w : World} {Q : Exit → Act → World → Prop} {d : Option Tmp} {ty T t : TypeId} {ps : String} {af : Array Edge} {g : Option (Nat × Bool)} {x y : Operand} {v : Value} {xs : Array (Nat × Operand)} {bop : BinOp}
theorem g_bld (h : OpG ops Q rest a w { dst := d, op := .build T xs, type := ty, pos := ps, after := af, guard := g }) : wpList Tryz.prog ops Q ({ dst := d, op := .build T xs, type := ty, pos := ps, after := af, guard := g } :: rest) a w := h
theorem g_bin (h : OpG ops Q rest a w { dst := d, op := .binOp bop T x y t, type := ty, pos := ps, after := af, guard := g }) : wpList Tryz.prog ops Q ({ dst := d, op := .binOp bop T x y t, type := ty, pos := ps, after := af, guard := g } :: rest) a w := h
theorem a_bld (h : wpList Tryz.prog ops Q rest a2 w) (hw : WantT ops { dst := d, op := .build T xs, type := ty, pos := ps, after := af, guard := g } a := by first | exact Or.inl rfl | exact Or.inr ⟨_, _, _, rfl, rfl, rfl⟩) (hy : ∀ w, (execOp a.eval { dst := d, op := .build T xs, type := ty, pos := ps, after := af, guard := g }).run Tryz.prog w = .ok (.value v) w := by (first | (refine h_bi (x := ?_) (y := ?_) (s := ?_) (N := ?_) ?_ ?_ ?_; rotate_left 4; (focus rfl); (focus rfl); (focus rfl)) | (refine h_b0 ?_; rfl))) (ha : a.put d v = a2 := by ((try simp only [Act.put, Za, Zx, Zy]) <;> rfl)) : OpG ops Q rest a w { dst := d, op := .build T xs, type := ty, pos := ps, after := af, guard := g } := m_bld hw hy (ha ▸ h)
theorem a_cmpz (op : BinOp) (p d2 : Int) (v : Bool) (he : op = .eql ∨ op = .neq) (hv : v = if op = .eql then decide (p = d2) else !decide (p = d2)) (hp : p.natAbs < Bg.lim) (hd : d2.natAbs < Bg.lim) (h : wpList Tryz.prog ops Q rest a2 w) (hw : WantT ops { dst := d, op := .binOp op 33 x y t, type := ty, pos := ps, after := af, guard := g } a := by first | exact Or.inl rfl | exact Or.inr ⟨_, _, _, rfl, rfl, rfl⟩) (hx : a.eval x = .agg (Bg.zA p) := by (conv => lhs; whnf) <;> rfl) (hy : a.eval y = .agg (Bg.zA d2) := by (conv => lhs; whnf) <;> rfl) (ha : a.put d (.bool v) = a2 := by ((try simp only [Act.put, Za, Zx, Zy]) <;> rfl)) : OpG ops Q rest a w { dst := d, op := .binOp op 33 x y t, type := ty, pos := ps, after := af, guard := g } := m_cmpz op p d2 v he hv hp hd hw hx hy (ha ▸ h)
end
end
section
theorem zero_as (N : Nat) (t : Bool) (hN : N < Bg.lim) (h : t = decide (N = 0)) (w : World) :
    Calls Tryz.prog 171 #[.agg (Bg.row 32 N)] w fun e w' => e = .returned (.bool t) ∧ Below w.heap.size w w' := by
 subst h; exact zero_any N hN w
set_option maxRecDepth 20000 in
theorem rcanon_any (s : Bool) (N : Nat) (z : Int) (hN : N < Bg.lim) (hz : Hid (z = Bg.toZ s N)) (w : World) :
    Calls Tryz.prog 173 #[.bool s, .agg (Bg.row 32 N)] w fun e w' => e = .returned (.agg (Bg.zA z)) ∧ Below w.heap.size w w' := by
 have HM := Mem.start w
 obtain ⟨t, ht⟩ := Zh (decide (N = 0))
 obtain ⟨u, hu⟩ := Zh ((s && !t))
 have hz2 : Hid (Bg.intA u N = Bg.zA z) := Zi (by
  rw [hz.out, zA_int, hu.out, ht.out]
  have h1 : ¬ ((N : Int) < 0) := by omega
  have h2 : (0 < N) = ¬ N = 0 := by simp; omega
  cases s <;> by_cases h : N = 0 <;> simp [Bg.toZ, h, h1, h2])
 cases s with
 | false =>
  obtain rfl : u = false := hu.out
  go_enter Tryz.func173, Tryz.ntmps173
  go_wp2_with (first | ((with_reducible refine g_ld ?_); refine a_ld HM ?_) | ((with_reducible refine g_st ?_); refine a_st HM ?_; clear HM; intro w1 HM) | ((with_reducible refine g_al ?_); refine a_al HM ?_; clear HM; intro bk w1 HM) | ((with_reducible refine g_bx ?_); refine a_bx HM ?_; clear HM; intro bk w1 HM) | ((with_reducible refine g_bld ?_); refine a_bld ?_))
  refine start_M [8] HM Zk (fun w0x H9 => ?_)
  replace HM := H9; clear H9
  refine k_mv 0 (heldE HM) ?_
  refine k_mv 1 (heldE HM) ?_
  refine k_off 2 (heldE HM) ?_
  refine k_off 3 (heldE HM) ?_
  refine k_off 4 (heldE HM) ?_
  refine k_pick 5 (heldE HM) ?_
  refine k_ld 6 [7, 8] (heldE HM) ?_
  refine k_bld 7 (heldE HM) ?_
  refine j_one 8 fun K9 hK9 => ?_
  refine j_st HM ?_; clear HM; intro w1 HM
  refine hK9 _ _ heldN ?_; clear hK9 K9
  refine wpAnyL_done Zk ?_ _
  go_wp2_with (first | ((with_reducible refine g_ld ?_); refine a_ld HM ?_) | ((with_reducible refine g_st ?_); refine a_st HM ?_; clear HM; intro w1 HM) | ((with_reducible refine g_al ?_); refine a_al HM ?_; clear HM; intro bk w1 HM) | ((with_reducible refine g_bx ?_); refine a_bx HM ?_; clear HM; intro bk w1 HM) | ((with_reducible refine g_bld ?_); refine a_bld ?_))
  rw [hz2.out] at HM
  refine bodyPost_ret (r_c rfl rfl (HM.get Zl) (la_z _)) rfl ⟨rfl, HM.low⟩
 | true =>
  obtain rfl : u = !t := hu.out
  go_enter Tryz.func173, Tryz.ntmps173
  go_wp2_with (first | ((with_reducible refine g_ld ?_); refine a_ld HM ?_) | ((with_reducible refine g_st ?_); refine a_st HM ?_; clear HM; intro w1 HM) | ((with_reducible refine g_al ?_); refine a_al HM ?_; clear HM; intro bk w1 HM) | ((with_reducible refine g_bx ?_); refine a_bx HM ?_; clear HM; intro bk w1 HM) | ((with_reducible refine g_bld ?_); refine a_bld ?_))
  refine start_M [8] HM Zk (fun w0x H9 => ?_)
  replace HM := H9; clear H9
  refine k_mv 0 (heldE HM) ?_
  refine k_mv 1 (heldE HM) ?_
  refine k_ld 2 [3, 4, 5, 7, 8] (heldE HM) ?_
  refine k_ld 6 [7, 8] (heldE HM) ?_
  refine j_one 3 fun K9 hK9 => ?_
  refine j_call1 (v := ?_) HM ?_ ?_; rotate_left 1; (focus (with_reducible (exact zero_as N t hN ht.out _))); clear HM; intro w1 HM
  refine hK9 _ _ (heldE HM) ?_; clear hK9 K9
  refine k_not 4 (heldE HM) ?_
  refine k_pick 5 (heldE HM) ?_
  refine k_bld 7 (heldE HM) ?_
  refine j_one 8 fun K9 hK9 => ?_
  refine j_st HM ?_; clear HM; intro w1 HM
  refine hK9 _ _ heldN ?_; clear hK9 K9
  refine wpAnyL_done Zk ?_ _
  go_wp2_with (first | ((with_reducible refine g_ld ?_); refine a_ld HM ?_) | ((with_reducible refine g_st ?_); refine a_st HM ?_; clear HM; intro w1 HM) | ((with_reducible refine g_al ?_); refine a_al HM ?_; clear HM; intro bk w1 HM) | ((with_reducible refine g_bx ?_); refine a_bx HM ?_; clear HM; intro bk w1 HM) | ((with_reducible refine g_bld ?_); refine a_bld ?_))
  rw [hz2.out] at HM
  refine bodyPost_ret (r_c rfl rfl (HM.get Zl) (la_z _)) rfl ⟨rfl, HM.low⟩
end
section
def TapeC (W : World) (m : Nat) (cs : Array Value) : Prop := ∃ (L : Option Addr) (xs : List Int) (c : Nat) (at_ : Int), cs = #[.slice L xs.length c, .int .i64 at_] ∧ 0 ≤ at_ ∧ at_ ≤ m ∧ IntsAt W L xs ∧ xs.length ≤ 9223372036854775807
theorem TapeC.mono {W : World} {m m' : Nat} {cs : Array Value} (h : TapeC W m cs) (hm : m ≤ m') : TapeC W m' cs := by
 obtain ⟨L, xs, c, a, h1, h2, h3, h4⟩ := h
 exact ⟨L, xs, c, a, h1, h2, by omega, h4⟩
def Tp (W : World) (tb m : Nat) (w : World) : Prop := ∃ cs, Blk w tb cs ∧ TapeC W m cs ∧ Below W.heap.size W w ∧ W.heap.size ≤ tb
theorem Tp.mono {W w : World} {tb m m' : Nat} (h : Tp W tb m w) (hm : m ≤ m') : Tp W tb m' w := by
 obtain ⟨cs, h1, h2, h3⟩ := h; exact ⟨cs, h1, h2.mono hm, h3⟩
theorem Mem.tp {W w0 w : World} {X : List Nat} {L : List (Nat × Array Value)} {tb m : Nat} {cs : Array Value} (HM : Mem w0 X L w) (hl : Look L tb cs) (hc : TapeC W m cs) (h0 : Below W.heap.size W w0) (hX : ∀ b ∈ X, W.heap.size ≤ b) : Tp W tb m w := by
 have hb := HM.get hl
 refine ⟨cs, hb, hc, ⟨HM.only.os.trans h0.os, HM.only.tape.trans h0.tape, HM.only.output.trans h0.output, Nat.le_trans h0.size HM.only.size, fun k hk => ?_⟩, ?_⟩
 ·exact (HM.only.block k (Nat.lt_of_lt_of_le hk h0.size) (fun e => absurd (hX k e) Zo)).trans (h0.block k hk)
 ·rcases HM.own _ hl.mem with h | h
  ·exact Nat.le_trans h0.size h
  ·exact hX _ h
theorem Mem.done {W w0 w : World} {L : List (Nat × Array Value)} {tb m : Nat} {cs : Array Value} (HM : Mem w0 [tb] L w) (hl : Look L tb cs) (hc : TapeC W m cs) (h0 : Below W.heap.size W w0) (ht : W.heap.size ≤ tb) : Tp W tb m w ∧ w0.grownBy w (some tb) :=
 ⟨HM.tp hl hc h0 (by simpa using ht), ⟨HM.only.os, HM.only.tape, HM.only.output, HM.only.size, fun k hk hn => HM.only.block k hk (by simpa using hn)⟩⟩
theorem only_grown {a w : World} {tb : Nat} (h : Only [tb] a w) : a.grownBy w (some tb) := ⟨h.os, h.tape, h.output, h.size, fun k hk hn => h.block k hk (by simpa using hn)⟩
theorem turn_trans {a b c : World} {tb : Nat} (h : a.grownBy b (some tb)) (k : b.grownBy c (some tb)) : a.grownBy c (some tb) :=
 ⟨k.os.trans h.os, k.tape.trans h.tape, k.output.trans h.output, Nat.le_trans h.size k.size, fun i hi hne => (k.block i (Nat.lt_of_lt_of_le hi h.size) hne).trans (h.block i hi hne)⟩
theorem turn_below {a b : World} {tb : Nat} (h : Below a.heap.size a b) : a.grownBy b (some tb) := ⟨h.os, h.tape, h.output, h.size, fun i hi _ => h.block i hi⟩
theorem turn_cell {a b : World} {tb : Nat} (h : a.grownBy b (some tb)) : (∀ q o, q < a.heap.size → q ≠ tb → b.cell? ⟨q, o, none⟩ = a.cell? ⟨q, o, none⟩) ∧ (∀ q o, q < a.heap.size → q ≠ tb → b.frozen? ⟨q, o, none⟩ = a.frozen? ⟨q, o, none⟩) :=
 ⟨fun q o hq hne => World.cell?_of_block (h.block q hq (by simpa using hne)), fun q o hq hne => World.frozen?_of_block (h.block q hq (by simpa using hne))⟩
theorem IntsAt.turn {w w' : World} {tb : Nat} {A : Option Addr} {hs : List Int} (h : IntsAt w A hs) (hg : w.grownBy w' (some tb)) (hne : ∀ b o, A = some ⟨b, o, none⟩ → b ≠ tb) : IntsAt w' A hs := by
 rcases h with h | ⟨b, off, hA, hlt, hc⟩
 ·exact .inl h
 ·exact .inr ⟨b, off, hA, Nat.lt_of_lt_of_le hlt hg.size, fun j hj => ((turn_cell hg).1 b (off + j) hlt (hne b off hA)).trans (hc j hj)⟩
def FoldPost (n : Int) (w : World) (e : Ending) (w' : World) : Prop := ∃ v : Int, e = .returned (.int .i64 v) ∧ 0 ≤ v ∧ v < n ∧ w = w'
theorem fold_any (v n : Int) (w : World) (h0 : 1 ≤ n) (h1 : n ≤ 4611686018427387904) :
    Calls Tryz.prog 17 #[.int .i64 v, .int .i64 n] w (FoldPost n w) := by
 by_cases e : n = 1
 ·subst e
  exact z9_23
 ·have hn : ¬ n ≤ 1 := by omega
  clear e
  by_cases hv : 0 ≤ v
  ·have hb : v.tmod n = v % n := Int.tmod_eq_emod_of_nonneg hv
   have q0 := Int.emod_nonneg v (show n ≠ 0 by omega)
   have q1 := Int.emod_lt_of_pos v (show 0 < n by omega)
   obtain ⟨q, hq⟩ : ∃ q, q = v % n := ⟨_, rfl⟩
   rw [← hq] at hb q0 q1
   clear hq
   go_enter Tryz.func17, Tryz.ntmps17
   go_wp2
   go_ret
   exact ⟨q, rfl, q0, q1, rfl⟩
  ·have e2 : v.tmod n = -((-v) % n) := by rw [← Int.tmod_eq_emod_of_nonneg Zo, ← Int.neg_tmod, Int.neg_neg]
   have p0 := Int.emod_nonneg (-v) (show n ≠ 0 by omega)
   have p1 := Int.emod_lt_of_pos (-v) (show 0 < n by omega)
   have q0 : -n < v.tmod n := by omega
   have q1 : v.tmod n ≤ 0 := by omega
   clear e2 p0 p1
   obtain ⟨q, hq⟩ : ∃ q, q = v.tmod n := ⟨_, rfl⟩
   rw [← hq] at q0 q1
   have hb : v.tmod n = q := hq.symm
   clear hq
   by_cases hq0 : q < 0
   ·go_enter Tryz.func17, Tryz.ntmps17
    go_wp2
    go_ret
    exact ⟨q + n, rfl, by omega, by omega, rfl⟩
   ·obtain rfl : q = 0 := by omega
    exact z9_23
def NextPost (W : World) (tb m : Nat) (n : Int) (w : World) (e : Ending) (w' : World) : Prop :=
 ∃ v : Int, e = .returned (.int .i64 v) ∧ 0 ≤ v ∧ v < n ∧ Tp W tb (m + 1) w' ∧ w.grownBy w' (some tb)
theorem next_step {W w : World} {tb m : Nat} {L : Option Addr} {xs : List Int} {c : Nat} {at_ : Int} (hb : Below W.heap.size W w) (hle : W.heap.size ≤ tb)
    (hbl : Blk w tb #[.slice L xs.length c, .int .i64 at_]) (h0 : 0 ≤ at_) (ham : at_ ≤ m) (hI : IntsAt W L xs) (hxl : xs.length ≤ 9223372036854775807) (N : Nat) :
    Tp W tb (m + 1) ((w.drewN N).setCell ⟨tb, 1, none⟩ (.int .i64 (at_ + 1))) ∧ w.grownBy ((w.drewN N).setCell ⟨tb, 1, none⟩ (.int .i64 (at_ + 1))) (some tb) := by
 have hs := (hbl.drewN N).set 1 (.int .i64 (at_ + 1))
 have hO : Only [tb] (w.drewN N) ((w.drewN N).setCell ⟨tb, 1, none⟩ (.int .i64 (at_ + 1))) := by
  obtain ⟨t, ht⟩ := hbl.drewN N
  rw [setCell_eq_setRow _ tb 1 _ t (0, 0) _ ht]
  exact Only.setRow _ _ _
 have hg : w.grownBy ((w.drewN N).setCell ⟨tb, 1, none⟩ (.int .i64 (at_ + 1))) (some tb) := turn_trans (turn_below (below_drewN (Below.refl _ _) N)) (only_grown hO)
 exact ⟨⟨_, hs, ⟨L, xs, c, at_ + 1, by simp, by omega, by omega, hI, hxl⟩, hb.trans ⟨hg.os, hg.tape, hg.output, hg.size, fun k hk => hg.block k (Nat.lt_of_lt_of_le hk hb.size) (by simp; omega)⟩, hle⟩, hg⟩
theorem next_any (W : World) (tb m : Nat) (n : Int) (w : World) (hT : Tp W tb m w) (hm : m ≤ 1000000000000) (h0 : 1 ≤ n) (h1 : n ≤ 4611686018427387904) :
    Calls Tryz.prog 6 #[.pointer (some ⟨tb, 0, none⟩), .int .i64 n] w (NextPost W tb m n w) := by
 obtain ⟨_, hbl, ⟨L, xs, c, at_, rfl, ha0, ham, hI, hxl⟩, hb, hle⟩ := hT
 have hc0 : w.cell? ⟨tb, 0, none⟩ = some (.slice L xs.length c) := hbl.cell 0
 have hc1 : w.cell? ⟨tb, 1, none⟩ = some (.int .i64 at_) := hbl.cell 1
 have hf1 : w.frozen? ⟨tb, 1, none⟩ = false := hbl.free 1
 have HI := Zi (hI.below hb)
 have HS := Zi (next_step hb hle hbl ha0 ham hI hxl)
 clear hb hbl hI
 have ham' : at_ ≤ 1000000000000 := by omega
 by_cases hlt : at_ < xs.length
 ·obtain ⟨b, off, rfl, hbb, hcell⟩ := HI.out.at_ (j := at_.toNat) Zo
  have hcx := hcell at_.toNat Zo
  clear hcell
  obtain ⟨x, hx⟩ : ∃ x, x = xs.getD at_.toNat 0 := ⟨_, rfl⟩
  rw [← hx] at hcx
  clear hx
  go_enter Tryz.func6, Tryz.ntmps6
  go_wp2
  go_quiet (fail)
  exact z9_24
 ·go_enter Tryz.func6, Tryz.ntmps6
  exact z9_24
def ChancePost (W : World) (tb m : Nat) (w : World) (e : Ending) (w' : World) : Prop :=
 ∃ b : Bool, e = .returned (.bool b) ∧ Tp W tb (m + 1) w' ∧ w.grownBy w' (some tb)
theorem chance_any (W : World) (tb m : Nat) (x y : Int) (w : World) (hT : Tp W tb m w) (hm : m ≤ 1000000000000) (h0 : 1 ≤ y) (h1 : y ≤ 1000000) :
    Calls Tryz.prog 23 #[.pointer (some ⟨tb, 0, none⟩), .int .i64 x, .int .i64 y] w (ChancePost W tb m w) := by
 have HT := Zi hT
 clear hT
 go_enter Tryz.func23, Tryz.ntmps23
 go_wp2_with fail
 refine (next_any W tb m y _ HT.out hm h0 Zo).mono ?_
 rintro e w' ⟨v, rfl, v0, v1, hT, hg⟩
 go_wp2
 go_ret
 exact ⟨_, rfl, hT, hg⟩
def PickPost (W : World) (tb m : Nat) (ds : List Int) (w : World) (e : Ending) (w' : World) : Prop :=
 ∃ v : Int, e = .returned (.int .i64 v) ∧ v ∈ ds ∧ Tp W tb (m + 1) w' ∧ w.grownBy w' (some tb)
theorem pick_any (W : World) (tb m : Nat) (A : Option Addr) (ds : List Int) (c : Nat) (w : World) (hT : Tp W tb m w) (hm : m ≤ 1000000000000) (hA : IntsAt w A ds) (hne : ∀ b o, A = some ⟨b, o, none⟩ → b ≠ tb) (hd : 0 < ds.length) (hd2 : ds.length ≤ 1000) :
    Calls Tryz.prog 16 #[.pointer (some ⟨tb, 0, none⟩), .slice A ds.length c] w (PickPost W tb m ds w) := by
 have HT := Zi hT
 have HA := Zi hA
 have HNE := Zi hne
 have hn0 : ((ds.length : Int) == 0) = false := Zb Zo
 clear hT hA hne
 go_enter Tryz.func16, Tryz.ntmps16
 go_wp2_with fail
 refine (next_any W tb m ds.length _ HT.out hm Zo Zo).mono ?_
 rintro e w' ⟨v, rfl, v0, v1, hT, hg⟩
 obtain ⟨b, off, rfl, hbl, hcell⟩ := (HA.out.turn hg HNE.out).at_ (j := v.toNat) Zo
 have hcv := hcell v.toNat Zo
 have hmem : ds.getD v.toNat 0 ∈ ds := by
  have : v.toNat < ds.length := by omega
  simp only [List.getD, List.getElem?_eq_getElem this, Option.getD_some]
  exact List.getElem_mem this
 have HM := Zi hmem
 have HT2 := Zi hT
 have HG := Zi hg
 clear hcell hmem hT hg
 obtain ⟨x, hx⟩ : ∃ x, x = ds.getD v.toNat 0 := ⟨_, rfl⟩
 rw [← hx] at hcv HM
 clear hx
 go_wp2
 go_ret
 exact ⟨x, rfl, HM.out, HT2.out, HG.out⟩
theorem ints_new (w : World) (ds : List Int) (T : TypeId) : IntsAt (w.alloc (.cells (ds.map (Value.int .i64)).toArray T)) (some ⟨w.heap.size, 0, none⟩) ds := by
 refine .inr ⟨w.heap.size, 0, rfl, by simp, fun j hj => ?_⟩
 rw [Nat.zero_add, (Blk.new w _ T).cell j]
 simp [List.getD, hj]
theorem pick_new {W w0 w : World} {X : List Nat} {L : List (Nat × Array Value)} {tb m : Nat} {cs : Array Value} (HM : Mem w0 X L w) (hl : Look L tb cs) (hc : TapeC W m cs) (h0 : Below W.heap.size W w0) (hX : ∀ b ∈ X, W.heap.size ≤ b) (ds : List Int) (T : TypeId) (hm : m ≤ 1000000000000) (hd : 0 < ds.length) (hd2 : ds.length ≤ 1000) :
    Calls Tryz.prog 16 #[.pointer (some ⟨tb, 0, none⟩), .slice (some ⟨w.heap.size, 0, none⟩) ds.length ds.length] (w.alloc (.cells (ds.map (Value.int .i64)).toArray T)) fun e w' =>
     ∃ (v : Int) (c' : Array Value), e = .returned (.int .i64 v) ∧ v ∈ ds ∧ TapeC W (m + 1) c' ∧ Blk w' tb c' ∧ Only [tb] w w' := by
 have hlt := (HM.get hl).lt
 refine (pick_any W tb m _ ds _ _ ((HM.new _ T).tp (.there hl) hc h0 hX) hm (ints_new w ds T) (fun b o e => by cases e; omega) hd hd2).mono ?_
 rintro e w' ⟨v, rfl, hv, ⟨c', h1, h2, _⟩, hg⟩
 exact ⟨v, c', rfl, hv, h2, h1, ((Only.of (below_new w _) [tb]).trans (Only.of_grown hg))⟩
end
section
set_option maxRecDepth 20000 in
theorem rsign_num (s : Bool) (N : Nat) (g : Int) (hN : N < Bg.lim) (hg : Hid (g = (Bg.toZ s N).sign)) (w : World) :
    Calls Tryz.prog 129 #[.agg (Bg.intA s N)] w fun e w' => e = .returned (.int .i64 g) ∧ Below w.heap.size w w' := by
 have HM := Mem.start w
 by_cases h0 : N = 0
 ·have hg0 : Hid (g = 0) := Zi (by rw [hg.out, h0]; cases s <;> rfl)
  have hz : Hid (true = decide (N = 0)) := Zi (by simp [h0])
  clear h0
  go_enter Tryz.func129, Tryz.ntmps129
  go_wp2_with (first | (go_at_call 171; (with_reducible refine Zc HM (zero_as N true hN hz.out _) ?_; clear HM; intro w2 HM)) | (first | ((with_reducible refine g_ld ?_); refine a_ld HM ?_) | ((with_reducible refine g_bx ?_); refine a_bx HM ?_; clear HM; intro bk w1 HM)))
  go_ret
  exact ⟨by rw [hg0.out]; rfl, HM.low⟩
 ·have hz : Hid (false = decide (N = 0)) := Zi (by simp [h0])
  have hn := Zi h0
  clear h0
  cases s with
  | false =>
   go_enter Tryz.func129, Tryz.ntmps129
   go_wp2_with (first | (go_at_call 171; (with_reducible refine Zc HM (zero_as N false hN hz.out _) ?_; clear HM; intro w2 HM)) | (first | ((with_reducible refine g_ld ?_); refine a_ld HM ?_) | ((with_reducible refine g_bx ?_); refine a_bx HM ?_; clear HM; intro bk w1 HM)))
   go_ret
   exact ⟨by rw [hg.out]; simp only [Bg.toZ]; rw [Int.sign_eq_one_of_pos (by have := hn.out; simp; omega)]; rfl, HM.low⟩
  | true =>
   go_enter Tryz.func129, Tryz.ntmps129
   go_wp2_with (first | (go_at_call 171; (with_reducible refine Zc HM (zero_as N false hN hz.out _) ?_; clear HM; intro w2 HM)) | (first | ((with_reducible refine g_ld ?_); refine a_ld HM ?_) | ((with_reducible refine g_bx ?_); refine a_bx HM ?_; clear HM; intro bk w1 HM)))
   go_ret
   exact ⟨by rw [hg.out]; simp only [Bg.toZ]; rw [Int.sign_eq_neg_one_of_neg (by have := hn.out; simp; omega)]; rfl, HM.low⟩
theorem intA_zA (u : Bool) (s : Nat) (h : u = true → s ≠ 0) : Bg.intA u s = Bg.zA (Bg.toZ u s) := by
 rw [zA_int]
 cases u
 ·have h1 : ¬ ((s : Int) < 0) := by omega
  simp [Bg.toZ, h1]
 ·have h2 := h rfl
  have h3 : (-(s : Int)) < 0 := by omega
  have h4 : 0 < s := by omega
  simp [Bg.toZ, h4]
end
section
set_option maxRecDepth 20000 in
theorem rcompare_any (a b : Nat) (g : Int) (ha : a < Bg.lim) (hb : b < Bg.lim) (hg : Hid (g = Bg.cmp a b)) (w : World) :
    Calls Tryz.prog 210 #[.agg (Bg.row 32 a), .agg (Bg.row 32 b)] w fun e w' => e = .returned (.int .i64 g) ∧ Below w.heap.size w w' := by
 have HM := Mem.start w
 go_enter Tryz.func210, Tryz.ntmps210
 go_upto_region 1 with (first | ((with_reducible refine g_ld ?_); refine a_ld HM ?_) | ((with_reducible refine g_bx ?_); refine a_bx HM ?_; clear HM; intro bk w1 HM))
 obtain ⟨bb, rfl⟩ := HM.nm0
 obtain ⟨ba, rfl⟩ := HM.nm1
 go_wp2_with fail
 go_loopw [5] (fun i wr => ∃ k : Nat, k ≤ 32 ∧ i = .int .i64 (k - 1) ∧ Hid (a / Bg.pw k = b / Bg.pw k) ∧ Mem w [] [(bb, Bg.row 32 b), (ba, Bg.row 32 a)] wr) (fun i _ => (intOf i + 1).toNat)
 case atStart => exact ⟨32, by omega, rfl, Zi (by rw [Nat.div_eq_of_lt (show a < Bg.pw 32 from ha), Nat.div_eq_of_lt (show b < Bg.pw 32 from hb)]), HM⟩
 case round =>
  obtain ⟨k, hk, rfl, HE, HM⟩ := hrel
  cases k with
  | zero =>
   go_wp2_with fail
   go_ret
   refine ⟨?_, HM.low⟩
   rw [hg.out, Bg.cmp_same HE.out]
   rfl
  | succ k =>
   have e1 : ((k + 1 : Nat) : Int) - 1 = (k : Int) := by omega
   rw [e1]
   clear e1
   have hk0 : (0 : Int) ≤ (k : Int) := by omega
   have hk1 : (k : Int) < 32 := by omega
   have hk2 : k < 32 := by omega
   have hla := la_lim a k hk2
   have hlb := la_lim b k hk2
   go_upto_region 4 with fail
   rcases Nat.lt_trichotomy (Bg.limb a k) (Bg.limb b k) with hl | hl | hl
   ·have HR := Zi (Bg.cmp_lt HE.out hl)
    exact z9_25
   ·have HR := Zi (Bg.cmp_eq HE.out hl)
    rw [hl] at hla
    clear hl
    refine start_M [] HM Zk (fun w0x H9 => ?_)
    replace HM := H9; clear H9
    refine k_mv 0 (heldE HM) ?_
    refine k_ia 1 (heldE HM) ?_
    refine k_ld 2 [] (heldE HM) ?_
    refine k_mv 3 (heldE HM) ?_
    refine k_ia 4 (heldE HM) ?_
    refine k_ld 5 [] (heldE HM) ?_
    refine k_bin 6 (heldE HM) ?_
    refine wpAnyL_done Zk ?_ _
    go_upto_region 6 with fail
    refine start_M [] HM Zk (fun w0x H9 => ?_)
    replace HM := H9; clear H9
    refine k_mv 0 (heldE HM) ?_
    refine k_ia 1 (heldE HM) ?_
    refine k_ld 2 [] (heldE HM) ?_
    refine k_mv 3 (heldE HM) ?_
    refine k_ia 4 (heldE HM) ?_
    refine k_ld 5 [] (heldE HM) ?_
    refine k_bin 6 (heldE HM) ?_
    refine wpAnyL_done Zk ?_ _
    go_wp2_with fail
    go_roundw
    case rel => exact ⟨k, by omega, rfl, HR, HM⟩
    case measure => simp [intOf]
   ·have HR := Zi (Bg.cmp_gt HE.out hl)
    have hn : ¬ Bg.limb a k < Bg.limb b k := by omega
    refine start_M [] HM Zk (fun w0x H9 => ?_)
    replace HM := H9; clear H9
    refine k_mv 0 (heldE HM) ?_
    refine k_ia 1 (heldE HM) ?_
    refine k_ld 2 [] (heldE HM) ?_
    refine k_mv 3 (heldE HM) ?_
    refine k_ia 4 (heldE HM) ?_
    refine k_ld 5 [] (heldE HM) ?_
    refine k_bin 6 (heldE HM) ?_
    refine wpAnyL_done Zk ?_ _
    go_upto_region 6 with fail
    exact z9_25
theorem sa_mod (s k v : Nat) (hk : k < 32) : SA 30 (Bg.row 32 s) k (.int .u32 ((v : Int) % 4294967296)) (Bg.row 32 (Bg.setL s k (v % 4294967296))) :=
 sa_lim s k (v % 4294967296) (Nat.mod_lt _ Zd) hk
set_option maxRecDepth 20000 in
theorem rsum_any (a b z : Nat) (f : Bool) (ha : a < Bg.lim) (hb : b < Bg.lim) (hz : Hid (z = (a + b) % Bg.lim)) (hf : Hid (f = decide (a + b < Bg.lim))) (w : World) :
    Calls Tryz.prog 175 #[.agg (Bg.row 32 a), .agg (Bg.row 32 b)] w fun e w' => e = .returned (.tuple #[.agg (Bg.row 32 z), .bool f]) ∧ Below w.heap.size w w' := by
 have HM := Mem.start w
 go_enter Tryz.func175, Tryz.ntmps175
 go_upto_region 2 with (first | ((with_reducible refine g_ld ?_); refine a_ld HM ?_) | ((with_reducible refine g_st ?_); refine a_st HM ?_; clear HM; intro w1 HM) | ((with_reducible refine g_al ?_); refine a_al HM ?_; clear HM; intro bk w1 HM) | ((with_reducible refine g_bx ?_); refine a_bx HM ?_; clear HM; intro bk w1 HM))
 obtain ⟨bo, rfl⟩ := HM.nm0
 obtain ⟨br, rfl⟩ := HM.nm1
 obtain ⟨bb, rfl⟩ := HM.nm2
 obtain ⟨ba, rfl⟩ := HM.nm3
 go_wp2_with fail
 go_loopw [7, 8] (fun c i wr => ∃ k q s : Nat, k ≤ 32 ∧ i = .int .i64 (k : Nat) ∧ c = .int .u64 (q : Nat) ∧ Hid (Bg.AddSt a b k s q) ∧ Mem w [] [(bo, Bg.row 32 s), (br, Bg.row 32 0), (bb, Bg.row 32 b), (ba, Bg.row 32 a)] wr) (fun _ i _ => 32 - (intOf i).toNat)
 case atStart => exact ⟨0, 0, 0, by omega, rfl, rfl, Zi (Bg.AddSt.zero a b), HM⟩
 case round =>
  obtain ⟨k, q, s, hk, rfl, rfl, HS, HM⟩ := hrel
  by_cases hlt : k < 32
  ·have hla := la_lim a k hlt
   have hlb := la_lim b k hlt
   have hxa := Bg.limb_lt a k
   have hxb := Bg.limb_lt b k
   have hq := HS.out.le
   have hk0 : (0 : Int) ≤ (k : Int) := by omega
   have hk1 : (k : Int) < 32 := by omega
   go_upto_region 6 with fail
   refine start_M [] HM Zk (fun w0x H9 => ?_)
   replace HM := H9; clear H9
   refine k_mv 0 (heldE HM) ?_
   refine k_ia 1 (heldE HM) ?_
   refine k_ld 2 [] (heldE HM) ?_
   refine k_cv 3 (heldE HM) ?_
   refine k_mv 4 (heldE HM) ?_
   refine k_ia 5 (heldE HM) ?_
   refine k_ld 6 [] (heldE HM) ?_
   refine k_cv 7 (heldE HM) ?_
   refine k_add 8 (heldE HM) ?_
   refine k_mv 9 (heldE HM) ?_
   refine k_add 10 (heldE HM) ?_
   refine k_mv 11 (heldE HM) ?_
   refine wpAnyL_done Zk ?_ _
   obtain ⟨v, hv⟩ : ∃ v : Nat, v = Bg.limb a k + Bg.limb b k + q := ⟨_, rfl⟩
   rw [show ((Bg.limb a k : Nat) : Int) + (Bg.limb b k : Nat) + (q : Nat) = (v : Nat) from by omega]
   have hv2 : v < 18446744073709551616 := by omega
   have HV := Zi hv
   have hss := sa_mod s k v hlt
   clear hla hlb hxa hxb hq hv
   go_wp2_with (first | ((with_reducible refine g_ld ?_); refine a_ld HM ?_) | ((with_reducible refine g_st ?_); refine a_st HM ?_; clear HM; intro w1 HM) | ((with_reducible refine g_al ?_); refine a_al HM ?_; clear HM; intro bk w1 HM) | ((with_reducible refine g_bx ?_); refine a_bx HM ?_; clear HM; intro bk w1 HM))
   clear hss
   go_roundw
   case rel => exact ⟨k + 1, v / 4294967296, _, by omega, by go_num, rfl, by rw [HV.out]; exact Zi HS.out.step, HM⟩
   case measure => simp [intOf]; omega
  ·obtain rfl : k = 32 := by omega
   have hd := HS.out.done ha hb
   have hq := HS.out.le
   have hq2 : ((q : Int) == 0) = f := by
    rw [hf.out, beq_zero]
    exact decide_eq_decide.2 hd.2
   have HZ : Hid (s = z) := Zi (by rw [hz.out]; exact hd.1)
   clear hd hq hlt
   go_wp2_with (first | ((with_reducible refine g_ld ?_); refine a_ld HM ?_) | ((with_reducible refine g_st ?_); refine a_st HM ?_; clear HM; intro w1 HM) | ((with_reducible refine g_al ?_); refine a_al HM ?_; clear HM; intro bk w1 HM) | ((with_reducible refine g_bx ?_); refine a_bx HM ?_; clear HM; intro bk w1 HM))
   refine bodyPost_ret (r_ct (b := br) (k := 0) rfl rfl (HM.get Zl) (la_arr _)) rfl ⟨?_, HM.low⟩
   rw [← HZ.out]
   rfl
set_option maxRecDepth 20000 in
theorem rdif_any (a b z : Nat) (ha : a < Bg.lim) (hb : b < Bg.lim) (hz : Hid (z = Bg.dif a b)) (w : World) :
    Calls Tryz.prog 174 #[.agg (Bg.row 32 a), .agg (Bg.row 32 b)] w fun e w' => e = .returned (.agg (Bg.row 32 z)) ∧ Below w.heap.size w w' := by
 have HM := Mem.start w
 go_enter Tryz.func174, Tryz.ntmps174
 go_upto_region 2 with (first | ((with_reducible refine g_ld ?_); refine a_ld HM ?_) | ((with_reducible refine g_st ?_); refine a_st HM ?_; clear HM; intro w1 HM) | ((with_reducible refine g_al ?_); refine a_al HM ?_; clear HM; intro bk w1 HM) | ((with_reducible refine g_bx ?_); refine a_bx HM ?_; clear HM; intro bk w1 HM))
 obtain ⟨bo, rfl⟩ := HM.nm0
 obtain ⟨br, rfl⟩ := HM.nm1
 obtain ⟨bb, rfl⟩ := HM.nm2
 obtain ⟨ba, rfl⟩ := HM.nm3
 go_wp2_with fail
 go_loopw [6, 7] (fun c i wr => ∃ k q s : Nat, k ≤ 32 ∧ i = .int .i64 (k : Nat) ∧ c = .int .u64 (q : Nat) ∧ Hid (Bg.SubSt a b k s q) ∧ Mem w [] [(bo, Bg.row 32 s), (br, Bg.row 32 0), (bb, Bg.row 32 b), (ba, Bg.row 32 a)] wr) (fun _ i _ => 32 - (intOf i).toNat)
 case atStart => exact ⟨0, 0, 0, by omega, rfl, rfl, Zi (Bg.SubSt.zero a b), HM⟩
 case round =>
  obtain ⟨k, q, s, hk, rfl, rfl, HS, HM⟩ := hrel
  by_cases hlt : k < 32
  ·have hla := la_lim a k hlt
   have hlb := la_lim b k hlt
   have hxa := Bg.limb_lt a k
   have hxb := Bg.limb_lt b k
   have hq := HS.out.le
   have hk0 : (0 : Int) ≤ (k : Int) := by omega
   have hk1 : (k : Int) < 32 := by omega
   go_upto_region 6 with fail
   refine start_M [] HM Zk (fun w0x H9 => ?_)
   replace HM := H9; clear H9
   refine k_mv 0 (heldE HM) ?_
   refine k_ia 1 (heldE HM) ?_
   refine k_ld 2 [] (heldE HM) ?_
   refine k_cv 3 (heldE HM) ?_
   refine k_mv 4 (heldE HM) ?_
   refine k_ia 5 (heldE HM) ?_
   refine k_ld 6 [] (heldE HM) ?_
   refine k_cv 7 (heldE HM) ?_
   refine k_sub 8 (heldE HM) ?_
   refine k_mv 9 (heldE HM) ?_
   refine k_sub 10 (heldE HM) ?_
   refine k_mv 11 (heldE HM) ?_
   refine wpAnyL_done Zk ?_ _
   obtain ⟨v, hv⟩ : ∃ v : Nat, v = if Bg.limb a k < Bg.limb b k + q then Bg.limb a k + 18446744073709551616 - Bg.limb b k - q else Bg.limb a k - Bg.limb b k - q := ⟨_, rfl⟩
   rw [show IntKind.u64.wrap (IntKind.u64.wrap (((Bg.limb a k : Nat) : Int) - (Bg.limb b k : Nat)) - (q : Nat)) = (v : Nat) from by rw [IntKind.wrap_u64, IntKind.wrap_u64, hv]; split <;> omega]
   have hv2 : v < 18446744073709551616 := by rw [hv]; split <;> omega
   have HV := Zi (show Bg.limb a k + v / 9223372036854775808 * 4294967296 = Bg.limb b k + q + v % 4294967296 ∧ v / 9223372036854775808 ≤ 1 from by rw [hv]; split <;> omega)
   have hss := sa_mod s k v hlt
   clear hla hlb hxa hxb hq hv
   go_wp2_with (first | ((with_reducible refine g_ld ?_); refine a_ld HM ?_) | ((with_reducible refine g_st ?_); refine a_st HM ?_; clear HM; intro w1 HM) | ((with_reducible refine g_al ?_); refine a_al HM ?_; clear HM; intro bk w1 HM) | ((with_reducible refine g_bx ?_); refine a_bx HM ?_; clear HM; intro bk w1 HM))
   clear hss
   go_roundw
   case rel => exact ⟨k + 1, v / 9223372036854775808, _, by omega, by go_num, rfl, Zi (HS.out.step (Nat.mod_lt _ Zd) HV.out.2 HV.out.1), HM⟩
   case measure => simp [intOf]; omega
  ·obtain rfl : k = 32 := by omega
   have hd := HS.out.done ha hb
   have HZ : Hid (s = z) := Zi (by rw [hz.out]; exact hd)
   clear hd hlt
   go_wp2_with (first | ((with_reducible refine g_ld ?_); refine a_ld HM ?_) | ((with_reducible refine g_st ?_); refine a_st HM ?_; clear HM; intro w1 HM) | ((with_reducible refine g_al ?_); refine a_al HM ?_; clear HM; intro bk w1 HM) | ((with_reducible refine g_bx ?_); refine a_bx HM ?_; clear HM; intro bk w1 HM))
   refine bodyPost_ret (r_c (b := br) (k := 0) rfl rfl (HM.get Zl) (la_arr _)) rfl ⟨?_, HM.low⟩
   rw [← HZ.out]
end
section
theorem sa_two (s : Bool) (U : Nat) (hU : U < 18446744073709551616) : SA 30 (Bg.intA s 0) 1 (.int .u32 ((U : Int) % 4294967296)) (Bg.intA s (U % 4294967296)) ∧ SA 30 (Bg.intA s (U % 4294967296)) 2 (.int .u32 ((U : Int) / 4294967296)) (Bg.intA s U) := by
 have h1 : Bg.setL 0 0 (U % 4294967296) = U % 4294967296 := by rw [Bg.setL_top _ _ _ (Bg.ppos 0), Bg.pw_zero]; omega
 have h2 : Bg.pw 1 = 4294967296 := by rw [show (1 : Nat) = 0 + 1 from rfl, Bg.p32, Bg.pw_zero]
 have h3 : Bg.setL (U % 4294967296) 1 (U / 4294967296) = U := by
  rw [Bg.setL_top _ _ _ (by rw [h2]; exact Nat.mod_lt _ Zd), h2]; omega
 constructor
 ·have := sa_limi s 0 0 (U % 4294967296) (Nat.mod_lt _ Zd) Zd
  rw [h1] at this
  exact this
 ·have := sa_limi s (U % 4294967296) 1 (U / 4294967296) Zo Zd
  rw [h3] at this
  exact this
set_option maxRecDepth 20000 in
theorem rfromInt_z (n : Int) (h1 : -9223372036854775808 ≤ n) (h2 : n < 9223372036854775808) (w : World) :
    Calls Tryz.prog 87 #[.int .i64 n] w fun e w' => e = .returned (.agg (Bg.zA n)) ∧ Below w.heap.size w w' := by
 have HM := Mem.start w
 by_cases h : n < 0
 ·obtain ⟨U, hU⟩ : ∃ U : Nat, n = -(U : Int) := ⟨n.natAbs, by omega⟩
  subst hU
  have hU0 : 0 < U := by omega
  obtain ⟨s1, s2⟩ := sa_two true U Zo
  have hw : IntKind.u64.wrap (-IntKind.u64.wrap (-(U : Int))) = (U : Int) := by rw [IntKind.wrap_u64, IntKind.wrap_u64]; omega
  have hlt : (U : Int) < 18446744073709551616 := by omega
  have hfin := Zi (intA_zA true U (fun _ => by omega))
  exact z9_26
 ·obtain ⟨U, hU⟩ : ∃ U : Nat, n = (U : Int) := ⟨n.natAbs, by omega⟩
  subst hU
  obtain ⟨s1, s2⟩ := sa_two false U Zo
  have hlt : (U : Int) < 9223372036854775808 := by omega
  have hfin := Zi (intA_zA false U Zs)
  exact z9_26
set_option maxRecDepth 20000 in
theorem rneg_any (s : Bool) (N : Nat) (z : Int) (hN : N < Bg.lim) (hz : Hid (z = -Bg.toZ s N)) (w : World) :
    Calls Tryz.prog 132 #[.agg (Bg.intA s N)] w fun e w' => e = .returned (.agg (Bg.zA z)) ∧ Below w.heap.size w w' := by
 have HM := Mem.start w
 have hz2 : Hid (z = Bg.toZ (!s) N) := Zi (by rw [hz.out]; cases s <;> simp [Bg.toZ])
 go_enter Tryz.func132, Tryz.ntmps132
 go_wp2_with (first | (go_at_call 173; (with_reducible refine Zc HM (rcanon_any (!s) N z hN hz2 _) ?_; clear HM; intro w2 HM)) | (first | ((with_reducible refine g_ld ?_); refine a_ld HM ?_) | ((with_reducible refine g_st ?_); refine a_st HM ?_; clear HM; intro w1 HM) | ((with_reducible refine g_al ?_); refine a_al HM ?_; clear HM; intro bk w1 HM) | ((with_reducible refine g_bx ?_); refine a_bx HM ?_; clear HM; intro bk w1 HM)))
 exact z9_27
end
section
theorem limbs_as (N u : Nat) (h : Hid (u = Bg.used N)) (w : World) :
    Calls Tryz.prog 176 #[.agg (Bg.row 32 N)] w fun e w' => e = .returned (.int .i64 (u : Nat)) ∧ Below w.heap.size w w' := by
 rw [h.out]; exact limbs_any N w
set_option maxRecDepth 20000 in
theorem rbits_any (s : Bool) (N : Nat) (n : Int) (_hN : N < Bg.lim) (hn : Hid (n = (Bg.bl N : Int))) (w : World) :
    Calls Tryz.prog 133 #[.agg (Bg.intA s N)] w fun e w' => e = .returned (.int .i64 n) ∧ Below w.heap.size w w' := by
 have HM := Mem.start w
 obtain ⟨u, hu⟩ := Zh (Bg.used N)
 have hu32 : u ≤ 32 := by rw [hu.out]; exact Bg.used_le N
 go_enter Tryz.func133, Tryz.ntmps133
 by_cases h0 : u = 0
 ·have hn0 : Hid (n = 0) := Zi (by rw [hn.out]; unfold Bg.bl; rw [← hu.out, if_pos h0]; rfl)
  subst h0
  go_wp2_with (first | (go_at_call 176; (with_reducible refine Zc HM (limbs_as N 0 hu _) ?_; clear HM; intro w2 HM)) | (first | ((with_reducible refine g_ld ?_); refine a_ld HM ?_) | ((with_reducible refine g_bx ?_); refine a_bx HM ?_; clear HM; intro bk w1 HM)))
  go_ret
  exact ⟨by rw [hn0.out]; rfl, HM.low⟩
 ·obtain ⟨p, rfl⟩ : ∃ p, u = p + 1 := ⟨u - 1, by omega⟩
  obtain ⟨x, hx⟩ := Zh (Bg.limb N p)
  have hxl : x < 4294967296 := by rw [hx.out]; exact Bg.limb_lt _ _
  have hl : LA 30 (Bg.intA s N) (1 + p) (.int .u32 (x : Nat)) := by rw [hx.out]; exact la_limi s N p Zo
  obtain ⟨B, hB⟩ : ∃ B : Nat, Hid (B = 32 * p + Lib.bitLen x) := ⟨_, rfl⟩
  have hnB : Hid (n = (B : Int)) := Zi (by rw [hn.out]; unfold Bg.bl; rw [← hu.out, if_neg Zo, Nat.add_sub_cancel, ← hx.out, hB.out])
  have hbx : Lib.bitLen x ≤ 32 := bitLen_32 hxl
  have hB2 : B ≤ 1056 := by rw [hB.out]; omega
  have e1 : ((p + 1 : Nat) : Int) - 1 = (p : Int) := by omega
  have hne : (((p + 1 : Nat) : Int) == 0) = false := by simp; omega
  have hq0 : (0 : Int) ≤ (p : Int) := by omega
  have hq1 : (p : Int) < 32 := by omega
  go_upto_block 0 with (first | (go_at_call 176; (with_reducible refine Zc HM (limbs_as N (p + 1) hu _) ?_; clear HM; intro w2 HM)) | (first | ((with_reducible refine g_ld ?_); refine a_ld HM ?_) | ((with_reducible refine g_bx ?_); refine a_bx HM ?_; clear HM; intro bk w1 HM)))
  clear e1 hne hl hq0 hq1
  go_wp2_with fail
  go_loopw [4, 5] (fun i j wr => ∃ k v : Nat, i = .int .i64 (k : Nat) ∧ j = .int .u32 (v : Nat) ∧ v < 4294967296 ∧ k + Lib.bitLen v = B ∧ Hid (Below w.heap.size w wr)) (fun _ j _ => (intOf j).toNat)
  case atStart => exact ⟨32 * p, x, by go_num, rfl, hxl, by rw [hB.out], HM.low⟩
  case round =>
   clear HM
   obtain ⟨k, v, rfl, rfl, hv, hk, HL⟩ := hrel
   cases v with
   | zero =>
    have hkB : k = B := by rw [← hk, show Lib.bitLen 0 = 0 from rfl]; rfl
    go_wp2_with fail
    go_ret
    exact ⟨by rw [hnB.out, hkB]; rfl, HL.out⟩
   | succ v =>
    have h1 := Lib.bitLen_half (v + 1) Zo Zo
    have hgt : (0 : Int) < ((v + 1 : Nat) : Int) := by omega
    have hk2 : k < 2000 := by omega
    go_wp2_with fail
    go_roundw
    case rel => exact ⟨k + 1, (v + 1) / 2, by go_num, by simp, by omega, by omega, HL⟩
    case measure => simp [intOf]; omega
theorem Bg.used_two {N : Nat} (hN : N < Bg.lim) : (2 < Bg.used N) = ¬ N < 18446744073709551616 := by
 have hp : Bg.pw 2 = 18446744073709551616 := by rw [show (2 : Nat) = 0 + 1 + 1 from rfl, Bg.p32, Bg.p32, Bg.pw_zero]
 have h1 := Bg.used_lt hN
 apply propext
 constructor
 ·intro h h2
  rcases Bg.used_ge N with h3 | h3
  ·omega
  ·have := Bg.pmono (show 2 ≤ Bg.used N - 1 by omega)
   omega
 ·intro h
  rcases Nat.lt_or_ge 2 (Bg.used N) with h3 | h3
  ·exact h3
  ·have := Bg.pmono h3
   omega
end
section
@[irreducible] def Bg.ratA (s : Bool) (M : Nat) (t : Bool) (N : Nat) : Array Value := Bg.intA s M ++ Bg.intA t N
theorem ratA_size (s : Bool) (M : Nat) (t : Bool) (N : Nat) : (Bg.ratA s M t N).size = 66 := by unfold Bg.ratA; rw [Array.size_append, Bg.intA_size, Bg.intA_size]
theorem ratA_one (s : Bool) (M : Nat) (t : Bool) (N : Nat) : (Bg.ratA s M t N).all (·.oneCell') = true := by
 unfold Bg.ratA; rw [Array.all_append, Bg.intA_one, Bg.intA_one]; rfl
theorem ratA_lo (s : Bool) (M : Nat) (t : Bool) (N j : Nat) (h : j < 33) : (Bg.ratA s M t N)[j]? = (Bg.intA s M)[j]? := by
 unfold Bg.ratA; rw [Array.getElem?_append, if_pos (by rw [Bg.intA_size]; exact h)]
theorem ratA_hi (s : Bool) (M : Nat) (t : Bool) (N j : Nat) : (Bg.ratA s M t N)[33 + j]? = (Bg.intA t N)[j]? := by
 unfold Bg.ratA; rw [Array.getElem?_append, if_neg (by rw [Bg.intA_size]; omega), Bg.intA_size, Nat.add_sub_cancel_left]
theorem ratA_num (s : Bool) (M : Nat) (t : Bool) (N : Nat) : (Bg.ratA s M t N).extract 0 33 = Bg.intA s M := by
 apply Array.ext_getElem?
 intro j
 rw [Array.getElem?_extract]
 by_cases hj : j < 33
 ·rw [if_pos (by rw [ratA_size]; omega), Nat.zero_add, ratA_lo _ _ _ _ _ hj]
 ·exact z9_28
theorem ratA_den (s : Bool) (M : Nat) (t : Bool) (N : Nat) : (Bg.ratA s M t N).extract 33 66 = Bg.intA t N := by
 apply Array.ext_getElem?
 intro j
 rw [Array.getElem?_extract]
 by_cases hj : j < 33
 ·rw [if_pos (by rw [ratA_size]; omega), ratA_hi]
 ·exact z9_28
theorem ratA_ext {s t : Bool} {M N : Nat} {c : Array Value} (hc : c.size = 66) (h1 : ∀ j, j < 33 → c[j]? = (Bg.intA s M)[j]?) (h2 : ∀ j, j < 33 → c[33 + j]? = (Bg.intA t N)[j]?) : c = Bg.ratA s M t N := by
 apply Array.ext_getElem?
 intro j
 by_cases hj : j < 33
 ·rw [h1 j hj, ratA_lo _ _ _ _ _ hj]
 ·by_cases hk : j < 66
  ·obtain ⟨d, rfl⟩ : ∃ d, j = 33 + d := ⟨j - 33, by omega⟩
   rw [h2 d Zo, ratA_hi]
  ·rw [Array.getElem?_eq_none Zo, Array.getElem?_eq_none (by rw [ratA_size]; omega)]
theorem sT_rat : sizT 35 = some 66 := by kernel_rfl
theorem la_rat (s : Bool) (M : Nat) (t : Bool) (N : Nat) : LA 35 (Bg.ratA s M t N) 0 (.agg (Bg.ratA s M t N)) := LA.whole Zk (by rw [ratA_size]; exact sT_rat)
theorem la_rnum (s : Bool) (M : Nat) (t : Bool) (N : Nat) : LA 33 (Bg.ratA s M t N) 0 (.agg (Bg.intA s M)) := LA.mid (n := 33) Zk sT_int (by rw [ratA_size]; omega) (ratA_num s M t N)
theorem la_rden (s : Bool) (M : Nat) (t : Bool) (N : Nat) : LA 33 (Bg.ratA s M t N) 33 (.agg (Bg.intA t N)) := LA.mid (n := 33) Zk sT_int (by rw [ratA_size]; omega) (ratA_den s M t N)
theorem la_rnneg (s : Bool) (M : Nat) (t : Bool) (N : Nat) : LA 4 (Bg.ratA s M t N) 0 (.bool s) := LA.one Zk (by rw [ratA_lo _ _ _ _ _ Zd]; exact Bg.intA_neg s M)
theorem sa_rat (s : Bool) (M : Nat) (t : Bool) (N : Nat) {c : Array Value} (h : c.size = 66) : SA 35 c 0 (.agg (Bg.ratA s M t N)) (Bg.ratA s M t N) := SA.whole (by rw [ratA_size]; exact sT_rat) (ratA_one s M t N) (by rw [ratA_size, h])
theorem sa_rnneg (s s2 : Bool) (M : Nat) (t : Bool) (N : Nat) : SA 4 (Bg.ratA s M t N) 0 (.bool s2) (Bg.ratA s2 M t N) := by
 have h := SA.one (T := 4) (c := Bg.ratA s M t N) (k := 0) (v := .bool s2) Zk rfl (by rw [ratA_size]; omega)
 have e : (Bg.ratA s M t N).setIfInBounds 0 (.bool s2) = Bg.ratA s2 M t N := by
  refine ratA_ext (by rw [Array.size_setIfInBounds, ratA_size]) (fun j hj => ?_) (fun j hj => ?_)
  ·rw [← intA_set0 s s2 M, Array.getElem?_setIfInBounds, Array.getElem?_setIfInBounds, ratA_size, Bg.intA_size, ratA_lo _ _ _ _ _ hj]
   split <;> simp
  ·rw [Array.getElem?_setIfInBounds, if_neg Zo, ratA_hi]
 rwa [e] at h
theorem fill_gen (o : Nat) (l : List Value) : ∀ (k : Nat) (c : Array Value) (j : Nat), ((l.zipIdx k).foldl (fun (cs : Array Value) (x : Value × Nat) => cs.setIfInBounds (o + x.snd) x.fst) c)[j]? =
    if o + k ≤ j ∧ j < o + k + l.length ∧ j < c.size then l[j - (o + k)]? else c[j]? := by
 induction l with
 | nil => intro k c j; simp; omega
 | cons x l ih =>
  intro k c j
  rw [List.zipIdx_cons, List.foldl_cons, ih (k + 1)]
  simp only [Array.size_setIfInBounds, Array.getElem?_setIfInBounds, List.length_cons]
  by_cases h1 : j = o + k
  ·subst h1
   by_cases h2 : o + k < c.size
   ·exact z9_8
   ·exact z9_9
  ·by_cases h2 : o + (k + 1) ≤ j ∧ j < o + (k + 1) + l.length ∧ j < c.size
   ·rw [if_pos h2, if_pos Zo]
    obtain ⟨d, rfl⟩ : ∃ d, j = o + (k + 1) + d := ⟨j - (o + (k + 1)), by omega⟩
    rw [show o + (k + 1) + d - (o + (k + 1)) = d from by omega, show o + (k + 1) + d - (o + k) = d + 1 from by omega]
    simp
   ·rw [if_neg h2]
    by_cases h3 : o + k ≤ j ∧ j < o + k + (l.length + 1) ∧ j < c.size
    ·omega
    ·rw [if_neg h3, if_neg Zo]
theorem fill_rat (s : Bool) (M : Nat) (t : Bool) (N : Nat) (a b : Array Value) (ha : a = Bg.intA s M) (hb : b = Bg.intA t N) :
    (b.toList.zipIdx 0).foldl (fun (cs : Array Value) (x : Value × Nat) => cs.setIfInBounds (33 + x.snd) x.fst) ((a.toList.zipIdx 0).foldl (fun (cs : Array Value) (x : Value × Nat) => cs.setIfInBounds (0 + x.snd) x.fst) (Bg.ratA false 0 false 0)) = Bg.ratA s M t N := by
 subst ha hb
 have hsz : ∀ (o : Nat) (l : List (Value × Nat)) (c : Array Value), (l.foldl (fun (cs : Array Value) (x : Value × Nat) => cs.setIfInBounds (o + x.snd) x.fst) c).size = c.size := by
  intro o l
  exact z9_29
 refine ratA_ext (by rw [hsz, hsz, ratA_size]) (fun j hj => ?_) (fun j hj => ?_)
 ·rw [fill_gen, Array.length_toList, Bg.intA_size, hsz, ratA_size, if_neg Zo, fill_gen, Array.length_toList, Bg.intA_size, ratA_size, if_pos Zo, Nat.sub_zero, Array.getElem?_toList]
 ·rw [fill_gen, Array.length_toList, Bg.intA_size, hsz, ratA_size, if_pos Zo, Nat.add_sub_cancel_left, Array.getElem?_toList]
@[irreducible] def Bg.rZ (n d : Int) : Array Value := Bg.ratA (decide (n < 0)) n.natAbs (decide (d < 0)) d.natAbs
theorem rZ_ratA (n d : Int) : Bg.rZ n d = Bg.ratA (decide (n < 0)) n.natAbs (decide (d < 0)) d.natAbs := by unfold Bg.rZ; rfl
theorem rZ_size (n d : Int) : (Bg.rZ n d).size = 66 := by rw [rZ_ratA]; exact ratA_size _ _ _ _
theorem rZ_zero : Bg.ratA false 0 false 0 = Bg.rZ 0 0 := by rw [rZ_ratA]; rfl
theorem la_rz (n d : Int) : LA 35 (Bg.rZ n d) 0 (.agg (Bg.rZ n d)) := by rw [rZ_ratA]; exact la_rat _ _ _ _
theorem la_rznum (n d : Int) : LA 33 (Bg.rZ n d) 0 (.agg (Bg.zA n)) := by rw [rZ_ratA, zA_int]; exact la_rnum _ _ _ _
theorem la_rzden (n d : Int) : LA 33 (Bg.rZ n d) 33 (.agg (Bg.zA d)) := by rw [rZ_ratA, zA_int]; exact la_rden _ _ _ _
theorem sa_rz (n d : Int) {c : Array Value} (h : c.size = 66) : SA 35 c 0 (.agg (Bg.rZ n d)) (Bg.rZ n d) := by rw [rZ_ratA]; exact sa_rat _ _ _ _ h
theorem zeroRat : (zeroValue 35).run Tryz.prog = fun w => .ok (.agg (Bg.ratA false 0 false 0)) w := by
 unfold Bg.ratA; rw [← Bg.zeroInt]; kernel_rfl
theorem za_rat : ZA 35 (Bg.rZ 0 0) := ⟨.agg (Bg.rZ 0 0), rfl, fun w => by rw [← rZ_zero, zeroRat]⟩
theorem run_build_rat0 (w : World) : (Instr.build 35 #[]).run Tryz.prog w = .ok (.agg (Bg.rZ 0 0)) w := by
 have hz : ∀ w, (zeroValue 35).run Tryz.prog w = .ok (.agg (Bg.rZ 0 0)) w := fun w => by rw [← rZ_zero, zeroRat]
 simp [Instr.build, hz, go_sem]
theorem arr_fold (f : Array Value → Value × Nat → Array Value) (c a : Array Value) (n : Nat) (h : a.size = n) : Array.foldl f c a.zipIdx 0 n = (a.toList.zipIdx 0).foldl f c := by
 have e : a.zipIdx.size = n := by rw [Array.size_zipIdx, h]
 rw [← e, ← Array.foldl_toList, Array.toList_zipIdx]
theorem run_build_rat (s : Bool) (M : Nat) (t : Bool) (N : Nat) (w : World) : (Instr.build 35 #[(0, .agg (Bg.intA s M)), (1, .agg (Bg.intA t N))]).run Tryz.prog w = .ok (.agg (Bg.ratA s M t N)) w := by
 have hz : ∀ w, (zeroValue 35).run Tryz.prog w = .ok (.agg (Bg.ratA false 0 false 0)) w := fun w => by rw [zeroRat]
 have hs1 := Bg.intA_size s M
 have hs2 := Bg.intA_size t N
 have hs3 := ratA_size false 0 false 0
 have hf : Array.foldl (fun (cs : Array Value) (x : Value × Nat) => cs.setIfInBounds (33 + x.snd) x.fst) (Array.foldl (fun (cs : Array Value) (x : Value × Nat) => cs.setIfInBounds x.snd x.fst) (Bg.ratA false 0 false 0) (Bg.intA s M).zipIdx 0 33) (Bg.intA t N).zipIdx 0 33 = Bg.ratA s M t N := by
  rw [arr_fold _ _ _ 33 hs1, arr_fold _ _ _ 33 hs2]
  have h := fill_rat s M t N _ _ rfl rfl
  simp only [Nat.zero_add] at h
  exact h
 have hsz : (Array.foldl (fun (cs : Array Value) (x : Value × Nat) => cs.setIfInBounds x.snd x.fst) (Bg.ratA false 0 false 0) (Bg.intA s M).zipIdx 0 33).size = 66 := by
  rw [arr_fold _ _ _ 33 hs1]
  have hg : ∀ (l : List (Value × Nat)) (c : Array Value), (l.foldl (fun (cs : Array Value) (x : Value × Nat) => cs.setIfInBounds x.snd x.fst) c).size = c.size := by
   intro l
   exact z9_29
  rw [hg, hs3]
 simp [Instr.build, hz, go_sem, hs1, hs2, hs3, Instr.fill, Value.cells, hf, hsz]
theorem run_build_rz (n d : Int) (w : World) : (Instr.build 35 #[(0, .agg (Bg.zA n)), (1, .agg (Bg.zA d))]).run Tryz.prog w = .ok (.agg (Bg.rZ n d)) w := by
 rw [zA_int, zA_int, rZ_ratA]; exact run_build_rat _ _ _ _ w
section
variable {o : Oper} {a : Act}
theorem h_br {x y : Operand} {n d : Int} (ho : o.op = .build 35 #[(0, x), (1, y)]) (hx : a.eval x = .agg (Bg.zA n)) (hy : a.eval y = .agg (Bg.zA d)) : ∀ w, (execOp a.eval o).run Tryz.prog w = .ok (.value (.agg (Bg.rZ n d))) w := fun w => by
 unfold execOp
 simp only [ho, Sem.run_bind, List.map_toArray, List.map_cons, List.map_nil, hx, hy, run_build_rz, Result.andThen_ok, Sem.run_pure]
theorem h_br0 (ho : o.op = .build 35 #[]) : ∀ w, (execOp a.eval o).run Tryz.prog w = .ok (.value (.agg (Bg.rZ 0 0))) w := fun w => by
 unfold execOp
 simp only [ho, Sem.run_bind, List.map_toArray, List.map_nil, run_build_rat0, Result.andThen_ok, Sem.run_pure]
end
theorem eq_int9 (p d : Int) (hp : p.natAbs < Bg.lim) (hd : d.natAbs < Bg.lim) (W : World) :
    (Op.equalIn 9999 33 (.agg (Bg.zA p)) (.agg (Bg.zA d))).run Tryz.prog W = .ok (decide (p = d)) W := by
 rw [zA_int p, zA_int d]
 generalize hs : decide (p < 0) = s
 generalize ht : decide (d < 0) = t
 generalize hN : p.natAbs = N at *
 generalize hM : d.natAbs = M at *
 have hb : ∀ a b : Bool, (Op.equalIn 9998 4 (.bool a) (.bool b)).run Tryz.prog W = .ok (a == b) W := fun a b => run_equalIn_bool' (P := Tryz.prog) W 9997 4 a b Tryz.underlying4
 have ha : (Op.equalIn 9998 31 (.agg (Bg.row 32 N)) (.agg (Bg.row 32 M))).run Tryz.prog W = .ok (decide (N = M)) W := eq_arr N M hp hd 9996 W
 have h1 := intA_mag s N
 have h2 := intA_mag t M
 have h3 := Bg.intA_neg s N
 have h4 := Bg.intA_neg t M
 have h5 := Bg.intA_size s N
 have h6 := Bg.intA_size t M
 have hpd : decide (p = d) = decide (s = t ∧ N = M) := by
  rw [← hs, ← ht, ← hN, ← hM]
  exact z9_20
 rw [hpd]
 have hp : Tryz.prog.stoodInHeld 33 = false := by kernel_rfl
 rw [run_equalIn_agg W 9998 33 _ _ Zk hp]
 have hf : (Tryz.prog.fieldsOf 33).toList.map (fun f => (decide (f.name ≠ "_"), f.type, f.offset)) = [(true, 4, 0), (true, 31, 1)] := by kernel_rfl
 generalize (Tryz.prog.fieldsOf 33).toList = l at hf ⊢
 cases l with
 | nil => simp at hf
 | cons f1 l =>
  cases l with
  | nil => simp at hf
  | cons f2 l =>
   cases l with
   | cons _ _ => simp at hf
   | nil =>
    simp only [List.map_cons, List.map_nil, List.cons.injEq, Prod.mk.injEq, and_true, decide_eq_true_eq] at hf
    obtain ⟨⟨n1, t1, o1⟩, n2, t2, o2⟩ := hf
    have hp1 : (part f1.type (Bg.intA s N) f1.offset).run Tryz.prog W = .ok (.bool s) W := by rw [t1, o1]; simp [part, h3]
    have hp2 : (part f1.type (Bg.intA t M) f1.offset).run Tryz.prog W = .ok (.bool t) W := by rw [t1, o1]; simp [part, h4]
    have hp3 : (part f2.type (Bg.intA s N) f2.offset).run Tryz.prog W = .ok (.agg (Bg.row 32 N)) W := by rw [t2, o2]; simp [part, h1]
    have hp4 : (part f2.type (Bg.intA t M) f2.offset).run Tryz.prog W = .ok (.agg (Bg.row 32 M)) W := by rw [t2, o2]; simp [part, h2]
    rw [← t1] at hb
    rw [← t2] at ha
    unfold Op.eqFields
    rw [if_pos n1]
    simp only [Sem.run_bind, hp1, hp2, Result.andThen_ok, hb]
    by_cases e : s = t
    ·exact z9_18
    ·exact z9_19
theorem rZ_n (n d : Int) : (Bg.rZ n d).extract 0 33 = Bg.zA n := by rw [rZ_ratA, zA_int]; exact ratA_num _ _ _ _
theorem rZ_d (n d : Int) : (Bg.rZ n d).extract 33 66 = Bg.zA d := by rw [rZ_ratA, zA_int]; exact ratA_den _ _ _ _
theorem eq_rz (n d n2 d2 : Int) (h1 : n.natAbs < Bg.lim) (h2 : d.natAbs < Bg.lim) (h3 : n2.natAbs < Bg.lim) (h4 : d2.natAbs < Bg.lim) (W : World) :
    (Op.equalIn 10000 35 (.agg (Bg.rZ n d)) (.agg (Bg.rZ n2 d2))).run Tryz.prog W = .ok (decide (n = n2 ∧ d = d2)) W := by
 have ha := eq_int9 n n2 h1 h3 W
 have hb := eq_int9 d d2 h2 h4 W
 have e1 := rZ_n n d
 have e2 := rZ_n n2 d2
 have e3 := rZ_d n d
 have e4 := rZ_d n2 d2
 have h5 := rZ_size n d
 have h6 := rZ_size n2 d2
 have hp : Tryz.prog.stoodInHeld 35 = false := by kernel_rfl
 rw [run_equalIn_agg W 9999 35 _ _ Zk hp]
 have hf : (Tryz.prog.fieldsOf 35).toList.map (fun f => (decide (f.name ≠ "_"), f.type, f.offset)) = [(true, 33, 0), (true, 33, 33)] := by kernel_rfl
 generalize (Tryz.prog.fieldsOf 35).toList = l at hf ⊢
 cases l with
 | nil => simp at hf
 | cons f1 l =>
  cases l with
  | nil => simp at hf
  | cons f2 l =>
   cases l with
   | cons _ _ => simp at hf
   | nil =>
    simp only [List.map_cons, List.map_nil, List.cons.injEq, Prod.mk.injEq, and_true, decide_eq_true_eq] at hf
    obtain ⟨⟨n1, t1, o1⟩, n2', t2, o2⟩ := hf
    have hp1 : (part f1.type (Bg.rZ n d) f1.offset).run Tryz.prog W = .ok (.agg (Bg.zA n)) W := by rw [t1, o1]; simp [part, e1]
    have hp2 : (part f1.type (Bg.rZ n2 d2) f1.offset).run Tryz.prog W = .ok (.agg (Bg.zA n2)) W := by rw [t1, o1]; simp [part, e2]
    have hp3 : (part f2.type (Bg.rZ n d) f2.offset).run Tryz.prog W = .ok (.agg (Bg.zA d)) W := by rw [t2, o2]; simp [part, e3]
    have hp4 : (part f2.type (Bg.rZ n2 d2) f2.offset).run Tryz.prog W = .ok (.agg (Bg.zA d2)) W := by rw [t2, o2]; simp [part, e4]
    rw [← t1] at ha
    rw [← t2] at hb
    unfold Op.eqFields
    rw [if_pos n1]
    simp only [Sem.run_bind, hp1, hp2, Result.andThen_ok, ha]
    by_cases e : n = n2
    ·subst e
     simp only [decide_true, Bool.not_true, Bool.false_eq_true, if_false]
     unfold Op.eqFields
     rw [if_pos n2']
     simp only [Sem.run_bind, hp3, hp4, Result.andThen_ok, hb]
     by_cases e2 : d = d2 <;> simp [e2, Op.eqFields]
    ·simp only [e, decide_false, Bool.not_false, if_true, Sem.run_pure]
     simp
theorem run_cmp_r (op : BinOp) (n d n2 d2 : Int) (h1 : n.natAbs < Bg.lim) (h2 : d.natAbs < Bg.lim) (h3 : n2.natAbs < Bg.lim) (h4 : d2.natAbs < Bg.lim) (x y : Operand) (w : World) (h : op = .eql ∨ op = .neq) :
    (do eqGuard op 35 x y (.agg (Bg.rZ n d)) (.agg (Bg.rZ n2 d2)); binOp op 35 (.agg (Bg.rZ n d)) (.agg (Bg.rZ n2 d2)) : Sem Value).run Tryz.prog w = .ok (.bool (if op = .eql then decide (n = n2 ∧ d = d2) else !decide (n = n2 ∧ d = d2))) w := by
 have hm : Tryz.prog.eqGuardType Tryz.prog.depth 35 = false := by kernel_rfl
 have he := eq_rz n d n2 d2 h1 h2 h3 h4 w
 simp only [Sem.run_bind, run_eqGuard_agg w op _ x y _ _ hm, Result.andThen_ok]
 rcases h with rfl | rfl
 ·exact z9_21
 ·exact z9_22
theorem y_cmpr (op : BinOp) (n d n2 d2 : Int) (v : Bool) (he : op = .eql ∨ op = .neq) (hv : v = if op = .eql then decide (n = n2 ∧ d = d2) else !decide (n = n2 ∧ d = d2)) (h1 : n.natAbs < Bg.lim) (h2 : d.natAbs < Bg.lim) (h3 : n2.natAbs < Bg.lim) (h4 : d2.natAbs < Bg.lim) {ops : Array Oper} {S : World → Prop} {o : Oper} {a : Act} {x y : Operand} {t : TypeId} (hw : Region.wanted o (yielded ops a.tmps) = true) (ho : o.op = .binOp op 35 x y t) (hx : a.eval x = .agg (Bg.rZ n d)) (hy : a.eval y = .agg (Bg.rZ n2 d2)) :
    YieldsIf Tryz.prog ops S o (.bool v) a := by
 refine Or.inl ⟨hw, fun w _ => ?_⟩
 have hr := run_cmp_r op n d n2 d2 h1 h2 h3 h4 x y w he
 exact z9_30
section
variable {ops : Array Oper} {rest : List Oper} {a a2 : Act} {w : World} {Q : Exit → Act → World → Prop} {d : Option Tmp} {ty T t : TypeId} {ps : String} {af : Array Edge} {g : Option (Nat × Bool)} {x y : Operand} {v : Value} {xs : Array (Nat × Operand)} {bop : BinOp}
theorem a_rbl (h : wpList Tryz.prog ops Q rest a2 w) (hw : WantT ops { dst := d, op := .build T xs, type := ty, pos := ps, after := af, guard := g } a := by first | exact Or.inl rfl | exact Or.inr ⟨_, _, _, rfl, rfl, rfl⟩) (hy : ∀ w, (execOp a.eval { dst := d, op := .build T xs, type := ty, pos := ps, after := af, guard := g }).run Tryz.prog w = .ok (.value v) w := by (first | (refine h_br (x := ?_) (y := ?_) (n := ?_) (d := ?_) ?_ ?_ ?_; rotate_left 4; (focus rfl); (focus rfl); (focus rfl)) | (refine h_br0 ?_; rfl))) (ha : a.put d v = a2 := by ((try simp only [Act.put, Za, Zx, Zy]) <;> rfl)) : OpG ops Q rest a w { dst := d, op := .build T xs, type := ty, pos := ps, after := af, guard := g } := m_bld hw hy (ha ▸ h)
end
end
end Go.Proofs.YtiekmabiecalbaaGreatDoor
