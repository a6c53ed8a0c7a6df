/- Walks. -/
import Derived.Test.YtkiempioeffhbaaGreatDoorPg12
import Derived.Test.YtkiempioeffhbaaGreatDoorPg13
namespace Go.Proofs.YtkiempioeffhbaaGreatDoor
set_option maxHeartbeats 16000000
open Go.RowKit
set_option maxRecDepth 8000
section
@[irreducible] def Ex.nA (c : Array Value) (e : Int) : Array Value := rowsOf [c, #[.int .i64 e]]
theorem Ex.nA_rows (c : Array Value) (e : Int) : Ex.nA c e = rowsOf [c, #[.int .i64 e]] := by unfold Ex.nA; rfl
theorem Ex.nA_size {c : Array Value} (h : c.size = 66) (e : Int) : (Ex.nA c e).size = 67 := by
 rw [Ex.nA_rows]; simp [rowsOf, h]
theorem Ex.one {c : Array Value} (h : c.all (·.oneCell') = true) (e : Int) : (Ex.nA c e).all (·.oneCell') = true := by
 rw [Ex.nA_rows]
 exact rows_cells_one (by
  intro d hd
  simp only [List.mem_cons, List.not_mem_nil, or_false] at hd
  rcases hd with rfl | rfl
  ·exact h
  ·simp [Value.oneCell'])
theorem Ex.fv {c : Array Value} (h : c.size = 66) (e : Int) : FA 43 (Ex.nA c e) 0 (.agg c) := by
 rw [Ex.nA_rows]; exact fa_agg 0 Zk (by rw [h]; exact sT_rat) rfl rfl
theorem Ex.la {c : Array Value} (h : c.size = 66) (e : Int) : LA 130 (Ex.nA c e) 0 (.agg (Ex.nA c e)) := LA.whole Zk (by rw [Ex.nA_size h]; kernel_rfl)
theorem Ex.sa {c : Array Value} (h : c.size = 66) (h1 : c.all (·.oneCell') = true) (e : Int) {z : Array Value} (hz : z.size = 67) : SA 130 z 0 (.agg (Ex.nA c e)) (Ex.nA c e) := SA.whole (by rw [Ex.nA_size h]; kernel_rfl) (Ex.one h1 e) (by rw [Ex.nA_size h, hz])
theorem Ex.zeroC : Ex.nA (Bg.rZ 0 0) 0 = Bg.ratA false 0 false 0 ++ #[.int .i64 0] := by rw [Ex.nA_rows, ← rZ_zero]; simp [rowsOf]
theorem Ex.zeroF : (zeroValue 130).run Tryz.prog = fun w => .ok (.agg (Ex.nA (Bg.rZ 0 0) 0)) w := by
 rw [Ex.zeroC]; unfold Bg.ratA; rw [← Bg.zeroInt]; kernel_rfl
theorem Ex.zero (w : World) : (zeroValue 130).run Tryz.prog w = .ok (.agg (Ex.nA (Bg.rZ 0 0) 0)) w := by rw [Ex.zeroF]
theorem Ex.za : ZA 130 (Ex.nA (Bg.rZ 0 0) 0) := ⟨_, rfl, Ex.zero⟩
theorem Ex.shape : shapeOf [Bg.rZ 0 0, #[Value.int .i64 0]] = [(0, 66), (66, 1)] := by
 simp [shapeOf, offs, rZ_size, List.range, List.range.loop]
theorem Ex.places (w : World) : ((Tryz.prog.fieldsOf 130).mapM (fun f => do pure (f.offset, ← sizeOf f.type)) : Sem (Array (Nat × Nat))).run Tryz.prog w = .ok [(0, 66), (66, 1)].toArray w := by kernel_rfl
theorem Ex.und : Tryz.prog.underlying 130 = some (.struct (Tryz.prog.fieldsOf 130)) := by kernel_rfl
theorem Ex.b2 {c : Array Value} (h : c.size = 66) (e : Int) (w : World) : (Instr.build 130 #[(0, .agg c), (1, .int .i64 e)]).run Tryz.prog w = .ok (.agg (Ex.nA c e)) w :=
 run_build_flds Ex.und (fun w => by rw [Ex.zero, Ex.nA_rows]) Ex.places Ex.shape (by simp [Value.cells, h]) (by rw [Ex.nA_rows]; rfl) w
section
variable {o : Oper} {a : Act} {T : TypeId} {r : Array Value}
theorem h_bl2 {i j : Nat} {x y : Operand} {v u : Value} (ho : o.op = .build T #[(i, x), (j, y)]) (hx : a.eval x = v) (hy : a.eval y = u) (hb : ∀ w, (Instr.build T #[(i, v), (j, u)]).run Tryz.prog w = .ok (.agg r) w) : ∀ w, (execOp a.eval o).run Tryz.prog w = .ok (.value (.agg r)) w := fun w => by
 unfold execOp
 simp only [ho, Sem.run_bind, List.map_toArray, List.map_cons, List.map_nil, hx, hy, hb, Result.andThen_ok, Sem.run_pure]
theorem h_fld {i : Nat} {x : Operand} {c : Array Value} {v : Value} {t : TypeId} {k : Nat} (ho : o.op = .field T x i) (hx : a.eval x = .agg c) (hu : Tryz.prog.underlying T = some (.struct (Tryz.prog.fieldsOf T))) (hf : ((Tryz.prog.fieldsOf T)[i]?).map (fun f => (f.type, f.offset)) = some (t, k)) (hv : FA t c k v) : ∀ w, (execOp a.eval o).run Tryz.prog w = .ok (.value v) w := fun w => by
 cases hg : (Tryz.prog.fieldsOf T)[i]? with
 | none => rw [hg] at hf; cases hf
 | some f =>
  rw [hg] at hf
  have h1 : f.type = t ∧ f.offset = k := by simpa using hf
  have h2 := hv.pt w
  rw [← h1.1, ← h1.2] at h2
  unfold execOp
  simp [ho, hx, Instr.field, run_underlying hu, hg, asAgg, h2]
end
section
variable {ops : Array Oper} {rest : List Oper} {a a2 : Act} {w : World} {Q : Exit → Act → World → Prop} {d : Option Tmp} {ty T t : TypeId} {ps : String} {af : Array Edge} {g : Option (Nat × Bool)} {x y : Operand} {v : Value} {i : Nat}
theorem g_fld (h : OpG ops Q rest a w { dst := d, op := .field T x i, type := ty, pos := ps, after := af, guard := g }) : wpList Tryz.prog ops Q ({ dst := d, op := .field T x i, type := ty, pos := ps, after := af, guard := g } :: rest) a w := h
theorem a_fld {c : Array Value} {k : Nat} (h : wpList Tryz.prog ops Q rest a2 w) (hv : FA t c k v) (hw : WantT ops { dst := d, op := .field T x i, type := ty, pos := ps, after := af, guard := g } a := by first | exact Or.inl rfl | exact Or.inr ⟨_, _, _, rfl, rfl, rfl⟩) (hx : a.eval x = .agg c := by (conv => lhs; whnf) <;> rfl) (hu : Tryz.prog.underlying T = some (.struct (Tryz.prog.fieldsOf T)) := by kernel_rfl) (hf : ((Tryz.prog.fieldsOf T)[i]?).map (fun f => (f.type, f.offset)) = some (t, k) := by kernel_rfl) (ha : a.put d v = a2 := by ((try simp only [Act.put, Za, Zx, Zy]) <;> rfl)) : OpG ops Q rest a w { dst := d, op := .field T x i, type := ty, pos := ps, after := af, guard := g } := by
 refine wpList_step fun K hK => ?_
 rw [if_pos hw.wanted]
 unfold Oper.wp
 rw [h_fld rfl hx hu hf hv]
 exact hK _ _ (ha ▸ h)
end
inductive Ex
 | ok (x : Rat)
 | er (e : Int)
def Ex.cv : Ex → Array Value
 | .ok x => Rt.qA x
 | .er _ => Bg.rZ 0 0
def Ex.ce : Ex → Int
 | .ok _ => 0
 | .er e => e
abbrev Ex.A (n : Ex) : Array Value := Ex.nA n.cv n.ce
def Ex.Fit : Ex → Prop
 | .ok x => Rt.Fit x
 | .er e => e ≠ 0
noncomputable def Ex.mk (z : Rat) : Ex := open Classical in if Rt.Fit z then .ok z else .er 10
def Ex.op (f : Rat → Rat → Ex) : Ex → Ex → Ex
 | .er e, _ => .er e
 | .ok _, .er e => .er e
 | .ok x, .ok y => f x y
noncomputable def Ex.add : Ex → Ex → Ex := Ex.op fun x y => Ex.mk (x + y)
noncomputable def Ex.sub : Ex → Ex → Ex := Ex.op fun x y => Ex.mk (x - y)
noncomputable def Ex.mul : Ex → Ex → Ex := Ex.op fun x y => Ex.mk (x * y)
noncomputable def Ex.quo : Ex → Ex → Ex := Ex.op fun x y => if y = 0 then .er 11 else Ex.mk (x / y)
theorem rof_q (n d : Int) (x : Rat) (hn1 : -9223372036854775808 ≤ n) (hn2 : n < 9223372036854775808) (hd1 : -9223372036854775808 ≤ d) (hd2 : d < 9223372036854775808) (h0 : d ≠ 0) (hx : Hid (x = Rat.divInt n d)) (w : World) :
    Calls Tryz.prog 74 #[.int .i64 n, .int .i64 d] w fun r w' => r = .returned (.tuple #[.agg (Rt.qA x), .int .i64 0]) ∧ Below w.heap.size w w' := by
 rw [qA_rZ]
 exact rof_n n d x.num x.den 0 hn1 hn2 hd1 hd2 (Rt.mk_q h0 (small_480 (z := n) Zo) (small_480 (z := d) Zo) hx.out) w
theorem over_ex (n d : Int) (x : Rat) (hn1 : -9223372036854775808 ≤ n) (hn2 : n < 9223372036854775808) (hd1 : -9223372036854775808 ≤ d) (hd2 : d < 9223372036854775808) (h0 : d ≠ 0) (hx : Hid (x = Rat.divInt n d)) (w : World) :
    Calls Tryz.prog 49 #[.int .i64 n, .int .i64 d] w fun e w' => e = .returned (.agg (Ex.A (.ok x))) ∧ Below w.heap.size w w' := by
 have HM := Mem.start w
 have zn := Ex.za
 have zr := za_rat
 have k1 := la_q x
 have s1 := Ex.sa (qA_size x) (qA_one x) 0 (Ex.nA_size (rZ_size 0 0) 0)
 have s2 := sa_q x (rZ_size 0 0)
 go_enter Tryz.func49, Tryz.ntmps49
 go_wp2_with (first | (go_at_call 74; (with_reducible refine Zc HM (rof_q n d x hn1 hn2 hd1 hd2 h0 hx _) ?_; clear HM; intro w2 HM)) | ((with_reducible refine g_bld ?_); refine a_rbl ?_ (hy := h_bl2 rfl Zw Zw (Ex.b2 (qA_size x) 0))) | ((with_reducible refine g_ld ?_); refine a_ld HM ?_) | ((with_reducible refine g_st ?_); refine a_st HM ?_; clear HM; intro w1 HM) | ((with_reducible refine g_al ?_); refine a_al HM ?_; clear HM; intro bk w1 HM))
 refine bodyPost_ret (r_c rfl rfl (HM.get Zl) (Ex.la (qA_size x) 0)) rfl ⟨rfl, HM.low⟩
end
section
theorem h_bg1 {o : Oper} {a : Act} {T : TypeId} {r : Array Value} {i0 : Nat} {x0 : Operand} {v0 : Value} (ho : o.op = .build T #[(i0, x0)]) (h0 : a.eval x0 = v0) (hb : ∀ w, (Instr.build T #[(i0, v0)]).run Tryz.prog w = .ok (.agg r) w) : ∀ w, (execOp a.eval o).run Tryz.prog w = .ok (.value (.agg r)) w := fun w => by
 have hb := hb w
 unfold execOp
 simp [ho, h0, hb, Result.andThen]
theorem h_bg2 {o : Oper} {a : Act} {T : TypeId} {r : Array Value} {i0 i1 : Nat} {x0 x1 : Operand} {v0 v1 : Value} (ho : o.op = .build T #[(i0, x0), (i1, x1)]) (h0 : a.eval x0 = v0) (h1 : a.eval x1 = v1) (hb : ∀ w, (Instr.build T #[(i0, v0), (i1, v1)]).run Tryz.prog w = .ok (.agg r) w) : ∀ w, (execOp a.eval o).run Tryz.prog w = .ok (.value (.agg r)) w := fun w => by
 have hb := hb w
 unfold execOp
 simp [ho, h0, h1, hb, Result.andThen]
theorem h_bg3 {o : Oper} {a : Act} {T : TypeId} {r : Array Value} {i0 i1 i2 : Nat} {x0 x1 x2 : Operand} {v0 v1 v2 : Value} (ho : o.op = .build T #[(i0, x0), (i1, x1), (i2, x2)]) (h0 : a.eval x0 = v0) (h1 : a.eval x1 = v1) (h2 : a.eval x2 = v2) (hb : ∀ w, (Instr.build T #[(i0, v0), (i1, v1), (i2, v2)]).run Tryz.prog w = .ok (.agg r) w) : ∀ w, (execOp a.eval o).run Tryz.prog w = .ok (.value (.agg r)) w := fun w => by
 have hb := hb w
 unfold execOp
 simp [ho, h0, h1, h2, hb, Result.andThen]
theorem h_bg4 {o : Oper} {a : Act} {T : TypeId} {r : Array Value} {i0 i1 i2 i3 : Nat} {x0 x1 x2 x3 : Operand} {v0 v1 v2 v3 : Value} (ho : o.op = .build T #[(i0, x0), (i1, x1), (i2, x2), (i3, x3)]) (h0 : a.eval x0 = v0) (h1 : a.eval x1 = v1) (h2 : a.eval x2 = v2) (h3 : a.eval x3 = v3) (hb : ∀ w, (Instr.build T #[(i0, v0), (i1, v1), (i2, v2), (i3, v3)]).run Tryz.prog w = .ok (.agg r) w) : ∀ w, (execOp a.eval o).run Tryz.prog w = .ok (.value (.agg r)) w := fun w => by
 have hb := hb w
 unfold execOp
 simp [ho, h0, h1, h2, h3, hb, Result.andThen]
theorem h_bg5 {o : Oper} {a : Act} {T : TypeId} {r : Array Value} {i0 i1 i2 i3 i4 : Nat} {x0 x1 x2 x3 x4 : Operand} {v0 v1 v2 v3 v4 : Value} (ho : o.op = .build T #[(i0, x0), (i1, x1), (i2, x2), (i3, x3), (i4, x4)]) (h0 : a.eval x0 = v0) (h1 : a.eval x1 = v1) (h2 : a.eval x2 = v2) (h3 : a.eval x3 = v3) (h4 : a.eval x4 = v4) (hb : ∀ w, (Instr.build T #[(i0, v0), (i1, v1), (i2, v2), (i3, v3), (i4, v4)]).run Tryz.prog w = .ok (.agg r) w) : ∀ w, (execOp a.eval o).run Tryz.prog w = .ok (.value (.agg r)) w := fun w => by
 have hb := hb w
 unfold execOp
 simp [ho, h0, h1, h2, h3, h4, hb, Result.andThen]
theorem h_bg6 {o : Oper} {a : Act} {T : TypeId} {r : Array Value} {i0 i1 i2 i3 i4 i5 : Nat} {x0 x1 x2 x3 x4 x5 : Operand} {v0 v1 v2 v3 v4 v5 : Value} (ho : o.op = .build T #[(i0, x0), (i1, x1), (i2, x2), (i3, x3), (i4, x4), (i5, x5)]) (h0 : a.eval x0 = v0) (h1 : a.eval x1 = v1) (h2 : a.eval x2 = v2) (h3 : a.eval x3 = v3) (h4 : a.eval x4 = v4) (h5 : a.eval x5 = v5) (hb : ∀ w, (Instr.build T #[(i0, v0), (i1, v1), (i2, v2), (i3, v3), (i4, v4), (i5, v5)]).run Tryz.prog w = .ok (.agg r) w) : ∀ w, (execOp a.eval o).run Tryz.prog w = .ok (.value (.agg r)) w := fun w => by
 have hb := hb w
 unfold execOp
 simp [ho, h0, h1, h2, h3, h4, h5, hb, Result.andThen]
theorem h_bg7 {o : Oper} {a : Act} {T : TypeId} {r : Array Value} {i0 i1 i2 i3 i4 i5 i6 : Nat} {x0 x1 x2 x3 x4 x5 x6 : Operand} {v0 v1 v2 v3 v4 v5 v6 : Value} (ho : o.op = .build T #[(i0, x0), (i1, x1), (i2, x2), (i3, x3), (i4, x4), (i5, x5), (i6, x6)]) (h0 : a.eval x0 = v0) (h1 : a.eval x1 = v1) (h2 : a.eval x2 = v2) (h3 : a.eval x3 = v3) (h4 : a.eval x4 = v4) (h5 : a.eval x5 = v5) (h6 : a.eval x6 = v6) (hb : ∀ w, (Instr.build T #[(i0, v0), (i1, v1), (i2, v2), (i3, v3), (i4, v4), (i5, v5), (i6, v6)]).run Tryz.prog w = .ok (.agg r) w) : ∀ w, (execOp a.eval o).run Tryz.prog w = .ok (.value (.agg r)) w := fun w => by
 have hb := hb w
 unfold execOp
 simp [ho, h0, h1, h2, h3, h4, h5, h6, hb, Result.andThen]
theorem h_bg8 {o : Oper} {a : Act} {T : TypeId} {r : Array Value} {i0 i1 i2 i3 i4 i5 i6 i7 : Nat} {x0 x1 x2 x3 x4 x5 x6 x7 : Operand} {v0 v1 v2 v3 v4 v5 v6 v7 : Value} (ho : o.op = .build T #[(i0, x0), (i1, x1), (i2, x2), (i3, x3), (i4, x4), (i5, x5), (i6, x6), (i7, x7)]) (h0 : a.eval x0 = v0) (h1 : a.eval x1 = v1) (h2 : a.eval x2 = v2) (h3 : a.eval x3 = v3) (h4 : a.eval x4 = v4) (h5 : a.eval x5 = v5) (h6 : a.eval x6 = v6) (h7 : a.eval x7 = v7) (hb : ∀ w, (Instr.build T #[(i0, v0), (i1, v1), (i2, v2), (i3, v3), (i4, v4), (i5, v5), (i6, v6), (i7, v7)]).run Tryz.prog w = .ok (.agg r) w) : ∀ w, (execOp a.eval o).run Tryz.prog w = .ok (.value (.agg r)) w := fun w => by
 have hb := hb w
 unfold execOp
 simp [ho, h0, h1, h2, h3, h4, h5, h6, h7, hb, Result.andThen]
theorem h_bg9 {o : Oper} {a : Act} {T : TypeId} {r : Array Value} {i0 i1 i2 i3 i4 i5 i6 i7 i8 : Nat} {x0 x1 x2 x3 x4 x5 x6 x7 x8 : Operand} {v0 v1 v2 v3 v4 v5 v6 v7 v8 : Value} (ho : o.op = .build T #[(i0, x0), (i1, x1), (i2, x2), (i3, x3), (i4, x4), (i5, x5), (i6, x6), (i7, x7), (i8, x8)]) (h0 : a.eval x0 = v0) (h1 : a.eval x1 = v1) (h2 : a.eval x2 = v2) (h3 : a.eval x3 = v3) (h4 : a.eval x4 = v4) (h5 : a.eval x5 = v5) (h6 : a.eval x6 = v6) (h7 : a.eval x7 = v7) (h8 : a.eval x8 = v8) (hb : ∀ w, (Instr.build T #[(i0, v0), (i1, v1), (i2, v2), (i3, v3), (i4, v4), (i5, v5), (i6, v6), (i7, v7), (i8, v8)]).run Tryz.prog w = .ok (.agg r) w) : ∀ w, (execOp a.eval o).run Tryz.prog w = .ok (.value (.agg r)) w := fun w => by
 have hb := hb w
 unfold execOp
 simp [ho, h0, h1, h2, h3, h4, h5, h6, h7, h8, hb, Result.andThen]
theorem h_bg10 {o : Oper} {a : Act} {T : TypeId} {r : Array Value} {i0 i1 i2 i3 i4 i5 i6 i7 i8 i9 : Nat} {x0 x1 x2 x3 x4 x5 x6 x7 x8 x9 : Operand} {v0 v1 v2 v3 v4 v5 v6 v7 v8 v9 : Value} (ho : o.op = .build T #[(i0, x0), (i1, x1), (i2, x2), (i3, x3), (i4, x4), (i5, x5), (i6, x6), (i7, x7), (i8, x8), (i9, x9)]) (h0 : a.eval x0 = v0) (h1 : a.eval x1 = v1) (h2 : a.eval x2 = v2) (h3 : a.eval x3 = v3) (h4 : a.eval x4 = v4) (h5 : a.eval x5 = v5) (h6 : a.eval x6 = v6) (h7 : a.eval x7 = v7) (h8 : a.eval x8 = v8) (h9 : a.eval x9 = v9) (hb : ∀ w, (Instr.build T #[(i0, v0), (i1, v1), (i2, v2), (i3, v3), (i4, v4), (i5, v5), (i6, v6), (i7, v7), (i8, v8), (i9, v9)]).run Tryz.prog w = .ok (.agg r) w) : ∀ w, (execOp a.eval o).run Tryz.prog w = .ok (.value (.agg r)) w := fun w => by
 have hb := hb w
 unfold execOp
 simp [ho, h0, h1, h2, h3, h4, h5, h6, h7, h8, h9, hb, Result.andThen]
section
variable {ops : Array Oper} {rest : List Oper} {a a2 : Act} {w : World} {Q : Exit → Act → World → Prop} {d : Option Tmp} {ty t T : TypeId} {ps : String} {af : Array Edge} {g : Option (Nat × Bool)} {x y : Operand}
theorem a_seqb {xs ys : Array Value} {b : Bool} (hE : EqT 10000 T (.agg xs) (.agg ys) b) (hm : Tryz.prog.eqGuardType Tryz.prog.depth T = false) (h : wpList Tryz.prog ops Q rest a2 w)
    (hw : WantT ops { dst := d, op := .binOp .eql T x y t, type := ty, pos := ps, after := af, guard := g } a := by first | exact Or.inl rfl | exact Or.inr ⟨_, _, _, rfl, rfl, rfl⟩) (hx : a.eval x = .agg xs := by (conv => lhs; whnf) <;> rfl) (hy : a.eval y = .agg ys := by (conv => lhs; whnf) <;> rfl) (ha : a.put d (.bool b) = a2 := by ((try simp only [Act.put, Za, Zx, Zy]) <;> rfl)) : OpG ops Q rest a w { dst := d, op := .binOp .eql T x y t, type := ty, pos := ps, after := af, guard := g } :=
 a_cmps .eql b (.inl rfl) hE rfl hm h hw hx hy ha
inductive OffV : Value → Bool → Prop
 | t : OffV (.bool true) false
 | f : OffV (.bool false) true
 | u (w : Bool) : OffV undef w
@[irreducible] def OffG (ops : Array Oper) (Q : Exit → Act → World → Prop) (rest : List Oper) (a : Act) (w : World) (o : Oper) : Prop := OpG ops Q rest a w o
theorem g_offw {op : Op} {j : Nat} {want : Bool} (h : OffG ops Q rest a w { dst := d, op := op, type := ty, pos := ps, after := af, guard := some (j, want) }) : wpList Tryz.prog ops Q ({ dst := d, op := op, type := ty, pos := ps, after := af, guard := some (j, want) } :: rest) a w := by
 unfold OffG at h; exact h
theorem a_offw {op : Op} {j : Nat} {d2 : Tmp} {want : Bool} {v : Value} (h : wpList Tryz.prog ops Q rest a2 w) (hj : (ops[j]?).bind (·.dst) = some d2 := by rfl) (hv : a.tmps[d2]? = some v := by rfl) (hn : OffV v want := by first | exact OffV.t | exact OffV.f | exact OffV.u _) (ha : a.put d undef = a2 := by ((try simp only [Act.put, Za, Zx, Zy]) <;> rfl)) : OffG ops Q rest a w { dst := d, op := op, type := ty, pos := ps, after := af, guard := some (j, want) } := by
 unfold OffG
 refine wpList_step fun K hK => ?_
 have hn : Region.wanted { dst := d, op := op, type := ty, pos := ps, after := af, guard := some (j, want) } (yielded ops a.tmps) = false := by
  cases hn <;> simp [Region.wanted, yielded, hj, hv, undef]
 rw [hn]
 simp only [Bool.false_eq_true, if_false]
 exact hK _ _ (ha ▸ h)
end
end
end Go.Proofs.YtkiempioeffhbaaGreatDoor
