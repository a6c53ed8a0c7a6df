/- Walks, and plain facts for them. -/
import Derived.Test.YtckhdiljihhdmaaGreatPb23
import Derived.Test.YtckhdiljihhdmaaGreatPb04
namespace Go.Proofs.YtckhdiljihhdmaaGreat
set_option maxRecDepth 8000
open Go.RowKit
@[irreducible] def Ex.nA (c : Array Value) (e : Int) : Array Value := rowsOf [c, #[.int .i64 e]]
theorem Ex.nA_rows (c : Array Value) (e : Int) : Ex.nA c e = rowsOf [c, #[.int .i64 e]] := by unfold Ex.nA; rfl
theorem Ex.nA_size {c : Array Value} (h : c.size = 66) (e : Int) : (Ex.nA c e).size = 67 := by
 rw [Ex.nA_rows]; simp [rowsOf, h]
theorem Ex.one {c : Array Value} (h : c.all (·.oneCell') = true) (e : Int) : (Ex.nA c e).all (·.oneCell') = true := by
 rw [Ex.nA_rows]
 exact rows_cells_one (by
  intro d hd
  simp only [List.mem_cons, List.not_mem_nil, or_false] at hd
  rcases hd with rfl | rfl
  ·exact h
  ·simp [Value.oneCell'])
theorem Ex.fv {c : Array Value} (h : c.size = 66) (e : Int) : FA 50 (Ex.nA c e) 0 (.agg c) := by
 rw [Ex.nA_rows]; exact fa_agg 0 (by kernel_rfl) (by rw [h]; exact sT_rat) rfl rfl
theorem Ex.fe {c : Array Value} (h : c.size = 66) (e : Int) : FA 30 (Ex.nA c e) 66 (.int .i64 e) := by
 rw [Ex.nA_rows]; exact fa_one 1 (by kernel_rfl) rfl (by simp [offs, h])
theorem Ex.la {c : Array Value} (h : c.size = 66) (e : Int) : LA 56 (Ex.nA c e) 0 (.agg (Ex.nA c e)) := LA.whole (by kernel_rfl) (by rw [Ex.nA_size h]; kernel_rfl)
theorem Ex.sa {c : Array Value} (h : c.size = 66) (h1 : c.all (·.oneCell') = true) (e : Int) {z : Array Value} (hz : z.size = 67) : SA 56 z 0 (.agg (Ex.nA c e)) (Ex.nA c e) := SA.whole (by rw [Ex.nA_size h]; kernel_rfl) (Ex.one h1 e) (by rw [Ex.nA_size h, hz])
theorem Ex.zeroC : Ex.nA (Bg.rZ 0 0) 0 = Bg.ratA false 0 false 0 ++ #[.int .i64 0] := by rw [Ex.nA_rows, ← rZ_zero]; simp [rowsOf]
theorem Ex.zeroF : (zeroValue 56).run Tryz.prog = fun w => .ok (.agg (Ex.nA (Bg.rZ 0 0) 0)) w := by
 rw [Ex.zeroC]; unfold Bg.ratA; rw [← Bg.zeroInt]; kernel_rfl
theorem Ex.zero (w : World) : (zeroValue 56).run Tryz.prog w = .ok (.agg (Ex.nA (Bg.rZ 0 0) 0)) w := by rw [Ex.zeroF]
theorem Ex.za : ZA 56 (Ex.nA (Bg.rZ 0 0) 0) := ⟨_, rfl, Ex.zero⟩
theorem Ex.shape : shapeOf [Bg.rZ 0 0, #[Value.int .i64 0]] = [(0, 66), (66, 1)] := by
 simp [shapeOf, offs, rZ_size, List.range, List.range.loop]
theorem Ex.places (w : World) : ((Tryz.prog.fieldsOf 56).mapM (fun f => do pure (f.offset, ← sizeOf f.type)) : Sem (Array (Nat × Nat))).run Tryz.prog w = .ok [(0, 66), (66, 1)].toArray w := by kernel_rfl
theorem Ex.und : Tryz.prog.underlying 56 = some (.struct (Tryz.prog.fieldsOf 56)) := by kernel_rfl
theorem Ex.b0 {c : Array Value} (h : c.size = 66) (w : World) : (Instr.build 56 #[(0, .agg c)]).run Tryz.prog w = .ok (.agg (Ex.nA c 0)) w :=
 run_build_flds Ex.und (fun w => by rw [Ex.zero, Ex.nA_rows]) Ex.places Ex.shape (by simp [Value.cells, h]) (by rw [Ex.nA_rows]; rfl) w
theorem Ex.b1 (e : Int) (w : World) : (Instr.build 56 #[(1, .int .i64 e)]).run Tryz.prog w = .ok (.agg (Ex.nA (Bg.rZ 0 0) e)) w :=
 run_build_flds Ex.und (fun w => by rw [Ex.zero, Ex.nA_rows]) Ex.places Ex.shape (by simp [Value.cells]) (by rw [Ex.nA_rows]; rfl) w
theorem Ex.b2 {c : Array Value} (h : c.size = 66) (e : Int) (w : World) : (Instr.build 56 #[(0, .agg c), (1, .int .i64 e)]).run Tryz.prog w = .ok (.agg (Ex.nA c e)) w :=
 run_build_flds Ex.und (fun w => by rw [Ex.zero, Ex.nA_rows]) Ex.places Ex.shape (by simp [Value.cells, h]) (by rw [Ex.nA_rows]; rfl) w
section
variable {o : Oper} {a : Act} {T : TypeId} {r : Array Value}
theorem h_bl1 {i : Nat} {x : Operand} {v : Value} (ho : o.op = .build T #[(i, x)]) (hx : a.eval x = v) (hb : ∀ w, (Instr.build T #[(i, v)]).run Tryz.prog w = .ok (.agg r) w) : ∀ w, (execOp a.eval o).run Tryz.prog w = .ok (.value (.agg r)) w := fun w => by
 unfold execOp
 simp only [ho, Sem.run_bind, List.map_toArray, List.map_cons, List.map_nil, hx, hb, Result.andThen_ok, Sem.run_pure]
theorem h_bl2 {i j : Nat} {x y : Operand} {v u : Value} (ho : o.op = .build T #[(i, x), (j, y)]) (hx : a.eval x = v) (hy : a.eval y = u) (hb : ∀ w, (Instr.build T #[(i, v), (j, u)]).run Tryz.prog w = .ok (.agg r) w) : ∀ w, (execOp a.eval o).run Tryz.prog w = .ok (.value (.agg r)) w := fun w => by
 unfold execOp
 simp only [ho, Sem.run_bind, List.map_toArray, List.map_cons, List.map_nil, hx, hy, hb, Result.andThen_ok, Sem.run_pure]
theorem h_fld {i : Nat} {x : Operand} {c : Array Value} {v : Value} {t : TypeId} {k : Nat} (ho : o.op = .field T x i) (hx : a.eval x = .agg c) (hu : Tryz.prog.underlying T = some (.struct (Tryz.prog.fieldsOf T))) (hf : ((Tryz.prog.fieldsOf T)[i]?).map (fun f => (f.type, f.offset)) = some (t, k)) (hv : FA t c k v) : ∀ w, (execOp a.eval o).run Tryz.prog w = .ok (.value v) w := fun w => by
 cases hg : (Tryz.prog.fieldsOf T)[i]? with
 | none => rw [hg] at hf; cases hf
 | some f =>
  rw [hg] at hf
  have h1 : f.type = t ∧ f.offset = k := by simpa using hf
  have h2 := hv.pt w
  rw [← h1.1, ← h1.2] at h2
  unfold execOp
  simp [ho, hx, Instr.field, run_underlying hu, hg, asAgg, h2]
end
section
variable {ops : Array Oper} {rest : List Oper} {a a2 : Act} {w : World} {Q : Exit → Act → World → Prop} {d : Option Tmp} {ty T t : TypeId} {ps : String} {af : Array Edge} {g : Option (Nat × Bool)} {x y : Operand} {v : Value} {i : Nat}
theorem g_fld (h : OpG ops Q rest a w { dst := d, op := .field T x i, type := ty, pos := ps, after := af, guard := g }) : wpList Tryz.prog ops Q ({ dst := d, op := .field T x i, type := ty, pos := ps, after := af, guard := g } :: rest) a w := h
theorem a_fld {c : Array Value} {k : Nat} (h : wpList Tryz.prog ops Q rest a2 w) (hv : FA t c k v) (hw : WantT ops { dst := d, op := .field T x i, type := ty, pos := ps, after := af, guard := g } a := by first | exact Or.inl rfl | exact Or.inr ⟨_, _, _, rfl, rfl, rfl⟩) (hx : a.eval x = .agg c := by (conv => lhs; whnf) <;> rfl) (hu : Tryz.prog.underlying T = some (.struct (Tryz.prog.fieldsOf T)) := by kernel_rfl) (hf : ((Tryz.prog.fieldsOf T)[i]?).map (fun f => (f.type, f.offset)) = some (t, k) := by kernel_rfl) (ha : a.put d v = a2 := by ((try simp only [Act.put, List.setIfInBounds_toArray, List.set_cons_succ, List.set_cons_zero]) <;> rfl)) : OpG ops Q rest a w { dst := d, op := .field T x i, type := ty, pos := ps, after := af, guard := g } := by
 refine wpList_step fun K hK => ?_
 rw [if_pos hw.wanted]
 unfold Oper.wp
 rw [h_fld rfl hx hu hf hv]
 exact hK _ _ (ha ▸ h)
end
inductive Ex
 | ok (x : Rat)
 | er (e : Int)
def Ex.cv : Ex → Array Value
 | .ok x => Rt.qA x
 | .er _ => Bg.rZ 0 0
def Ex.ce : Ex → Int
 | .ok _ => 0
 | .er e => e
abbrev Ex.A (n : Ex) : Array Value := Ex.nA n.cv n.ce
def Ex.Fit : Ex → Prop
 | .ok x => Rt.Fit x
 | .er e => e ≠ 0
noncomputable def Ex.mk (z : Rat) : Ex := open Classical in if Rt.Fit z then .ok z else .er 10
theorem Ex.mk_ok {z : Rat} (h : Rt.Fit z) : Ex.mk z = .ok z := by unfold Ex.mk; rw [if_pos h]
theorem Ex.mk_res (z : Rat) : ((Ex.mk z).cv, (Ex.mk z).ce) = Rt.res z := by
 unfold Ex.mk Rt.res
 split <;> rfl
def Ex.op (f : Rat → Rat → Ex) : Ex → Ex → Ex
 | .er e, _ => .er e
 | .ok _, .er e => .er e
 | .ok x, .ok y => f x y
noncomputable def Ex.add : Ex → Ex → Ex := Ex.op fun x y => Ex.mk (x + y)
noncomputable def Ex.sub : Ex → Ex → Ex := Ex.op fun x y => Ex.mk (x - y)
noncomputable def Ex.mul : Ex → Ex → Ex := Ex.op fun x y => Ex.mk (x * y)
theorem Ex.cv_size (n : Ex) : n.cv.size = 66 := by cases n <;> first | exact qA_size _ | exact rZ_size 0 0
theorem Ex.cv_one (n : Ex) : n.cv.all (·.oneCell') = true := by cases n <;> first | exact qA_one _ | exact rZ_one 0 0
theorem of_ex (x : Rat) (w : World) :
    Calls Tryz.prog 23 #[.agg (Rt.qA x)] w fun e w' => e = .returned (.agg (Ex.A (.ok x))) ∧ Below w.heap.size w w' := by
 have HM := Mem.start w
 have hz := Ex.za
 have k1 := la_q x
 have s1 := Ex.sa (qA_size x) (qA_one x) 0 (Ex.nA_size (rZ_size 0 0) 0)
 go_enter Tryz.func23, Tryz.ntmps23
 go_wp2_with (first | ((with_reducible refine g_bld ?_); refine a_rbl ?_ (hy := h_bl1 rfl (by (conv => lhs; whnf) <;> rfl) (Ex.b0 (qA_size x)))) | (first | ((with_reducible refine g_ld ?_); refine a_ld HM ?_) | ((with_reducible refine g_st ?_); refine a_st HM ?_; clear HM; intro w1 HM) | ((with_reducible refine g_al ?_); refine a_al HM ?_; clear HM; intro bk w1 HM) | ((with_reducible refine g_bx ?_); refine a_bx HM ?_; clear HM; intro bk w1 HM) | ((with_reducible refine g_bld ?_); refine a_bld ?_)))
 refine bodyPost_ret (r_c rfl rfl (HM.get (by ((repeat (first | exact Look.here | refine Look.there ?_)); done))) (Ex.la (qA_size x) 0)) rfl ⟨rfl, HM.low⟩
theorem int_ex (n : Int) (x : Rat) (hn1 : -9223372036854775808 ≤ n) (hn2 : n < 9223372036854775808) (hx : Hid (x = (n : Rat))) (w : World) :
    Calls Tryz.prog 20 #[.int .i64 n] w fun e w' => e = .returned (.agg (Ex.A (.ok x))) ∧ Below w.heap.size w w' := by
 have HM := Mem.start w
 have hz := Ex.za
 have s1 := Ex.sa (qA_size x) (qA_one x) 0 (Ex.nA_size (rZ_size 0 0) 0)
 go_enter Tryz.func20, Tryz.ntmps20
 go_wp2_with (first | (go_at_call 47; ((with_reducible refine (rwhole_q n x hn1 hn2 hx _).mono ?_); rintro e9 w2 ⟨rfl, hL⟩; replace HM := HM.call hL; clear hL)) | ((with_reducible refine g_bld ?_); refine a_rbl ?_ (hy := h_bl1 rfl (by (conv => lhs; whnf) <;> rfl) (Ex.b0 (qA_size x)))) | (first | ((with_reducible refine g_st ?_); refine a_st HM ?_; clear HM; intro w1 HM) | ((with_reducible refine g_al ?_); refine a_al HM ?_; clear HM; intro bk w1 HM) | ((with_reducible refine g_bld ?_); refine a_bld ?_)))
 refine bodyPost_ret (r_c rfl rfl (HM.get (by ((repeat (first | exact Look.here | refine Look.there ?_)); done))) (Ex.la (qA_size x) 0)) rfl ⟨rfl, HM.low⟩
theorem first_ex (a b : Ex) (g : Int) (hg : Hid (g = if a.ce = 0 then b.ce else a.ce)) (w : World) :
    Calls Tryz.prog 48 #[.agg a.A, .agg b.A] w fun e w' => e = .returned (.int .i64 g) ∧ Below w.heap.size w w' := by
 have HM := Mem.start w
 have k1 := (Ex.fe (Ex.cv_size a) a.ce).la
 have k2 := (Ex.fe (Ex.cv_size b) b.ce).la
 have hg2 := hg.out
 unfold Ex.A
 generalize a.ce = p at *
 generalize b.ce = q at *
 by_cases h0 : p = 0
 ·subst h0
  rw [if_pos rfl] at hg2
  subst hg2
  go_enter Tryz.func48, Tryz.ntmps48
  go_wp2_with (first | ((with_reducible refine g_ld ?_); refine a_ld HM ?_) | ((with_reducible refine g_bx ?_); refine a_bx HM ?_; clear HM; intro bk w1 HM))
  go_ret
  exact ⟨rfl, HM.low⟩
 ·rw [if_neg h0] at hg2
  subst hg2
  have g1 : (g == 0) = false := by simpa using h0
  have g2 : (g != 0) = true := by simpa using h0
  go_enter Tryz.func48, Tryz.ntmps48
  go_wp2_with (first | ((with_reducible refine g_ld ?_); refine a_ld HM ?_) | ((with_reducible refine g_bx ?_); refine a_bx HM ?_; clear HM; intro bk w1 HM))
  go_ret
  exact ⟨rfl, HM.low⟩
theorem la_r66 {c : Array Value} (h : c.size = 66) : LA 50 c 0 (.agg c) := LA.whole (by kernel_rfl) (by rw [h]; exact sT_rat)
theorem sa_r66 {c d : Array Value} (h : d.size = 66) (h1 : d.all (·.oneCell') = true) (hc : c.size = 66) : SA 50 c 0 (.agg d) d := SA.whole (by rw [h]; exact sT_rat) h1 (by rw [h, hc])
set_option maxHeartbeats 4000000 in
theorem mul_ex (a b : Ex) (ha : a.Fit) (hb : b.Fit) (z : Ex) (hz : Hid (z = Ex.mul a b)) (w : World) :
    Calls Tryz.prog 34 #[.agg a.A, .agg b.A] w fun e w' => e = .returned (.agg z.A) ∧ Below w.heap.size w w' := by
 have HM := Mem.start w
 have zn := Ex.za
 have zr := za_rat
 have k1 := Ex.la (Ex.cv_size a) a.ce
 have k2 := Ex.la (Ex.cv_size b) b.ce
 have k3 := (Ex.fv (Ex.cv_size a) a.ce).la
 have k4 := (Ex.fv (Ex.cv_size b) b.ce).la
 have s1 := Ex.sa (Ex.cv_size z) (Ex.cv_one z) z.ce (Ex.nA_size (rZ_size 0 0) 0)
 have lz := Ex.la (Ex.cv_size z) z.ce
 have hz2 := hz.out
 obtain ⟨g, hg⟩ : ∃ g, Hid (g = if a.ce = 0 then b.ce else a.ce) := ⟨_, Lib.hid rfl⟩
 have F := fun w => first_ex a b g hg w
 have hg2 := hg.out
 cases a with
 | er e =>
  obtain rfl : z = .er e := hz2
  have h0 : e ≠ 0 := ha
  obtain rfl : g = e := by rw [hg2]; show (if e = 0 then _ else e) = e; rw [if_neg h0]
  have g1 : (g == 0) = false := by simpa using h0
  have g2 : (g != 0) = true := by simpa using h0
  (try clear hg2)
  (try clear hz2)
  clear hg
  go_enter Tryz.func34, Tryz.ntmps34
  go_wp2_with (first | (go_at_call 48; ((with_reducible refine (F _).mono ?_); rintro e9 w2 ⟨rfl, hL⟩; replace HM := HM.call hL; clear hL)) | ((with_reducible refine g_bld ?_); refine a_rbl ?_ (hy := h_bl1 rfl (by (conv => lhs; whnf) <;> rfl) (Ex.b1 g))) | (first | ((with_reducible refine g_ld ?_); refine a_ld HM ?_) | ((with_reducible refine g_st ?_); refine a_st HM ?_; clear HM; intro w1 HM) | ((with_reducible refine g_al ?_); refine a_al HM ?_; clear HM; intro bk w1 HM) | ((with_reducible refine g_bx ?_); refine a_bx HM ?_; clear HM; intro bk w1 HM) | ((with_reducible refine g_bld ?_); refine a_bld ?_)))
  refine bodyPost_ret (r_c rfl rfl (HM.get (by ((repeat (first | exact Look.here | refine Look.there ?_)); done))) lz) rfl ⟨rfl, HM.low⟩
 | ok x =>
  cases b with
  | er e =>
   obtain rfl : z = .er e := hz2
   have h0 : e ≠ 0 := hb
   obtain rfl : g = e := hg2
   have g1 : (g == 0) = false := by simpa using h0
   have g2 : (g != 0) = true := by simpa using h0
   (try clear hg2)
   (try clear hz2)
   clear hg
   go_enter Tryz.func34, Tryz.ntmps34
   go_wp2_with (first | (go_at_call 48; ((with_reducible refine (F _).mono ?_); rintro e9 w2 ⟨rfl, hL⟩; replace HM := HM.call hL; clear hL)) | ((with_reducible refine g_bld ?_); refine a_rbl ?_ (hy := h_bl1 rfl (by (conv => lhs; whnf) <;> rfl) (Ex.b1 g))) | (first | ((with_reducible refine g_ld ?_); refine a_ld HM ?_) | ((with_reducible refine g_st ?_); refine a_st HM ?_; clear HM; intro w1 HM) | ((with_reducible refine g_al ?_); refine a_al HM ?_; clear HM; intro bk w1 HM) | ((with_reducible refine g_bx ?_); refine a_bx HM ?_; clear HM; intro bk w1 HM) | ((with_reducible refine g_bld ?_); refine a_bld ?_)))
   refine bodyPost_ret (r_c rfl rfl (HM.get (by ((repeat (first | exact Look.here | refine Look.there ?_)); done))) lz) rfl ⟨rfl, HM.low⟩
  | ok y =>
   obtain rfl : g = 0 := hg2
   have k5 := la_r66 (Ex.cv_size z)
   have s2 := sa_r66 (Ex.cv_size z) (Ex.cv_one z) (rZ_size 0 0)
   have hr : Hid ((z.cv, z.ce) = Rt.res (x * y)) := Lib.hid (by rw [hz2]; exact Ex.mk_res _)
   have F2 : ∀ w, Calls Tryz.prog 63 #[.agg (Ex.ok x).cv, .agg (Ex.ok y).cv] w fun r w' => r = .returned (.tuple #[.agg z.cv, .int .i64 z.ce]) ∧ Below w.heap.size w w' := fun w => rmul_r x y z.cv z.ce ha hb hr w
   (try clear hg2)
   (try clear hz2)
   clear hg
   go_enter Tryz.func34, Tryz.ntmps34
   go_wp2_with (first | (go_at_call 48; ((with_reducible refine (F _).mono ?_); rintro e9 w2 ⟨rfl, hL⟩; replace HM := HM.call hL; clear hL)) | (go_at_call 63; ((with_reducible refine (F2 _).mono ?_); rintro e9 w2 ⟨rfl, hL⟩; replace HM := HM.call hL; clear hL)) | ((with_reducible refine g_bld ?_); refine a_rbl ?_ (hy := h_bl2 rfl (by (conv => lhs; whnf) <;> rfl) (by (conv => lhs; whnf) <;> rfl) (Ex.b2 (Ex.cv_size z) z.ce))) | (first | ((with_reducible refine g_ld ?_); refine a_ld HM ?_) | ((with_reducible refine g_st ?_); refine a_st HM ?_; clear HM; intro w1 HM) | ((with_reducible refine g_al ?_); refine a_al HM ?_; clear HM; intro bk w1 HM) | ((with_reducible refine g_bx ?_); refine a_bx HM ?_; clear HM; intro bk w1 HM) | ((with_reducible refine g_bld ?_); refine a_bld ?_)))
   refine bodyPost_ret (r_c rfl rfl (HM.get (by ((repeat (first | exact Look.here | refine Look.there ?_)); done))) lz) rfl ⟨rfl, HM.low⟩
theorem sign_ex (x : Rat) (n : Int) (hx : Rt.Fit x) (hn : Hid (n = x.num.sign)) (w : World) :
    Calls Tryz.prog 35 #[.agg (Ex.A (.ok x))] w fun e w' => e = .returned (.int .i64 n) ∧ Below w.heap.size w w' := by
 have HM := Mem.start w
 have k1 := (Ex.fv (qA_size x) 0).la
 unfold Ex.A
 show Calls _ _ #[.agg (Ex.nA (Rt.qA x) 0)] w _
 go_enter Tryz.func35, Tryz.ntmps35
 go_wp2_with (first | (go_at_call 64; ((with_reducible refine (rsign_q x n hx hn _).mono ?_); rintro e9 w2 ⟨rfl, hL⟩; replace HM := HM.call hL; clear hL)) | (first | ((with_reducible refine g_ld ?_); refine a_ld HM ?_) | ((with_reducible refine g_bx ?_); refine a_bx HM ?_; clear HM; intro bk w1 HM)))
 go_ret
 exact ⟨rfl, HM.low⟩
theorem rof_q (n d : Int) (x : Rat) (hn1 : -9223372036854775808 ≤ n) (hn2 : n < 9223372036854775808) (hd1 : -9223372036854775808 ≤ d) (hd2 : d < 9223372036854775808) (h0 : d ≠ 0) (hx : Hid (x = Rat.divInt n d)) (w : World) :
    Calls Tryz.prog 74 #[.int .i64 n, .int .i64 d] w fun r w' => r = .returned (.tuple #[.agg (Rt.qA x), .int .i64 0]) ∧ Below w.heap.size w w' := by
 rw [qA_rZ]
 exact rof_n n d x.num x.den 0 hn1 hn2 hd1 hd2 (Rt.mk_q h0 (small_480 (z := n) (by omega)) (small_480 (z := d) (by omega)) hx.out) w
theorem over_ex (n d : Int) (x : Rat) (hn1 : -9223372036854775808 ≤ n) (hn2 : n < 9223372036854775808) (hd1 : -9223372036854775808 ≤ d) (hd2 : d < 9223372036854775808) (h0 : d ≠ 0) (hx : Hid (x = Rat.divInt n d)) (w : World) :
    Calls Tryz.prog 50 #[.int .i64 n, .int .i64 d] w fun e w' => e = .returned (.agg (Ex.A (.ok x))) ∧ Below w.heap.size w w' := by
 have HM := Mem.start w
 have zn := Ex.za
 have zr := za_rat
 have k1 := la_q x
 have s1 := Ex.sa (qA_size x) (qA_one x) 0 (Ex.nA_size (rZ_size 0 0) 0)
 have s2 := sa_q x (rZ_size 0 0)
 go_enter Tryz.func50, Tryz.ntmps50
 go_wp2_with (first | (go_at_call 74; ((with_reducible refine (rof_q n d x hn1 hn2 hd1 hd2 h0 hx _).mono ?_); rintro e9 w2 ⟨rfl, hL⟩; replace HM := HM.call hL; clear hL)) | ((with_reducible refine g_bld ?_); refine a_rbl ?_ (hy := h_bl2 rfl (by (conv => lhs; whnf) <;> rfl) (by (conv => lhs; whnf) <;> rfl) (Ex.b2 (qA_size x) 0))) | (first | ((with_reducible refine g_ld ?_); refine a_ld HM ?_) | ((with_reducible refine g_st ?_); refine a_st HM ?_; clear HM; intro w1 HM) | ((with_reducible refine g_al ?_); refine a_al HM ?_; clear HM; intro bk w1 HM) | ((with_reducible refine g_bld ?_); refine a_bld ?_)))
 refine bodyPost_ret (r_c rfl rfl (HM.get (by ((repeat (first | exact Look.here | refine Look.there ?_)); done))) (Ex.la (qA_size x) 0)) rfl ⟨rfl, HM.low⟩
end Go.Proofs.YtckhdiljihhdmaaGreat
