/- Walks. -/
import Derived.Test.YtiekmabiecalbaaGreatDoorPa14
import Derived.Test.YtiekmabiecalbaaGreatDoorPa15
namespace Go.Proofs.YtiekmabiecalbaaGreatDoor
set_option maxHeartbeats 16000000
open Go.RowKit
set_option maxRecDepth 8000
set_option linter.unusedSimpArgs false
section
@[irreducible] def Ex.nA (c : Array Value) (e : Int) : Array Value := rowsOf [c, #[.int .i64 e]]
section
variable {o : Oper} {a : Act} {T : TypeId} {r : Array Value}
theorem h_fld {i : Nat} {x : Operand} {c : Array Value} {v : Value} {t : TypeId} {k : Nat} (ho : o.op = .field T x i) (hx : a.eval x = .agg c) (hu : Tryz.prog.underlying T = some (.struct (Tryz.prog.fieldsOf T))) (hf : ((Tryz.prog.fieldsOf T)[i]?).map (fun f => (f.type, f.offset)) = some (t, k)) (hv : FA t c k v) : ∀ w, (execOp a.eval o).run Tryz.prog w = .ok (.value v) w := fun w => by
 cases hg : (Tryz.prog.fieldsOf T)[i]? with
 | none => rw [hg] at hf; cases hf
 | some f =>
  rw [hg] at hf
  have h1 : f.type = t ∧ f.offset = k := by simpa using hf
  have h2 := hv.pt w
  rw [← h1.1, ← h1.2] at h2
  unfold execOp
  simp [ho, hx, Instr.field, run_underlying hu, hg, asAgg, h2]
end
section
variable {ops : Array Oper} {rest : List Oper} {a a2 : Act} {w : World} {Q : Exit → Act → World → Prop} {d : Option Tmp} {ty T t : TypeId} {ps : String} {af : Array Edge} {g : Option (Nat × Bool)} {x y : Operand} {v : Value} {i : Nat}
theorem g_fld (h : OpG ops Q rest a w { dst := d, op := .field T x i, type := ty, pos := ps, after := af, guard := g }) : wpList Tryz.prog ops Q ({ dst := d, op := .field T x i, type := ty, pos := ps, after := af, guard := g } :: rest) a w := h
theorem a_fld {c : Array Value} {k : Nat} (h : wpList Tryz.prog ops Q rest a2 w) (hv : FA t c k v) (hw : WantT ops { dst := d, op := .field T x i, type := ty, pos := ps, after := af, guard := g } a := by first | exact Or.inl rfl | exact Or.inr ⟨_, _, _, rfl, rfl, rfl⟩) (hx : a.eval x = .agg c := by (conv => lhs; whnf) <;> rfl) (hu : Tryz.prog.underlying T = some (.struct (Tryz.prog.fieldsOf T)) := by kernel_rfl) (hf : ((Tryz.prog.fieldsOf T)[i]?).map (fun f => (f.type, f.offset)) = some (t, k) := by kernel_rfl) (ha : a.put d v = a2 := by ((try simp only [Act.put, Za, Zx, Zy]) <;> rfl)) : OpG ops Q rest a w { dst := d, op := .field T x i, type := ty, pos := ps, after := af, guard := g } := by
 refine wpList_step fun K hK => ?_
 rw [if_pos hw.wanted]
 unfold Oper.wp
 rw [h_fld rfl hx hu hf hv]
 exact hK _ _ (ha ▸ h)
end
inductive Ex
 | ok (x : Rat)
 | er (e : Int)
def Ex.cv : Ex → Array Value
 | .ok x => Rt.qA x
 | .er _ => Bg.rZ 0 0
def Ex.ce : Ex → Int
 | .ok _ => 0
 | .er e => e
abbrev Ex.A (n : Ex) : Array Value := Ex.nA n.cv n.ce
def Ex.Fit : Ex → Prop
 | .ok x => Rt.Fit x
 | .er e => e ≠ 0
noncomputable def Ex.mk (z : Rat) : Ex := open Classical in if Rt.Fit z then .ok z else .er 10
def Ex.op (f : Rat → Rat → Ex) : Ex → Ex → Ex
 | .er e, _ => .er e
 | .ok _, .er e => .er e
 | .ok x, .ok y => f x y
noncomputable def Ex.add : Ex → Ex → Ex := Ex.op fun x y => Ex.mk (x + y)
noncomputable def Ex.sub : Ex → Ex → Ex := Ex.op fun x y => Ex.mk (x - y)
noncomputable def Ex.mul : Ex → Ex → Ex := Ex.op fun x y => Ex.mk (x * y)
noncomputable def Ex.quo : Ex → Ex → Ex := Ex.op fun x y => if y = 0 then .er 11 else Ex.mk (x / y)
theorem sa_r66 {c d : Array Value} (h : d.size = 66) (h1 : d.all (·.oneCell') = true) (hc : c.size = 66) : SA 35 c 0 (.agg d) d := SA.whole (by rw [h]; exact sT_rat) h1 (by rw [h, hc])
end
section
theorem z9_72 {P : Prop} (h : P := by
 simp [shapeOf, offs, Rr.size, List.range, List.range.loop]) : P := h
end
section
theorem jb_str (a b : ByteArray) : (a == b) = true ↔ a = b := by
 rw [show (a == b) = (a.data == b.data) from rfl, beq_iff_eq]
 exact ⟨fun h => by cases a; cases b; simp_all, fun h => by rw [h]⟩
structure Rr where
 s : Bool
 M : Nat
 t : Bool
 N : Nat
 hM : M < Bg.lim
 hN : N < Bg.lim
@[irreducible] def Rr.c (x : Rr) : Array Value := Bg.ratA x.s x.M x.t x.N
theorem Rr.c_eq (x : Rr) : x.c = Bg.ratA x.s x.M x.t x.N := by unfold Rr.c; rfl
theorem Rr.size (x : Rr) : x.c.size = 66 := by rw [Rr.c_eq]; exact ratA_size _ _ _ _
theorem Rr.one (x : Rr) : x.c.all (·.oneCell') = true := by rw [Rr.c_eq]; exact ratA_one _ _ _ _
theorem Rr.la (x : Rr) : LA 35 x.c 0 (.agg x.c) := la_c x.size
theorem Rr.sa (x : Rr) {z : Array Value} (h : z.size = 66) : SA 35 z 0 (.agg x.c) x.c := sa_c x.size x.one h
theorem Rr.vc (x : Rr) : ∃ o, Rt.Vc o x.c := by rw [Rr.c_eq]; exact Rt.vc_any x.hM x.hN
def Rr.b (x y : Rr) : Bool := ((x.s == y.s) && (decide (x.M = y.M) && true)) && (((x.t == y.t) && (decide (x.N = y.N) && true)) && true)
theorem Rr.b_iff {x y : Rr} : Rr.b x y = true ↔ x = y := by
 unfold Rr.b
 simp only [Bool.and_eq_true, Bool.and_true, beq_iff_eq, decide_eq_true_eq]
 constructor
 ·rintro ⟨⟨h1, h2⟩, h3, h4⟩
  cases x; cases y; simp_all
 ·rintro rfl; exact ⟨⟨rfl, rfl⟩, rfl, rfl⟩
def Rr.zero : Rr := ⟨false, 0, false, 0, Bg.ppos 32, Bg.ppos 32⟩
theorem Rr.zero_c : Rr.zero.c = Bg.ratA false 0 false 0 := Rr.c_eq _
theorem jr_eq_int (d : Nat) (s s' : Bool) (N N' : Nat) (hN : N < Bg.lim) (hN' : N' < Bg.lim) : EqT (d + 3) 33 (.agg (Bg.intA s N)) (.agg (Bg.intA s' N')) ((s == s') && (decide (N = N') && true)) := by
 have h1 : ∀ s N, FA 4 (Bg.intA s N) 0 (.bool s) := fun s N => .inl ⟨by kernel_rfl, Bg.intA_neg s N⟩
 have h2 : ∀ s N, FA 31 (Bg.intA s N) 1 (.agg (Bg.row 32 N)) := fun s N => .inr ⟨by kernel_rfl, Bg.row 32 N, by rw [Bg.row_size]; kernel_rfl, by rw [Bg.intA_size, Bg.row_size]; omega, by rw [Bg.row_size]; exact intA_mag s N, rfl⟩
 have e1 : EqT (d + 2) 4 (.bool s) (.bool s') (s == s') := eq_t_bool (d := d + 1) Tryz.underlying4 s s'
 have e2 : EqT (d + 2) 31 (.agg (Bg.row 32 N)) (.agg (Bg.row 32 N')) (decide (N = N')) := fun w => eq_arr N N' hN hN' d w
 exact eq_agg (S := [(4, 0), (31, 1)]) Zk Zk Zk (EqF.cons (h1 s N) (h1 s' N') e1 (EqF.cons (h2 s N) (h2 s' N') e2 .nil))
theorem Rr.eqT (d : Nat) (x y : Rr) : EqT (d + 4) 35 (.agg x.c) (.agg y.c) (Rr.b x y) := by
 rw [Rr.c_eq, Rr.c_eq]
 have h1 : ∀ s M t N, FA 33 (Bg.ratA s M t N) 0 (.agg (Bg.intA s M)) := fun s M t N => .inr ⟨by kernel_rfl, Bg.intA s M, by rw [Bg.intA_size]; exact sT_int, by rw [Bg.intA_size, ratA_size]; omega, by rw [Bg.intA_size]; exact ratA_num s M t N, rfl⟩
 have h2 : ∀ s M t N, FA 33 (Bg.ratA s M t N) 33 (.agg (Bg.intA t N)) := fun s M t N => .inr ⟨by kernel_rfl, Bg.intA t N, by rw [Bg.intA_size]; exact sT_int, by rw [Bg.intA_size, ratA_size]; omega, by rw [Bg.intA_size]; exact ratA_den s M t N, rfl⟩
 exact eq_agg (S := [(33, 0), (33, 33)]) Zk Zk Zk (EqF.cons (h1 _ _ _ _) (h1 _ _ _ _) (jr_eq_int d _ _ _ _ x.hM y.hM) (EqF.cons (h2 _ _ _ _) (h2 _ _ _ _) (jr_eq_int d _ _ _ _ x.hN y.hN) .nil))
structure JK where
 nom : ByteArray
 hol : ByteArray
@[irreducible] def JK.c (x : JK) : Array Value := rowsOf [#[.string x.nom], #[.string x.hol]]
def JK.zero : JK := ⟨{ data := #[] }, { data := #[] }⟩
def JK.b (x y : JK) : Bool := ((x.nom == y.nom) && ((x.hol == y.hol) && true))
def JK.wf (x : JK) : Prop := x.nom.size ≤ 9223372036854775807 ∧ x.hol.size ≤ 9223372036854775807
structure JQ where
 src : ByteArray
 ins : ByteArray
 cur : ByteArray
 day : Int
 prc : Rr
 kn : Int
 vd : Bool
@[irreducible] def JQ.c (x : JQ) : Array Value := rowsOf [#[.string x.src], #[.string x.ins], #[.string x.cur], #[.int .i64 x.day], x.prc.c, #[.int .i64 x.kn], #[.bool x.vd]]
theorem JQ.rows (x : JQ) : x.c = rowsOf [#[.string x.src], #[.string x.ins], #[.string x.cur], #[.int .i64 x.day], x.prc.c, #[.int .i64 x.kn], #[.bool x.vd]] := by unfold JQ.c; rfl
theorem JQ.size (x : JQ) : x.c.size = 72 := by rw [JQ.rows]; simp [rowsOf, Rr.size]
theorem JQ.one (x : JQ) : x.c.all (·.oneCell') = true := by
 rw [JQ.rows]
 exact rows_cells_one (by
  intro e he
  simp only [List.mem_cons, List.not_mem_nil, or_false] at he
  rcases he with rfl | rfl | rfl | rfl | rfl | rfl | rfl
  ·simp [Value.oneCell']
  ·simp [Value.oneCell']
  ·simp [Value.oneCell']
  ·simp [Value.oneCell']
  ·exact Rr.one _
  ·simp [Value.oneCell']
  ·simp [Value.oneCell'])
theorem JQ.sT : sizT 40 = some 72 := by kernel_rfl
theorem JQ.la (x : JQ) : LA 40 x.c 0 (.agg x.c) := LA.whole Zk (by rw [JQ.size]; exact JQ.sT)
theorem JQ.sa (x : JQ) {z : Array Value} (h : z.size = 72) : SA 40 z 0 (.agg x.c) x.c := SA.whole (by rw [JQ.size]; exact JQ.sT) x.one (by rw [JQ.size, h])
theorem JQ.f_src (x : JQ) : FA 9 x.c 0 (.string x.src) := by rw [JQ.rows]; exact fa_one 0 Zk rfl (by simp [offs, Rr.size])
theorem JQ.f_ins (x : JQ) : FA 9 x.c 1 (.string x.ins) := by rw [JQ.rows]; exact fa_one 1 Zk rfl (by simp [offs, Rr.size])
theorem JQ.f_cur (x : JQ) : FA 9 x.c 2 (.string x.cur) := by rw [JQ.rows]; exact fa_one 2 Zk rfl (by simp [offs, Rr.size])
theorem JQ.f_day (x : JQ) : FA 3 x.c 3 (.int .i64 x.day) := by rw [JQ.rows]; exact fa_one 3 Zk rfl (by simp [offs, Rr.size])
theorem JQ.s_day (x : JQ) (v : Int) : SA 3 x.c 3 (.int .i64 v) { x with day := v }.c := by rw [JQ.rows, JQ.rows]; exact sa_fld_one 3 Zk rfl rfl rfl (by simp [offs, Rr.size])
theorem JQ.f_prc (x : JQ) : FA 35 x.c 4 (.agg x.prc.c) := by rw [JQ.rows]; exact fa_agg 4 Zk (by rw [Rr.size]; kernel_rfl) rfl (by simp [offs, Rr.size])
theorem JQ.s_prc (x : JQ) (v : Rr) : SA 35 x.c 4 (.agg v.c) { x with prc := v }.c := by rw [JQ.rows, JQ.rows]; exact sa_fld_agg 4 (by rw [Rr.size]; kernel_rfl) v.one rfl (by rw [Rr.size, Rr.size]) (by simp [offs, Rr.size])
theorem JQ.f_kn (x : JQ) : FA 3 x.c 70 (.int .i64 x.kn) := by rw [JQ.rows]; exact fa_one 5 Zk rfl (by simp [offs, Rr.size])
theorem JQ.f_vd (x : JQ) : FA 4 x.c 71 (.bool x.vd) := by rw [JQ.rows]; exact fa_one 6 Zk rfl (by simp [offs, Rr.size])
theorem JQ.s_vd (x : JQ) (v : Bool) : SA 4 x.c 71 (.bool v) { x with vd := v }.c := by rw [JQ.rows, JQ.rows]; exact sa_fld_one 6 Zk rfl rfl rfl (by simp [offs, Rr.size])
def JQ.zero : JQ := ⟨{ data := #[] }, { data := #[] }, { data := #[] }, 0, Rr.zero, 0, false⟩
theorem JQ.zeroC : JQ.zero.c = #[Value.string { data := #[] }, .string { data := #[] }, .string { data := #[] }, .int .i64 0] ++ Bg.ratA false 0 false 0 ++ #[.int .i64 0, .bool false] := by
 rw [JQ.rows]
 apply Array.toList_inj.1
 simp [rowsOf, JQ.zero, Rr.zero_c]
theorem JQ.zeroF : (zeroValue 40).run Tryz.prog = fun w => .ok (.agg JQ.zero.c) w := by
 rw [JQ.zeroC]; unfold Bg.ratA; rw [← Bg.zeroInt]; kernel_rfl
theorem JQ.za : ZA 40 JQ.zero.c := ⟨_, rfl, fun w => by rw [JQ.zeroF]⟩
theorem JQ.und : Tryz.prog.underlying 40 = some (.struct (Tryz.prog.fieldsOf 40)) := by kernel_rfl
theorem JQ.shape : shapeOf [#[.string JQ.zero.src], #[.string JQ.zero.ins], #[.string JQ.zero.cur], #[.int .i64 JQ.zero.day], JQ.zero.prc.c, #[.int .i64 JQ.zero.kn], #[.bool JQ.zero.vd]] = [(0, 1), (1, 1), (2, 1), (3, 1), (4, 66), (70, 1), (71, 1)] := by
 exact z9_72
theorem JQ.places (w : World) : ((Tryz.prog.fieldsOf 40).mapM (fun f => do pure (f.offset, ← sizeOf f.type)) : Sem (Array (Nat × Nat))).run Tryz.prog w = .ok [(0, 1), (1, 1), (2, 1), (3, 1), (4, 66), (70, 1), (71, 1)].toArray w := by kernel_rfl
theorem JQ.bld {parts : Array (Nat × Value)} {r : JQ} (h : ∀ p ∈ parts.toList, ∃ n, ([(0, 1), (1, 1), (2, 1), (3, 1), (4, 66), (70, 1), (71, 1)] : List (Nat × Nat))[p.1]?.map Prod.snd = some n ∧ p.2.cells.size = n) (hr : rowsOf (setsL [#[.string JQ.zero.src], #[.string JQ.zero.ins], #[.string JQ.zero.cur], #[.int .i64 JQ.zero.day], JQ.zero.prc.c, #[.int .i64 JQ.zero.kn], #[.bool JQ.zero.vd]] parts.toList) = r.c) (w : World) : (Instr.build 40 parts).run Tryz.prog w = .ok (.agg r.c) w :=
 run_build_flds JQ.und (fun w => by rw [JQ.zeroF, JQ.rows]) JQ.places JQ.shape h hr w
def JQ.b (x y : JQ) : Bool := ((x.src == y.src) && ((x.ins == y.ins) && ((x.cur == y.cur) && ((x.day == y.day) && (Rr.b x.prc y.prc && ((x.kn == y.kn) && ((x.vd == y.vd) && true)))))))
def JQ.wf (x : JQ) : Prop := x.src.size ≤ 9223372036854775807 ∧ x.ins.size ≤ 9223372036854775807 ∧ x.cur.size ≤ 9223372036854775807
theorem JQ.eqT (d : Nat) (x y : JQ) : EqT (d + 5) 40 (.agg x.c) (.agg y.c) (JQ.b x y) :=
 eq_agg (d := d + 4) (S := [(9, 0), (9, 1), (9, 2), (3, 3), (35, 4), (3, 70), (4, 71)]) Zk Zk Zk (EqF.cons x.f_src y.f_src (eq_t_str (d := d + 3) Tryz.underlying9 _ _) (EqF.cons x.f_ins y.f_ins (eq_t_str (d := d + 3) Tryz.underlying9 _ _) (EqF.cons x.f_cur y.f_cur (eq_t_str (d := d + 3) Tryz.underlying9 _ _) (EqF.cons x.f_day y.f_day (eq_t_int (d := d + 3) Tryz.underlying3 _ _) (EqF.cons x.f_prc y.f_prc (Rr.eqT (d + 0) _ _) (EqF.cons x.f_kn y.f_kn (eq_t_int (d := d + 3) Tryz.underlying3 _ _) (EqF.cons x.f_vd y.f_vd (eq_t_bool (d := d + 3) Tryz.underlying4 _ _) .nil)))))))
theorem JQ.b_iff {x y : JQ} : JQ.b x y = true ↔ x = y := by
 unfold JQ.b
 simp only [Bool.and_eq_true, Bool.and_true, beq_iff_eq, jb_str, Rr.b_iff]
 constructor
 ·intro h
  cases x; cases y; simp_all
 ·rintro rfl; simp
theorem JQ.eq9 (x y : JQ) : EqT 10000 40 (.agg x.c) (.agg y.c) (JQ.b x y) := JQ.eqT 9995 x y
structure JA where
 kd : Int
 key : ByteArray
 ins : ByteArray
 into : ByteArray
 day : Int
 nm : Int
 dn : Int
 csh : Rr
 cur : ByteArray
 kn : Int
 vd : Bool
@[irreducible] def JA.c (x : JA) : Array Value := rowsOf [#[.int .i64 x.kd], #[.string x.key], #[.string x.ins], #[.string x.into], #[.int .i64 x.day], #[.int .i64 x.nm], #[.int .i64 x.dn], x.csh.c, #[.string x.cur], #[.int .i64 x.kn], #[.bool x.vd]]
def JA.zero : JA := ⟨0, { data := #[] }, { data := #[] }, { data := #[] }, 0, 0, 0, Rr.zero, { data := #[] }, 0, false⟩
def JA.b (x y : JA) : Bool := ((x.kd == y.kd) && ((x.key == y.key) && ((x.ins == y.ins) && ((x.into == y.into) && ((x.day == y.day) && ((x.nm == y.nm) && ((x.dn == y.dn) && (Rr.b x.csh y.csh && ((x.cur == y.cur) && ((x.kn == y.kn) && ((x.vd == y.vd) && true)))))))))))
def JA.wf (x : JA) : Prop := x.key.size ≤ 9223372036854775807 ∧ x.ins.size ≤ 9223372036854775807 ∧ x.into.size ≤ 9223372036854775807 ∧ x.cur.size ≤ 9223372036854775807
structure JE where
 kd : Int
 key : ByteArray
 day : Int
 stl : Int
 ins : ByteArray
 qty : Int
 amt : Int
 cur : ByteArray
 kn : Int
 vd : Bool
@[irreducible] def JE.c (x : JE) : Array Value := rowsOf [#[.int .i64 x.kd], #[.string x.key], #[.int .i64 x.day], #[.int .i64 x.stl], #[.string x.ins], #[.int .i64 x.qty], #[.int .i64 x.amt], #[.string x.cur], #[.int .i64 x.kn], #[.bool x.vd]]
def JE.zero : JE := ⟨0, { data := #[] }, 0, 0, { data := #[] }, 0, 0, { data := #[] }, 0, false⟩
def JE.b (x y : JE) : Bool := ((x.kd == y.kd) && ((x.key == y.key) && ((x.day == y.day) && ((x.stl == y.stl) && ((x.ins == y.ins) && ((x.qty == y.qty) && ((x.amt == y.amt) && ((x.cur == y.cur) && ((x.kn == y.kn) && ((x.vd == y.vd) && true))))))))))
def JE.wf (x : JE) : Prop := x.key.size ≤ 9223372036854775807 ∧ x.ins.size ≤ 9223372036854775807 ∧ x.cur.size ≤ 9223372036854775807
structure JO where
 key : ByteArray
 acc : JK
 fnd : ByteArray
 cls : ByteArray
 kd : Int
 amt : Int
 un : Int
 at_ : Int
 kn : Int
 vd : Bool
@[irreducible] def JO.c (x : JO) : Array Value := rowsOf [#[.string x.key], x.acc.c, #[.string x.fnd], #[.string x.cls], #[.int .i64 x.kd], #[.int .i64 x.amt], #[.int .i64 x.un], #[.int .i64 x.at_], #[.int .i64 x.kn], #[.bool x.vd]]
def JO.zero : JO := ⟨{ data := #[] }, JK.zero, { data := #[] }, { data := #[] }, 0, 0, 0, 0, 0, false⟩
def JO.b (x y : JO) : Bool := ((x.key == y.key) && (JK.b x.acc y.acc && ((x.fnd == y.fnd) && ((x.cls == y.cls) && ((x.kd == y.kd) && ((x.amt == y.amt) && ((x.un == y.un) && ((x.at_ == y.at_) && ((x.kn == y.kn) && ((x.vd == y.vd) && true))))))))))
def JO.wf (x : JO) : Prop := x.key.size ≤ 9223372036854775807 ∧ x.acc.wf ∧ x.fnd.size ≤ 9223372036854775807 ∧ x.cls.size ≤ 9223372036854775807
structure JT where
 key : ByteArray
 fnd : ByteArray
 cls : ByteArray
 fr : JK
 tw : JK
 un : Int
 day : Int
 kn : Int
 vd : Bool
@[irreducible] def JT.c (x : JT) : Array Value := rowsOf [#[.string x.key], #[.string x.fnd], #[.string x.cls], x.fr.c, x.tw.c, #[.int .i64 x.un], #[.int .i64 x.day], #[.int .i64 x.kn], #[.bool x.vd]]
def JT.zero : JT := ⟨{ data := #[] }, { data := #[] }, { data := #[] }, JK.zero, JK.zero, 0, 0, 0, false⟩
def JT.b (x y : JT) : Bool := ((x.key == y.key) && ((x.fnd == y.fnd) && ((x.cls == y.cls) && (JK.b x.fr y.fr && (JK.b x.tw y.tw && ((x.un == y.un) && ((x.day == y.day) && ((x.kn == y.kn) && ((x.vd == y.vd) && true)))))))))
def JT.wf (x : JT) : Prop := x.key.size ≤ 9223372036854775807 ∧ x.fnd.size ≤ 9223372036854775807 ∧ x.cls.size ≤ 9223372036854775807 ∧ x.fr.wf ∧ x.tw.wf
structure JS where
 key : ByteArray
 fnd : ByteArray
 fr : Int
 tl : Int
 kn : Int
 vd : Bool
@[irreducible] def JS.c (x : JS) : Array Value := rowsOf [#[.string x.key], #[.string x.fnd], #[.int .i64 x.fr], #[.int .i64 x.tl], #[.int .i64 x.kn], #[.bool x.vd]]
def JS.zero : JS := ⟨{ data := #[] }, { data := #[] }, 0, 0, 0, false⟩
def JS.b (x y : JS) : Bool := ((x.key == y.key) && ((x.fnd == y.fnd) && ((x.fr == y.fr) && ((x.tl == y.tl) && ((x.kn == y.kn) && ((x.vd == y.vd) && true))))))
def JS.wf (x : JS) : Prop := x.key.size ≤ 9223372036854775807 ∧ x.fnd.size ≤ 9223372036854775807
structure JC where
 day : Int
 kn : Int
 as_ : Int
@[irreducible] def JC.c (x : JC) : Array Value := rowsOf [#[.int .i64 x.day], #[.int .i64 x.kn], #[.int .i64 x.as_]]
def JC.zero : JC := ⟨0, 0, 0⟩
def JC.b (x y : JC) : Bool := ((x.day == y.day) && ((x.kn == y.kn) && ((x.as_ == y.as_) && true)))
def JC.wf (_ : JC) : Prop := True
structure JR where
 kd : Int
 fnd : ByteArray
 day : Int
 q : JQ
 a : JA
 e : JE
 o : JO
 t : JT
 s : JS
@[irreducible] def JR.c (x : JR) : Array Value := rowsOf [#[.int .i64 x.kd], #[.string x.fnd], #[.int .i64 x.day], x.q.c, x.a.c, x.e.c, x.o.c, x.t.c, x.s.c]
def JR.zero : JR := ⟨0, { data := #[] }, 0, JQ.zero, JA.zero, JE.zero, JO.zero, JT.zero, JS.zero⟩
def JR.b (x y : JR) : Bool := ((x.kd == y.kd) && ((x.fnd == y.fnd) && ((x.day == y.day) && (JQ.b x.q y.q && (JA.b x.a y.a && (JE.b x.e y.e && (JO.b x.o y.o && (JT.b x.t y.t && (JS.b x.s y.s && true)))))))))
def JR.wf (x : JR) : Prop := x.fnd.size ≤ 9223372036854775807 ∧ x.q.wf ∧ x.a.wf ∧ x.e.wf ∧ x.o.wf ∧ x.t.wf ∧ x.s.wf
end
section
structure Sl where
 A : Option Addr
 n : Nat
 c : Nat
def Sl.v (x : Sl) : Value := .slice x.A x.n x.c
def rr (x : Rat) : Rr := if h : x.num.natAbs < Bg.lim ∧ x.den < Bg.lim then ⟨decide (x.num < 0), x.num.natAbs, false, x.den, h.1, h.2⟩ else Rr.zero
theorem rr_c {x : Rat} (h : Rt.Fit x) : (rr x).c = Rt.qA x := by
 unfold rr
 rw [dif_pos ⟨lt480_lim h.1, lt480_lim h.2⟩, Rr.c_eq, qA_rZ, rZ_ratA]
 congr 1
structure WP where
 src : Sl
 tol : Rr
 stale : Int
@[irreducible] def WP.c (x : WP) : Array Value := rowsOf [#[Sl.v x.src], x.tol.c, #[.int .i64 x.stale]]
theorem WP.rows (x : WP) : x.c = rowsOf [#[Sl.v x.src], x.tol.c, #[.int .i64 x.stale]] := by unfold WP.c; rfl
theorem WP.size (x : WP) : x.c.size = 68 := by rw [WP.rows]; simp [rowsOf, Rr.size]
theorem WP.one (x : WP) : x.c.all (·.oneCell') = true := by
 rw [WP.rows]
 exact rows_cells_one (by
  intro e he
  simp only [List.mem_cons, List.not_mem_nil, or_false] at he
  rcases he with rfl | rfl | rfl
  ·simp [Value.oneCell', Sl.v]
  ·exact Rr.one _
  ·simp [Value.oneCell', Sl.v])
theorem WP.sT : sizT 37 = some 68 := by kernel_rfl
theorem WP.la (x : WP) : LA 37 x.c 0 (.agg x.c) := LA.whole Zk (by rw [WP.size]; exact WP.sT)
theorem WP.sa (x : WP) {z : Array Value} (h : z.size = 68) : SA 37 z 0 (.agg x.c) x.c := SA.whole (by rw [WP.size]; exact WP.sT) x.one (by rw [WP.size, h])
theorem WP.f_src (x : WP) : FA 29 x.c 0 (Sl.v x.src) := by rw [WP.rows]; exact fa_one 0 Zk rfl (by simp [offs, Rr.size])
theorem WP.s_src (x : WP) (v : Sl) : SA 29 x.c 0 (Sl.v v) { x with src := v }.c := by rw [WP.rows, WP.rows]; exact sa_fld_one 0 Zk rfl rfl rfl (by simp [offs, Rr.size])
theorem WP.f_tol (x : WP) : FA 35 x.c 1 (.agg x.tol.c) := by rw [WP.rows]; exact fa_agg 1 Zk (by rw [Rr.size]; kernel_rfl) rfl (by simp [offs, Rr.size])
theorem WP.f_stale (x : WP) : FA 3 x.c 67 (.int .i64 x.stale) := by rw [WP.rows]; exact fa_one 2 Zk rfl (by simp [offs, Rr.size])
def WP.zero : WP := ⟨⟨none, 0, 0⟩, Rr.zero, 0⟩
theorem WP.zeroC : WP.zero.c = #[Value.slice none 0 0] ++ Bg.ratA false 0 false 0 ++ #[.int .i64 0] := by
 rw [WP.rows]
 apply Array.toList_inj.1
 simp [rowsOf, WP.zero, Sl.v, Rr.zero_c]
theorem WP.zeroF : (zeroValue 37).run Tryz.prog = fun w => .ok (.agg WP.zero.c) w := by
 rw [WP.zeroC]; unfold Bg.ratA; rw [← Bg.zeroInt]; kernel_rfl
theorem WP.za : ZA 37 WP.zero.c := ⟨_, rfl, fun w => by rw [WP.zeroF]⟩
theorem WP.und : Tryz.prog.underlying 37 = some (.struct (Tryz.prog.fieldsOf 37)) := by kernel_rfl
theorem WP.shape : shapeOf [#[Sl.v WP.zero.src], WP.zero.tol.c, #[.int .i64 WP.zero.stale]] = [(0, 1), (1, 66), (67, 1)] := by
 exact z9_72
theorem WP.places (w : World) : ((Tryz.prog.fieldsOf 37).mapM (fun f => do pure (f.offset, ← sizeOf f.type)) : Sem (Array (Nat × Nat))).run Tryz.prog w = .ok [(0, 1), (1, 66), (67, 1)].toArray w := by kernel_rfl
theorem WP.bld {parts : Array (Nat × Value)} {r : WP} (h : ∀ p ∈ parts.toList, ∃ n, ([(0, 1), (1, 66), (67, 1)] : List (Nat × Nat))[p.1]?.map Prod.snd = some n ∧ p.2.cells.size = n) (hr : rowsOf (setsL [#[Sl.v WP.zero.src], WP.zero.tol.c, #[.int .i64 WP.zero.stale]] parts.toList) = r.c) (w : World) : (Instr.build 37 parts).run Tryz.prog w = .ok (.agg r.c) w :=
 run_build_flds WP.und (fun w => by rw [WP.zeroF, WP.rows]) WP.places WP.shape h hr w
structure CH where
 src : ByteArray
 cur : ByteArray
 day : Int
 prc : Rr
 chl : Sl
@[irreducible] def CH.c (x : CH) : Array Value := rowsOf [#[.string x.src], #[.string x.cur], #[.int .i64 x.day], x.prc.c, #[Sl.v x.chl]]
theorem CH.rows (x : CH) : x.c = rowsOf [#[.string x.src], #[.string x.cur], #[.int .i64 x.day], x.prc.c, #[Sl.v x.chl]] := by unfold CH.c; rfl
theorem CH.size (x : CH) : x.c.size = 70 := by rw [CH.rows]; simp [rowsOf, Rr.size]
theorem CH.one (x : CH) : x.c.all (·.oneCell') = true := by
 rw [CH.rows]
 exact rows_cells_one (by
  intro e he
  simp only [List.mem_cons, List.not_mem_nil, or_false] at he
  rcases he with rfl | rfl | rfl | rfl | rfl
  ·simp [Value.oneCell', Sl.v]
  ·simp [Value.oneCell', Sl.v]
  ·simp [Value.oneCell', Sl.v]
  ·exact Rr.one _
  ·simp [Value.oneCell', Sl.v])
theorem CH.sT : sizT 52 = some 70 := by kernel_rfl
theorem CH.la (x : CH) : LA 52 x.c 0 (.agg x.c) := LA.whole Zk (by rw [CH.size]; exact CH.sT)
theorem CH.sa (x : CH) {z : Array Value} (h : z.size = 70) : SA 52 z 0 (.agg x.c) x.c := SA.whole (by rw [CH.size]; exact CH.sT) x.one (by rw [CH.size, h])
theorem CH.f_src (x : CH) : FA 9 x.c 0 (.string x.src) := by rw [CH.rows]; exact fa_one 0 Zk rfl (by simp [offs, Rr.size])
theorem CH.s_src (x : CH) (v : ByteArray) : SA 9 x.c 0 (.string v) { x with src := v }.c := by rw [CH.rows, CH.rows]; exact sa_fld_one 0 Zk rfl rfl rfl (by simp [offs, Rr.size])
theorem CH.f_cur (x : CH) : FA 9 x.c 1 (.string x.cur) := by rw [CH.rows]; exact fa_one 1 Zk rfl (by simp [offs, Rr.size])
theorem CH.s_cur (x : CH) (v : ByteArray) : SA 9 x.c 1 (.string v) { x with cur := v }.c := by rw [CH.rows, CH.rows]; exact sa_fld_one 1 Zk rfl rfl rfl (by simp [offs, Rr.size])
theorem CH.s_day (x : CH) (v : Int) : SA 3 x.c 2 (.int .i64 v) { x with day := v }.c := by rw [CH.rows, CH.rows]; exact sa_fld_one 2 Zk rfl rfl rfl (by simp [offs, Rr.size])
theorem CH.f_prc (x : CH) : FA 35 x.c 3 (.agg x.prc.c) := by rw [CH.rows]; exact fa_agg 3 Zk (by rw [Rr.size]; kernel_rfl) rfl (by simp [offs, Rr.size])
theorem CH.s_prc (x : CH) (v : Rr) : SA 35 x.c 3 (.agg v.c) { x with prc := v }.c := by rw [CH.rows, CH.rows]; exact sa_fld_agg 3 (by rw [Rr.size]; kernel_rfl) v.one rfl (by rw [Rr.size, Rr.size]) (by simp [offs, Rr.size])
theorem CH.f_chl (x : CH) : FA 29 x.c 69 (Sl.v x.chl) := by rw [CH.rows]; exact fa_one 4 Zk rfl (by simp [offs, Rr.size])
theorem CH.s_chl (x : CH) (v : Sl) : SA 29 x.c 69 (Sl.v v) { x with chl := v }.c := by rw [CH.rows, CH.rows]; exact sa_fld_one 4 Zk rfl rfl rfl (by simp [offs, Rr.size])
def CH.zero : CH := ⟨{ data := #[] }, { data := #[] }, 0, Rr.zero, ⟨none, 0, 0⟩⟩
theorem CH.zeroC : CH.zero.c = #[Value.string { data := #[] }, .string { data := #[] }, .int .i64 0] ++ Bg.ratA false 0 false 0 ++ #[.slice none 0 0] := by
 rw [CH.rows]
 apply Array.toList_inj.1
 simp [rowsOf, CH.zero, Sl.v, Rr.zero_c]
theorem CH.zeroF : (zeroValue 52).run Tryz.prog = fun w => .ok (.agg CH.zero.c) w := by
 rw [CH.zeroC]; unfold Bg.ratA; rw [← Bg.zeroInt]; kernel_rfl
theorem CH.za : ZA 52 CH.zero.c := ⟨_, rfl, fun w => by rw [CH.zeroF]⟩
theorem CH.und : Tryz.prog.underlying 52 = some (.struct (Tryz.prog.fieldsOf 52)) := by kernel_rfl
theorem CH.shape : shapeOf [#[.string CH.zero.src], #[.string CH.zero.cur], #[.int .i64 CH.zero.day], CH.zero.prc.c, #[Sl.v CH.zero.chl]] = [(0, 1), (1, 1), (2, 1), (3, 66), (69, 1)] := by
 exact z9_72
theorem CH.places (w : World) : ((Tryz.prog.fieldsOf 52).mapM (fun f => do pure (f.offset, ← sizeOf f.type)) : Sem (Array (Nat × Nat))).run Tryz.prog w = .ok [(0, 1), (1, 1), (2, 1), (3, 66), (69, 1)].toArray w := by kernel_rfl
theorem CH.bld {parts : Array (Nat × Value)} {r : CH} (h : ∀ p ∈ parts.toList, ∃ n, ([(0, 1), (1, 1), (2, 1), (3, 66), (69, 1)] : List (Nat × Nat))[p.1]?.map Prod.snd = some n ∧ p.2.cells.size = n) (hr : rowsOf (setsL [#[.string CH.zero.src], #[.string CH.zero.cur], #[.int .i64 CH.zero.day], CH.zero.prc.c, #[Sl.v CH.zero.chl]] parts.toList) = r.c) (w : World) : (Instr.build 52 parts).run Tryz.prog w = .ok (.agg r.c) w :=
 run_build_flds CH.und (fun w => by rw [CH.zeroF, CH.rows]) CH.places CH.shape h hr w
end
section
theorem h_bg2 {o : Oper} {a : Act} {T : TypeId} {r : Array Value} {i0 i1 : Nat} {x0 x1 : Operand} {v0 v1 : Value} (ho : o.op = .build T #[(i0, x0), (i1, x1)]) (h0 : a.eval x0 = v0) (h1 : a.eval x1 = v1) (hb : ∀ w, (Instr.build T #[(i0, v0), (i1, v1)]).run Tryz.prog w = .ok (.agg r) w) : ∀ w, (execOp a.eval o).run Tryz.prog w = .ok (.value (.agg r)) w := fun w => by
 have hb := hb w
 unfold execOp
 simp [ho, h0, h1, hb, Result.andThen]
theorem h_bg3 {o : Oper} {a : Act} {T : TypeId} {r : Array Value} {i0 i1 i2 : Nat} {x0 x1 x2 : Operand} {v0 v1 v2 : Value} (ho : o.op = .build T #[(i0, x0), (i1, x1), (i2, x2)]) (h0 : a.eval x0 = v0) (h1 : a.eval x1 = v1) (h2 : a.eval x2 = v2) (hb : ∀ w, (Instr.build T #[(i0, v0), (i1, v1), (i2, v2)]).run Tryz.prog w = .ok (.agg r) w) : ∀ w, (execOp a.eval o).run Tryz.prog w = .ok (.value (.agg r)) w := fun w => by
 have hb := hb w
 unfold execOp
 simp [ho, h0, h1, h2, hb, Result.andThen]
theorem h_bg4 {o : Oper} {a : Act} {T : TypeId} {r : Array Value} {i0 i1 i2 i3 : Nat} {x0 x1 x2 x3 : Operand} {v0 v1 v2 v3 : Value} (ho : o.op = .build T #[(i0, x0), (i1, x1), (i2, x2), (i3, x3)]) (h0 : a.eval x0 = v0) (h1 : a.eval x1 = v1) (h2 : a.eval x2 = v2) (h3 : a.eval x3 = v3) (hb : ∀ w, (Instr.build T #[(i0, v0), (i1, v1), (i2, v2), (i3, v3)]).run Tryz.prog w = .ok (.agg r) w) : ∀ w, (execOp a.eval o).run Tryz.prog w = .ok (.value (.agg r)) w := fun w => by
 have hb := hb w
 unfold execOp
 simp [ho, h0, h1, h2, h3, hb, Result.andThen]
theorem h_bg5 {o : Oper} {a : Act} {T : TypeId} {r : Array Value} {i0 i1 i2 i3 i4 : Nat} {x0 x1 x2 x3 x4 : Operand} {v0 v1 v2 v3 v4 : Value} (ho : o.op = .build T #[(i0, x0), (i1, x1), (i2, x2), (i3, x3), (i4, x4)]) (h0 : a.eval x0 = v0) (h1 : a.eval x1 = v1) (h2 : a.eval x2 = v2) (h3 : a.eval x3 = v3) (h4 : a.eval x4 = v4) (hb : ∀ w, (Instr.build T #[(i0, v0), (i1, v1), (i2, v2), (i3, v3), (i4, v4)]).run Tryz.prog w = .ok (.agg r) w) : ∀ w, (execOp a.eval o).run Tryz.prog w = .ok (.value (.agg r)) w := fun w => by
 have hb := hb w
 unfold execOp
 simp [ho, h0, h1, h2, h3, h4, hb, Result.andThen]
theorem h_bg6 {o : Oper} {a : Act} {T : TypeId} {r : Array Value} {i0 i1 i2 i3 i4 i5 : Nat} {x0 x1 x2 x3 x4 x5 : Operand} {v0 v1 v2 v3 v4 v5 : Value} (ho : o.op = .build T #[(i0, x0), (i1, x1), (i2, x2), (i3, x3), (i4, x4), (i5, x5)]) (h0 : a.eval x0 = v0) (h1 : a.eval x1 = v1) (h2 : a.eval x2 = v2) (h3 : a.eval x3 = v3) (h4 : a.eval x4 = v4) (h5 : a.eval x5 = v5) (hb : ∀ w, (Instr.build T #[(i0, v0), (i1, v1), (i2, v2), (i3, v3), (i4, v4), (i5, v5)]).run Tryz.prog w = .ok (.agg r) w) : ∀ w, (execOp a.eval o).run Tryz.prog w = .ok (.value (.agg r)) w := fun w => by
 have hb := hb w
 unfold execOp
 simp [ho, h0, h1, h2, h3, h4, h5, hb, Result.andThen]
section
variable {ops : Array Oper} {rest : List Oper} {a a2 : Act} {w : World} {Q : Exit → Act → World → Prop} {d : Option Tmp} {ty t T : TypeId} {ps : String} {af : Array Edge} {g : Option (Nat × Bool)} {x y : Operand}
theorem a_seqb {xs ys : Array Value} {b : Bool} (hE : EqT 10000 T (.agg xs) (.agg ys) b) (hm : Tryz.prog.eqGuardType Tryz.prog.depth T = false) (h : wpList Tryz.prog ops Q rest a2 w)
    (hw : WantT ops { dst := d, op := .binOp .eql T x y t, type := ty, pos := ps, after := af, guard := g } a := by first | exact Or.inl rfl | exact Or.inr ⟨_, _, _, rfl, rfl, rfl⟩) (hx : a.eval x = .agg xs := by (conv => lhs; whnf) <;> rfl) (hy : a.eval y = .agg ys := by (conv => lhs; whnf) <;> rfl) (ha : a.put d (.bool b) = a2 := by ((try simp only [Act.put, Za, Zx, Zy]) <;> rfl)) : OpG ops Q rest a w { dst := d, op := .binOp .eql T x y t, type := ty, pos := ps, after := af, guard := g } :=
 a_cmps .eql b (.inl rfl) hE rfl hm h hw hx hy ha
inductive OffV : Value → Bool → Prop
 | t : OffV (.bool true) false
 | f : OffV (.bool false) true
 | u (w : Bool) : OffV undef w
@[irreducible] def OffG (ops : Array Oper) (Q : Exit → Act → World → Prop) (rest : List Oper) (a : Act) (w : World) (o : Oper) : Prop := OpG ops Q rest a w o
theorem g_offw {op : Op} {j : Nat} {want : Bool} (h : OffG ops Q rest a w { dst := d, op := op, type := ty, pos := ps, after := af, guard := some (j, want) }) : wpList Tryz.prog ops Q ({ dst := d, op := op, type := ty, pos := ps, after := af, guard := some (j, want) } :: rest) a w := by
 unfold OffG at h; exact h
theorem a_offw {op : Op} {j : Nat} {d2 : Tmp} {want : Bool} {v : Value} (h : wpList Tryz.prog ops Q rest a2 w) (hj : (ops[j]?).bind (·.dst) = some d2 := by rfl) (hv : a.tmps[d2]? = some v := by rfl) (hn : OffV v want := by first | exact OffV.t | exact OffV.f | exact OffV.u _) (ha : a.put d undef = a2 := by ((try simp only [Act.put, Za, Zx, Zy]) <;> rfl)) : OffG ops Q rest a w { dst := d, op := op, type := ty, pos := ps, after := af, guard := some (j, want) } := by
 unfold OffG
 refine wpList_step fun K hK => ?_
 have hn : Region.wanted { dst := d, op := op, type := ty, pos := ps, after := af, guard := some (j, want) } (yielded ops a.tmps) = false := by
  cases hn <;> simp [Region.wanted, yielded, hj, hv, undef]
 rw [hn]
 simp only [Bool.false_eq_true, if_false]
 exact hK _ _ (ha ▸ h)
end
end
section
structure MM where
 l : Sl
 p : WP
 k : Int
 day : Int
@[irreducible] def MM.c (x : MM) : Array Value := rowsOf [#[Sl.v x.l], x.p.c, #[.int .i64 x.k], #[.int .i64 x.day]]
theorem MM.rows (x : MM) : x.c = rowsOf [#[Sl.v x.l], x.p.c, #[.int .i64 x.k], #[.int .i64 x.day]] := by unfold MM.c; rfl
theorem MM.size (x : MM) : x.c.size = 71 := by rw [MM.rows]; simp [rowsOf, WP.size]
theorem MM.one (x : MM) : x.c.all (·.oneCell') = true := by
 rw [MM.rows]
 exact rows_cells_one (by
  intro e he
  simp only [List.mem_cons, List.not_mem_nil, or_false] at he
  rcases he with rfl | rfl | rfl | rfl
  ·simp [Value.oneCell', Sl.v]
  ·exact WP.one _
  ·simp [Value.oneCell', Sl.v]
  ·simp [Value.oneCell', Sl.v])
theorem MM.sT : sizT 96 = some 71 := by kernel_rfl
theorem MM.la (x : MM) : LA 96 x.c 0 (.agg x.c) := LA.whole Zk (by rw [MM.size]; exact MM.sT)
theorem MM.sa (x : MM) {z : Array Value} (h : z.size = 71) : SA 96 z 0 (.agg x.c) x.c := SA.whole (by rw [MM.size]; exact MM.sT) x.one (by rw [MM.size, h])
theorem MM.f_l (x : MM) : FA 26 x.c 0 (Sl.v x.l) := by rw [MM.rows]; exact fa_one 0 Zk rfl (by simp [offs, WP.size])
theorem MM.f_p (x : MM) : FA 37 x.c 1 (.agg x.p.c) := by rw [MM.rows]; exact fa_agg 1 Zk (by rw [WP.size]; kernel_rfl) rfl (by simp [offs, WP.size])
theorem MM.f_k (x : MM) : FA 3 x.c 69 (.int .i64 x.k) := by rw [MM.rows]; exact fa_one 2 Zk rfl (by simp [offs, WP.size])
theorem MM.f_day (x : MM) : FA 3 x.c 70 (.int .i64 x.day) := by rw [MM.rows]; exact fa_one 3 Zk rfl (by simp [offs, WP.size])
def MM.zero : MM := ⟨⟨none, 0, 0⟩, WP.zero, 0, 0⟩
theorem MM.zeroC : MM.zero.c = #[Value.slice none 0 0, .slice none 0 0] ++ Bg.ratA false 0 false 0 ++ #[.int .i64 0, .int .i64 0, .int .i64 0] := by
 rw [MM.rows]
 apply Array.toList_inj.1
 simp [rowsOf, MM.zero, Sl.v, WP.zeroC]
theorem MM.zeroF : (zeroValue 96).run Tryz.prog = fun w => .ok (.agg MM.zero.c) w := by
 rw [MM.zeroC]; unfold Bg.ratA; rw [← Bg.zeroInt]; kernel_rfl
theorem MM.za : ZA 96 MM.zero.c := ⟨_, rfl, fun w => by rw [MM.zeroF]⟩
theorem MM.und : Tryz.prog.underlying 96 = some (.struct (Tryz.prog.fieldsOf 96)) := by kernel_rfl
theorem MM.shape : shapeOf [#[Sl.v MM.zero.l], MM.zero.p.c, #[.int .i64 MM.zero.k], #[.int .i64 MM.zero.day]] = [(0, 1), (1, 68), (69, 1), (70, 1)] := by
 simp [shapeOf, offs, WP.size, List.range, List.range.loop]
theorem MM.places (w : World) : ((Tryz.prog.fieldsOf 96).mapM (fun f => do pure (f.offset, ← sizeOf f.type)) : Sem (Array (Nat × Nat))).run Tryz.prog w = .ok [(0, 1), (1, 68), (69, 1), (70, 1)].toArray w := by kernel_rfl
theorem MM.bld {parts : Array (Nat × Value)} {r : MM} (h : ∀ p ∈ parts.toList, ∃ n, ([(0, 1), (1, 68), (69, 1), (70, 1)] : List (Nat × Nat))[p.1]?.map Prod.snd = some n ∧ p.2.cells.size = n) (hr : rowsOf (setsL [#[Sl.v MM.zero.l], MM.zero.p.c, #[.int .i64 MM.zero.k], #[.int .i64 MM.zero.day]] parts.toList) = r.c) (w : World) : (Instr.build 96 parts).run Tryz.prog w = .ok (.agg r.c) w :=
 run_build_flds MM.und (fun w => by rw [MM.zeroF, MM.rows]) MM.places MM.shape h hr w
end
end Go.Proofs.YtiekmabiecalbaaGreatDoor
