/- Walks. -/
import Derived.Test.YtkiempioeffhbaaGreatDoorPg13
import Derived.Test.YtkiempioeffhbaaGreatDoorPg12
namespace Go.Proofs.YtkiempioeffhbaaGreatDoor
set_option maxHeartbeats 16000000
open Go.RowKit
set_option maxRecDepth 8000
set_option linter.unusedSimpArgs false
section
theorem z9_50 {P : Prop} (h : P := by
 simp only [Bool.and_eq_true, Bool.and_true, beq_iff_eq, jb_str]
 constructor
 ·intro h
  cases x; cases y; simp_all
 ·rintro rfl; simp) : P := h
theorem z9_51 {P : Prop} (h : P := by
 simp [shapeOf, offs, Rr.size, List.range, List.range.loop]) : P := h
theorem z9_52 {P : Prop} (h : P := by
 simp only [Bool.and_eq_true, Bool.and_true, beq_iff_eq, jb_str, Rr.b_iff]
 constructor
 ·intro h
  cases x; cases y; simp_all
 ·rintro rfl; simp) : P := h
theorem z9_53 {P : Prop} (h : P := by
 simp only [Bool.and_eq_true, Bool.and_true, beq_iff_eq, jb_str, JK.b_iff]
 constructor
 ·intro h
  cases x; cases y; simp_all
 ·rintro rfl; simp) : P := h
theorem z9_54 {P : Prop} (h : P := by
 constructor
 ·intro h
  cases x; cases y; simp_all
 ·rintro rfl; simp) : P := h
end
section
theorem jb_str (a b : ByteArray) : (a == b) = true ↔ a = b := by
 rw [show (a == b) = (a.data == b.data) from rfl, beq_iff_eq]
 exact ⟨fun h => by cases a; cases b; simp_all, fun h => by rw [h]⟩
structure Rr where
 s : Bool
 M : Nat
 t : Bool
 N : Nat
 hM : M < Bg.lim
 hN : N < Bg.lim
@[irreducible] def Rr.c (x : Rr) : Array Value := Bg.ratA x.s x.M x.t x.N
theorem Rr.c_eq (x : Rr) : x.c = Bg.ratA x.s x.M x.t x.N := by unfold Rr.c; rfl
theorem Rr.size (x : Rr) : x.c.size = 66 := by rw [Rr.c_eq]; exact ratA_size _ _ _ _
theorem Rr.one (x : Rr) : x.c.all (·.oneCell') = true := by rw [Rr.c_eq]; exact ratA_one _ _ _ _
theorem Rr.la (x : Rr) : LA 43 x.c 0 (.agg x.c) := la_c x.size
theorem Rr.sa (x : Rr) {z : Array Value} (h : z.size = 66) : SA 43 z 0 (.agg x.c) x.c := sa_c x.size x.one h
theorem Rr.vc (x : Rr) : ∃ o, Rt.Vc o x.c := by rw [Rr.c_eq]; exact Rt.vc_any x.hM x.hN
def Rr.b (x y : Rr) : Bool := ((x.s == y.s) && (decide (x.M = y.M) && true)) && (((x.t == y.t) && (decide (x.N = y.N) && true)) && true)
theorem Rr.b_iff {x y : Rr} : Rr.b x y = true ↔ x = y := by
 unfold Rr.b
 simp only [Bool.and_eq_true, Bool.and_true, beq_iff_eq, decide_eq_true_eq]
 constructor
 ·rintro ⟨⟨h1, h2⟩, h3, h4⟩
  cases x; cases y; simp_all
 ·rintro rfl; exact ⟨⟨rfl, rfl⟩, rfl, rfl⟩
def Rr.zero : Rr := ⟨false, 0, false, 0, Bg.ppos 32, Bg.ppos 32⟩
theorem Rr.zero_c : Rr.zero.c = Bg.ratA false 0 false 0 := Rr.c_eq _
theorem jr_eq_int (d : Nat) (s s' : Bool) (N N' : Nat) (hN : N < Bg.lim) (hN' : N' < Bg.lim) : EqT (d + 3) 41 (.agg (Bg.intA s N)) (.agg (Bg.intA s' N')) ((s == s') && (decide (N = N') && true)) := by
 have h1 : ∀ s N, FA 4 (Bg.intA s N) 0 (.bool s) := fun s N => .inl ⟨by kernel_rfl, Bg.intA_neg s N⟩
 have h2 : ∀ s N, FA 39 (Bg.intA s N) 1 (.agg (Bg.row 32 N)) := fun s N => .inr ⟨by kernel_rfl, Bg.row 32 N, by rw [Bg.row_size]; kernel_rfl, by rw [Bg.intA_size, Bg.row_size]; omega, by rw [Bg.row_size]; exact intA_mag s N, rfl⟩
 have e1 : EqT (d + 2) 4 (.bool s) (.bool s') (s == s') := eq_t_bool (d := d + 1) Tryz.underlying4 s s'
 have e2 : EqT (d + 2) 39 (.agg (Bg.row 32 N)) (.agg (Bg.row 32 N')) (decide (N = N')) := fun w => eq_arr N N' hN hN' d w
 exact eq_agg (S := [(4, 0), (39, 1)]) Zk Zk Zk (EqF.cons (h1 s N) (h1 s' N') e1 (EqF.cons (h2 s N) (h2 s' N') e2 .nil))
theorem Rr.eqT (d : Nat) (x y : Rr) : EqT (d + 4) 43 (.agg x.c) (.agg y.c) (Rr.b x y) := by
 rw [Rr.c_eq, Rr.c_eq]
 have h1 : ∀ s M t N, FA 41 (Bg.ratA s M t N) 0 (.agg (Bg.intA s M)) := fun s M t N => .inr ⟨by kernel_rfl, Bg.intA s M, by rw [Bg.intA_size]; exact sT_int, by rw [Bg.intA_size, ratA_size]; omega, by rw [Bg.intA_size]; exact ratA_num s M t N, rfl⟩
 have h2 : ∀ s M t N, FA 41 (Bg.ratA s M t N) 33 (.agg (Bg.intA t N)) := fun s M t N => .inr ⟨by kernel_rfl, Bg.intA t N, by rw [Bg.intA_size]; exact sT_int, by rw [Bg.intA_size, ratA_size]; omega, by rw [Bg.intA_size]; exact ratA_den s M t N, rfl⟩
 exact eq_agg (S := [(41, 0), (41, 33)]) Zk Zk Zk (EqF.cons (h1 _ _ _ _) (h1 _ _ _ _) (jr_eq_int d _ _ _ _ x.hM y.hM) (EqF.cons (h2 _ _ _ _) (h2 _ _ _ _) (jr_eq_int d _ _ _ _ x.hN y.hN) .nil))
structure JK where
 nom : ByteArray
 hol : ByteArray
@[irreducible] def JK.c (x : JK) : Array Value := rowsOf [#[.string x.nom], #[.string x.hol]]
theorem JK.rows (x : JK) : x.c = rowsOf [#[.string x.nom], #[.string x.hol]] := by unfold JK.c; rfl
theorem JK.size (x : JK) : x.c.size = 2 := by rw [JK.rows]; simp [rowsOf]
theorem YPgar0 {P : Prop} (h : P := by
 simp [Value.oneCell']) : P := h
theorem JK.one (x : JK) : x.c.all (·.oneCell') = true := by
 rw [JK.rows]
 exact rows_cells_one (by
  intro e he
  simp only [List.mem_cons, List.not_mem_nil, or_false] at he
  rcases he with rfl | rfl
  ·exact YPgar0
  ·simp [Value.oneCell'])
theorem JK.sT : sizT 51 = some 2 := by kernel_rfl
theorem JK.la (x : JK) : LA 51 x.c 0 (.agg x.c) := LA.whole Zk (by rw [JK.size]; exact JK.sT)
theorem JK.sa (x : JK) {z : Array Value} (h : z.size = 2) : SA 51 z 0 (.agg x.c) x.c := SA.whole (by rw [JK.size]; exact JK.sT) x.one (by rw [JK.size, h])
theorem JK.f_nom (x : JK) : FA 9 x.c 0 (.string x.nom) := by rw [JK.rows]; exact fa_one 0 Zk rfl (by simp [offs])
theorem JK.f_hol (x : JK) : FA 9 x.c 1 (.string x.hol) := by rw [JK.rows]; exact fa_one 1 Zk rfl (by simp [offs])
def JK.zero : JK := ⟨{ data := #[] }, { data := #[] }⟩
theorem JK.zeroC : JK.zero.c = #[Value.string { data := #[] }, .string { data := #[] }] := by
 rw [JK.rows]
 apply Array.toList_inj.1
 simp [rowsOf, JK.zero]
theorem JK.zeroF : (zeroValue 51).run Tryz.prog = fun w => .ok (.agg JK.zero.c) w := by
 rw [JK.zeroC]; kernel_rfl
theorem JK.za : ZA 51 JK.zero.c := ⟨_, rfl, fun w => by rw [JK.zeroF]⟩
theorem JK.und : Tryz.prog.underlying 51 = some (.struct (Tryz.prog.fieldsOf 51)) := by kernel_rfl
theorem JK.shape : shapeOf [#[.string JK.zero.nom], #[.string JK.zero.hol]] = [(0, 1), (1, 1)] := by
 simp [shapeOf, offs, List.range, List.range.loop]
theorem JK.places (w : World) : ((Tryz.prog.fieldsOf 51).mapM (fun f => do pure (f.offset, ← sizeOf f.type)) : Sem (Array (Nat × Nat))).run Tryz.prog w = .ok [(0, 1), (1, 1)].toArray w := by kernel_rfl
theorem JK.bld {parts : Array (Nat × Value)} {r : JK} (h : ∀ p ∈ parts.toList, ∃ n, ([(0, 1), (1, 1)] : List (Nat × Nat))[p.1]?.map Prod.snd = some n ∧ p.2.cells.size = n) (hr : rowsOf (setsL [#[.string JK.zero.nom], #[.string JK.zero.hol]] parts.toList) = r.c) (w : World) : (Instr.build 51 parts).run Tryz.prog w = .ok (.agg r.c) w :=
 run_build_flds JK.und (fun w => by rw [JK.zeroF, JK.rows]) JK.places JK.shape h hr w
def JK.b (x y : JK) : Bool := ((x.nom == y.nom) && ((x.hol == y.hol) && true))
def JK.wf (x : JK) : Prop := x.nom.size ≤ 9223372036854775807 ∧ x.hol.size ≤ 9223372036854775807
theorem JK.eqT (d : Nat) (x y : JK) : EqT (d + 2) 51 (.agg x.c) (.agg y.c) (JK.b x y) :=
 eq_agg (d := d + 1) (S := [(9, 0), (9, 1)]) Zk Zk Zk (EqF.cons x.f_nom y.f_nom (eq_t_str (d := d + 0) Tryz.underlying9 _ _) (EqF.cons x.f_hol y.f_hol (eq_t_str (d := d + 0) Tryz.underlying9 _ _) .nil))
theorem JK.b_iff {x y : JK} : JK.b x y = true ↔ x = y := by
 unfold JK.b
 exact z9_50
structure JQ where
 src : ByteArray
 ins : ByteArray
 cur : ByteArray
 day : Int
 prc : Rr
 kn : Int
 vd : Bool
@[irreducible] def JQ.c (x : JQ) : Array Value := rowsOf [#[.string x.src], #[.string x.ins], #[.string x.cur], #[.int .i64 x.day], x.prc.c, #[.int .i64 x.kn], #[.bool x.vd]]
theorem JQ.rows (x : JQ) : x.c = rowsOf [#[.string x.src], #[.string x.ins], #[.string x.cur], #[.int .i64 x.day], x.prc.c, #[.int .i64 x.kn], #[.bool x.vd]] := by unfold JQ.c; rfl
theorem JQ.size (x : JQ) : x.c.size = 72 := by rw [JQ.rows]; simp [rowsOf, Rr.size]
theorem JQ.one (x : JQ) : x.c.all (·.oneCell') = true := by
 rw [JQ.rows]
 exact rows_cells_one (by
  intro e he
  simp only [List.mem_cons, List.not_mem_nil, or_false] at he
  rcases he with rfl | rfl | rfl | rfl | rfl | rfl | rfl
  ·exact YPgar0
  ·exact YPgar0
  ·exact YPgar0
  ·exact YPgar0
  ·exact Rr.one _
  ·exact YPgar0
  ·simp [Value.oneCell'])
theorem JQ.sT : sizT 45 = some 72 := by kernel_rfl
theorem JQ.la (x : JQ) : LA 45 x.c 0 (.agg x.c) := LA.whole Zk (by rw [JQ.size]; exact JQ.sT)
theorem JQ.sa (x : JQ) {z : Array Value} (h : z.size = 72) : SA 45 z 0 (.agg x.c) x.c := SA.whole (by rw [JQ.size]; exact JQ.sT) x.one (by rw [JQ.size, h])
theorem JQ.f_src (x : JQ) : FA 9 x.c 0 (.string x.src) := by rw [JQ.rows]; exact fa_one 0 Zk rfl (by simp [offs, Rr.size])
theorem JQ.f_ins (x : JQ) : FA 9 x.c 1 (.string x.ins) := by rw [JQ.rows]; exact fa_one 1 Zk rfl (by simp [offs, Rr.size])
theorem JQ.f_cur (x : JQ) : FA 9 x.c 2 (.string x.cur) := by rw [JQ.rows]; exact fa_one 2 Zk rfl (by simp [offs, Rr.size])
theorem JQ.f_day (x : JQ) : FA 3 x.c 3 (.int .i64 x.day) := by rw [JQ.rows]; exact fa_one 3 Zk rfl (by simp [offs, Rr.size])
theorem JQ.f_prc (x : JQ) : FA 43 x.c 4 (.agg x.prc.c) := by rw [JQ.rows]; exact fa_agg 4 Zk (by rw [Rr.size]; kernel_rfl) rfl (by simp [offs, Rr.size])
theorem JQ.f_kn (x : JQ) : FA 3 x.c 70 (.int .i64 x.kn) := by rw [JQ.rows]; exact fa_one 5 Zk rfl (by simp [offs, Rr.size])
theorem JQ.f_vd (x : JQ) : FA 4 x.c 71 (.bool x.vd) := by rw [JQ.rows]; exact fa_one 6 Zk rfl (by simp [offs, Rr.size])
def JQ.zero : JQ := ⟨{ data := #[] }, { data := #[] }, { data := #[] }, 0, Rr.zero, 0, false⟩
theorem JQ.zeroC : JQ.zero.c = #[Value.string { data := #[] }, .string { data := #[] }, .string { data := #[] }, .int .i64 0] ++ Bg.ratA false 0 false 0 ++ #[.int .i64 0, .bool false] := by
 rw [JQ.rows]
 apply Array.toList_inj.1
 simp [rowsOf, JQ.zero, Rr.zero_c]
theorem JQ.zeroF : (zeroValue 45).run Tryz.prog = fun w => .ok (.agg JQ.zero.c) w := by
 rw [JQ.zeroC]; unfold Bg.ratA; rw [← Bg.zeroInt]; kernel_rfl
theorem JQ.za : ZA 45 JQ.zero.c := ⟨_, rfl, fun w => by rw [JQ.zeroF]⟩
theorem JQ.und : Tryz.prog.underlying 45 = some (.struct (Tryz.prog.fieldsOf 45)) := by kernel_rfl
theorem JQ.shape : shapeOf [#[.string JQ.zero.src], #[.string JQ.zero.ins], #[.string JQ.zero.cur], #[.int .i64 JQ.zero.day], JQ.zero.prc.c, #[.int .i64 JQ.zero.kn], #[.bool JQ.zero.vd]] = [(0, 1), (1, 1), (2, 1), (3, 1), (4, 66), (70, 1), (71, 1)] := by
 exact z9_51
theorem JQ.places (w : World) : ((Tryz.prog.fieldsOf 45).mapM (fun f => do pure (f.offset, ← sizeOf f.type)) : Sem (Array (Nat × Nat))).run Tryz.prog w = .ok [(0, 1), (1, 1), (2, 1), (3, 1), (4, 66), (70, 1), (71, 1)].toArray w := by kernel_rfl
theorem JQ.bld {parts : Array (Nat × Value)} {r : JQ} (h : ∀ p ∈ parts.toList, ∃ n, ([(0, 1), (1, 1), (2, 1), (3, 1), (4, 66), (70, 1), (71, 1)] : List (Nat × Nat))[p.1]?.map Prod.snd = some n ∧ p.2.cells.size = n) (hr : rowsOf (setsL [#[.string JQ.zero.src], #[.string JQ.zero.ins], #[.string JQ.zero.cur], #[.int .i64 JQ.zero.day], JQ.zero.prc.c, #[.int .i64 JQ.zero.kn], #[.bool JQ.zero.vd]] parts.toList) = r.c) (w : World) : (Instr.build 45 parts).run Tryz.prog w = .ok (.agg r.c) w :=
 run_build_flds JQ.und (fun w => by rw [JQ.zeroF, JQ.rows]) JQ.places JQ.shape h hr w
def JQ.b (x y : JQ) : Bool := ((x.src == y.src) && ((x.ins == y.ins) && ((x.cur == y.cur) && ((x.day == y.day) && (Rr.b x.prc y.prc && ((x.kn == y.kn) && ((x.vd == y.vd) && true)))))))
def JQ.wf (x : JQ) : Prop := x.src.size ≤ 9223372036854775807 ∧ x.ins.size ≤ 9223372036854775807 ∧ x.cur.size ≤ 9223372036854775807
theorem JQ.eqT (d : Nat) (x y : JQ) : EqT (d + 5) 45 (.agg x.c) (.agg y.c) (JQ.b x y) :=
 eq_agg (d := d + 4) (S := [(9, 0), (9, 1), (9, 2), (3, 3), (43, 4), (3, 70), (4, 71)]) Zk Zk Zk (EqF.cons x.f_src y.f_src (eq_t_str (d := d + 3) Tryz.underlying9 _ _) (EqF.cons x.f_ins y.f_ins (eq_t_str (d := d + 3) Tryz.underlying9 _ _) (EqF.cons x.f_cur y.f_cur (eq_t_str (d := d + 3) Tryz.underlying9 _ _) (EqF.cons x.f_day y.f_day (eq_t_int (d := d + 3) Tryz.underlying3 _ _) (EqF.cons x.f_prc y.f_prc (Rr.eqT (d + 0) _ _) (EqF.cons x.f_kn y.f_kn (eq_t_int (d := d + 3) Tryz.underlying3 _ _) (EqF.cons x.f_vd y.f_vd (eq_t_bool (d := d + 3) Tryz.underlying4 _ _) .nil)))))))
theorem JQ.b_iff {x y : JQ} : JQ.b x y = true ↔ x = y := by
 unfold JQ.b
 exact z9_52
structure JA where
 kd : Int
 key : ByteArray
 ins : ByteArray
 into : ByteArray
 day : Int
 nm : Int
 dn : Int
 csh : Rr
 cur : ByteArray
 kn : Int
 vd : Bool
@[irreducible] def JA.c (x : JA) : Array Value := rowsOf [#[.int .i64 x.kd], #[.string x.key], #[.string x.ins], #[.string x.into], #[.int .i64 x.day], #[.int .i64 x.nm], #[.int .i64 x.dn], x.csh.c, #[.string x.cur], #[.int .i64 x.kn], #[.bool x.vd]]
theorem JA.rows (x : JA) : x.c = rowsOf [#[.int .i64 x.kd], #[.string x.key], #[.string x.ins], #[.string x.into], #[.int .i64 x.day], #[.int .i64 x.nm], #[.int .i64 x.dn], x.csh.c, #[.string x.cur], #[.int .i64 x.kn], #[.bool x.vd]] := by unfold JA.c; rfl
theorem JA.size (x : JA) : x.c.size = 76 := by rw [JA.rows]; simp [rowsOf, Rr.size]
theorem JA.one (x : JA) : x.c.all (·.oneCell') = true := by
 rw [JA.rows]
 exact rows_cells_one (by
  intro e he
  simp only [List.mem_cons, List.not_mem_nil, or_false] at he
  rcases he with rfl | rfl | rfl | rfl | rfl | rfl | rfl | rfl | rfl | rfl | rfl
  ·exact YPgar0
  ·exact YPgar0
  ·exact YPgar0
  ·exact YPgar0
  ·exact YPgar0
  ·exact YPgar0
  ·exact YPgar0
  ·exact Rr.one _
  ·exact YPgar0
  ·exact YPgar0
  ·simp [Value.oneCell'])
theorem JA.sT : sizT 47 = some 76 := by kernel_rfl
theorem JA.la (x : JA) : LA 47 x.c 0 (.agg x.c) := LA.whole Zk (by rw [JA.size]; exact JA.sT)
theorem JA.sa (x : JA) {z : Array Value} (h : z.size = 76) : SA 47 z 0 (.agg x.c) x.c := SA.whole (by rw [JA.size]; exact JA.sT) x.one (by rw [JA.size, h])
theorem JA.f_kd (x : JA) : FA 3 x.c 0 (.int .i64 x.kd) := by rw [JA.rows]; exact fa_one 0 Zk rfl (by simp [offs, Rr.size])
theorem JA.f_key (x : JA) : FA 9 x.c 1 (.string x.key) := by rw [JA.rows]; exact fa_one 1 Zk rfl (by simp [offs, Rr.size])
theorem JA.f_ins (x : JA) : FA 9 x.c 2 (.string x.ins) := by rw [JA.rows]; exact fa_one 2 Zk rfl (by simp [offs, Rr.size])
theorem JA.f_into (x : JA) : FA 9 x.c 3 (.string x.into) := by rw [JA.rows]; exact fa_one 3 Zk rfl (by simp [offs, Rr.size])
theorem JA.s_into (x : JA) (v : ByteArray) : SA 9 x.c 3 (.string v) { x with into := v }.c := by rw [JA.rows, JA.rows]; exact sa_fld_one 3 Zk rfl rfl rfl (by simp [offs, Rr.size])
theorem JA.f_day (x : JA) : FA 3 x.c 4 (.int .i64 x.day) := by rw [JA.rows]; exact fa_one 4 Zk rfl (by simp [offs, Rr.size])
theorem JA.f_nm (x : JA) : FA 3 x.c 5 (.int .i64 x.nm) := by rw [JA.rows]; exact fa_one 5 Zk rfl (by simp [offs, Rr.size])
theorem JA.s_nm (x : JA) (v : Int) : SA 3 x.c 5 (.int .i64 v) { x with nm := v }.c := by rw [JA.rows, JA.rows]; exact sa_fld_one 5 Zk rfl rfl rfl (by simp [offs, Rr.size])
theorem JA.f_dn (x : JA) : FA 3 x.c 6 (.int .i64 x.dn) := by rw [JA.rows]; exact fa_one 6 Zk rfl (by simp [offs, Rr.size])
theorem JA.s_dn (x : JA) (v : Int) : SA 3 x.c 6 (.int .i64 v) { x with dn := v }.c := by rw [JA.rows, JA.rows]; exact sa_fld_one 6 Zk rfl rfl rfl (by simp [offs, Rr.size])
theorem JA.f_csh (x : JA) : FA 43 x.c 7 (.agg x.csh.c) := by rw [JA.rows]; exact fa_agg 7 Zk (by rw [Rr.size]; kernel_rfl) rfl (by simp [offs, Rr.size])
theorem JA.f_cur (x : JA) : FA 9 x.c 73 (.string x.cur) := by rw [JA.rows]; exact fa_one 8 Zk rfl (by simp [offs, Rr.size])
theorem JA.f_kn (x : JA) : FA 3 x.c 74 (.int .i64 x.kn) := by rw [JA.rows]; exact fa_one 9 Zk rfl (by simp [offs, Rr.size])
theorem JA.f_vd (x : JA) : FA 4 x.c 75 (.bool x.vd) := by rw [JA.rows]; exact fa_one 10 Zk rfl (by simp [offs, Rr.size])
def JA.zero : JA := ⟨0, { data := #[] }, { data := #[] }, { data := #[] }, 0, 0, 0, Rr.zero, { data := #[] }, 0, false⟩
theorem JA.zeroC : JA.zero.c = #[Value.int .i64 0, .string { data := #[] }, .string { data := #[] }, .string { data := #[] }, .int .i64 0, .int .i64 0, .int .i64 0] ++ Bg.ratA false 0 false 0 ++ #[.string { data := #[] }, .int .i64 0, .bool false] := by
 rw [JA.rows]
 apply Array.toList_inj.1
 simp [rowsOf, JA.zero, Rr.zero_c]
theorem JA.zeroF : (zeroValue 47).run Tryz.prog = fun w => .ok (.agg JA.zero.c) w := by
 rw [JA.zeroC]; unfold Bg.ratA; rw [← Bg.zeroInt]; kernel_rfl
theorem JA.za : ZA 47 JA.zero.c := ⟨_, rfl, fun w => by rw [JA.zeroF]⟩
theorem JA.und : Tryz.prog.underlying 47 = some (.struct (Tryz.prog.fieldsOf 47)) := by kernel_rfl
theorem JA.shape : shapeOf [#[.int .i64 JA.zero.kd], #[.string JA.zero.key], #[.string JA.zero.ins], #[.string JA.zero.into], #[.int .i64 JA.zero.day], #[.int .i64 JA.zero.nm], #[.int .i64 JA.zero.dn], JA.zero.csh.c, #[.string JA.zero.cur], #[.int .i64 JA.zero.kn], #[.bool JA.zero.vd]] = [(0, 1), (1, 1), (2, 1), (3, 1), (4, 1), (5, 1), (6, 1), (7, 66), (73, 1), (74, 1), (75, 1)] := by
 exact z9_51
theorem JA.places (w : World) : ((Tryz.prog.fieldsOf 47).mapM (fun f => do pure (f.offset, ← sizeOf f.type)) : Sem (Array (Nat × Nat))).run Tryz.prog w = .ok [(0, 1), (1, 1), (2, 1), (3, 1), (4, 1), (5, 1), (6, 1), (7, 66), (73, 1), (74, 1), (75, 1)].toArray w := by kernel_rfl
theorem JA.bld {parts : Array (Nat × Value)} {r : JA} (h : ∀ p ∈ parts.toList, ∃ n, ([(0, 1), (1, 1), (2, 1), (3, 1), (4, 1), (5, 1), (6, 1), (7, 66), (73, 1), (74, 1), (75, 1)] : List (Nat × Nat))[p.1]?.map Prod.snd = some n ∧ p.2.cells.size = n) (hr : rowsOf (setsL [#[.int .i64 JA.zero.kd], #[.string JA.zero.key], #[.string JA.zero.ins], #[.string JA.zero.into], #[.int .i64 JA.zero.day], #[.int .i64 JA.zero.nm], #[.int .i64 JA.zero.dn], JA.zero.csh.c, #[.string JA.zero.cur], #[.int .i64 JA.zero.kn], #[.bool JA.zero.vd]] parts.toList) = r.c) (w : World) : (Instr.build 47 parts).run Tryz.prog w = .ok (.agg r.c) w :=
 run_build_flds JA.und (fun w => by rw [JA.zeroF, JA.rows]) JA.places JA.shape h hr w
def JA.b (x y : JA) : Bool := ((x.kd == y.kd) && ((x.key == y.key) && ((x.ins == y.ins) && ((x.into == y.into) && ((x.day == y.day) && ((x.nm == y.nm) && ((x.dn == y.dn) && (Rr.b x.csh y.csh && ((x.cur == y.cur) && ((x.kn == y.kn) && ((x.vd == y.vd) && true)))))))))))
def JA.wf (x : JA) : Prop := x.key.size ≤ 9223372036854775807 ∧ x.ins.size ≤ 9223372036854775807 ∧ x.into.size ≤ 9223372036854775807 ∧ x.cur.size ≤ 9223372036854775807
theorem JA.eqT (d : Nat) (x y : JA) : EqT (d + 5) 47 (.agg x.c) (.agg y.c) (JA.b x y) :=
 eq_agg (d := d + 4) (S := [(3, 0), (9, 1), (9, 2), (9, 3), (3, 4), (3, 5), (3, 6), (43, 7), (9, 73), (3, 74), (4, 75)]) Zk Zk Zk (EqF.cons x.f_kd y.f_kd (eq_t_int (d := d + 3) Tryz.underlying3 _ _) (EqF.cons x.f_key y.f_key (eq_t_str (d := d + 3) Tryz.underlying9 _ _) (EqF.cons x.f_ins y.f_ins (eq_t_str (d := d + 3) Tryz.underlying9 _ _) (EqF.cons x.f_into y.f_into (eq_t_str (d := d + 3) Tryz.underlying9 _ _) (EqF.cons x.f_day y.f_day (eq_t_int (d := d + 3) Tryz.underlying3 _ _) (EqF.cons x.f_nm y.f_nm (eq_t_int (d := d + 3) Tryz.underlying3 _ _) (EqF.cons x.f_dn y.f_dn (eq_t_int (d := d + 3) Tryz.underlying3 _ _) (EqF.cons x.f_csh y.f_csh (Rr.eqT (d + 0) _ _) (EqF.cons x.f_cur y.f_cur (eq_t_str (d := d + 3) Tryz.underlying9 _ _) (EqF.cons x.f_kn y.f_kn (eq_t_int (d := d + 3) Tryz.underlying3 _ _) (EqF.cons x.f_vd y.f_vd (eq_t_bool (d := d + 3) Tryz.underlying4 _ _) .nil)))))))))))
theorem JA.b_iff {x y : JA} : JA.b x y = true ↔ x = y := by
 unfold JA.b
 exact z9_52
theorem JA.eq9 (x y : JA) : EqT 10000 47 (.agg x.c) (.agg y.c) (JA.b x y) := JA.eqT 9995 x y
theorem JA.b_self (x : JA) : JA.b x x = true := JA.b_iff.2 rfl
structure JE where
 kd : Int
 key : ByteArray
 day : Int
 stl : Int
 ins : ByteArray
 qty : Int
 amt : Int
 cur : ByteArray
 kn : Int
 vd : Bool
@[irreducible] def JE.c (x : JE) : Array Value := rowsOf [#[.int .i64 x.kd], #[.string x.key], #[.int .i64 x.day], #[.int .i64 x.stl], #[.string x.ins], #[.int .i64 x.qty], #[.int .i64 x.amt], #[.string x.cur], #[.int .i64 x.kn], #[.bool x.vd]]
theorem JE.rows (x : JE) : x.c = rowsOf [#[.int .i64 x.kd], #[.string x.key], #[.int .i64 x.day], #[.int .i64 x.stl], #[.string x.ins], #[.int .i64 x.qty], #[.int .i64 x.amt], #[.string x.cur], #[.int .i64 x.kn], #[.bool x.vd]] := by unfold JE.c; rfl
theorem JE.size (x : JE) : x.c.size = 10 := by rw [JE.rows]; simp [rowsOf]
theorem JE.one (x : JE) : x.c.all (·.oneCell') = true := by
 rw [JE.rows]
 exact rows_cells_one (by
  intro e he
  simp only [List.mem_cons, List.not_mem_nil, or_false] at he
  rcases he with rfl | rfl | rfl | rfl | rfl | rfl | rfl | rfl | rfl | rfl
  ·exact YPgar0
  ·exact YPgar0
  ·exact YPgar0
  ·exact YPgar0
  ·exact YPgar0
  ·exact YPgar0
  ·exact YPgar0
  ·exact YPgar0
  ·exact YPgar0
  ·simp [Value.oneCell'])
theorem JE.sT : sizT 49 = some 10 := by kernel_rfl
theorem JE.la (x : JE) : LA 49 x.c 0 (.agg x.c) := LA.whole Zk (by rw [JE.size]; exact JE.sT)
theorem JE.sa (x : JE) {z : Array Value} (h : z.size = 10) : SA 49 z 0 (.agg x.c) x.c := SA.whole (by rw [JE.size]; exact JE.sT) x.one (by rw [JE.size, h])
theorem JE.f_kd (x : JE) : FA 3 x.c 0 (.int .i64 x.kd) := by rw [JE.rows]; exact fa_one 0 Zk rfl (by simp [offs])
theorem JE.f_key (x : JE) : FA 9 x.c 1 (.string x.key) := by rw [JE.rows]; exact fa_one 1 Zk rfl (by simp [offs])
theorem JE.f_day (x : JE) : FA 3 x.c 2 (.int .i64 x.day) := by rw [JE.rows]; exact fa_one 2 Zk rfl (by simp [offs])
theorem JE.f_stl (x : JE) : FA 3 x.c 3 (.int .i64 x.stl) := by rw [JE.rows]; exact fa_one 3 Zk rfl (by simp [offs])
theorem JE.f_ins (x : JE) : FA 9 x.c 4 (.string x.ins) := by rw [JE.rows]; exact fa_one 4 Zk rfl (by simp [offs])
theorem JE.f_qty (x : JE) : FA 3 x.c 5 (.int .i64 x.qty) := by rw [JE.rows]; exact fa_one 5 Zk rfl (by simp [offs])
theorem JE.f_amt (x : JE) : FA 3 x.c 6 (.int .i64 x.amt) := by rw [JE.rows]; exact fa_one 6 Zk rfl (by simp [offs])
theorem JE.f_cur (x : JE) : FA 9 x.c 7 (.string x.cur) := by rw [JE.rows]; exact fa_one 7 Zk rfl (by simp [offs])
theorem JE.f_kn (x : JE) : FA 3 x.c 8 (.int .i64 x.kn) := by rw [JE.rows]; exact fa_one 8 Zk rfl (by simp [offs])
theorem JE.f_vd (x : JE) : FA 4 x.c 9 (.bool x.vd) := by rw [JE.rows]; exact fa_one 9 Zk rfl (by simp [offs])
def JE.zero : JE := ⟨0, { data := #[] }, 0, 0, { data := #[] }, 0, 0, { data := #[] }, 0, false⟩
theorem JE.zeroC : JE.zero.c = #[Value.int .i64 0, .string { data := #[] }, .int .i64 0, .int .i64 0, .string { data := #[] }, .int .i64 0, .int .i64 0, .string { data := #[] }, .int .i64 0, .bool false] := by
 rw [JE.rows]
 apply Array.toList_inj.1
 simp [rowsOf, JE.zero]
theorem JE.zeroF : (zeroValue 49).run Tryz.prog = fun w => .ok (.agg JE.zero.c) w := by
 rw [JE.zeroC]; kernel_rfl
theorem JE.za : ZA 49 JE.zero.c := ⟨_, rfl, fun w => by rw [JE.zeroF]⟩
theorem JE.und : Tryz.prog.underlying 49 = some (.struct (Tryz.prog.fieldsOf 49)) := by kernel_rfl
theorem JE.shape : shapeOf [#[.int .i64 JE.zero.kd], #[.string JE.zero.key], #[.int .i64 JE.zero.day], #[.int .i64 JE.zero.stl], #[.string JE.zero.ins], #[.int .i64 JE.zero.qty], #[.int .i64 JE.zero.amt], #[.string JE.zero.cur], #[.int .i64 JE.zero.kn], #[.bool JE.zero.vd]] = [(0, 1), (1, 1), (2, 1), (3, 1), (4, 1), (5, 1), (6, 1), (7, 1), (8, 1), (9, 1)] := by
 simp [shapeOf, offs, List.range, List.range.loop]
theorem JE.places (w : World) : ((Tryz.prog.fieldsOf 49).mapM (fun f => do pure (f.offset, ← sizeOf f.type)) : Sem (Array (Nat × Nat))).run Tryz.prog w = .ok [(0, 1), (1, 1), (2, 1), (3, 1), (4, 1), (5, 1), (6, 1), (7, 1), (8, 1), (9, 1)].toArray w := by kernel_rfl
theorem JE.bld {parts : Array (Nat × Value)} {r : JE} (h : ∀ p ∈ parts.toList, ∃ n, ([(0, 1), (1, 1), (2, 1), (3, 1), (4, 1), (5, 1), (6, 1), (7, 1), (8, 1), (9, 1)] : List (Nat × Nat))[p.1]?.map Prod.snd = some n ∧ p.2.cells.size = n) (hr : rowsOf (setsL [#[.int .i64 JE.zero.kd], #[.string JE.zero.key], #[.int .i64 JE.zero.day], #[.int .i64 JE.zero.stl], #[.string JE.zero.ins], #[.int .i64 JE.zero.qty], #[.int .i64 JE.zero.amt], #[.string JE.zero.cur], #[.int .i64 JE.zero.kn], #[.bool JE.zero.vd]] parts.toList) = r.c) (w : World) : (Instr.build 49 parts).run Tryz.prog w = .ok (.agg r.c) w :=
 run_build_flds JE.und (fun w => by rw [JE.zeroF, JE.rows]) JE.places JE.shape h hr w
def JE.b (x y : JE) : Bool := ((x.kd == y.kd) && ((x.key == y.key) && ((x.day == y.day) && ((x.stl == y.stl) && ((x.ins == y.ins) && ((x.qty == y.qty) && ((x.amt == y.amt) && ((x.cur == y.cur) && ((x.kn == y.kn) && ((x.vd == y.vd) && true))))))))))
def JE.wf (x : JE) : Prop := x.key.size ≤ 9223372036854775807 ∧ x.ins.size ≤ 9223372036854775807 ∧ x.cur.size ≤ 9223372036854775807
theorem JE.eqT (d : Nat) (x y : JE) : EqT (d + 2) 49 (.agg x.c) (.agg y.c) (JE.b x y) :=
 eq_agg (d := d + 1) (S := [(3, 0), (9, 1), (3, 2), (3, 3), (9, 4), (3, 5), (3, 6), (9, 7), (3, 8), (4, 9)]) Zk Zk Zk (EqF.cons x.f_kd y.f_kd (eq_t_int (d := d + 0) Tryz.underlying3 _ _) (EqF.cons x.f_key y.f_key (eq_t_str (d := d + 0) Tryz.underlying9 _ _) (EqF.cons x.f_day y.f_day (eq_t_int (d := d + 0) Tryz.underlying3 _ _) (EqF.cons x.f_stl y.f_stl (eq_t_int (d := d + 0) Tryz.underlying3 _ _) (EqF.cons x.f_ins y.f_ins (eq_t_str (d := d + 0) Tryz.underlying9 _ _) (EqF.cons x.f_qty y.f_qty (eq_t_int (d := d + 0) Tryz.underlying3 _ _) (EqF.cons x.f_amt y.f_amt (eq_t_int (d := d + 0) Tryz.underlying3 _ _) (EqF.cons x.f_cur y.f_cur (eq_t_str (d := d + 0) Tryz.underlying9 _ _) (EqF.cons x.f_kn y.f_kn (eq_t_int (d := d + 0) Tryz.underlying3 _ _) (EqF.cons x.f_vd y.f_vd (eq_t_bool (d := d + 0) Tryz.underlying4 _ _) .nil))))))))))
theorem JE.b_iff {x y : JE} : JE.b x y = true ↔ x = y := by
 unfold JE.b
 exact z9_50
theorem JE.eq9 (x y : JE) : EqT 10000 49 (.agg x.c) (.agg y.c) (JE.b x y) := JE.eqT 9998 x y
structure JO where
 key : ByteArray
 acc : JK
 fnd : ByteArray
 cls : ByteArray
 kd : Int
 amt : Int
 un : Int
 at_ : Int
 kn : Int
 vd : Bool
@[irreducible] def JO.c (x : JO) : Array Value := rowsOf [#[.string x.key], x.acc.c, #[.string x.fnd], #[.string x.cls], #[.int .i64 x.kd], #[.int .i64 x.amt], #[.int .i64 x.un], #[.int .i64 x.at_], #[.int .i64 x.kn], #[.bool x.vd]]
theorem JO.rows (x : JO) : x.c = rowsOf [#[.string x.key], x.acc.c, #[.string x.fnd], #[.string x.cls], #[.int .i64 x.kd], #[.int .i64 x.amt], #[.int .i64 x.un], #[.int .i64 x.at_], #[.int .i64 x.kn], #[.bool x.vd]] := by unfold JO.c; rfl
theorem JO.size (x : JO) : x.c.size = 11 := by rw [JO.rows]; simp [rowsOf, JK.size]
theorem JO.one (x : JO) : x.c.all (·.oneCell') = true := by
 rw [JO.rows]
 exact rows_cells_one (by
  intro e he
  simp only [List.mem_cons, List.not_mem_nil, or_false] at he
  rcases he with rfl | rfl | rfl | rfl | rfl | rfl | rfl | rfl | rfl | rfl
  ·exact YPgar0
  ·exact JK.one _
  ·exact YPgar0
  ·exact YPgar0
  ·exact YPgar0
  ·exact YPgar0
  ·exact YPgar0
  ·exact YPgar0
  ·exact YPgar0
  ·simp [Value.oneCell'])
theorem JO.sT : sizT 53 = some 11 := by kernel_rfl
theorem JO.la (x : JO) : LA 53 x.c 0 (.agg x.c) := LA.whole Zk (by rw [JO.size]; exact JO.sT)
theorem JO.sa (x : JO) {z : Array Value} (h : z.size = 11) : SA 53 z 0 (.agg x.c) x.c := SA.whole (by rw [JO.size]; exact JO.sT) x.one (by rw [JO.size, h])
theorem JO.f_key (x : JO) : FA 9 x.c 0 (.string x.key) := by rw [JO.rows]; exact fa_one 0 Zk rfl (by simp [offs, JK.size])
theorem JO.f_acc (x : JO) : FA 51 x.c 1 (.agg x.acc.c) := by rw [JO.rows]; exact fa_agg 1 Zk (by rw [JK.size]; kernel_rfl) rfl (by simp [offs, JK.size])
theorem JO.f_fnd (x : JO) : FA 9 x.c 3 (.string x.fnd) := by rw [JO.rows]; exact fa_one 2 Zk rfl (by simp [offs, JK.size])
theorem JO.f_cls (x : JO) : FA 9 x.c 4 (.string x.cls) := by rw [JO.rows]; exact fa_one 3 Zk rfl (by simp [offs, JK.size])
theorem JO.f_kd (x : JO) : FA 3 x.c 5 (.int .i64 x.kd) := by rw [JO.rows]; exact fa_one 4 Zk rfl (by simp [offs, JK.size])
theorem JO.s_kd (x : JO) (v : Int) : SA 3 x.c 5 (.int .i64 v) { x with kd := v }.c := by rw [JO.rows, JO.rows]; exact sa_fld_one 4 Zk rfl rfl rfl (by simp [offs, JK.size])
theorem JO.f_amt (x : JO) : FA 3 x.c 6 (.int .i64 x.amt) := by rw [JO.rows]; exact fa_one 5 Zk rfl (by simp [offs, JK.size])
theorem JO.s_amt (x : JO) (v : Int) : SA 3 x.c 6 (.int .i64 v) { x with amt := v }.c := by rw [JO.rows, JO.rows]; exact sa_fld_one 5 Zk rfl rfl rfl (by simp [offs, JK.size])
theorem JO.f_un (x : JO) : FA 3 x.c 7 (.int .i64 x.un) := by rw [JO.rows]; exact fa_one 6 Zk rfl (by simp [offs, JK.size])
theorem JO.s_un (x : JO) (v : Int) : SA 3 x.c 7 (.int .i64 v) { x with un := v }.c := by rw [JO.rows, JO.rows]; exact sa_fld_one 6 Zk rfl rfl rfl (by simp [offs, JK.size])
theorem JO.f_at_ (x : JO) : FA 3 x.c 8 (.int .i64 x.at_) := by rw [JO.rows]; exact fa_one 7 Zk rfl (by simp [offs, JK.size])
theorem JO.f_kn (x : JO) : FA 3 x.c 9 (.int .i64 x.kn) := by rw [JO.rows]; exact fa_one 8 Zk rfl (by simp [offs, JK.size])
theorem JO.f_vd (x : JO) : FA 4 x.c 10 (.bool x.vd) := by rw [JO.rows]; exact fa_one 9 Zk rfl (by simp [offs, JK.size])
def JO.zero : JO := ⟨{ data := #[] }, JK.zero, { data := #[] }, { data := #[] }, 0, 0, 0, 0, 0, false⟩
theorem JO.zeroC : JO.zero.c = #[Value.string { data := #[] }, .string { data := #[] }, .string { data := #[] }, .string { data := #[] }, .string { data := #[] }, .int .i64 0, .int .i64 0, .int .i64 0, .int .i64 0, .int .i64 0, .bool false] := by
 rw [JO.rows]
 apply Array.toList_inj.1
 simp [rowsOf, JO.zero, JK.zeroC]
theorem JO.zeroF : (zeroValue 53).run Tryz.prog = fun w => .ok (.agg JO.zero.c) w := by
 rw [JO.zeroC]; kernel_rfl
theorem JO.za : ZA 53 JO.zero.c := ⟨_, rfl, fun w => by rw [JO.zeroF]⟩
theorem JO.und : Tryz.prog.underlying 53 = some (.struct (Tryz.prog.fieldsOf 53)) := by kernel_rfl
theorem JO.shape : shapeOf [#[.string JO.zero.key], JO.zero.acc.c, #[.string JO.zero.fnd], #[.string JO.zero.cls], #[.int .i64 JO.zero.kd], #[.int .i64 JO.zero.amt], #[.int .i64 JO.zero.un], #[.int .i64 JO.zero.at_], #[.int .i64 JO.zero.kn], #[.bool JO.zero.vd]] = [(0, 1), (1, 2), (3, 1), (4, 1), (5, 1), (6, 1), (7, 1), (8, 1), (9, 1), (10, 1)] := by
 simp [shapeOf, offs, JK.size, List.range, List.range.loop]
theorem JO.places (w : World) : ((Tryz.prog.fieldsOf 53).mapM (fun f => do pure (f.offset, ← sizeOf f.type)) : Sem (Array (Nat × Nat))).run Tryz.prog w = .ok [(0, 1), (1, 2), (3, 1), (4, 1), (5, 1), (6, 1), (7, 1), (8, 1), (9, 1), (10, 1)].toArray w := by kernel_rfl
theorem JO.bld {parts : Array (Nat × Value)} {r : JO} (h : ∀ p ∈ parts.toList, ∃ n, ([(0, 1), (1, 2), (3, 1), (4, 1), (5, 1), (6, 1), (7, 1), (8, 1), (9, 1), (10, 1)] : List (Nat × Nat))[p.1]?.map Prod.snd = some n ∧ p.2.cells.size = n) (hr : rowsOf (setsL [#[.string JO.zero.key], JO.zero.acc.c, #[.string JO.zero.fnd], #[.string JO.zero.cls], #[.int .i64 JO.zero.kd], #[.int .i64 JO.zero.amt], #[.int .i64 JO.zero.un], #[.int .i64 JO.zero.at_], #[.int .i64 JO.zero.kn], #[.bool JO.zero.vd]] parts.toList) = r.c) (w : World) : (Instr.build 53 parts).run Tryz.prog w = .ok (.agg r.c) w :=
 run_build_flds JO.und (fun w => by rw [JO.zeroF, JO.rows]) JO.places JO.shape h hr w
def JO.b (x y : JO) : Bool := ((x.key == y.key) && (JK.b x.acc y.acc && ((x.fnd == y.fnd) && ((x.cls == y.cls) && ((x.kd == y.kd) && ((x.amt == y.amt) && ((x.un == y.un) && ((x.at_ == y.at_) && ((x.kn == y.kn) && ((x.vd == y.vd) && true))))))))))
def JO.wf (x : JO) : Prop := x.key.size ≤ 9223372036854775807 ∧ x.acc.wf ∧ x.fnd.size ≤ 9223372036854775807 ∧ x.cls.size ≤ 9223372036854775807
theorem JO.eqT (d : Nat) (x y : JO) : EqT (d + 3) 53 (.agg x.c) (.agg y.c) (JO.b x y) :=
 eq_agg (d := d + 2) (S := [(9, 0), (51, 1), (9, 3), (9, 4), (3, 5), (3, 6), (3, 7), (3, 8), (3, 9), (4, 10)]) Zk Zk Zk (EqF.cons x.f_key y.f_key (eq_t_str (d := d + 1) Tryz.underlying9 _ _) (EqF.cons x.f_acc y.f_acc (JK.eqT (d + 0) _ _) (EqF.cons x.f_fnd y.f_fnd (eq_t_str (d := d + 1) Tryz.underlying9 _ _) (EqF.cons x.f_cls y.f_cls (eq_t_str (d := d + 1) Tryz.underlying9 _ _) (EqF.cons x.f_kd y.f_kd (eq_t_int (d := d + 1) Tryz.underlying3 _ _) (EqF.cons x.f_amt y.f_amt (eq_t_int (d := d + 1) Tryz.underlying3 _ _) (EqF.cons x.f_un y.f_un (eq_t_int (d := d + 1) Tryz.underlying3 _ _) (EqF.cons x.f_at_ y.f_at_ (eq_t_int (d := d + 1) Tryz.underlying3 _ _) (EqF.cons x.f_kn y.f_kn (eq_t_int (d := d + 1) Tryz.underlying3 _ _) (EqF.cons x.f_vd y.f_vd (eq_t_bool (d := d + 1) Tryz.underlying4 _ _) .nil))))))))))
theorem JO.b_iff {x y : JO} : JO.b x y = true ↔ x = y := by
 unfold JO.b
 exact z9_53
theorem JO.eq9 (x y : JO) : EqT 10000 53 (.agg x.c) (.agg y.c) (JO.b x y) := JO.eqT 9997 x y
theorem JO.b_self (x : JO) : JO.b x x = true := JO.b_iff.2 rfl
structure JT where
 key : ByteArray
 fnd : ByteArray
 cls : ByteArray
 fr : JK
 tw : JK
 un : Int
 day : Int
 kn : Int
 vd : Bool
@[irreducible] def JT.c (x : JT) : Array Value := rowsOf [#[.string x.key], #[.string x.fnd], #[.string x.cls], x.fr.c, x.tw.c, #[.int .i64 x.un], #[.int .i64 x.day], #[.int .i64 x.kn], #[.bool x.vd]]
theorem JT.rows (x : JT) : x.c = rowsOf [#[.string x.key], #[.string x.fnd], #[.string x.cls], x.fr.c, x.tw.c, #[.int .i64 x.un], #[.int .i64 x.day], #[.int .i64 x.kn], #[.bool x.vd]] := by unfold JT.c; rfl
theorem JT.size (x : JT) : x.c.size = 11 := by rw [JT.rows]; simp [rowsOf, JK.size]
theorem JT.one (x : JT) : x.c.all (·.oneCell') = true := by
 rw [JT.rows]
 exact rows_cells_one (by
  intro e he
  simp only [List.mem_cons, List.not_mem_nil, or_false] at he
  rcases he with rfl | rfl | rfl | rfl | rfl | rfl | rfl | rfl | rfl
  ·exact YPgar0
  ·exact YPgar0
  ·exact YPgar0
  ·exact JK.one _
  ·exact JK.one _
  ·exact YPgar0
  ·exact YPgar0
  ·exact YPgar0
  ·simp [Value.oneCell'])
theorem JT.sT : sizT 55 = some 11 := by kernel_rfl
theorem JT.la (x : JT) : LA 55 x.c 0 (.agg x.c) := LA.whole Zk (by rw [JT.size]; exact JT.sT)
theorem JT.f_key (x : JT) : FA 9 x.c 0 (.string x.key) := by rw [JT.rows]; exact fa_one 0 Zk rfl (by simp [offs, JK.size])
theorem JT.f_fnd (x : JT) : FA 9 x.c 1 (.string x.fnd) := by rw [JT.rows]; exact fa_one 1 Zk rfl (by simp [offs, JK.size])
theorem JT.f_cls (x : JT) : FA 9 x.c 2 (.string x.cls) := by rw [JT.rows]; exact fa_one 2 Zk rfl (by simp [offs, JK.size])
theorem JT.f_fr (x : JT) : FA 51 x.c 3 (.agg x.fr.c) := by rw [JT.rows]; exact fa_agg 3 Zk (by rw [JK.size]; kernel_rfl) rfl (by simp [offs, JK.size])
theorem JT.f_tw (x : JT) : FA 51 x.c 5 (.agg x.tw.c) := by rw [JT.rows]; exact fa_agg 4 Zk (by rw [JK.size]; kernel_rfl) rfl (by simp [offs, JK.size])
theorem JT.f_un (x : JT) : FA 3 x.c 7 (.int .i64 x.un) := by rw [JT.rows]; exact fa_one 5 Zk rfl (by simp [offs, JK.size])
theorem JT.f_day (x : JT) : FA 3 x.c 8 (.int .i64 x.day) := by rw [JT.rows]; exact fa_one 6 Zk rfl (by simp [offs, JK.size])
theorem JT.f_kn (x : JT) : FA 3 x.c 9 (.int .i64 x.kn) := by rw [JT.rows]; exact fa_one 7 Zk rfl (by simp [offs, JK.size])
theorem JT.f_vd (x : JT) : FA 4 x.c 10 (.bool x.vd) := by rw [JT.rows]; exact fa_one 8 Zk rfl (by simp [offs, JK.size])
def JT.zero : JT := ⟨{ data := #[] }, { data := #[] }, { data := #[] }, JK.zero, JK.zero, 0, 0, 0, false⟩
theorem JT.zeroC : JT.zero.c = #[Value.string { data := #[] }, .string { data := #[] }, .string { data := #[] }, .string { data := #[] }, .string { data := #[] }, .string { data := #[] }, .string { data := #[] }, .int .i64 0, .int .i64 0, .int .i64 0, .bool false] := by
 rw [JT.rows]
 apply Array.toList_inj.1
 simp [rowsOf, JT.zero, JK.zeroC]
theorem JT.zeroF : (zeroValue 55).run Tryz.prog = fun w => .ok (.agg JT.zero.c) w := by
 rw [JT.zeroC]; kernel_rfl
theorem JT.und : Tryz.prog.underlying 55 = some (.struct (Tryz.prog.fieldsOf 55)) := by kernel_rfl
theorem JT.shape : shapeOf [#[.string JT.zero.key], #[.string JT.zero.fnd], #[.string JT.zero.cls], JT.zero.fr.c, JT.zero.tw.c, #[.int .i64 JT.zero.un], #[.int .i64 JT.zero.day], #[.int .i64 JT.zero.kn], #[.bool JT.zero.vd]] = [(0, 1), (1, 1), (2, 1), (3, 2), (5, 2), (7, 1), (8, 1), (9, 1), (10, 1)] := by
 simp [shapeOf, offs, JK.size, List.range, List.range.loop]
theorem JT.places (w : World) : ((Tryz.prog.fieldsOf 55).mapM (fun f => do pure (f.offset, ← sizeOf f.type)) : Sem (Array (Nat × Nat))).run Tryz.prog w = .ok [(0, 1), (1, 1), (2, 1), (3, 2), (5, 2), (7, 1), (8, 1), (9, 1), (10, 1)].toArray w := by kernel_rfl
theorem JT.bld {parts : Array (Nat × Value)} {r : JT} (h : ∀ p ∈ parts.toList, ∃ n, ([(0, 1), (1, 1), (2, 1), (3, 2), (5, 2), (7, 1), (8, 1), (9, 1), (10, 1)] : List (Nat × Nat))[p.1]?.map Prod.snd = some n ∧ p.2.cells.size = n) (hr : rowsOf (setsL [#[.string JT.zero.key], #[.string JT.zero.fnd], #[.string JT.zero.cls], JT.zero.fr.c, JT.zero.tw.c, #[.int .i64 JT.zero.un], #[.int .i64 JT.zero.day], #[.int .i64 JT.zero.kn], #[.bool JT.zero.vd]] parts.toList) = r.c) (w : World) : (Instr.build 55 parts).run Tryz.prog w = .ok (.agg r.c) w :=
 run_build_flds JT.und (fun w => by rw [JT.zeroF, JT.rows]) JT.places JT.shape h hr w
def JT.b (x y : JT) : Bool := ((x.key == y.key) && ((x.fnd == y.fnd) && ((x.cls == y.cls) && (JK.b x.fr y.fr && (JK.b x.tw y.tw && ((x.un == y.un) && ((x.day == y.day) && ((x.kn == y.kn) && ((x.vd == y.vd) && true)))))))))
def JT.wf (x : JT) : Prop := x.key.size ≤ 9223372036854775807 ∧ x.fnd.size ≤ 9223372036854775807 ∧ x.cls.size ≤ 9223372036854775807 ∧ x.fr.wf ∧ x.tw.wf
theorem JT.eqT (d : Nat) (x y : JT) : EqT (d + 3) 55 (.agg x.c) (.agg y.c) (JT.b x y) :=
 eq_agg (d := d + 2) (S := [(9, 0), (9, 1), (9, 2), (51, 3), (51, 5), (3, 7), (3, 8), (3, 9), (4, 10)]) Zk Zk Zk (EqF.cons x.f_key y.f_key (eq_t_str (d := d + 1) Tryz.underlying9 _ _) (EqF.cons x.f_fnd y.f_fnd (eq_t_str (d := d + 1) Tryz.underlying9 _ _) (EqF.cons x.f_cls y.f_cls (eq_t_str (d := d + 1) Tryz.underlying9 _ _) (EqF.cons x.f_fr y.f_fr (JK.eqT (d + 0) _ _) (EqF.cons x.f_tw y.f_tw (JK.eqT (d + 0) _ _) (EqF.cons x.f_un y.f_un (eq_t_int (d := d + 1) Tryz.underlying3 _ _) (EqF.cons x.f_day y.f_day (eq_t_int (d := d + 1) Tryz.underlying3 _ _) (EqF.cons x.f_kn y.f_kn (eq_t_int (d := d + 1) Tryz.underlying3 _ _) (EqF.cons x.f_vd y.f_vd (eq_t_bool (d := d + 1) Tryz.underlying4 _ _) .nil)))))))))
theorem JT.b_iff {x y : JT} : JT.b x y = true ↔ x = y := by
 unfold JT.b
 exact z9_53
theorem JT.eq9 (x y : JT) : EqT 10000 55 (.agg x.c) (.agg y.c) (JT.b x y) := JT.eqT 9997 x y
structure JS where
 key : ByteArray
 fnd : ByteArray
 fr : Int
 tl : Int
 kn : Int
 vd : Bool
@[irreducible] def JS.c (x : JS) : Array Value := rowsOf [#[.string x.key], #[.string x.fnd], #[.int .i64 x.fr], #[.int .i64 x.tl], #[.int .i64 x.kn], #[.bool x.vd]]
theorem JS.rows (x : JS) : x.c = rowsOf [#[.string x.key], #[.string x.fnd], #[.int .i64 x.fr], #[.int .i64 x.tl], #[.int .i64 x.kn], #[.bool x.vd]] := by unfold JS.c; rfl
theorem JS.size (x : JS) : x.c.size = 6 := by rw [JS.rows]; simp [rowsOf]
theorem JS.one (x : JS) : x.c.all (·.oneCell') = true := by
 rw [JS.rows]
 exact rows_cells_one (by
  intro e he
  simp only [List.mem_cons, List.not_mem_nil, or_false] at he
  rcases he with rfl | rfl | rfl | rfl | rfl | rfl
  ·exact YPgar0
  ·exact YPgar0
  ·exact YPgar0
  ·exact YPgar0
  ·exact YPgar0
  ·simp [Value.oneCell'])
theorem JS.sT : sizT 57 = some 6 := by kernel_rfl
theorem JS.la (x : JS) : LA 57 x.c 0 (.agg x.c) := LA.whole Zk (by rw [JS.size]; exact JS.sT)
theorem JS.sa (x : JS) {z : Array Value} (h : z.size = 6) : SA 57 z 0 (.agg x.c) x.c := SA.whole (by rw [JS.size]; exact JS.sT) x.one (by rw [JS.size, h])
theorem JS.f_key (x : JS) : FA 9 x.c 0 (.string x.key) := by rw [JS.rows]; exact fa_one 0 Zk rfl (by simp [offs])
theorem JS.f_fnd (x : JS) : FA 9 x.c 1 (.string x.fnd) := by rw [JS.rows]; exact fa_one 1 Zk rfl (by simp [offs])
theorem JS.f_fr (x : JS) : FA 3 x.c 2 (.int .i64 x.fr) := by rw [JS.rows]; exact fa_one 2 Zk rfl (by simp [offs])
theorem JS.f_tl (x : JS) : FA 3 x.c 3 (.int .i64 x.tl) := by rw [JS.rows]; exact fa_one 3 Zk rfl (by simp [offs])
theorem JS.f_kn (x : JS) : FA 3 x.c 4 (.int .i64 x.kn) := by rw [JS.rows]; exact fa_one 4 Zk rfl (by simp [offs])
theorem JS.f_vd (x : JS) : FA 4 x.c 5 (.bool x.vd) := by rw [JS.rows]; exact fa_one 5 Zk rfl (by simp [offs])
def JS.zero : JS := ⟨{ data := #[] }, { data := #[] }, 0, 0, 0, false⟩
theorem JS.zeroC : JS.zero.c = #[Value.string { data := #[] }, .string { data := #[] }, .int .i64 0, .int .i64 0, .int .i64 0, .bool false] := by
 rw [JS.rows]
 apply Array.toList_inj.1
 simp [rowsOf, JS.zero]
theorem JS.zeroF : (zeroValue 57).run Tryz.prog = fun w => .ok (.agg JS.zero.c) w := by
 rw [JS.zeroC]; kernel_rfl
theorem JS.za : ZA 57 JS.zero.c := ⟨_, rfl, fun w => by rw [JS.zeroF]⟩
theorem JS.und : Tryz.prog.underlying 57 = some (.struct (Tryz.prog.fieldsOf 57)) := by kernel_rfl
theorem JS.shape : shapeOf [#[.string JS.zero.key], #[.string JS.zero.fnd], #[.int .i64 JS.zero.fr], #[.int .i64 JS.zero.tl], #[.int .i64 JS.zero.kn], #[.bool JS.zero.vd]] = [(0, 1), (1, 1), (2, 1), (3, 1), (4, 1), (5, 1)] := by
 simp [shapeOf, offs, List.range, List.range.loop]
theorem JS.places (w : World) : ((Tryz.prog.fieldsOf 57).mapM (fun f => do pure (f.offset, ← sizeOf f.type)) : Sem (Array (Nat × Nat))).run Tryz.prog w = .ok [(0, 1), (1, 1), (2, 1), (3, 1), (4, 1), (5, 1)].toArray w := by kernel_rfl
theorem JS.bld {parts : Array (Nat × Value)} {r : JS} (h : ∀ p ∈ parts.toList, ∃ n, ([(0, 1), (1, 1), (2, 1), (3, 1), (4, 1), (5, 1)] : List (Nat × Nat))[p.1]?.map Prod.snd = some n ∧ p.2.cells.size = n) (hr : rowsOf (setsL [#[.string JS.zero.key], #[.string JS.zero.fnd], #[.int .i64 JS.zero.fr], #[.int .i64 JS.zero.tl], #[.int .i64 JS.zero.kn], #[.bool JS.zero.vd]] parts.toList) = r.c) (w : World) : (Instr.build 57 parts).run Tryz.prog w = .ok (.agg r.c) w :=
 run_build_flds JS.und (fun w => by rw [JS.zeroF, JS.rows]) JS.places JS.shape h hr w
def JS.b (x y : JS) : Bool := ((x.key == y.key) && ((x.fnd == y.fnd) && ((x.fr == y.fr) && ((x.tl == y.tl) && ((x.kn == y.kn) && ((x.vd == y.vd) && true))))))
def JS.wf (x : JS) : Prop := x.key.size ≤ 9223372036854775807 ∧ x.fnd.size ≤ 9223372036854775807
theorem JS.eqT (d : Nat) (x y : JS) : EqT (d + 2) 57 (.agg x.c) (.agg y.c) (JS.b x y) :=
 eq_agg (d := d + 1) (S := [(9, 0), (9, 1), (3, 2), (3, 3), (3, 4), (4, 5)]) Zk Zk Zk (EqF.cons x.f_key y.f_key (eq_t_str (d := d + 0) Tryz.underlying9 _ _) (EqF.cons x.f_fnd y.f_fnd (eq_t_str (d := d + 0) Tryz.underlying9 _ _) (EqF.cons x.f_fr y.f_fr (eq_t_int (d := d + 0) Tryz.underlying3 _ _) (EqF.cons x.f_tl y.f_tl (eq_t_int (d := d + 0) Tryz.underlying3 _ _) (EqF.cons x.f_kn y.f_kn (eq_t_int (d := d + 0) Tryz.underlying3 _ _) (EqF.cons x.f_vd y.f_vd (eq_t_bool (d := d + 0) Tryz.underlying4 _ _) .nil))))))
theorem JS.b_iff {x y : JS} : JS.b x y = true ↔ x = y := by
 unfold JS.b
 exact z9_50
theorem JS.eq9 (x y : JS) : EqT 10000 57 (.agg x.c) (.agg y.c) (JS.b x y) := JS.eqT 9998 x y
structure JC where
 day : Int
 kn : Int
 as_ : Int
@[irreducible] def JC.c (x : JC) : Array Value := rowsOf [#[.int .i64 x.day], #[.int .i64 x.kn], #[.int .i64 x.as_]]
theorem JC.rows (x : JC) : x.c = rowsOf [#[.int .i64 x.day], #[.int .i64 x.kn], #[.int .i64 x.as_]] := by unfold JC.c; rfl
theorem JC.size (x : JC) : x.c.size = 3 := by rw [JC.rows]; simp [rowsOf]
theorem JC.one (x : JC) : x.c.all (·.oneCell') = true := by
 rw [JC.rows]
 exact rows_cells_one (by
  intro e he
  simp only [List.mem_cons, List.not_mem_nil, or_false] at he
  rcases he with rfl | rfl | rfl
  ·exact YPgar0
  ·exact YPgar0
  ·simp [Value.oneCell'])
theorem JC.f_day (x : JC) : FA 3 x.c 0 (.int .i64 x.day) := by rw [JC.rows]; exact fa_one 0 Zk rfl (by simp [offs])
theorem JC.f_kn (x : JC) : FA 3 x.c 1 (.int .i64 x.kn) := by rw [JC.rows]; exact fa_one 1 Zk rfl (by simp [offs])
theorem JC.f_as_ (x : JC) : FA 3 x.c 2 (.int .i64 x.as_) := by rw [JC.rows]; exact fa_one 2 Zk rfl (by simp [offs])
def JC.zero : JC := ⟨0, 0, 0⟩
theorem JC.zeroC : JC.zero.c = #[Value.int .i64 0, .int .i64 0, .int .i64 0] := by
 rw [JC.rows]
 apply Array.toList_inj.1
 simp [rowsOf, JC.zero]
theorem JC.zeroF : (zeroValue 61).run Tryz.prog = fun w => .ok (.agg JC.zero.c) w := by
 rw [JC.zeroC]; kernel_rfl
theorem JC.und : Tryz.prog.underlying 61 = some (.struct (Tryz.prog.fieldsOf 61)) := by kernel_rfl
theorem JC.shape : shapeOf [#[.int .i64 JC.zero.day], #[.int .i64 JC.zero.kn], #[.int .i64 JC.zero.as_]] = [(0, 1), (1, 1), (2, 1)] := by
 simp [shapeOf, offs, List.range, List.range.loop]
theorem JC.places (w : World) : ((Tryz.prog.fieldsOf 61).mapM (fun f => do pure (f.offset, ← sizeOf f.type)) : Sem (Array (Nat × Nat))).run Tryz.prog w = .ok [(0, 1), (1, 1), (2, 1)].toArray w := by kernel_rfl
theorem JC.bld {parts : Array (Nat × Value)} {r : JC} (h : ∀ p ∈ parts.toList, ∃ n, ([(0, 1), (1, 1), (2, 1)] : List (Nat × Nat))[p.1]?.map Prod.snd = some n ∧ p.2.cells.size = n) (hr : rowsOf (setsL [#[.int .i64 JC.zero.day], #[.int .i64 JC.zero.kn], #[.int .i64 JC.zero.as_]] parts.toList) = r.c) (w : World) : (Instr.build 61 parts).run Tryz.prog w = .ok (.agg r.c) w :=
 run_build_flds JC.und (fun w => by rw [JC.zeroF, JC.rows]) JC.places JC.shape h hr w
def JC.b (x y : JC) : Bool := ((x.day == y.day) && ((x.kn == y.kn) && ((x.as_ == y.as_) && true)))
def JC.wf (_ : JC) : Prop := True
theorem JC.eqT (d : Nat) (x y : JC) : EqT (d + 2) 61 (.agg x.c) (.agg y.c) (JC.b x y) :=
 eq_agg (d := d + 1) (S := [(3, 0), (3, 1), (3, 2)]) Zk Zk Zk (EqF.cons x.f_day y.f_day (eq_t_int (d := d + 0) Tryz.underlying3 _ _) (EqF.cons x.f_kn y.f_kn (eq_t_int (d := d + 0) Tryz.underlying3 _ _) (EqF.cons x.f_as_ y.f_as_ (eq_t_int (d := d + 0) Tryz.underlying3 _ _) .nil)))
theorem JC.b_iff {x y : JC} : JC.b x y = true ↔ x = y := by
 unfold JC.b
 exact z9_50
theorem JC.eq9 (x y : JC) : EqT 10000 61 (.agg x.c) (.agg y.c) (JC.b x y) := JC.eqT 9998 x y
theorem JC.b_self (x : JC) : JC.b x x = true := JC.b_iff.2 rfl
structure JR where
 kd : Int
 fnd : ByteArray
 day : Int
 q : JQ
 a : JA
 e : JE
 o : JO
 t : JT
 s : JS
@[irreducible] def JR.c (x : JR) : Array Value := rowsOf [#[.int .i64 x.kd], #[.string x.fnd], #[.int .i64 x.day], x.q.c, x.a.c, x.e.c, x.o.c, x.t.c, x.s.c]
theorem JR.rows (x : JR) : x.c = rowsOf [#[.int .i64 x.kd], #[.string x.fnd], #[.int .i64 x.day], x.q.c, x.a.c, x.e.c, x.o.c, x.t.c, x.s.c] := by unfold JR.c; rfl
theorem JR.size (x : JR) : x.c.size = 189 := by rw [JR.rows]; simp [rowsOf, JQ.size, JA.size, JE.size, JO.size, JT.size, JS.size]
theorem JR.one (x : JR) : x.c.all (·.oneCell') = true := by
 rw [JR.rows]
 exact rows_cells_one (by
  intro e he
  simp only [List.mem_cons, List.not_mem_nil, or_false] at he
  rcases he with rfl | rfl | rfl | rfl | rfl | rfl | rfl | rfl | rfl
  ·exact YPgar0
  ·exact YPgar0
  ·exact YPgar0
  ·exact JQ.one _
  ·exact JA.one _
  ·exact JE.one _
  ·exact JO.one _
  ·exact JT.one _
  ·exact JS.one _)
theorem JR.sT : sizT 59 = some 189 := by kernel_rfl
theorem JR.la (x : JR) : LA 59 x.c 0 (.agg x.c) := LA.whole Zk (by rw [JR.size]; exact JR.sT)
theorem JR.sa (x : JR) {z : Array Value} (h : z.size = 189) : SA 59 z 0 (.agg x.c) x.c := SA.whole (by rw [JR.size]; exact JR.sT) x.one (by rw [JR.size, h])
theorem JR.f_kd (x : JR) : FA 3 x.c 0 (.int .i64 x.kd) := by rw [JR.rows]; exact fa_one 0 Zk rfl (by simp [offs, JQ.size, JA.size, JE.size, JO.size, JT.size, JS.size])
theorem JR.f_fnd (x : JR) : FA 9 x.c 1 (.string x.fnd) := by rw [JR.rows]; exact fa_one 1 Zk rfl (by simp [offs, JQ.size, JA.size, JE.size, JO.size, JT.size, JS.size])
theorem JR.f_day (x : JR) : FA 3 x.c 2 (.int .i64 x.day) := by rw [JR.rows]; exact fa_one 2 Zk rfl (by simp [offs, JQ.size, JA.size, JE.size, JO.size, JT.size, JS.size])
theorem JR.s_day (x : JR) (v : Int) : SA 3 x.c 2 (.int .i64 v) { x with day := v }.c := by rw [JR.rows, JR.rows]; exact sa_fld_one 2 Zk rfl rfl rfl (by simp [offs, JQ.size, JA.size, JE.size, JO.size, JT.size, JS.size])
theorem JR.f_q (x : JR) : FA 45 x.c 3 (.agg x.q.c) := by rw [JR.rows]; exact fa_agg 3 Zk (by rw [JQ.size]; kernel_rfl) rfl (by simp [offs, JQ.size, JA.size, JE.size, JO.size, JT.size, JS.size])
theorem JR.s_q (x : JR) (v : JQ) : SA 45 x.c 3 (.agg v.c) { x with q := v }.c := by rw [JR.rows, JR.rows]; exact sa_fld_agg 3 (by rw [JQ.size]; kernel_rfl) v.one rfl (by rw [JQ.size, JQ.size]) (by simp [offs, JQ.size, JA.size, JE.size, JO.size, JT.size, JS.size])
theorem JR.f_a (x : JR) : FA 47 x.c 75 (.agg x.a.c) := by rw [JR.rows]; exact fa_agg 4 Zk (by rw [JA.size]; kernel_rfl) rfl (by simp [offs, JQ.size, JA.size, JE.size, JO.size, JT.size, JS.size])
theorem JR.s_a (x : JR) (v : JA) : SA 47 x.c 75 (.agg v.c) { x with a := v }.c := by rw [JR.rows, JR.rows]; exact sa_fld_agg 4 (by rw [JA.size]; kernel_rfl) v.one rfl (by rw [JA.size, JA.size]) (by simp [offs, JQ.size, JA.size, JE.size, JO.size, JT.size, JS.size])
theorem JR.f_e (x : JR) : FA 49 x.c 151 (.agg x.e.c) := by rw [JR.rows]; exact fa_agg 5 Zk (by rw [JE.size]; kernel_rfl) rfl (by simp [offs, JQ.size, JA.size, JE.size, JO.size, JT.size, JS.size])
theorem JR.s_e (x : JR) (v : JE) : SA 49 x.c 151 (.agg v.c) { x with e := v }.c := by rw [JR.rows, JR.rows]; exact sa_fld_agg 5 (by rw [JE.size]; kernel_rfl) v.one rfl (by rw [JE.size, JE.size]) (by simp [offs, JQ.size, JA.size, JE.size, JO.size, JT.size, JS.size])
theorem JR.f_o (x : JR) : FA 53 x.c 161 (.agg x.o.c) := by rw [JR.rows]; exact fa_agg 6 Zk (by rw [JO.size]; kernel_rfl) rfl (by simp [offs, JQ.size, JA.size, JE.size, JO.size, JT.size, JS.size])
theorem JR.s_o (x : JR) (v : JO) : SA 53 x.c 161 (.agg v.c) { x with o := v }.c := by rw [JR.rows, JR.rows]; exact sa_fld_agg 6 (by rw [JO.size]; kernel_rfl) v.one rfl (by rw [JO.size, JO.size]) (by simp [offs, JQ.size, JA.size, JE.size, JO.size, JT.size, JS.size])
theorem JR.f_t (x : JR) : FA 55 x.c 172 (.agg x.t.c) := by rw [JR.rows]; exact fa_agg 7 Zk (by rw [JT.size]; kernel_rfl) rfl (by simp [offs, JQ.size, JA.size, JE.size, JO.size, JT.size, JS.size])
theorem JR.s_t (x : JR) (v : JT) : SA 55 x.c 172 (.agg v.c) { x with t := v }.c := by rw [JR.rows, JR.rows]; exact sa_fld_agg 7 (by rw [JT.size]; kernel_rfl) v.one rfl (by rw [JT.size, JT.size]) (by simp [offs, JQ.size, JA.size, JE.size, JO.size, JT.size, JS.size])
theorem JR.f_s (x : JR) : FA 57 x.c 183 (.agg x.s.c) := by rw [JR.rows]; exact fa_agg 8 Zk (by rw [JS.size]; kernel_rfl) rfl (by simp [offs, JQ.size, JA.size, JE.size, JO.size, JT.size, JS.size])
theorem JR.s_s (x : JR) (v : JS) : SA 57 x.c 183 (.agg v.c) { x with s := v }.c := by rw [JR.rows, JR.rows]; exact sa_fld_agg 8 (by rw [JS.size]; kernel_rfl) v.one rfl (by rw [JS.size, JS.size]) (by simp [offs, JQ.size, JA.size, JE.size, JO.size, JT.size, JS.size])
def JR.zero : JR := ⟨0, { data := #[] }, 0, JQ.zero, JA.zero, JE.zero, JO.zero, JT.zero, JS.zero⟩
theorem JR.zeroC : JR.zero.c = #[Value.int .i64 0, .string { data := #[] }, .int .i64 0, .string { data := #[] }, .string { data := #[] }, .string { data := #[] }, .int .i64 0] ++ Bg.ratA false 0 false 0 ++ #[.int .i64 0, .bool false, .int .i64 0, .string { data := #[] }, .string { data := #[] }, .string { data := #[] }, .int .i64 0, .int .i64 0, .int .i64 0] ++ Bg.ratA false 0 false 0 ++ #[.string { data := #[] }, .int .i64 0, .bool false, .int .i64 0, .string { data := #[] }, .int .i64 0, .int .i64 0, .string { data := #[] }, .int .i64 0, .int .i64 0, .string { data := #[] }, .int .i64 0, .bool false, .string { data := #[] }, .string { data := #[] }, .string { data := #[] }, .string { data := #[] }, .string { data := #[] }, .int .i64 0, .int .i64 0, .int .i64 0, .int .i64 0, .int .i64 0, .bool false, .string { data := #[] }, .string { data := #[] }, .string { data := #[] }, .string { data := #[] }, .string { data := #[] }, .string { data := #[] }, .string { data := #[] }, .int .i64 0, .int .i64 0, .int .i64 0, .bool false, .string { data := #[] }, .string { data := #[] }, .int .i64 0, .int .i64 0, .int .i64 0, .bool false] := by
 rw [JR.rows]
 apply Array.toList_inj.1
 simp [rowsOf, JR.zero, JQ.zeroC, JA.zeroC, JE.zeroC, JO.zeroC, JT.zeroC, JS.zeroC]
theorem JR.zeroF : (zeroValue 59).run Tryz.prog = fun w => .ok (.agg JR.zero.c) w := by
 rw [JR.zeroC]; unfold Bg.ratA; rw [← Bg.zeroInt]; kernel_rfl
theorem JR.za : ZA 59 JR.zero.c := ⟨_, rfl, fun w => by rw [JR.zeroF]⟩
theorem JR.und : Tryz.prog.underlying 59 = some (.struct (Tryz.prog.fieldsOf 59)) := by kernel_rfl
theorem JR.shape : shapeOf [#[.int .i64 JR.zero.kd], #[.string JR.zero.fnd], #[.int .i64 JR.zero.day], JR.zero.q.c, JR.zero.a.c, JR.zero.e.c, JR.zero.o.c, JR.zero.t.c, JR.zero.s.c] = [(0, 1), (1, 1), (2, 1), (3, 72), (75, 76), (151, 10), (161, 11), (172, 11), (183, 6)] := by
 simp [shapeOf, offs, JQ.size, JA.size, JE.size, JO.size, JT.size, JS.size, List.range, List.range.loop]
theorem JR.places (w : World) : ((Tryz.prog.fieldsOf 59).mapM (fun f => do pure (f.offset, ← sizeOf f.type)) : Sem (Array (Nat × Nat))).run Tryz.prog w = .ok [(0, 1), (1, 1), (2, 1), (3, 72), (75, 76), (151, 10), (161, 11), (172, 11), (183, 6)].toArray w := by kernel_rfl
theorem JR.bld {parts : Array (Nat × Value)} {r : JR} (h : ∀ p ∈ parts.toList, ∃ n, ([(0, 1), (1, 1), (2, 1), (3, 72), (75, 76), (151, 10), (161, 11), (172, 11), (183, 6)] : List (Nat × Nat))[p.1]?.map Prod.snd = some n ∧ p.2.cells.size = n) (hr : rowsOf (setsL [#[.int .i64 JR.zero.kd], #[.string JR.zero.fnd], #[.int .i64 JR.zero.day], JR.zero.q.c, JR.zero.a.c, JR.zero.e.c, JR.zero.o.c, JR.zero.t.c, JR.zero.s.c] parts.toList) = r.c) (w : World) : (Instr.build 59 parts).run Tryz.prog w = .ok (.agg r.c) w :=
 run_build_flds JR.und (fun w => by rw [JR.zeroF, JR.rows]) JR.places JR.shape h hr w
def JR.b (x y : JR) : Bool := ((x.kd == y.kd) && ((x.fnd == y.fnd) && ((x.day == y.day) && (JQ.b x.q y.q && (JA.b x.a y.a && (JE.b x.e y.e && (JO.b x.o y.o && (JT.b x.t y.t && (JS.b x.s y.s && true)))))))))
def JR.wf (x : JR) : Prop := x.fnd.size ≤ 9223372036854775807 ∧ x.q.wf ∧ x.a.wf ∧ x.e.wf ∧ x.o.wf ∧ x.t.wf ∧ x.s.wf
theorem JR.eqT (d : Nat) (x y : JR) : EqT (d + 6) 59 (.agg x.c) (.agg y.c) (JR.b x y) :=
 eq_agg (d := d + 5) (S := [(3, 0), (9, 1), (3, 2), (45, 3), (47, 75), (49, 151), (53, 161), (55, 172), (57, 183)]) Zk Zk Zk (EqF.cons x.f_kd y.f_kd (eq_t_int (d := d + 4) Tryz.underlying3 _ _) (EqF.cons x.f_fnd y.f_fnd (eq_t_str (d := d + 4) Tryz.underlying9 _ _) (EqF.cons x.f_day y.f_day (eq_t_int (d := d + 4) Tryz.underlying3 _ _) (EqF.cons x.f_q y.f_q (JQ.eqT (d + 0) _ _) (EqF.cons x.f_a y.f_a (JA.eqT (d + 0) _ _) (EqF.cons x.f_e y.f_e (JE.eqT (d + 3) _ _) (EqF.cons x.f_o y.f_o (JO.eqT (d + 2) _ _) (EqF.cons x.f_t y.f_t (JT.eqT (d + 2) _ _) (EqF.cons x.f_s y.f_s (JS.eqT (d + 3) _ _) .nil)))))))))
theorem JR.b_iff {x y : JR} : JR.b x y = true ↔ x = y := by
 unfold JR.b
 simp only [Bool.and_eq_true, Bool.and_true, beq_iff_eq, jb_str, JQ.b_iff, JA.b_iff, JE.b_iff, JO.b_iff, JT.b_iff, JS.b_iff]
 exact z9_54
theorem JR.eq9 (x y : JR) : EqT 10000 59 (.agg x.c) (.agg y.c) (JR.b x y) := JR.eqT 9994 x y
theorem JR.b_self (x : JR) : JR.b x x = true := JR.b_iff.2 rfl
end
end Go.Proofs.YtkiempioeffhbaaGreatDoor
