/- Walks. -/
import Derived.Test.YtkiempioeffhbaaGreatDoorPg18
namespace Go.Proofs.YtkiempioeffhbaaGreatDoor
set_option maxHeartbeats 16000000
open Go.RowKit
set_option maxRecDepth 8000
set_option linter.unusedSimpArgs false
section
theorem YPgbg0 {P : Prop} (h : P := by
 simp [Value.oneCell', Sl.v]) : P := h
theorem z9_107 {P : Prop} (h : P := by
 exact rows_cells_one (by
  intro e he
  simp only [List.mem_cons, List.not_mem_nil, or_false] at he
  rcases he with rfl | rfl | rfl
  ·exact YPgbg0
  ·exact Rr.one _
  ·simp [Value.oneCell', Sl.v])) : P := h
end
section
structure Sl where
 A : Option Addr
 n : Nat
 c : Nat
def Sl.v (x : Sl) : Value := .slice x.A x.n x.c
structure W7 where
 b0 : Bool
 b1 : Bool
 b2 : Bool
 b3 : Bool
 b4 : Bool
 b5 : Bool
 b6 : Bool
@[irreducible] def W7.c (x : W7) : Array Value := #[.bool x.b0, .bool x.b1, .bool x.b2, .bool x.b3, .bool x.b4, .bool x.b5, .bool x.b6]
theorem W7.rows (x : W7) : x.c = #[.bool x.b0, .bool x.b1, .bool x.b2, .bool x.b3, .bool x.b4, .bool x.b5, .bool x.b6] := by unfold W7.c; rfl
theorem W7.size (x : W7) : x.c.size = 7 := by rw [W7.rows]; rfl
def W7.zero : W7 := ⟨false, false, false, false, false, false, false⟩
theorem W7.zeroC : W7.zero.c = #[Value.bool false, .bool false, .bool false, .bool false, .bool false, .bool false, .bool false] := W7.rows _
theorem W7.bld (w : World) : (Instr.build 102 #[(5, .bool true), (6, .bool true)]).run Tryz.prog w = .ok (.agg (W7.c ⟨false, false, false, false, false, true, true⟩)) w := by
 rw [W7.rows]; kernel_rfl
def rr (x : Rat) : Rr := if h : x.num.natAbs < Bg.lim ∧ x.den < Bg.lim then ⟨decide (x.num < 0), x.num.natAbs, false, x.den, h.1, h.2⟩ else Rr.zero
theorem rr_c {x : Rat} (h : Rt.Fit x) : (rr x).c = Rt.qA x := by
 unfold rr
 rw [dif_pos ⟨lt480_lim h.1, lt480_lim h.2⟩, Rr.c_eq, qA_rZ, rZ_ratA]
 congr 1
structure WZ where
 nm : ByteArray
 off : Int
 chs : Sl
@[irreducible] def WZ.c (x : WZ) : Array Value := rowsOf [#[.string x.nm], #[.int .i64 x.off], #[Sl.v x.chs]]
theorem WZ.rows (x : WZ) : x.c = rowsOf [#[.string x.nm], #[.int .i64 x.off], #[Sl.v x.chs]] := by unfold WZ.c; rfl
theorem WZ.size (x : WZ) : x.c.size = 3 := by rw [WZ.rows]; simp [rowsOf]
def WZ.zero : WZ := ⟨{ data := #[] }, 0, ⟨none, 0, 0⟩⟩
theorem WZ.zeroC : WZ.zero.c = #[Value.string { data := #[] }, .int .i64 0, .slice none 0 0] := by
 rw [WZ.rows]
 apply Array.toList_inj.1
 simp [rowsOf, WZ.zero, Sl.v]
theorem WZ.zeroF : (zeroValue 101).run Tryz.prog = fun w => .ok (.agg WZ.zero.c) w := by
 rw [WZ.zeroC]; kernel_rfl
theorem WZ.und : Tryz.prog.underlying 101 = some (.struct (Tryz.prog.fieldsOf 101)) := by kernel_rfl
theorem WZ.shape : shapeOf [#[.string WZ.zero.nm], #[.int .i64 WZ.zero.off], #[Sl.v WZ.zero.chs]] = [(0, 1), (1, 1), (2, 1)] := by
 simp [shapeOf, offs, List.range, List.range.loop]
theorem WZ.places (w : World) : ((Tryz.prog.fieldsOf 101).mapM (fun f => do pure (f.offset, ← sizeOf f.type)) : Sem (Array (Nat × Nat))).run Tryz.prog w = .ok [(0, 1), (1, 1), (2, 1)].toArray w := by kernel_rfl
theorem WZ.bld {parts : Array (Nat × Value)} {r : WZ} (h : ∀ p ∈ parts.toList, ∃ n, ([(0, 1), (1, 1), (2, 1)] : List (Nat × Nat))[p.1]?.map Prod.snd = some n ∧ p.2.cells.size = n) (hr : rowsOf (setsL [#[.string WZ.zero.nm], #[.int .i64 WZ.zero.off], #[Sl.v WZ.zero.chs]] parts.toList) = r.c) (w : World) : (Instr.build 101 parts).run Tryz.prog w = .ok (.agg r.c) w :=
 run_build_flds WZ.und (fun w => by rw [WZ.zeroF, WZ.rows]) WZ.places WZ.shape h hr w
structure WL where
 nm : ByteArray
 wk : W7
 hol : Sl
@[irreducible] def WL.c (x : WL) : Array Value := rowsOf [#[.string x.nm], x.wk.c, #[Sl.v x.hol]]
theorem WL.rows (x : WL) : x.c = rowsOf [#[.string x.nm], x.wk.c, #[Sl.v x.hol]] := by unfold WL.c; rfl
theorem WL.size (x : WL) : x.c.size = 9 := by rw [WL.rows]; simp [rowsOf, W7.size]
def WL.zero : WL := ⟨{ data := #[] }, W7.zero, ⟨none, 0, 0⟩⟩
theorem WL.zeroC : WL.zero.c = #[Value.string { data := #[] }, .bool false, .bool false, .bool false, .bool false, .bool false, .bool false, .bool false, .slice none 0 0] := by
 rw [WL.rows]
 apply Array.toList_inj.1
 simp [rowsOf, WL.zero, Sl.v, W7.zeroC]
theorem WL.zeroF : (zeroValue 104).run Tryz.prog = fun w => .ok (.agg WL.zero.c) w := by
 rw [WL.zeroC]; kernel_rfl
theorem WL.und : Tryz.prog.underlying 104 = some (.struct (Tryz.prog.fieldsOf 104)) := by kernel_rfl
theorem WL.shape : shapeOf [#[.string WL.zero.nm], WL.zero.wk.c, #[Sl.v WL.zero.hol]] = [(0, 1), (1, 7), (8, 1)] := by
 simp [shapeOf, offs, W7.size, List.range, List.range.loop]
theorem WL.places (w : World) : ((Tryz.prog.fieldsOf 104).mapM (fun f => do pure (f.offset, ← sizeOf f.type)) : Sem (Array (Nat × Nat))).run Tryz.prog w = .ok [(0, 1), (1, 7), (8, 1)].toArray w := by kernel_rfl
theorem WL.bld {parts : Array (Nat × Value)} {r : WL} (h : ∀ p ∈ parts.toList, ∃ n, ([(0, 1), (1, 7), (8, 1)] : List (Nat × Nat))[p.1]?.map Prod.snd = some n ∧ p.2.cells.size = n) (hr : rowsOf (setsL [#[.string WL.zero.nm], WL.zero.wk.c, #[Sl.v WL.zero.hol]] parts.toList) = r.c) (w : World) : (Instr.build 104 parts).run Tryz.prog w = .ok (.agg r.c) w :=
 run_build_flds WL.und (fun w => by rw [WL.zeroF, WL.rows]) WL.places WL.shape h hr w
structure WH where
 per : Int
 nth : Int
 notc : Int
 stl : Int
 cut : Int
@[irreducible] def WH.c (x : WH) : Array Value := rowsOf [#[.int .i64 x.per], #[.int .i64 x.nth], #[.int .i64 x.notc], #[.int .i64 x.stl], #[.int .i64 x.cut]]
theorem WH.rows (x : WH) : x.c = rowsOf [#[.int .i64 x.per], #[.int .i64 x.nth], #[.int .i64 x.notc], #[.int .i64 x.stl], #[.int .i64 x.cut]] := by unfold WH.c; rfl
theorem WH.size (x : WH) : x.c.size = 5 := by rw [WH.rows]; simp [rowsOf]
theorem WH.one (x : WH) : x.c.all (·.oneCell') = true := by
 rw [WH.rows]
 exact rows_cells_one (by
  intro e he
  simp only [List.mem_cons, List.not_mem_nil, or_false] at he
  rcases he with rfl | rfl | rfl | rfl | rfl
  ·exact YPgbg0
  ·exact YPgbg0
  ·exact YPgbg0
  ·exact YPgbg0
  ·simp [Value.oneCell', Sl.v])
def WH.zero : WH := ⟨0, 0, 0, 0, 0⟩
theorem WH.zeroC : WH.zero.c = #[Value.int .i64 0, .int .i64 0, .int .i64 0, .int .i64 0, .int .i64 0] := by
 rw [WH.rows]
 apply Array.toList_inj.1
 simp [rowsOf, WH.zero, Sl.v]
theorem WH.zeroF : (zeroValue 82).run Tryz.prog = fun w => .ok (.agg WH.zero.c) w := by
 rw [WH.zeroC]; kernel_rfl
theorem WH.und : Tryz.prog.underlying 82 = some (.struct (Tryz.prog.fieldsOf 82)) := by kernel_rfl
theorem WH.shape : shapeOf [#[.int .i64 WH.zero.per], #[.int .i64 WH.zero.nth], #[.int .i64 WH.zero.notc], #[.int .i64 WH.zero.stl], #[.int .i64 WH.zero.cut]] = [(0, 1), (1, 1), (2, 1), (3, 1), (4, 1)] := by
 simp [shapeOf, offs, List.range, List.range.loop]
theorem WH.places (w : World) : ((Tryz.prog.fieldsOf 82).mapM (fun f => do pure (f.offset, ← sizeOf f.type)) : Sem (Array (Nat × Nat))).run Tryz.prog w = .ok [(0, 1), (1, 1), (2, 1), (3, 1), (4, 1)].toArray w := by kernel_rfl
theorem WH.bld {parts : Array (Nat × Value)} {r : WH} (h : ∀ p ∈ parts.toList, ∃ n, ([(0, 1), (1, 1), (2, 1), (3, 1), (4, 1)] : List (Nat × Nat))[p.1]?.map Prod.snd = some n ∧ p.2.cells.size = n) (hr : rowsOf (setsL [#[.int .i64 WH.zero.per], #[.int .i64 WH.zero.nth], #[.int .i64 WH.zero.notc], #[.int .i64 WH.zero.stl], #[.int .i64 WH.zero.cut]] parts.toList) = r.c) (w : World) : (Instr.build 82 parts).run Tryz.prog w = .ok (.agg r.c) w :=
 run_build_flds WH.und (fun w => by rw [WH.zeroF, WH.rows]) WH.places WH.shape h hr w
structure WP where
 src : Sl
 tol : Rr
 stale : Int
@[irreducible] def WP.c (x : WP) : Array Value := rowsOf [#[Sl.v x.src], x.tol.c, #[.int .i64 x.stale]]
theorem WP.rows (x : WP) : x.c = rowsOf [#[Sl.v x.src], x.tol.c, #[.int .i64 x.stale]] := by unfold WP.c; rfl
theorem WP.size (x : WP) : x.c.size = 68 := by rw [WP.rows]; simp [rowsOf, Rr.size]
theorem WP.one (x : WP) : x.c.all (·.oneCell') = true := by
 rw [WP.rows]
 exact z9_107
def WP.zero : WP := ⟨⟨none, 0, 0⟩, Rr.zero, 0⟩
theorem WP.zeroC : WP.zero.c = #[Value.slice none 0 0] ++ Bg.ratA false 0 false 0 ++ #[.int .i64 0] := by
 rw [WP.rows]
 apply Array.toList_inj.1
 simp [rowsOf, WP.zero, Sl.v, Rr.zero_c]
theorem WP.zeroF : (zeroValue 84).run Tryz.prog = fun w => .ok (.agg WP.zero.c) w := by
 rw [WP.zeroC]; unfold Bg.ratA; rw [← Bg.zeroInt]; kernel_rfl
theorem WP.und : Tryz.prog.underlying 84 = some (.struct (Tryz.prog.fieldsOf 84)) := by kernel_rfl
theorem WP.shape : shapeOf [#[Sl.v WP.zero.src], WP.zero.tol.c, #[.int .i64 WP.zero.stale]] = [(0, 1), (1, 66), (67, 1)] := by
 exact z9_51
theorem WP.places (w : World) : ((Tryz.prog.fieldsOf 84).mapM (fun f => do pure (f.offset, ← sizeOf f.type)) : Sem (Array (Nat × Nat))).run Tryz.prog w = .ok [(0, 1), (1, 66), (67, 1)].toArray w := by kernel_rfl
theorem WP.bld {parts : Array (Nat × Value)} {r : WP} (h : ∀ p ∈ parts.toList, ∃ n, ([(0, 1), (1, 66), (67, 1)] : List (Nat × Nat))[p.1]?.map Prod.snd = some n ∧ p.2.cells.size = n) (hr : rowsOf (setsL [#[Sl.v WP.zero.src], WP.zero.tol.c, #[.int .i64 WP.zero.stale]] parts.toList) = r.c) (w : World) : (Instr.build 84 parts).run Tryz.prog w = .ok (.agg r.c) w :=
 run_build_flds WP.und (fun w => by rw [WP.zeroF, WP.rows]) WP.places WP.shape h hr w
structure WE where
 nm : ByteArray
 rate : Rr
 bas : Int
@[irreducible] def WE.c (x : WE) : Array Value := rowsOf [#[.string x.nm], x.rate.c, #[.int .i64 x.bas]]
theorem WE.rows (x : WE) : x.c = rowsOf [#[.string x.nm], x.rate.c, #[.int .i64 x.bas]] := by unfold WE.c; rfl
theorem WE.size (x : WE) : x.c.size = 68 := by rw [WE.rows]; simp [rowsOf, Rr.size]
theorem WE.one (x : WE) : x.c.all (·.oneCell') = true := by
 rw [WE.rows]
 exact z9_107
def WE.zero : WE := ⟨{ data := #[] }, Rr.zero, 0⟩
theorem WE.zeroC : WE.zero.c = #[Value.string { data := #[] }] ++ Bg.ratA false 0 false 0 ++ #[.int .i64 0] := by
 rw [WE.rows]
 apply Array.toList_inj.1
 simp [rowsOf, WE.zero, Sl.v, Rr.zero_c]
theorem WE.zeroF : (zeroValue 90).run Tryz.prog = fun w => .ok (.agg WE.zero.c) w := by
 rw [WE.zeroC]; unfold Bg.ratA; rw [← Bg.zeroInt]; kernel_rfl
theorem WE.und : Tryz.prog.underlying 90 = some (.struct (Tryz.prog.fieldsOf 90)) := by kernel_rfl
theorem WE.shape : shapeOf [#[.string WE.zero.nm], WE.zero.rate.c, #[.int .i64 WE.zero.bas]] = [(0, 1), (1, 66), (67, 1)] := by
 exact z9_51
theorem WE.places (w : World) : ((Tryz.prog.fieldsOf 90).mapM (fun f => do pure (f.offset, ← sizeOf f.type)) : Sem (Array (Nat × Nat))).run Tryz.prog w = .ok [(0, 1), (1, 66), (67, 1)].toArray w := by kernel_rfl
theorem WE.bld {parts : Array (Nat × Value)} {r : WE} (h : ∀ p ∈ parts.toList, ∃ n, ([(0, 1), (1, 66), (67, 1)] : List (Nat × Nat))[p.1]?.map Prod.snd = some n ∧ p.2.cells.size = n) (hr : rowsOf (setsL [#[.string WE.zero.nm], WE.zero.rate.c, #[.int .i64 WE.zero.bas]] parts.toList) = r.c) (w : World) : (Instr.build 90 parts).run Tryz.prog w = .ok (.agg r.c) w :=
 run_build_flds WE.und (fun w => by rw [WE.zeroF, WE.rows]) WE.places WE.shape h hr w
structure WK where
 nm : ByteArray
 cur : ByteArray
 hdg : Bool
 up : Int
 pp : Int
 md : Int
 iss : Rr
 mgt : WE
 prf : Rr
 hur : Rr
 meth : Int
 mini : Int
 ins : ByteArray
@[irreducible] def WK.c (x : WK) : Array Value := rowsOf [#[.string x.nm], #[.string x.cur], #[.bool x.hdg], #[.int .i64 x.up], #[.int .i64 x.pp], #[.int .i64 x.md], x.iss.c, x.mgt.c, x.prf.c, x.hur.c, #[.int .i64 x.meth], #[.int .i64 x.mini], #[.string x.ins]]
theorem WK.rows (x : WK) : x.c = rowsOf [#[.string x.nm], #[.string x.cur], #[.bool x.hdg], #[.int .i64 x.up], #[.int .i64 x.pp], #[.int .i64 x.md], x.iss.c, x.mgt.c, x.prf.c, x.hur.c, #[.int .i64 x.meth], #[.int .i64 x.mini], #[.string x.ins]] := by unfold WK.c; rfl
theorem WK.size (x : WK) : x.c.size = 275 := by rw [WK.rows]; simp [rowsOf, Rr.size, WE.size]
theorem WK.one (x : WK) : x.c.all (·.oneCell') = true := by
 rw [WK.rows]
 exact rows_cells_one (by
  intro e he
  simp only [List.mem_cons, List.not_mem_nil, or_false] at he
  rcases he with rfl | rfl | rfl | rfl | rfl | rfl | rfl | rfl | rfl | rfl | rfl | rfl | rfl
  ·exact YPgbg0
  ·exact YPgbg0
  ·exact YPgbg0
  ·exact YPgbg0
  ·exact YPgbg0
  ·exact YPgbg0
  ·exact Rr.one _
  ·exact WE.one _
  ·exact Rr.one _
  ·exact Rr.one _
  ·exact YPgbg0
  ·exact YPgbg0
  ·simp [Value.oneCell', Sl.v])
theorem WK.sT : sizT 92 = some 275 := by kernel_rfl
theorem WK.la (x : WK) : LA 92 x.c 0 (.agg x.c) := LA.whole Zk (by rw [WK.size]; exact WK.sT)
theorem WK.sa (x : WK) {z : Array Value} (h : z.size = 275) : SA 92 z 0 (.agg x.c) x.c := SA.whole (by rw [WK.size]; exact WK.sT) x.one (by rw [WK.size, h])
theorem WK.f_nm (x : WK) : FA 9 x.c 0 (.string x.nm) := by rw [WK.rows]; exact fa_one 0 Zk rfl (by simp [offs, Rr.size, WE.size])
theorem WK.s_prf (x : WK) (v : Rr) : SA 43 x.c 140 (.agg v.c) { x with prf := v }.c := by rw [WK.rows, WK.rows]; exact sa_fld_agg 8 (by rw [Rr.size]; kernel_rfl) v.one rfl (by rw [Rr.size, Rr.size]) (by simp [offs, Rr.size, WE.size])
theorem WK.s_hur (x : WK) (v : Rr) : SA 43 x.c 206 (.agg v.c) { x with hur := v }.c := by rw [WK.rows, WK.rows]; exact sa_fld_agg 9 (by rw [Rr.size]; kernel_rfl) v.one rfl (by rw [Rr.size, Rr.size]) (by simp [offs, Rr.size, WE.size])
theorem WK.s_meth (x : WK) (v : Int) : SA 3 x.c 272 (.int .i64 v) { x with meth := v }.c := by rw [WK.rows, WK.rows]; exact sa_fld_one 10 Zk rfl rfl rfl (by simp [offs, Rr.size, WE.size])
theorem WK.s_mini (x : WK) (v : Int) : SA 3 x.c 273 (.int .i64 v) { x with mini := v }.c := by rw [WK.rows, WK.rows]; exact sa_fld_one 11 Zk rfl rfl rfl (by simp [offs, Rr.size, WE.size])
def WK.zero : WK := ⟨{ data := #[] }, { data := #[] }, false, 0, 0, 0, Rr.zero, WE.zero, Rr.zero, Rr.zero, 0, 0, { data := #[] }⟩
theorem WK.zeroC : WK.zero.c = #[Value.string { data := #[] }, .string { data := #[] }, .bool false, .int .i64 0, .int .i64 0, .int .i64 0] ++ Bg.ratA false 0 false 0 ++ #[.string { data := #[] }] ++ Bg.ratA false 0 false 0 ++ #[.int .i64 0] ++ Bg.ratA false 0 false 0 ++ Bg.ratA false 0 false 0 ++ #[.int .i64 0, .int .i64 0, .string { data := #[] }] := by
 rw [WK.rows]
 apply Array.toList_inj.1
 simp [rowsOf, WK.zero, Sl.v, Rr.zero_c, WE.zeroC]
theorem WK.zeroF : (zeroValue 92).run Tryz.prog = fun w => .ok (.agg WK.zero.c) w := by
 rw [WK.zeroC]; unfold Bg.ratA; rw [← Bg.zeroInt]; kernel_rfl
theorem WK.za : ZA 92 WK.zero.c := ⟨_, rfl, fun w => by rw [WK.zeroF]⟩
theorem WK.und : Tryz.prog.underlying 92 = some (.struct (Tryz.prog.fieldsOf 92)) := by kernel_rfl
theorem WK.shape : shapeOf [#[.string WK.zero.nm], #[.string WK.zero.cur], #[.bool WK.zero.hdg], #[.int .i64 WK.zero.up], #[.int .i64 WK.zero.pp], #[.int .i64 WK.zero.md], WK.zero.iss.c, WK.zero.mgt.c, WK.zero.prf.c, WK.zero.hur.c, #[.int .i64 WK.zero.meth], #[.int .i64 WK.zero.mini], #[.string WK.zero.ins]] = [(0, 1), (1, 1), (2, 1), (3, 1), (4, 1), (5, 1), (6, 66), (72, 68), (140, 66), (206, 66), (272, 1), (273, 1), (274, 1)] := by
 simp [shapeOf, offs, Rr.size, WE.size, List.range, List.range.loop]
theorem WK.places (w : World) : ((Tryz.prog.fieldsOf 92).mapM (fun f => do pure (f.offset, ← sizeOf f.type)) : Sem (Array (Nat × Nat))).run Tryz.prog w = .ok [(0, 1), (1, 1), (2, 1), (3, 1), (4, 1), (5, 1), (6, 66), (72, 68), (140, 66), (206, 66), (272, 1), (273, 1), (274, 1)].toArray w := by kernel_rfl
theorem WK.bld {parts : Array (Nat × Value)} {r : WK} (h : ∀ p ∈ parts.toList, ∃ n, ([(0, 1), (1, 1), (2, 1), (3, 1), (4, 1), (5, 1), (6, 66), (72, 68), (140, 66), (206, 66), (272, 1), (273, 1), (274, 1)] : List (Nat × Nat))[p.1]?.map Prod.snd = some n ∧ p.2.cells.size = n) (hr : rowsOf (setsL [#[.string WK.zero.nm], #[.string WK.zero.cur], #[.bool WK.zero.hdg], #[.int .i64 WK.zero.up], #[.int .i64 WK.zero.pp], #[.int .i64 WK.zero.md], WK.zero.iss.c, WK.zero.mgt.c, WK.zero.prf.c, WK.zero.hur.c, #[.int .i64 WK.zero.meth], #[.int .i64 WK.zero.mini], #[.string WK.zero.ins]] parts.toList) = r.c) (w : World) : (Instr.build 92 parts).run Tryz.prog w = .ok (.agg r.c) w :=
 run_build_flds WK.und (fun w => by rw [WK.zeroF, WK.rows]) WK.places WK.shape h hr w
structure WF where
 nm : ByteArray
 cur : ByteArray
 zn : ByteArray
 cals : Sl
 sch : WH
 gate : Rr
 thr : Rr
 fac : Rr
 pol : WP
 exps : Sl
 cls : Sl
@[irreducible] def WF.c (x : WF) : Array Value := rowsOf [#[.string x.nm], #[.string x.cur], #[.string x.zn], #[Sl.v x.cals], x.sch.c, x.gate.c, x.thr.c, x.fac.c, x.pol.c, #[Sl.v x.exps], #[Sl.v x.cls]]
theorem WF.rows (x : WF) : x.c = rowsOf [#[.string x.nm], #[.string x.cur], #[.string x.zn], #[Sl.v x.cals], x.sch.c, x.gate.c, x.thr.c, x.fac.c, x.pol.c, #[Sl.v x.exps], #[Sl.v x.cls]] := by unfold WF.c; rfl
theorem WF.size (x : WF) : x.c.size = 277 := by rw [WF.rows]; simp [rowsOf, WH.size, Rr.size, WP.size]
theorem WF.one (x : WF) : x.c.all (·.oneCell') = true := by
 rw [WF.rows]
 exact rows_cells_one (by
  intro e he
  simp only [List.mem_cons, List.not_mem_nil, or_false] at he
  rcases he with rfl | rfl | rfl | rfl | rfl | rfl | rfl | rfl | rfl | rfl | rfl
  ·exact YPgbg0
  ·exact YPgbg0
  ·exact YPgbg0
  ·exact YPgbg0
  ·exact WH.one _
  ·exact Rr.one _
  ·exact Rr.one _
  ·exact Rr.one _
  ·exact WP.one _
  ·exact YPgbg0
  ·simp [Value.oneCell', Sl.v])
theorem WF.sT : sizT 88 = some 277 := by kernel_rfl
theorem WF.la (x : WF) : LA 88 x.c 0 (.agg x.c) := LA.whole Zk (by rw [WF.size]; exact WF.sT)
theorem WF.sa (x : WF) {z : Array Value} (h : z.size = 277) : SA 88 z 0 (.agg x.c) x.c := SA.whole (by rw [WF.size]; exact WF.sT) x.one (by rw [WF.size, h])
theorem WF.f_nm (x : WF) : FA 9 x.c 0 (.string x.nm) := by rw [WF.rows]; exact fa_one 0 Zk rfl (by simp [offs, WH.size, Rr.size, WP.size])
theorem WF.s_thr (x : WF) (v : Rr) : SA 43 x.c 75 (.agg v.c) { x with thr := v }.c := by rw [WF.rows, WF.rows]; exact sa_fld_agg 6 (by rw [Rr.size]; kernel_rfl) v.one rfl (by rw [Rr.size, Rr.size]) (by simp [offs, WH.size, Rr.size, WP.size])
theorem WF.s_fac (x : WF) (v : Rr) : SA 43 x.c 141 (.agg v.c) { x with fac := v }.c := by rw [WF.rows, WF.rows]; exact sa_fld_agg 7 (by rw [Rr.size]; kernel_rfl) v.one rfl (by rw [Rr.size, Rr.size]) (by simp [offs, WH.size, Rr.size, WP.size])
theorem WF.s_exps (x : WF) (v : Sl) : SA 85 x.c 275 (Sl.v v) { x with exps := v }.c := by rw [WF.rows, WF.rows]; exact sa_fld_one 9 Zk rfl rfl rfl (by simp [offs, WH.size, Rr.size, WP.size])
theorem WF.f_cls (x : WF) : FA 86 x.c 276 (Sl.v x.cls) := by rw [WF.rows]; exact fa_one 10 Zk rfl (by simp [offs, WH.size, Rr.size, WP.size])
theorem WF.s_cls (x : WF) (v : Sl) : SA 86 x.c 276 (Sl.v v) { x with cls := v }.c := by rw [WF.rows, WF.rows]; exact sa_fld_one 10 Zk rfl rfl rfl (by simp [offs, WH.size, Rr.size, WP.size])
def WF.zero : WF := ⟨{ data := #[] }, { data := #[] }, { data := #[] }, ⟨none, 0, 0⟩, WH.zero, Rr.zero, Rr.zero, Rr.zero, WP.zero, ⟨none, 0, 0⟩, ⟨none, 0, 0⟩⟩
theorem WF.zeroC : WF.zero.c = #[Value.string { data := #[] }, .string { data := #[] }, .string { data := #[] }, .slice none 0 0, .int .i64 0, .int .i64 0, .int .i64 0, .int .i64 0, .int .i64 0] ++ Bg.ratA false 0 false 0 ++ Bg.ratA false 0 false 0 ++ Bg.ratA false 0 false 0 ++ #[.slice none 0 0] ++ Bg.ratA false 0 false 0 ++ #[.int .i64 0, .slice none 0 0, .slice none 0 0] := by
 rw [WF.rows]
 apply Array.toList_inj.1
 simp [rowsOf, WF.zero, Sl.v, WH.zeroC, Rr.zero_c, WP.zeroC]
theorem WF.zeroF : (zeroValue 88).run Tryz.prog = fun w => .ok (.agg WF.zero.c) w := by
 rw [WF.zeroC]; unfold Bg.ratA; rw [← Bg.zeroInt]; kernel_rfl
theorem WF.za : ZA 88 WF.zero.c := ⟨_, rfl, fun w => by rw [WF.zeroF]⟩
theorem WF.und : Tryz.prog.underlying 88 = some (.struct (Tryz.prog.fieldsOf 88)) := by kernel_rfl
theorem WF.shape : shapeOf [#[.string WF.zero.nm], #[.string WF.zero.cur], #[.string WF.zero.zn], #[Sl.v WF.zero.cals], WF.zero.sch.c, WF.zero.gate.c, WF.zero.thr.c, WF.zero.fac.c, WF.zero.pol.c, #[Sl.v WF.zero.exps], #[Sl.v WF.zero.cls]] = [(0, 1), (1, 1), (2, 1), (3, 1), (4, 5), (9, 66), (75, 66), (141, 66), (207, 68), (275, 1), (276, 1)] := by
 simp [shapeOf, offs, WH.size, Rr.size, WP.size, List.range, List.range.loop]
theorem WF.places (w : World) : ((Tryz.prog.fieldsOf 88).mapM (fun f => do pure (f.offset, ← sizeOf f.type)) : Sem (Array (Nat × Nat))).run Tryz.prog w = .ok [(0, 1), (1, 1), (2, 1), (3, 1), (4, 5), (9, 66), (75, 66), (141, 66), (207, 68), (275, 1), (276, 1)].toArray w := by kernel_rfl
theorem WF.bld {parts : Array (Nat × Value)} {r : WF} (h : ∀ p ∈ parts.toList, ∃ n, ([(0, 1), (1, 1), (2, 1), (3, 1), (4, 5), (9, 66), (75, 66), (141, 66), (207, 68), (275, 1), (276, 1)] : List (Nat × Nat))[p.1]?.map Prod.snd = some n ∧ p.2.cells.size = n) (hr : rowsOf (setsL [#[.string WF.zero.nm], #[.string WF.zero.cur], #[.string WF.zero.zn], #[Sl.v WF.zero.cals], WF.zero.sch.c, WF.zero.gate.c, WF.zero.thr.c, WF.zero.fac.c, WF.zero.pol.c, #[Sl.v WF.zero.exps], #[Sl.v WF.zero.cls]] parts.toList) = r.c) (w : World) : (Instr.build 88 parts).run Tryz.prog w = .ok (.agg r.c) w :=
 run_build_flds WF.und (fun w => by rw [WF.zeroF, WF.rows]) WF.places WF.shape h hr w
structure WU where
 funds : Sl
 zns : Sl
 cals : Sl
 piv : ByteArray
@[irreducible] def WU.c (x : WU) : Array Value := rowsOf [#[Sl.v x.funds], #[Sl.v x.zns], #[Sl.v x.cals], #[.string x.piv]]
theorem WU.rows (x : WU) : x.c = rowsOf [#[Sl.v x.funds], #[Sl.v x.zns], #[Sl.v x.cals], #[.string x.piv]] := by unfold WU.c; rfl
theorem WU.size (x : WU) : x.c.size = 4 := by rw [WU.rows]; simp [rowsOf]
theorem WU.one (x : WU) : x.c.all (·.oneCell') = true := by
 rw [WU.rows]
 exact rows_cells_one (by
  intro e he
  simp only [List.mem_cons, List.not_mem_nil, or_false] at he
  rcases he with rfl | rfl | rfl | rfl
  ·exact YPgbg0
  ·exact YPgbg0
  ·exact YPgbg0
  ·simp [Value.oneCell', Sl.v])
theorem WU.sT : sizT 31 = some 4 := by kernel_rfl
theorem WU.la (x : WU) : LA 31 x.c 0 (.agg x.c) := LA.whole Zk (by rw [WU.size]; exact WU.sT)
theorem WU.sa (x : WU) {z : Array Value} (h : z.size = 4) : SA 31 z 0 (.agg x.c) x.c := SA.whole (by rw [WU.size]; exact WU.sT) x.one (by rw [WU.size, h])
theorem WU.f_funds (x : WU) : FA 27 x.c 0 (Sl.v x.funds) := by rw [WU.rows]; exact fa_one 0 Zk rfl (by simp [offs])
theorem WU.s_funds (x : WU) (v : Sl) : SA 27 x.c 0 (Sl.v v) { x with funds := v }.c := by rw [WU.rows, WU.rows]; exact sa_fld_one 0 Zk rfl rfl rfl (by simp [offs])
def WU.zero : WU := ⟨⟨none, 0, 0⟩, ⟨none, 0, 0⟩, ⟨none, 0, 0⟩, { data := #[] }⟩
theorem WU.zeroC : WU.zero.c = #[Value.slice none 0 0, .slice none 0 0, .slice none 0 0, .string { data := #[] }] := by
 rw [WU.rows]
 apply Array.toList_inj.1
 simp [rowsOf, WU.zero, Sl.v]
theorem WU.zeroF : (zeroValue 31).run Tryz.prog = fun w => .ok (.agg WU.zero.c) w := by
 rw [WU.zeroC]; kernel_rfl
theorem WU.za : ZA 31 WU.zero.c := ⟨_, rfl, fun w => by rw [WU.zeroF]⟩
theorem WU.und : Tryz.prog.underlying 31 = some (.struct (Tryz.prog.fieldsOf 31)) := by kernel_rfl
theorem WU.shape : shapeOf [#[Sl.v WU.zero.funds], #[Sl.v WU.zero.zns], #[Sl.v WU.zero.cals], #[.string WU.zero.piv]] = [(0, 1), (1, 1), (2, 1), (3, 1)] := by
 simp [shapeOf, offs, List.range, List.range.loop]
theorem WU.places (w : World) : ((Tryz.prog.fieldsOf 31).mapM (fun f => do pure (f.offset, ← sizeOf f.type)) : Sem (Array (Nat × Nat))).run Tryz.prog w = .ok [(0, 1), (1, 1), (2, 1), (3, 1)].toArray w := by kernel_rfl
theorem WU.bld {parts : Array (Nat × Value)} {r : WU} (h : ∀ p ∈ parts.toList, ∃ n, ([(0, 1), (1, 1), (2, 1), (3, 1)] : List (Nat × Nat))[p.1]?.map Prod.snd = some n ∧ p.2.cells.size = n) (hr : rowsOf (setsL [#[Sl.v WU.zero.funds], #[Sl.v WU.zero.zns], #[Sl.v WU.zero.cals], #[.string WU.zero.piv]] parts.toList) = r.c) (w : World) : (Instr.build 31 parts).run Tryz.prog w = .ok (.agg r.c) w :=
 run_build_flds WU.und (fun w => by rw [WU.zeroF, WU.rows]) WU.places WU.shape h hr w
end
end Go.Proofs.YtkiempioeffhbaaGreatDoor
