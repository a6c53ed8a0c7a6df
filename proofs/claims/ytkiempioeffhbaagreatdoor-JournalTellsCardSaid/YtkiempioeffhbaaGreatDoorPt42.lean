/- Walks. -/
import Derived.ChangeMaps5
import Derived.Test.YtkiempioeffhbaaGreatDoorPt14
import Derived.Test.YtkiempioeffhbaaGreatDoorPt31
import Derived.Test.YtkiempioeffhbaaGreatDoorPt41
namespace Go.Proofs.YtkiempioeffhbaaGreatDoor
set_option maxHeartbeats 16000000
set_option maxRecDepth 8000
set_option linter.unusedSimpArgs false
section
theorem z9_203 {P : Prop} (h : P := by
 exact ⟨_, _, _, _, _, _, _, _, _, _, rfl, rfl, rfl, rfl, rfl, rfl, rfl, rfl, rfl, rfl, rfl, rfl, rfl, rfl, rfl, rfl, rfl, rfl, rfl, rfl, rfl⟩) : P := h
theorem z9_204 {P : Prop} (h : P := by
 apply Array.toList_inj.1
 rw [List.toList_toArray, e0, e1, e2, e3, e4, e5, e6, e7, e8, e9, eZ]
 simp [rowsOf]) : P := h
theorem z9_205 {P : Prop} (h : P := by
 exact ⟨_, _, _, _, _, _, _, _, _, rfl, rfl, rfl, rfl, rfl, rfl, rfl, rfl, rfl, rfl, rfl, rfl, rfl, rfl, rfl, rfl, rfl, rfl, rfl⟩) : P := h
theorem z9_206 {P : Prop} (h : P := by
 apply Array.toList_inj.1
 rw [List.toList_toArray, e0, e1, e2, e3, e4, e5, e6, e7, e8, eZ]
 simp [rowsOf]) : P := h
end
section
open Go.RowKit Go.ChangeShapes Go.WideShapes Go.ChangeAt Go.ChangeMaps Go.WideElems
theorem jo_step {cs l : List Value} {o n : Nat} (h : (cs.drop o).take n = l) : cs.drop o = l ++ cs.drop (o + n) := by
 rw [← h, ← List.drop_drop]
 exact (List.take_append_drop n (cs.drop o)).symm
theorem jo_list {α β : Type} {f : α → β} {Q : α → Prop} {m : List β} (h : ∀ c ∈ m, ∃ x, c = f x ∧ Q x) : ∃ M : List α, m = M.map f ∧ ∀ x ∈ M, Q x := by
 induction m with
 | nil => exact ⟨[], rfl, by simp⟩
 | cons c m ih =>
  obtain ⟨M, rfl, hM⟩ := ih (fun d hd => h d (List.mem_cons_of_mem _ hd))
  obtain ⟨x, rfl, hx⟩ := h c List.mem_cons_self
  exact ⟨x :: M, rfl, by
   intro y hy
   rcases List.mem_cons.1 hy with rfl | hy
   ·exact hx
   ·exact hM y hy⟩
theorem jo_str_cells : Tryz.prog.cellsOf 9 = 1 := by kernel_rfl
theorem jo_bool_cells : Tryz.prog.cellsOf 4 = 1 := by kernel_rfl
section
variable {H : Type} {enc : TypeId × Value → H} {W : World}
theorem JK.cells : Tryz.prog.cellsOf 51 = 2 := by kernel_rfl
theorem JK.flds : ∃ f0 f1 : Field, Tryz.prog.underlying 51 = some (.struct #[f0, f1]) ∧ f0.type = 9 ∧ f0.offset = 0 ∧ f1.type = 9 ∧ f1.offset = 1 := by
 rw [Tryz.underlying51]
 exact ⟨_, _, rfl, rfl, rfl, rfl, rfl⟩
theorem JK.of {fuel : Nat} {cs : List Value} {x : DataW H × List MemPlace} {b : Nat} {sp : Nat → Bool} {hd : Bool} (h : DataW.trod enc Tryz.prog W b sp hd fuel 51 cs = some x) : ∃ y : JK, cs.toArray = y.c ∧ y.wf := by
 obtain ⟨f0, f1, hu, t0, o0, t1, o1⟩ := JK.flds
 obtain ⟨xs, n, _, hx, hcl, hlen, hg⟩ := DataW.trod_struct hu h
 rw [JK.cells] at hcl
 have hl3 : xs.length = 2 := by rw [hlen]; rfl
 have g0 := hg 0 f0 rfl
 rw [t0, o0, jo_str_cells, List.getElem?_eq_getElem Zo] at g0
 obtain ⟨v0, e0, _, z0⟩ := DataW.trod_string Tryz.underlying9 g0
 replace e0 : cs.drop 0 = _ ++ cs.drop 1 := jo_step e0
 have g1 := hg 1 f1 rfl
 rw [t1, o1, jo_str_cells, List.getElem?_eq_getElem Zo] at g1
 obtain ⟨v1, e1, _, z1⟩ := DataW.trod_string Tryz.underlying9 g1
 replace e1 : cs.drop 1 = _ ++ cs.drop 2 := jo_step e1
 have eZ : cs.drop 2 = [] := List.drop_of_length_le Zo
 rw [List.drop_zero] at e0
 refine ⟨⟨v0, v1⟩, ?_, ⟨by unfold maxLen at z0; omega, by unfold maxLen at z1; omega⟩⟩
 rw [JK.rows]
 apply Array.toList_inj.1
 rw [List.toList_toArray, e0, e1, eZ]
 simp [rowsOf]
theorem JQ.cells : Tryz.prog.cellsOf 45 = 72 := by kernel_rfl
theorem JQ.flds : ∃ f0 f1 f2 f3 f4 f5 f6 : Field, Tryz.prog.underlying 45 = some (.struct #[f0, f1, f2, f3, f4, f5, f6]) ∧ f0.type = 9 ∧ f0.offset = 0 ∧ f1.type = 9 ∧ f1.offset = 1 ∧ f2.type = 9 ∧ f2.offset = 2 ∧ f3.type = 3 ∧ f3.offset = 3 ∧ f4.type = 43 ∧ f4.offset = 4 ∧ f5.type = 3 ∧ f5.offset = 70 ∧ f6.type = 4 ∧ f6.offset = 71 := by
 rw [Tryz.underlying45]
 exact ⟨_, _, _, _, _, _, _, rfl, rfl, rfl, rfl, rfl, rfl, rfl, rfl, rfl, rfl, rfl, rfl, rfl, rfl, rfl⟩
theorem JQ.of {fuel : Nat} {cs : List Value} {x : DataW H × List MemPlace} {b : Nat} {sp : Nat → Bool} {hd : Bool} (h : DataW.trod enc Tryz.prog W b sp hd fuel 45 cs = some x) : ∃ y : JQ, cs.toArray = y.c ∧ y.wf := by
 obtain ⟨f0, f1, f2, f3, f4, f5, f6, hu, t0, o0, t1, o1, t2, o2, t3, o3, t4, o4, t5, o5, t6, o6⟩ := JQ.flds
 obtain ⟨xs, n, _, hx, hcl, hlen, hg⟩ := DataW.trod_struct hu h
 rw [JQ.cells] at hcl
 have hl3 : xs.length = 7 := by rw [hlen]; rfl
 have g0 := hg 0 f0 rfl
 rw [t0, o0, jo_str_cells, List.getElem?_eq_getElem Zo] at g0
 obtain ⟨v0, e0, _, z0⟩ := DataW.trod_string Tryz.underlying9 g0
 replace e0 : cs.drop 0 = _ ++ cs.drop 1 := jo_step e0
 have g1 := hg 1 f1 rfl
 rw [t1, o1, jo_str_cells, List.getElem?_eq_getElem Zo] at g1
 obtain ⟨v1, e1, _, z1⟩ := DataW.trod_string Tryz.underlying9 g1
 replace e1 : cs.drop 1 = _ ++ cs.drop 2 := jo_step e1
 have g2 := hg 2 f2 rfl
 rw [t2, o2, jo_str_cells, List.getElem?_eq_getElem Zo] at g2
 obtain ⟨v2, e2, _, z2⟩ := DataW.trod_string Tryz.underlying9 g2
 replace e2 : cs.drop 2 = _ ++ cs.drop 3 := jo_step e2
 have g3 := hg 3 f3 rfl
 rw [t3, o3, int_cells, List.getElem?_eq_getElem Zo] at g3
 obtain ⟨v3, e3, _⟩ := DataW.trod_int Tryz.underlying3 g3
 replace e3 : cs.drop 3 = _ ++ cs.drop 4 := jo_step e3
 have g4 := hg 4 f4 rfl
 rw [t4, o4, rat_cells66, List.getElem?_eq_getElem Zo] at g4
 obtain ⟨s4, m4, u4, n4, p4, q4, e4⟩ := rat_of g4
 replace e4 : cs.drop 4 = _ ++ cs.drop 70 := jo_step e4
 have g5 := hg 5 f5 rfl
 rw [t5, o5, int_cells, List.getElem?_eq_getElem Zo] at g5
 obtain ⟨v5, e5, _⟩ := DataW.trod_int Tryz.underlying3 g5
 replace e5 : cs.drop 70 = _ ++ cs.drop 71 := jo_step e5
 have g6 := hg 6 f6 rfl
 rw [t6, o6, jo_bool_cells, List.getElem?_eq_getElem Zo] at g6
 obtain ⟨v6, e6, _⟩ := DataW.trod_bool Tryz.underlying4 g6
 replace e6 : cs.drop 71 = _ ++ cs.drop 72 := jo_step e6
 have eZ : cs.drop 72 = [] := List.drop_of_length_le Zo
 rw [List.drop_zero] at e0
 refine ⟨⟨v0, v1, v2, v3, ⟨s4, m4, u4, n4, p4, q4⟩, v5, v6⟩, ?_, ⟨by unfold maxLen at z0; omega, by unfold maxLen at z1; omega, by unfold maxLen at z2; omega⟩⟩
 rw [JQ.rows]
 apply Array.toList_inj.1
 rw [List.toList_toArray, e0, e1, e2, e3, e4, e5, e6, eZ]
 simp [rowsOf, Rr.c_eq]
theorem JA.cells : Tryz.prog.cellsOf 47 = 76 := by kernel_rfl
theorem JA.flds : ∃ f0 f1 f2 f3 f4 f5 f6 f7 f8 f9 f10 : Field, Tryz.prog.underlying 47 = some (.struct #[f0, f1, f2, f3, f4, f5, f6, f7, f8, f9, f10]) ∧ f0.type = 3 ∧ f0.offset = 0 ∧ f1.type = 9 ∧ f1.offset = 1 ∧ f2.type = 9 ∧ f2.offset = 2 ∧ f3.type = 9 ∧ f3.offset = 3 ∧ f4.type = 3 ∧ f4.offset = 4 ∧ f5.type = 3 ∧ f5.offset = 5 ∧ f6.type = 3 ∧ f6.offset = 6 ∧ f7.type = 43 ∧ f7.offset = 7 ∧ f8.type = 9 ∧ f8.offset = 73 ∧ f9.type = 3 ∧ f9.offset = 74 ∧ f10.type = 4 ∧ f10.offset = 75 := by
 rw [Tryz.underlying47]
 exact ⟨_, _, _, _, _, _, _, _, _, _, _, rfl, rfl, rfl, rfl, rfl, rfl, rfl, rfl, rfl, rfl, rfl, rfl, rfl, rfl, rfl, rfl, rfl, rfl, rfl, rfl, rfl, rfl, rfl⟩
theorem JA.of {fuel : Nat} {cs : List Value} {x : DataW H × List MemPlace} {b : Nat} {sp : Nat → Bool} {hd : Bool} (h : DataW.trod enc Tryz.prog W b sp hd fuel 47 cs = some x) : ∃ y : JA, cs.toArray = y.c ∧ y.wf := by
 obtain ⟨f0, f1, f2, f3, f4, f5, f6, f7, f8, f9, f10, hu, t0, o0, t1, o1, t2, o2, t3, o3, t4, o4, t5, o5, t6, o6, t7, o7, t8, o8, t9, o9, t10, o10⟩ := JA.flds
 obtain ⟨xs, n, _, hx, hcl, hlen, hg⟩ := DataW.trod_struct hu h
 rw [JA.cells] at hcl
 have hl3 : xs.length = 11 := by rw [hlen]; rfl
 have g0 := hg 0 f0 rfl
 rw [t0, o0, int_cells, List.getElem?_eq_getElem Zo] at g0
 obtain ⟨v0, e0, _⟩ := DataW.trod_int Tryz.underlying3 g0
 replace e0 : cs.drop 0 = _ ++ cs.drop 1 := jo_step e0
 have g1 := hg 1 f1 rfl
 rw [t1, o1, jo_str_cells, List.getElem?_eq_getElem Zo] at g1
 obtain ⟨v1, e1, _, z1⟩ := DataW.trod_string Tryz.underlying9 g1
 replace e1 : cs.drop 1 = _ ++ cs.drop 2 := jo_step e1
 have g2 := hg 2 f2 rfl
 rw [t2, o2, jo_str_cells, List.getElem?_eq_getElem Zo] at g2
 obtain ⟨v2, e2, _, z2⟩ := DataW.trod_string Tryz.underlying9 g2
 replace e2 : cs.drop 2 = _ ++ cs.drop 3 := jo_step e2
 have g3 := hg 3 f3 rfl
 rw [t3, o3, jo_str_cells, List.getElem?_eq_getElem Zo] at g3
 obtain ⟨v3, e3, _, z3⟩ := DataW.trod_string Tryz.underlying9 g3
 replace e3 : cs.drop 3 = _ ++ cs.drop 4 := jo_step e3
 have g4 := hg 4 f4 rfl
 rw [t4, o4, int_cells, List.getElem?_eq_getElem Zo] at g4
 obtain ⟨v4, e4, _⟩ := DataW.trod_int Tryz.underlying3 g4
 replace e4 : cs.drop 4 = _ ++ cs.drop 5 := jo_step e4
 have g5 := hg 5 f5 rfl
 rw [t5, o5, int_cells, List.getElem?_eq_getElem Zo] at g5
 obtain ⟨v5, e5, _⟩ := DataW.trod_int Tryz.underlying3 g5
 replace e5 : cs.drop 5 = _ ++ cs.drop 6 := jo_step e5
 have g6 := hg 6 f6 rfl
 rw [t6, o6, int_cells, List.getElem?_eq_getElem Zo] at g6
 obtain ⟨v6, e6, _⟩ := DataW.trod_int Tryz.underlying3 g6
 replace e6 : cs.drop 6 = _ ++ cs.drop 7 := jo_step e6
 have g7 := hg 7 f7 rfl
 rw [t7, o7, rat_cells66, List.getElem?_eq_getElem Zo] at g7
 obtain ⟨s7, m7, u7, n7, p7, q7, e7⟩ := rat_of g7
 replace e7 : cs.drop 7 = _ ++ cs.drop 73 := jo_step e7
 have g8 := hg 8 f8 rfl
 rw [t8, o8, jo_str_cells, List.getElem?_eq_getElem Zo] at g8
 obtain ⟨v8, e8, _, z8⟩ := DataW.trod_string Tryz.underlying9 g8
 replace e8 : cs.drop 73 = _ ++ cs.drop 74 := jo_step e8
 have g9 := hg 9 f9 rfl
 rw [t9, o9, int_cells, List.getElem?_eq_getElem Zo] at g9
 obtain ⟨v9, e9, _⟩ := DataW.trod_int Tryz.underlying3 g9
 replace e9 : cs.drop 74 = _ ++ cs.drop 75 := jo_step e9
 have g10 := hg 10 f10 rfl
 rw [t10, o10, jo_bool_cells, List.getElem?_eq_getElem Zo] at g10
 obtain ⟨v10, e10, _⟩ := DataW.trod_bool Tryz.underlying4 g10
 replace e10 : cs.drop 75 = _ ++ cs.drop 76 := jo_step e10
 have eZ : cs.drop 76 = [] := List.drop_of_length_le Zo
 rw [List.drop_zero] at e0
 refine ⟨⟨v0, v1, v2, v3, v4, v5, v6, ⟨s7, m7, u7, n7, p7, q7⟩, v8, v9, v10⟩, ?_, ⟨by unfold maxLen at z1; omega, by unfold maxLen at z2; omega, by unfold maxLen at z3; omega, by unfold maxLen at z8; omega⟩⟩
 rw [JA.rows]
 apply Array.toList_inj.1
 rw [List.toList_toArray, e0, e1, e2, e3, e4, e5, e6, e7, e8, e9, e10, eZ]
 simp [rowsOf, Rr.c_eq]
theorem JE.cells : Tryz.prog.cellsOf 49 = 10 := by kernel_rfl
theorem JE.flds : ∃ f0 f1 f2 f3 f4 f5 f6 f7 f8 f9 : Field, Tryz.prog.underlying 49 = some (.struct #[f0, f1, f2, f3, f4, f5, f6, f7, f8, f9]) ∧ f0.type = 3 ∧ f0.offset = 0 ∧ f1.type = 9 ∧ f1.offset = 1 ∧ f2.type = 3 ∧ f2.offset = 2 ∧ f3.type = 3 ∧ f3.offset = 3 ∧ f4.type = 9 ∧ f4.offset = 4 ∧ f5.type = 3 ∧ f5.offset = 5 ∧ f6.type = 3 ∧ f6.offset = 6 ∧ f7.type = 9 ∧ f7.offset = 7 ∧ f8.type = 3 ∧ f8.offset = 8 ∧ f9.type = 4 ∧ f9.offset = 9 := by
 rw [Tryz.underlying49]
 exact z9_203
theorem JE.of {fuel : Nat} {cs : List Value} {x : DataW H × List MemPlace} {b : Nat} {sp : Nat → Bool} {hd : Bool} (h : DataW.trod enc Tryz.prog W b sp hd fuel 49 cs = some x) : ∃ y : JE, cs.toArray = y.c ∧ y.wf := by
 obtain ⟨f0, f1, f2, f3, f4, f5, f6, f7, f8, f9, hu, t0, o0, t1, o1, t2, o2, t3, o3, t4, o4, t5, o5, t6, o6, t7, o7, t8, o8, t9, o9⟩ := JE.flds
 obtain ⟨xs, n, _, hx, hcl, hlen, hg⟩ := DataW.trod_struct hu h
 rw [JE.cells] at hcl
 have hl3 : xs.length = 10 := by rw [hlen]; rfl
 have g0 := hg 0 f0 rfl
 rw [t0, o0, int_cells, List.getElem?_eq_getElem Zo] at g0
 obtain ⟨v0, e0, _⟩ := DataW.trod_int Tryz.underlying3 g0
 replace e0 : cs.drop 0 = _ ++ cs.drop 1 := jo_step e0
 have g1 := hg 1 f1 rfl
 rw [t1, o1, jo_str_cells, List.getElem?_eq_getElem Zo] at g1
 obtain ⟨v1, e1, _, z1⟩ := DataW.trod_string Tryz.underlying9 g1
 replace e1 : cs.drop 1 = _ ++ cs.drop 2 := jo_step e1
 have g2 := hg 2 f2 rfl
 rw [t2, o2, int_cells, List.getElem?_eq_getElem Zo] at g2
 obtain ⟨v2, e2, _⟩ := DataW.trod_int Tryz.underlying3 g2
 replace e2 : cs.drop 2 = _ ++ cs.drop 3 := jo_step e2
 have g3 := hg 3 f3 rfl
 rw [t3, o3, int_cells, List.getElem?_eq_getElem Zo] at g3
 obtain ⟨v3, e3, _⟩ := DataW.trod_int Tryz.underlying3 g3
 replace e3 : cs.drop 3 = _ ++ cs.drop 4 := jo_step e3
 have g4 := hg 4 f4 rfl
 rw [t4, o4, jo_str_cells, List.getElem?_eq_getElem Zo] at g4
 obtain ⟨v4, e4, _, z4⟩ := DataW.trod_string Tryz.underlying9 g4
 replace e4 : cs.drop 4 = _ ++ cs.drop 5 := jo_step e4
 have g5 := hg 5 f5 rfl
 rw [t5, o5, int_cells, List.getElem?_eq_getElem Zo] at g5
 obtain ⟨v5, e5, _⟩ := DataW.trod_int Tryz.underlying3 g5
 replace e5 : cs.drop 5 = _ ++ cs.drop 6 := jo_step e5
 have g6 := hg 6 f6 rfl
 rw [t6, o6, int_cells, List.getElem?_eq_getElem Zo] at g6
 obtain ⟨v6, e6, _⟩ := DataW.trod_int Tryz.underlying3 g6
 replace e6 : cs.drop 6 = _ ++ cs.drop 7 := jo_step e6
 have g7 := hg 7 f7 rfl
 rw [t7, o7, jo_str_cells, List.getElem?_eq_getElem Zo] at g7
 obtain ⟨v7, e7, _, z7⟩ := DataW.trod_string Tryz.underlying9 g7
 replace e7 : cs.drop 7 = _ ++ cs.drop 8 := jo_step e7
 have g8 := hg 8 f8 rfl
 rw [t8, o8, int_cells, List.getElem?_eq_getElem Zo] at g8
 obtain ⟨v8, e8, _⟩ := DataW.trod_int Tryz.underlying3 g8
 replace e8 : cs.drop 8 = _ ++ cs.drop 9 := jo_step e8
 have g9 := hg 9 f9 rfl
 rw [t9, o9, jo_bool_cells, List.getElem?_eq_getElem Zo] at g9
 obtain ⟨v9, e9, _⟩ := DataW.trod_bool Tryz.underlying4 g9
 replace e9 : cs.drop 9 = _ ++ cs.drop 10 := jo_step e9
 have eZ : cs.drop 10 = [] := List.drop_of_length_le Zo
 rw [List.drop_zero] at e0
 refine ⟨⟨v0, v1, v2, v3, v4, v5, v6, v7, v8, v9⟩, ?_, ⟨by unfold maxLen at z1; omega, by unfold maxLen at z4; omega, by unfold maxLen at z7; omega⟩⟩
 rw [JE.rows]
 exact z9_204
theorem JO.cells : Tryz.prog.cellsOf 53 = 11 := by kernel_rfl
theorem JO.flds : ∃ f0 f1 f2 f3 f4 f5 f6 f7 f8 f9 : Field, Tryz.prog.underlying 53 = some (.struct #[f0, f1, f2, f3, f4, f5, f6, f7, f8, f9]) ∧ f0.type = 9 ∧ f0.offset = 0 ∧ f1.type = 51 ∧ f1.offset = 1 ∧ f2.type = 9 ∧ f2.offset = 3 ∧ f3.type = 9 ∧ f3.offset = 4 ∧ f4.type = 3 ∧ f4.offset = 5 ∧ f5.type = 3 ∧ f5.offset = 6 ∧ f6.type = 3 ∧ f6.offset = 7 ∧ f7.type = 3 ∧ f7.offset = 8 ∧ f8.type = 3 ∧ f8.offset = 9 ∧ f9.type = 4 ∧ f9.offset = 10 := by
 rw [Tryz.underlying53]
 exact z9_203
theorem JO.of {fuel : Nat} {cs : List Value} {x : DataW H × List MemPlace} {b : Nat} {sp : Nat → Bool} {hd : Bool} (h : DataW.trod enc Tryz.prog W b sp hd fuel 53 cs = some x) : ∃ y : JO, cs.toArray = y.c ∧ y.wf := by
 obtain ⟨f0, f1, f2, f3, f4, f5, f6, f7, f8, f9, hu, t0, o0, t1, o1, t2, o2, t3, o3, t4, o4, t5, o5, t6, o6, t7, o7, t8, o8, t9, o9⟩ := JO.flds
 obtain ⟨xs, n, _, hx, hcl, hlen, hg⟩ := DataW.trod_struct hu h
 rw [JO.cells] at hcl
 have hl3 : xs.length = 10 := by rw [hlen]; rfl
 have g0 := hg 0 f0 rfl
 rw [t0, o0, jo_str_cells, List.getElem?_eq_getElem Zo] at g0
 obtain ⟨v0, e0, _, z0⟩ := DataW.trod_string Tryz.underlying9 g0
 replace e0 : cs.drop 0 = _ ++ cs.drop 1 := jo_step e0
 have g1 := hg 1 f1 rfl
 rw [t1, o1, JK.cells, List.getElem?_eq_getElem Zo] at g1
 obtain ⟨v1, e1, z1⟩ := JK.of g1
 replace e1 := congrArg Array.toList e1
 simp only [List.toList_toArray] at e1
 replace e1 : cs.drop 1 = _ ++ cs.drop 3 := jo_step e1
 have g2 := hg 2 f2 rfl
 rw [t2, o2, jo_str_cells, List.getElem?_eq_getElem Zo] at g2
 obtain ⟨v2, e2, _, z2⟩ := DataW.trod_string Tryz.underlying9 g2
 replace e2 : cs.drop 3 = _ ++ cs.drop 4 := jo_step e2
 have g3 := hg 3 f3 rfl
 rw [t3, o3, jo_str_cells, List.getElem?_eq_getElem Zo] at g3
 obtain ⟨v3, e3, _, z3⟩ := DataW.trod_string Tryz.underlying9 g3
 replace e3 : cs.drop 4 = _ ++ cs.drop 5 := jo_step e3
 have g4 := hg 4 f4 rfl
 rw [t4, o4, int_cells, List.getElem?_eq_getElem Zo] at g4
 obtain ⟨v4, e4, _⟩ := DataW.trod_int Tryz.underlying3 g4
 replace e4 : cs.drop 5 = _ ++ cs.drop 6 := jo_step e4
 have g5 := hg 5 f5 rfl
 rw [t5, o5, int_cells, List.getElem?_eq_getElem Zo] at g5
 obtain ⟨v5, e5, _⟩ := DataW.trod_int Tryz.underlying3 g5
 replace e5 : cs.drop 6 = _ ++ cs.drop 7 := jo_step e5
 have g6 := hg 6 f6 rfl
 rw [t6, o6, int_cells, List.getElem?_eq_getElem Zo] at g6
 obtain ⟨v6, e6, _⟩ := DataW.trod_int Tryz.underlying3 g6
 replace e6 : cs.drop 7 = _ ++ cs.drop 8 := jo_step e6
 have g7 := hg 7 f7 rfl
 rw [t7, o7, int_cells, List.getElem?_eq_getElem Zo] at g7
 obtain ⟨v7, e7, _⟩ := DataW.trod_int Tryz.underlying3 g7
 replace e7 : cs.drop 8 = _ ++ cs.drop 9 := jo_step e7
 have g8 := hg 8 f8 rfl
 rw [t8, o8, int_cells, List.getElem?_eq_getElem Zo] at g8
 obtain ⟨v8, e8, _⟩ := DataW.trod_int Tryz.underlying3 g8
 replace e8 : cs.drop 9 = _ ++ cs.drop 10 := jo_step e8
 have g9 := hg 9 f9 rfl
 rw [t9, o9, jo_bool_cells, List.getElem?_eq_getElem Zo] at g9
 obtain ⟨v9, e9, _⟩ := DataW.trod_bool Tryz.underlying4 g9
 replace e9 : cs.drop 10 = _ ++ cs.drop 11 := jo_step e9
 have eZ : cs.drop 11 = [] := List.drop_of_length_le Zo
 rw [List.drop_zero] at e0
 refine ⟨⟨v0, v1, v2, v3, v4, v5, v6, v7, v8, v9⟩, ?_, ⟨by unfold maxLen at z0; omega, z1, by unfold maxLen at z2; omega, by unfold maxLen at z3; omega⟩⟩
 rw [JO.rows]
 exact z9_204
theorem JT.cells : Tryz.prog.cellsOf 55 = 11 := by kernel_rfl
theorem JT.flds : ∃ f0 f1 f2 f3 f4 f5 f6 f7 f8 : Field, Tryz.prog.underlying 55 = some (.struct #[f0, f1, f2, f3, f4, f5, f6, f7, f8]) ∧ f0.type = 9 ∧ f0.offset = 0 ∧ f1.type = 9 ∧ f1.offset = 1 ∧ f2.type = 9 ∧ f2.offset = 2 ∧ f3.type = 51 ∧ f3.offset = 3 ∧ f4.type = 51 ∧ f4.offset = 5 ∧ f5.type = 3 ∧ f5.offset = 7 ∧ f6.type = 3 ∧ f6.offset = 8 ∧ f7.type = 3 ∧ f7.offset = 9 ∧ f8.type = 4 ∧ f8.offset = 10 := by
 rw [Tryz.underlying55]
 exact z9_205
theorem JT.of {fuel : Nat} {cs : List Value} {x : DataW H × List MemPlace} {b : Nat} {sp : Nat → Bool} {hd : Bool} (h : DataW.trod enc Tryz.prog W b sp hd fuel 55 cs = some x) : ∃ y : JT, cs.toArray = y.c ∧ y.wf := by
 obtain ⟨f0, f1, f2, f3, f4, f5, f6, f7, f8, hu, t0, o0, t1, o1, t2, o2, t3, o3, t4, o4, t5, o5, t6, o6, t7, o7, t8, o8⟩ := JT.flds
 obtain ⟨xs, n, _, hx, hcl, hlen, hg⟩ := DataW.trod_struct hu h
 rw [JT.cells] at hcl
 have hl3 : xs.length = 9 := by rw [hlen]; rfl
 have g0 := hg 0 f0 rfl
 rw [t0, o0, jo_str_cells, List.getElem?_eq_getElem Zo] at g0
 obtain ⟨v0, e0, _, z0⟩ := DataW.trod_string Tryz.underlying9 g0
 replace e0 : cs.drop 0 = _ ++ cs.drop 1 := jo_step e0
 have g1 := hg 1 f1 rfl
 rw [t1, o1, jo_str_cells, List.getElem?_eq_getElem Zo] at g1
 obtain ⟨v1, e1, _, z1⟩ := DataW.trod_string Tryz.underlying9 g1
 replace e1 : cs.drop 1 = _ ++ cs.drop 2 := jo_step e1
 have g2 := hg 2 f2 rfl
 rw [t2, o2, jo_str_cells, List.getElem?_eq_getElem Zo] at g2
 obtain ⟨v2, e2, _, z2⟩ := DataW.trod_string Tryz.underlying9 g2
 replace e2 : cs.drop 2 = _ ++ cs.drop 3 := jo_step e2
 have g3 := hg 3 f3 rfl
 rw [t3, o3, JK.cells, List.getElem?_eq_getElem Zo] at g3
 obtain ⟨v3, e3, z3⟩ := JK.of g3
 replace e3 := congrArg Array.toList e3
 simp only [List.toList_toArray] at e3
 replace e3 : cs.drop 3 = _ ++ cs.drop 5 := jo_step e3
 have g4 := hg 4 f4 rfl
 rw [t4, o4, JK.cells, List.getElem?_eq_getElem Zo] at g4
 obtain ⟨v4, e4, z4⟩ := JK.of g4
 replace e4 := congrArg Array.toList e4
 simp only [List.toList_toArray] at e4
 replace e4 : cs.drop 5 = _ ++ cs.drop 7 := jo_step e4
 have g5 := hg 5 f5 rfl
 rw [t5, o5, int_cells, List.getElem?_eq_getElem Zo] at g5
 obtain ⟨v5, e5, _⟩ := DataW.trod_int Tryz.underlying3 g5
 replace e5 : cs.drop 7 = _ ++ cs.drop 8 := jo_step e5
 have g6 := hg 6 f6 rfl
 rw [t6, o6, int_cells, List.getElem?_eq_getElem Zo] at g6
 obtain ⟨v6, e6, _⟩ := DataW.trod_int Tryz.underlying3 g6
 replace e6 : cs.drop 8 = _ ++ cs.drop 9 := jo_step e6
 have g7 := hg 7 f7 rfl
 rw [t7, o7, int_cells, List.getElem?_eq_getElem Zo] at g7
 obtain ⟨v7, e7, _⟩ := DataW.trod_int Tryz.underlying3 g7
 replace e7 : cs.drop 9 = _ ++ cs.drop 10 := jo_step e7
 have g8 := hg 8 f8 rfl
 rw [t8, o8, jo_bool_cells, List.getElem?_eq_getElem Zo] at g8
 obtain ⟨v8, e8, _⟩ := DataW.trod_bool Tryz.underlying4 g8
 replace e8 : cs.drop 10 = _ ++ cs.drop 11 := jo_step e8
 have eZ : cs.drop 11 = [] := List.drop_of_length_le Zo
 rw [List.drop_zero] at e0
 refine ⟨⟨v0, v1, v2, v3, v4, v5, v6, v7, v8⟩, ?_, ⟨by unfold maxLen at z0; omega, by unfold maxLen at z1; omega, by unfold maxLen at z2; omega, z3, z4⟩⟩
 rw [JT.rows]
 exact z9_206
theorem JS.cells : Tryz.prog.cellsOf 57 = 6 := by kernel_rfl
theorem JS.flds : ∃ f0 f1 f2 f3 f4 f5 : Field, Tryz.prog.underlying 57 = some (.struct #[f0, f1, f2, f3, f4, f5]) ∧ f0.type = 9 ∧ f0.offset = 0 ∧ f1.type = 9 ∧ f1.offset = 1 ∧ f2.type = 3 ∧ f2.offset = 2 ∧ f3.type = 3 ∧ f3.offset = 3 ∧ f4.type = 3 ∧ f4.offset = 4 ∧ f5.type = 4 ∧ f5.offset = 5 := by
 rw [Tryz.underlying57]
 exact ⟨_, _, _, _, _, _, rfl, rfl, rfl, rfl, rfl, rfl, rfl, rfl, rfl, rfl, rfl, rfl, rfl⟩
theorem JS.of {fuel : Nat} {cs : List Value} {x : DataW H × List MemPlace} {b : Nat} {sp : Nat → Bool} {hd : Bool} (h : DataW.trod enc Tryz.prog W b sp hd fuel 57 cs = some x) : ∃ y : JS, cs.toArray = y.c ∧ y.wf := by
 obtain ⟨f0, f1, f2, f3, f4, f5, hu, t0, o0, t1, o1, t2, o2, t3, o3, t4, o4, t5, o5⟩ := JS.flds
 obtain ⟨xs, n, _, hx, hcl, hlen, hg⟩ := DataW.trod_struct hu h
 rw [JS.cells] at hcl
 have hl3 : xs.length = 6 := by rw [hlen]; rfl
 have g0 := hg 0 f0 rfl
 rw [t0, o0, jo_str_cells, List.getElem?_eq_getElem Zo] at g0
 obtain ⟨v0, e0, _, z0⟩ := DataW.trod_string Tryz.underlying9 g0
 replace e0 : cs.drop 0 = _ ++ cs.drop 1 := jo_step e0
 have g1 := hg 1 f1 rfl
 rw [t1, o1, jo_str_cells, List.getElem?_eq_getElem Zo] at g1
 obtain ⟨v1, e1, _, z1⟩ := DataW.trod_string Tryz.underlying9 g1
 replace e1 : cs.drop 1 = _ ++ cs.drop 2 := jo_step e1
 have g2 := hg 2 f2 rfl
 rw [t2, o2, int_cells, List.getElem?_eq_getElem Zo] at g2
 obtain ⟨v2, e2, _⟩ := DataW.trod_int Tryz.underlying3 g2
 replace e2 : cs.drop 2 = _ ++ cs.drop 3 := jo_step e2
 have g3 := hg 3 f3 rfl
 rw [t3, o3, int_cells, List.getElem?_eq_getElem Zo] at g3
 obtain ⟨v3, e3, _⟩ := DataW.trod_int Tryz.underlying3 g3
 replace e3 : cs.drop 3 = _ ++ cs.drop 4 := jo_step e3
 have g4 := hg 4 f4 rfl
 rw [t4, o4, int_cells, List.getElem?_eq_getElem Zo] at g4
 obtain ⟨v4, e4, _⟩ := DataW.trod_int Tryz.underlying3 g4
 replace e4 : cs.drop 4 = _ ++ cs.drop 5 := jo_step e4
 have g5 := hg 5 f5 rfl
 rw [t5, o5, jo_bool_cells, List.getElem?_eq_getElem Zo] at g5
 obtain ⟨v5, e5, _⟩ := DataW.trod_bool Tryz.underlying4 g5
 replace e5 : cs.drop 5 = _ ++ cs.drop 6 := jo_step e5
 have eZ : cs.drop 6 = [] := List.drop_of_length_le Zo
 rw [List.drop_zero] at e0
 refine ⟨⟨v0, v1, v2, v3, v4, v5⟩, ?_, ⟨by unfold maxLen at z0; omega, by unfold maxLen at z1; omega⟩⟩
 rw [JS.rows]
 apply Array.toList_inj.1
 rw [List.toList_toArray, e0, e1, e2, e3, e4, e5, eZ]
 simp [rowsOf]
theorem JR.cells : Tryz.prog.cellsOf 59 = 189 := by kernel_rfl
theorem JR.flds : ∃ f0 f1 f2 f3 f4 f5 f6 f7 f8 : Field, Tryz.prog.underlying 59 = some (.struct #[f0, f1, f2, f3, f4, f5, f6, f7, f8]) ∧ f0.type = 3 ∧ f0.offset = 0 ∧ f1.type = 9 ∧ f1.offset = 1 ∧ f2.type = 3 ∧ f2.offset = 2 ∧ f3.type = 45 ∧ f3.offset = 3 ∧ f4.type = 47 ∧ f4.offset = 75 ∧ f5.type = 49 ∧ f5.offset = 151 ∧ f6.type = 53 ∧ f6.offset = 161 ∧ f7.type = 55 ∧ f7.offset = 172 ∧ f8.type = 57 ∧ f8.offset = 183 := by
 rw [Tryz.underlying59]
 exact z9_205
theorem JR.of {fuel : Nat} {cs : List Value} {x : DataW H × List MemPlace} {b : Nat} {sp : Nat → Bool} {hd : Bool} (h : DataW.trod enc Tryz.prog W b sp hd fuel 59 cs = some x) : ∃ y : JR, cs.toArray = y.c ∧ y.wf := by
 obtain ⟨f0, f1, f2, f3, f4, f5, f6, f7, f8, hu, t0, o0, t1, o1, t2, o2, t3, o3, t4, o4, t5, o5, t6, o6, t7, o7, t8, o8⟩ := JR.flds
 obtain ⟨xs, n, _, hx, hcl, hlen, hg⟩ := DataW.trod_struct hu h
 rw [JR.cells] at hcl
 have hl3 : xs.length = 9 := by rw [hlen]; rfl
 have g0 := hg 0 f0 rfl
 rw [t0, o0, int_cells, List.getElem?_eq_getElem Zo] at g0
 obtain ⟨v0, e0, _⟩ := DataW.trod_int Tryz.underlying3 g0
 replace e0 : cs.drop 0 = _ ++ cs.drop 1 := jo_step e0
 have g1 := hg 1 f1 rfl
 rw [t1, o1, jo_str_cells, List.getElem?_eq_getElem Zo] at g1
 obtain ⟨v1, e1, _, z1⟩ := DataW.trod_string Tryz.underlying9 g1
 replace e1 : cs.drop 1 = _ ++ cs.drop 2 := jo_step e1
 have g2 := hg 2 f2 rfl
 rw [t2, o2, int_cells, List.getElem?_eq_getElem Zo] at g2
 obtain ⟨v2, e2, _⟩ := DataW.trod_int Tryz.underlying3 g2
 replace e2 : cs.drop 2 = _ ++ cs.drop 3 := jo_step e2
 have g3 := hg 3 f3 rfl
 rw [t3, o3, JQ.cells, List.getElem?_eq_getElem Zo] at g3
 obtain ⟨v3, e3, z3⟩ := JQ.of g3
 replace e3 := congrArg Array.toList e3
 simp only [List.toList_toArray] at e3
 replace e3 : cs.drop 3 = _ ++ cs.drop 75 := jo_step e3
 have g4 := hg 4 f4 rfl
 rw [t4, o4, JA.cells, List.getElem?_eq_getElem Zo] at g4
 obtain ⟨v4, e4, z4⟩ := JA.of g4
 replace e4 := congrArg Array.toList e4
 simp only [List.toList_toArray] at e4
 replace e4 : cs.drop 75 = _ ++ cs.drop 151 := jo_step e4
 have g5 := hg 5 f5 rfl
 rw [t5, o5, JE.cells, List.getElem?_eq_getElem Zo] at g5
 obtain ⟨v5, e5, z5⟩ := JE.of g5
 replace e5 := congrArg Array.toList e5
 simp only [List.toList_toArray] at e5
 replace e5 : cs.drop 151 = _ ++ cs.drop 161 := jo_step e5
 have g6 := hg 6 f6 rfl
 rw [t6, o6, JO.cells, List.getElem?_eq_getElem Zo] at g6
 obtain ⟨v6, e6, z6⟩ := JO.of g6
 replace e6 := congrArg Array.toList e6
 simp only [List.toList_toArray] at e6
 replace e6 : cs.drop 161 = _ ++ cs.drop 172 := jo_step e6
 have g7 := hg 7 f7 rfl
 rw [t7, o7, JT.cells, List.getElem?_eq_getElem Zo] at g7
 obtain ⟨v7, e7, z7⟩ := JT.of g7
 replace e7 := congrArg Array.toList e7
 simp only [List.toList_toArray] at e7
 replace e7 : cs.drop 172 = _ ++ cs.drop 183 := jo_step e7
 have g8 := hg 8 f8 rfl
 rw [t8, o8, JS.cells, List.getElem?_eq_getElem Zo] at g8
 obtain ⟨v8, e8, z8⟩ := JS.of g8
 replace e8 := congrArg Array.toList e8
 simp only [List.toList_toArray] at e8
 replace e8 : cs.drop 183 = _ ++ cs.drop 189 := jo_step e8
 have eZ : cs.drop 189 = [] := List.drop_of_length_le Zo
 rw [List.drop_zero] at e0
 refine ⟨⟨v0, v1, v2, v3, v4, v5, v6, v7, v8⟩, ?_, ⟨by unfold maxLen at z1; omega, z3, z4, z5, z6, z7, z8⟩⟩
 rw [JR.rows]
 exact z9_206
theorem open_recs {base : Nat} {v : Value} {d : DataW H} {p : List MemPlace} (hv : Value.okWide Tryz.prog W .any base 25 v) (h : DataW.Trod enc Tryz.prog W 0 (fun _ => true) true 25 v d p) :
    ∃ L : List JR, RdS 189 W v (L.map JR.c) ∧ L.length ≤ 9223372036854775807 ∧ ∀ r ∈ L, r.wf := by
 obtain ⟨A, m, cap, rfl, hR, hl, hc⟩ := open_slrows Tryz.underlying25 JR.cells Zd hv h
 obtain ⟨L, rfl, hL⟩ := jo_list (f := JR.c) (Q := JR.wf) (fun c hcm => by
  obtain ⟨f, y, hy⟩ := hc c hcm
  obtain ⟨z, hz, hw⟩ := JR.of hy
  exact ⟨z, by rw [← hz], hw⟩)
 exact ⟨L, hR, by rw [List.length_map] at hl; unfold maxLen at hl; omega, hL⟩
end
end
end Go.Proofs.YtkiempioeffhbaaGreatDoor
