/- Walks, and plain facts for them. -/
import Derived.ChangeMaps5
import Derived.Test.YtmbjaaaeekacfaaGreatDoorPa30
import Derived.Test.YtmbjaaaeekacfaaGreatDoorPa33
import Derived.Test.YtmbjaaaeekacfaaGreatDoorPa34
namespace Go.Proofs.YtmbjaaaeekacfaaGreatDoor
set_option maxRecDepth 8000
open Go.RowKit Go.ChangeShapes Go.WideShapes Go.ChangeAt Go.ChangeMaps Go.WideElems
theorem fee_cells : Tryz.prog.cellsOf 29 = 68 := by kernel_rfl
theorem agg_cells : Tryz.prog.cellsOf 31 = 136 := by kernel_rfl
theorem ac_str_cells : Tryz.prog.cellsOf 9 = 1 := by kernel_rfl
theorem fee_struct : ∃ f0 f1 f2 : Field, Tryz.prog.underlying 29 = some (.struct #[f0, f1, f2]) ∧ f0.type = 9 ∧ f0.offset = 0 ∧ f1.type = 27 ∧ f1.offset = 1 ∧ f2.type = 3 ∧ f2.offset = 67 := by
 rw [Tryz.underlying29]
 exact ⟨_, _, _, rfl, rfl, rfl, rfl, rfl, rfl, rfl⟩
theorem agg_struct : ∃ f0 f1 f2 f3 f4 f5 : Field, Tryz.prog.underlying 31 = some (.struct #[f0, f1, f2, f3, f4, f5]) ∧ f0.type = 9 ∧ f0.offset = 0 ∧ f1.type = 27 ∧ f1.offset = 1 ∧ f2.type = 3 ∧ f2.offset = 67 ∧ f3.type = 27 ∧ f3.offset = 68 ∧ f4.type = 3 ∧ f4.offset = 134 ∧ f5.type = 3 ∧ f5.offset = 135 := by
 rw [Tryz.underlying31]
 exact ⟨_, _, _, _, _, _, rfl, rfl, rfl, rfl, rfl, rfl, rfl, rfl, rfl, rfl, rfl, rfl, rfl⟩
section
variable {H : Type} {enc : TypeId × Value → H} {W : World} {base : Nat}
theorem ac_one_cell {cs : List Value} {k : Nat} {v : Value} (h : (cs.drop k).take 1 = [v]) : cs[k]? = some v := by
 have e : ((cs.drop k).take 1)[0]? = some v := by rw [h]; rfl
 rw [List.getElem?_take_of_lt (by omega), List.getElem?_drop] at e
 exact e
theorem ac_drop {cs : List Value} {k : Nat} {v : Value} (h : cs[k]? = some v) : cs.drop k = v :: cs.drop (k + 1) := by
 obtain ⟨hk, e⟩ := List.getElem?_eq_some_iff.1 h
 rw [List.drop_eq_getElem_cons hk, e]
theorem Fe.c_list (nm : ByteArray) (rc : Array Value) (bs : Int) : Fe.raw nm rc bs = (Value.string nm :: (rc.toList ++ [Value.int .i64 bs])).toArray := by
 rw [Fe.raw_rows]
 apply Array.toList_inj.1
 simp [rowsOf]
theorem Ag.c_list (nm : ByteArray) (rc : Array Value) (bs : Int) (ec : Array Value) (pd un : Int) : Ag.raw nm rc bs ec pd un = (Value.string nm :: (rc.toList ++ Value.int .i64 bs :: (ec.toList ++ [Value.int .i64 pd, Value.int .i64 un]))).toArray := by
 rw [Ag.raw_rows]
 apply Array.toList_inj.1
 simp [rowsOf]
theorem fee_of {fuel : Nat} {cs : List Value} {x : DataW H × List MemPlace} {b : Nat} {sp : Nat → Bool} {hd : Bool} (h : DataW.trod enc Tryz.prog W b sp hd fuel 29 cs = some x) :
    ∃ nm rc ro bs, cs.toArray = Fe.raw nm rc bs ∧ Rt.Vc ro rc ∧ nm.size ≤ 9223372036854775807 := by
 obtain ⟨f0, f1, f2, hu, t0, o0, t1, o1, t2, o2⟩ := fee_struct
 obtain ⟨xs, n, _, hx, hcl, hlen, hg⟩ := DataW.trod_struct hu h
 rw [fee_cells] at hcl
 have hl3 : xs.length = 3 := by rw [hlen]; rfl
 have g0 := hg 0 f0 rfl
 have g1 := hg 1 f1 rfl
 have g2 := hg 2 f2 rfl
 rw [t0, o0, ac_str_cells, List.getElem?_eq_getElem (by omega)] at g0
 rw [t1, o1, rat_cells66, List.getElem?_eq_getElem (by omega)] at g1
 rw [t2, o2, int_cells, List.getElem?_eq_getElem (by omega)] at g2
 obtain ⟨s1, hs1, _, hsz⟩ := DataW.trod_string Tryz.underlying9 g0
 obtain ⟨s, M, t, N, hM, hN, e1⟩ := rat_of g1
 obtain ⟨z, hz, _⟩ := DataW.trod_int Tryz.underlying3 g2
 obtain ⟨o, ho⟩ := Rt.vc_any (s := s) (t := t) hM hN
 have e0 := ac_drop (ac_one_cell hs1)
 have e2 := ac_drop (ac_one_cell hz)
 refine ⟨s1, _, o, z, ?_, ho, by unfold maxLen at hsz; omega⟩
 rw [Fe.c_list]
 congr 1
 have e5 := (List.take_append_drop 66 (cs.drop 1)).symm
 rw [List.drop_drop, e1] at e5
 have e9 : cs.drop (67 + 1) = [] := List.drop_of_length_le (by omega)
 rw [show 1 + 66 = 67 from rfl, e2, e9] at e5
 rw [List.drop_zero] at e0
 rw [e0, e5]
theorem agg_of {fuel : Nat} {cs : List Value} {x : DataW H × List MemPlace} {b : Nat} {sp : Nat → Bool} {hd : Bool} (h : DataW.trod enc Tryz.prog W b sp hd fuel 31 cs = some x) :
    ∃ a : Ag, cs.toArray = a.c ∧ a.nm.size ≤ 9223372036854775807 := by
 obtain ⟨f0, f1, f2, f3, f4, f5, hu, t0, o0, t1, o1, t2, o2, t3, o3, t4, o4, t5, o5⟩ := agg_struct
 obtain ⟨xs, n, _, hx, hcl, hlen, hg⟩ := DataW.trod_struct hu h
 rw [agg_cells] at hcl
 have hl3 : xs.length = 6 := by rw [hlen]; rfl
 have g0 := hg 0 f0 rfl
 have g1 := hg 1 f1 rfl
 have g2 := hg 2 f2 rfl
 have g3 := hg 3 f3 rfl
 have g4 := hg 4 f4 rfl
 have g5 := hg 5 f5 rfl
 rw [t0, o0, ac_str_cells, List.getElem?_eq_getElem (by omega)] at g0
 rw [t1, o1, rat_cells66, List.getElem?_eq_getElem (by omega)] at g1
 rw [t2, o2, int_cells, List.getElem?_eq_getElem (by omega)] at g2
 rw [t3, o3, rat_cells66, List.getElem?_eq_getElem (by omega)] at g3
 rw [t4, o4, int_cells, List.getElem?_eq_getElem (by omega)] at g4
 rw [t5, o5, int_cells, List.getElem?_eq_getElem (by omega)] at g5
 obtain ⟨s1, hs1, _, hsz⟩ := DataW.trod_string Tryz.underlying9 g0
 obtain ⟨s, M, t, N, hM, hN, e1⟩ := rat_of g1
 obtain ⟨z, hz, _⟩ := DataW.trod_int Tryz.underlying3 g2
 obtain ⟨s', M', t', N', hM', hN', e3⟩ := rat_of g3
 obtain ⟨z4, hz4, _⟩ := DataW.trod_int Tryz.underlying3 g4
 obtain ⟨z5, hz5, _⟩ := DataW.trod_int Tryz.underlying3 g5
 obtain ⟨o, ho⟩ := Rt.vc_any (s := s) (t := t) hM hN
 obtain ⟨o', ho'⟩ := Rt.vc_any (s := s') (t := t') hM' hN'
 have e0 := ac_drop (ac_one_cell hs1)
 have e2 := ac_drop (ac_one_cell hz)
 have e4 := ac_drop (ac_one_cell hz4)
 have e5 := ac_drop (ac_one_cell hz5)
 refine ⟨⟨s1, _, o, z, _, o', z4, z5, ho, ho'⟩, ?_, by show s1.size ≤ _; unfold maxLen at hsz; omega⟩
 show _ = Ag.raw s1 _ z _ z4 z5
 rw [Ag.c_list]
 congr 1
 have e6 := (List.take_append_drop 66 (cs.drop 68)).symm
 rw [List.drop_drop, e3] at e6
 have e9 : cs.drop (135 + 1) = [] := List.drop_of_length_le (by omega)
 rw [show 68 + 66 = 134 from rfl, e4, show 134 + 1 = 135 from rfl, e5, e9] at e6
 have e7 := (List.take_append_drop 66 (cs.drop 1)).symm
 rw [List.drop_drop, e1] at e7
 rw [show 1 + 66 = 67 from rfl, e2, show 67 + 1 = 68 from rfl, e6] at e7
 rw [List.drop_zero] at e0
 rw [e0, e7]
theorem open_fee {v : Value} {d : DataW H} {p : List MemPlace} (hv : Value.okWide Tryz.prog W .any base 29 v) (h : DataW.Trod enc Tryz.prog W 0 (fun _ => true) true 29 v d p) :
    ∃ nm rc ro bs, v = .agg (Fe.raw nm rc bs) ∧ Rt.Vc ro rc ∧ nm.size ≤ 9223372036854775807 := by
 obtain ⟨f0, f1, f2, hu, _⟩ := fee_struct
 obtain ⟨cs, rfl, hsz⟩ := okWide_struct hu hv
 obtain ⟨fuel, hf⟩ := h
 obtain ⟨nm, rc, ro, bs, e, h1, h2⟩ := fee_of hf
 refine ⟨nm, rc, ro, bs, ?_, h1, h2⟩
 rw [← e]
 rfl
theorem open_agg {v : Value} {d : DataW H} {p : List MemPlace} (hv : Value.okWide Tryz.prog W .any base 31 v) (h : DataW.Trod enc Tryz.prog W 0 (fun _ => true) true 31 v d p) :
    ∃ a : Ag, v = .agg a.c ∧ a.nm.size ≤ 9223372036854775807 := by
 obtain ⟨f0, f1, f2, f3, f4, f5, hu, _⟩ := agg_struct
 obtain ⟨cs, rfl, hsz⟩ := okWide_struct hu hv
 obtain ⟨fuel, hf⟩ := h
 obtain ⟨a, e, h1⟩ := agg_of hf
 refine ⟨a, ?_, h1⟩
 rw [← e]
 rfl
end
theorem aexact_arg (nm : ByteArray) (rc : Array Value) (ro : Option Rat) (bs : Int) (a : Ag) (d b m : Int) (w : World) (hv : Rt.Vc ro rc) (hn : nm.size ≤ 9223372036854775807) (han : a.nm.size ≤ 9223372036854775807) (_ : -9223372036854775808 ≤ d) (_ : d < 9223372036854775808) (_ : -9223372036854775808 ≤ b) (_ : b < 9223372036854775808) (_ : -9223372036854775808 ≤ m) (_ : m < 9223372036854775808) :
    Calls Tryz.prog 3 #[.agg (Fe.raw nm rc bs), .agg a.c, .int .i64 d, .int .i64 b, .int .i64 m] w fun r w' => r = .returned (.bool true) ∧ Below w.heap.size w w' :=
 aexact_any nm hn ro rc hv bs a han d b m w
end Go.Proofs.YtmbjaaaeekacfaaGreatDoor
