/- Walks, and plain facts for them. -/
import Derived.Test.YtckhdiljihhdmaaGreatPa38
import Derived.Test.YtckhdiljihhdmaaGreatPa37
namespace Go.Proofs.YtckhdiljihhdmaaGreat
set_option maxRecDepth 8000
open Go.RowKit Go.ChangeShapes Go.WideShapes Go.ChangeAt Go.ChangeMaps Go.WideElems
theorem hold_cells : Tryz.prog.cellsOf 54 = 2 := by kernel_rfl
theorem holds_cells : Tryz.prog.cellsOf 27 = 1 := by kernel_rfl
theorem lk_str_cells : Tryz.prog.cellsOf 9 = 1 := by kernel_rfl
theorem hold_struct : ∃ f0 f1 : Field, Tryz.prog.underlying 54 = some (.struct #[f0, f1]) ∧ f0.type = 9 ∧ f0.offset = 0 ∧ f1.type = 3 ∧ f1.offset = 1 := by
 rw [Tryz.underlying54]
 exact ⟨_, _, rfl, rfl, rfl, rfl, rfl⟩
theorem lk_one_cell {cs : List Value} {k : Nat} {v : Value} (h : (cs.drop k).take 1 = [v]) : cs[k]? = some v := by
 have e : ((cs.drop k).take 1)[0]? = some v := by rw [h]; rfl
 rw [List.getElem?_take_of_lt (by omega), List.getElem?_drop] at e
 exact e
section
variable {H : Type} {enc : TypeId × Value → H} {W : World} {base : Nat}
theorem hold_of {fuel : Nat} {cs : List Value} {x : DataW H × List MemPlace} {b : Nat} {sp : Nat → Bool} {hd : Bool} (h : DataW.trod enc Tryz.prog W b sp hd fuel 54 cs = some x) :
    ∃ m : Lk.H, cs.toArray = Lk.H.c m ∧ m.nm.size ≤ 9223372036854775807 := by
 obtain ⟨f0, f1, hu, t0, o0, t1, o1⟩ := hold_struct
 obtain ⟨xs, n, _, hx, hcl, hlen, hg⟩ := DataW.trod_struct hu h
 rw [hold_cells] at hcl
 have hl3 : xs.length = 2 := by rw [hlen]; rfl
 have g0 := hg 0 f0 rfl
 have g1 := hg 1 f1 rfl
 rw [t0, o0, lk_str_cells, List.getElem?_eq_getElem (by omega)] at g0
 rw [t1, o1, int_cells, List.getElem?_eq_getElem (by omega)] at g1
 obtain ⟨s, hs, _, hsz⟩ := DataW.trod_string Tryz.underlying9 g0
 obtain ⟨z, hz, _⟩ := DataW.trod_int Tryz.underlying3 g1
 refine ⟨⟨s, z⟩, ?_, by unfold maxLen at hsz; omega⟩
 have e0 := lk_one_cell hs
 have e1 := lk_one_cell hz
 apply Array.ext_getElem?
 intro j
 rw [List.getElem?_toArray]
 match j with
 | 0 => exact e0
 | 1 => exact e1
 | j + 2 => rw [List.getElem?_eq_none (by omega)]; rfl
theorem holds_rd {fuel : Nat} {cs : List Value} {x : DataW H × List MemPlace} {b : Nat} {sp : Nat → Bool} {hd : Bool} (h : DataW.trod enc Tryz.prog W b sp hd fuel 27 cs = some x) : ∃ v l, cs = [v] ∧ RdO W v l := by
 obtain ⟨A, m, cap, rfl, hR, hl, hw⟩ := open_rows Tryz.underlying27 hold_cells (by decide) h
 obtain ⟨M, rfl, hM⟩ := list_of (f := Lk.H.c) (Q := fun h => h.nm.size ≤ 9223372036854775807) (m := m) (fun c hc => by
  obtain ⟨f, y, hy⟩ := hw c hc
  obtain ⟨z, hz, hs⟩ := hold_of hy
  exact ⟨z, by rw [← hz], hs⟩)
 exact ⟨_, M, rfl, hR, hM⟩
theorem open_holds {v : Value} {d : DataW H} {p : List MemPlace} (hv : Value.okWide Tryz.prog W .any base 26 v) (h : DataW.Trod enc Tryz.prog W 0 (fun _ => true) true 26 v d p) : ∃ L, RdL W v L ∧ L.length ≤ 9223372036854775807 := by
 obtain ⟨a0, len, cap, rfl⟩ := okWide_slice Tryz.underlying26 hv
 obtain ⟨fuel, hf⟩ := h
 obtain ⟨A, m, cap2, hcs, hR, hl, hw⟩ := open_rows Tryz.underlying26 holds_cells (by decide) hf
 obtain ⟨M, rfl, hM⟩ := list_of (f := fun p : Value × List Lk.H => vc p.1) (Q := fun p => RdO W p.1 p.2) (m := m) (fun c hc => by
  obtain ⟨f, y, hy⟩ := hw c hc
  obtain ⟨v, l, e, hv⟩ := holds_rd hy
  exact ⟨(v, l), Array.toList_inj.1 e, hv⟩)
 simp [Value.cells] at hcs
 refine ⟨M.map (·.2), ⟨M.map (·.1), ?_, by simp, fun i l hi => ?_⟩, ?_⟩
 ·rw [hcs.1, hcs.2.1, hcs.2.2, List.map_map]
  rw [List.length_map] at hR
  exact hR
 ·rw [List.getElem?_map] at hi ⊢
  cases hp : M[i]? with
  | none => rw [hp] at hi; cases hi
  | some p =>
   rw [hp] at hi
   injection hi with hi
   subst hi
   exact ⟨p.1, rfl, hM p (List.mem_of_getElem? hp)⟩
 ·rw [List.length_map] at hl ⊢
  unfold maxLen at hl; omega
end
end Go.Proofs.YtckhdiljihhdmaaGreat
