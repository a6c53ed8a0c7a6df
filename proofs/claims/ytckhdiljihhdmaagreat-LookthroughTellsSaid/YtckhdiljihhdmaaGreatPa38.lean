/- Walks, and plain facts for them. -/
import Derived.ChangeMaps5
import Derived.Test.YtckhdiljihhdmaaGreatPa07
import Derived.Test.YtckhdiljihhdmaaGreatPa17
namespace Go.Proofs.YtckhdiljihhdmaaGreat
set_option maxRecDepth 8000
open Go.RowKit Go.ChangeShapes Go.WideShapes Go.ChangeAt Go.ChangeMaps Go.WideElems
theorem list_of {α β : Type} {f : α → β} {Q : α → Prop} {m : List β} (h : ∀ c ∈ m, ∃ x, c = f x ∧ Q x) : ∃ M : List α, m = M.map f ∧ ∀ x ∈ M, Q x := by
 induction m with
 | nil => exact ⟨[], rfl, by simp⟩
 | cons c m ih =>
  obtain ⟨M, rfl, hM⟩ := ih (fun d hd => h d (List.mem_cons_of_mem _ hd))
  obtain ⟨x, rfl, hx⟩ := h c List.mem_cons_self
  exact ⟨x :: M, rfl, by
   intro y hy
   rcases List.mem_cons.1 hy with rfl | hy
   ·exact hx
   ·exact hM y hy⟩
theorem ints_cells : Tryz.prog.cellsOf 22 = 1 := by kernel_rfl
theorem rows_cells : Tryz.prog.cellsOf 23 = 1 := by kernel_rfl
theorem nest_struct : ∃ f0 f1 : Field, Tryz.prog.underlying 25 = some (.struct #[f0, f1]) ∧ f0.type = 22 ∧ f0.offset = 0 ∧ f1.type = 23 ∧ f1.offset = 1 := by
 rw [Tryz.underlying25]
 exact ⟨_, _, rfl, rfl, rfl, rfl, rfl⟩
section
variable {H : Type} {enc : TypeId × Value → H} {W : World} {base : Nat}
theorem ints_rd {fuel : Nat} {cs : List Value} {x : DataW H × List MemPlace} {b : Nat} {sp : Nat → Bool} {hd : Bool} (h : DataW.trod enc Tryz.prog W b sp hd fuel 22 cs = some x) : ∃ v l, cs = [v] ∧ RdI W v l := by
 obtain ⟨A, m, cap, rfl, hR, hl, hw⟩ := open_rows Tryz.underlying22 int_cells (by decide) h
 obtain ⟨M, rfl, _⟩ := list_of (f := ic) (Q := fun _ => True) (m := m) (fun c hc => by
  obtain ⟨f, y, hy⟩ := hw c hc
  obtain ⟨z, hz, _⟩ := DataW.trod_int Tryz.underlying3 hy
  exact ⟨z, Array.toList_inj.1 hz, trivial⟩)
 exact ⟨_, M, rfl, hR⟩
theorem rows_rd {fuel : Nat} {cs : List Value} {x : DataW H × List MemPlace} {b : Nat} {sp : Nat → Bool} {hd : Bool} (h : DataW.trod enc Tryz.prog W b sp hd fuel 23 cs = some x) : ∃ v l, cs = [v] ∧ RdH W v l := by
 obtain ⟨A, m, cap, rfl, hR, hl, hw⟩ := open_rows Tryz.underlying23 ints_cells (by decide) h
 obtain ⟨M, rfl, hM⟩ := list_of (f := fun p : Value × List Int => vc p.1) (Q := fun p => RdI W p.1 p.2) (m := m) (fun c hc => by
  obtain ⟨f, y, hy⟩ := hw c hc
  obtain ⟨v, l, e, hv⟩ := ints_rd hy
  exact ⟨(v, l), Array.toList_inj.1 e, hv⟩)
 refine ⟨_, M.map (·.2), rfl, M.map (·.1), ?_, by simp, fun i l hi => ?_⟩
 ·rw [List.map_map]; exact hR
 ·rw [List.getElem?_map] at hi ⊢
  cases hp : M[i]? with
  | none => rw [hp] at hi; cases hi
  | some p =>
   rw [hp] at hi
   injection hi with hi
   subst hi
   exact ⟨p.1, rfl, hM p (List.mem_of_getElem? hp)⟩
theorem open_nest {v : Value} {d : DataW H} {p : List MemPlace} (hv : Value.okWide Tryz.prog W .any base 25 v) (h : DataW.Trod enc Tryz.prog W 0 (fun _ => true) true 25 v d p) :
    ∃ us hs U Hs, v = .agg #[us, hs] ∧ RdN W us hs U Hs := by
 obtain ⟨f0, f1, hu, t0, o0, t1, o1⟩ := nest_struct
 obtain ⟨cs, rfl, hsz⟩ := okWide_struct hu hv
 obtain ⟨fuel, hf⟩ := h
 obtain ⟨xs, n, _, hx, hcl, hlen, hg⟩ := DataW.trod_struct hu hf
 have hl2 : xs.length = 2 := by rw [hlen]; rfl
 have g0 := hg 0 f0 rfl
 have g1 := hg 1 f1 rfl
 rw [t0, o0, ints_cells, List.getElem?_eq_getElem (by omega)] at g0
 rw [t1, o1, rows_cells, List.getElem?_eq_getElem (by omega)] at g1
 obtain ⟨us, U, e0, hU⟩ := ints_rd g0
 obtain ⟨hs, Hs, e1, hH⟩ := rows_rd g1
 refine ⟨us, hs, U, Hs, ?_, hU, hH⟩
 have hc2 : cs.toList.length = 2 := by
  have e : Tryz.prog.cellsOf 25 = 2 := by kernel_rfl
  rw [← e]; exact hcl
 congr 1
 apply Array.toList_inj.1
 change (cs.toList.drop 0).take 1 = _ at e0
 change (cs.toList.drop 1).take 1 = _ at e1
 generalize cs.toList = l at *
 match l, hc2 with
 | [a, b], _ => simp at e0 e1; rw [e0, e1]
end
end Go.Proofs.YtckhdiljihhdmaaGreat
