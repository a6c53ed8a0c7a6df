/- An argument that is a list of marks, opened. -/
import Derived.Test.YtipkmppoppjmeaaAsX
import Derived.Test.YtipkmppoppjmeaaRecs
import Derived.ChangeMaps5
namespace Go.Proofs.Ytipkmppoppjmeaa
set_option maxRecDepth 8000
open Go.RowKit Go.ChangeShapes Go.WideShapes Go.ChangeAt Go.ChangeMaps Go.WideElems
theorem list_of {α β : Type} {f : α → β} {Q : α → Prop} {m : List β} (h : ∀ c ∈ m, ∃ x, c = f x ∧ Q x) : ∃ M : List α, m = M.map f ∧ ∀ x ∈ M, Q x := by
  induction m with
  | nil => exact ⟨[], rfl, by simp⟩
  | cons c m ih =>
    obtain ⟨M, rfl, hM⟩ := ih (fun d hd => h d (List.mem_cons_of_mem _ hd))
    obtain ⟨x, rfl, hx⟩ := h c List.mem_cons_self
    exact ⟨x :: M, rfl, by
      intro y hy
      rcases List.mem_cons.1 hy with rfl | hy
      · exact hx
      · exact hM y hy⟩
theorem mark_cells : Try.prog.cellsOf 46 = 3 := by kernel_rfl
theorem str_cells : Try.prog.cellsOf 9 = 1 := by kernel_rfl
theorem bool_cells : Try.prog.cellsOf 4 = 1 := by kernel_rfl
theorem mark_struct : ∃ f0 f1 f2 : Field, Try.prog.underlying 46 = some (.struct #[f0, f1, f2]) ∧ f0.type = 9 ∧ f0.offset = 0 ∧ f1.type = 3 ∧ f1.offset = 1 ∧ f2.type = 4 ∧ f2.offset = 2 := by
  rw [Try.underlying46]
  exact ⟨_, _, _, rfl, rfl, rfl, rfl, rfl, rfl, rfl⟩
section
variable {H : Type} {enc : TypeId × Value → H} {W : World} {base : Nat}
theorem one_cell {cs : List Value} {k : Nat} {v : Value} (h : (cs.drop k).take 1 = [v]) : cs[k]? = some v := by
  have e : ((cs.drop k).take 1)[0]? = some v := by rw [h]; rfl
  rw [List.getElem?_take_of_lt (by omega), List.getElem?_drop] at e
  exact e
theorem mark_of {fuel : Nat} {cs : List Value} {x : DataW H × List MemPlace} {b : Nat} {sp : Nat → Bool} {hd : Bool} (h : DataW.trod enc Try.prog W b sp hd fuel 46 cs = some x) :
    ∃ m : As.Mk, cs.toArray = As.c m := by
  obtain ⟨f0, f1, f2, hu, t0, o0, t1, o1, t2, o2⟩ := mark_struct
  obtain ⟨xs, n, _, hx, hcl, hlen, hg⟩ := DataW.trod_struct hu h
  rw [mark_cells] at hcl
  have hl3 : xs.length = 3 := by rw [hlen]; rfl
  have g0 := hg 0 f0 rfl
  have g1 := hg 1 f1 rfl
  have g2 := hg 2 f2 rfl
  rw [t0, o0, str_cells, List.getElem?_eq_getElem (by omega)] at g0
  rw [t1, o1, int_cells, List.getElem?_eq_getElem (by omega)] at g1
  rw [t2, o2, bool_cells, List.getElem?_eq_getElem (by omega)] at g2
  obtain ⟨s, hs, _⟩ := DataW.trod_string Try.underlying9 g0
  obtain ⟨z, hz, _⟩ := DataW.trod_int Try.underlying3 g1
  obtain ⟨d, hd, _⟩ := DataW.trod_bool Try.underlying4 g2
  refine ⟨⟨s, z, d⟩, ?_⟩
  have e0 := one_cell hs
  have e1 := one_cell hz
  have e2 := one_cell hd
  apply Array.ext_getElem?
  intro j
  rw [List.getElem?_toArray]
  match j with
  | 0 => exact e0
  | 1 => exact e1
  | 2 => exact e2
  | j + 3 => rw [List.getElem?_eq_none (by omega)]; rfl
theorem open_marks {v : Value} {d : DataW H} {p : List MemPlace} (hv : Value.okWide Try.prog W .any base 22 v) (h : DataW.Trod enc Try.prog W 0 (fun _ => true) true 22 v d p) :
    ∃ M : List As.Mk, As.Rd W v M := by
  obtain ⟨A, m, cap, rfl, hR, hl, hc⟩ := open_slrows Try.underlying22 mark_cells (by decide) hv h
  obtain ⟨M, rfl, _⟩ := list_of (f := As.c) (Q := fun _ => True) (fun c hcm => by
    obtain ⟨f, y, hy⟩ := hc c hcm
    obtain ⟨mk, e⟩ := mark_of hy
    exact ⟨mk, by rw [← e], trivial⟩)
  refine ⟨M, hR, ?_⟩
  rw [List.length_map] at hl
  unfold maxLen at hl; omega
end
theorem aexact_any (sv : Value) (M : List As.Mk) (k k2 : Int) (key : ByteArray) (w : World) (hR : As.Rd w sv M) (_ : -9223372036854775808 ≤ k) (_ : k < 9223372036854775808) (_ : -9223372036854775808 ≤ k2) (_ : k2 < 9223372036854775808) (hs : key.size ≤ maxLen) :
    Calls Try.prog 3 #[sv, .int .i64 k, .int .i64 k2, .string key] w fun e w' => e = .returned (.bool true) ∧ Below w.heap.size w w' := exact_any sv M k k2 key w hR hs
end Go.Proofs.Ytipkmppoppjmeaa
