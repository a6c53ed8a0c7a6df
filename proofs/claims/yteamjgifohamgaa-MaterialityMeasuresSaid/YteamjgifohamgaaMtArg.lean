/- Arguments: differences, opened; MaterialityMeasures over them. -/
import Derived.Test.YteamjgifohamgaaMtM
import Derived.Test.YteamjgifohamgaaRecs
import Derived.Test.YteamjgifohamgaaRatArg
import Derived.ChangeMaps5
namespace Go.Proofs.Yteamjgifohamgaa
set_option maxRecDepth 8000
open Go.RowKit Go.ChangeShapes Go.WideShapes Go.ChangeAt Go.ChangeMaps Go.WideElems
theorem list_of {α β : Type} {f : α → β} {Q : α → Prop} {m : List β} (h : ∀ c ∈ m, ∃ x, c = f x ∧ Q x) : ∃ M : List α, m = M.map f ∧ ∀ x ∈ M, Q x := by
  induction m with
  | nil => exact ⟨[], rfl, by simp⟩
  | cons c m ih =>
    obtain ⟨M, rfl, hM⟩ := ih (fun d hd => h d (List.mem_cons_of_mem _ hd))
    obtain ⟨x, rfl, hx⟩ := h c List.mem_cons_self
    exact ⟨x :: M, rfl, by
      intro y hy
      rcases List.mem_cons.1 hy with rfl | hy
      · exact hx
      · exact hM y hy⟩
theorem diff_cells : Try.prog.cellsOf 30 = 135 := by kernel_rfl
theorem str_cells : Try.prog.cellsOf 9 = 1 := by kernel_rfl
theorem diff_struct : ∃ f0 f1 f2 f3 f4 : Field, Try.prog.underlying 30 = some (.struct #[f0, f1, f2, f3, f4]) ∧ f0.type = 3 ∧ f0.offset = 0 ∧ f1.type = 9 ∧ f1.offset = 1 ∧ f2.type = 9 ∧ f2.offset = 2 ∧ f3.type = 28 ∧ f3.offset = 3 ∧ f4.type = 28 ∧ f4.offset = 69 := by
  rw [Try.underlying30]
  exact ⟨_, _, _, _, _, rfl, rfl, rfl, rfl, rfl, rfl, rfl, rfl, rfl, rfl, rfl⟩
section
variable {H : Type} {enc : TypeId × Value → H} {W : World} {base : Nat}
theorem one_cell {cs : List Value} {k : Nat} {v : Value} (h : (cs.drop k).take 1 = [v]) : cs[k]? = some v := by
  have e : ((cs.drop k).take 1)[0]? = some v := by rw [h]; rfl
  rw [List.getElem?_take_of_lt (by omega), List.getElem?_drop] at e
  exact e
theorem Mt.c_list (d : Mt.D) : Mt.c d = (Value.int .i64 d.day :: Value.string d.fund :: Value.string d.cls :: (d.cw.toList ++ d.ci.toList)).toArray := by
  rw [Mt.c_rows]
  apply Array.toList_inj.1
  simp [rowsOf]
theorem diff_of {fuel : Nat} {cs : List Value} {x : DataW H × List MemPlace} {b : Nat} {sp : Nat → Bool} {hd : Bool} (h : DataW.trod enc Try.prog W b sp hd fuel 30 cs = some x) :
    ∃ m : Mt.D, cs.toArray = Mt.c m := by
  obtain ⟨f0, f1, f2, f3, f4, hu, t0, o0, t1, o1, t2, o2, t3, o3, t4, o4⟩ := diff_struct
  obtain ⟨xs, n, _, hx, hcl, hlen, hg⟩ := DataW.trod_struct hu h
  rw [diff_cells] at hcl
  have hl3 : xs.length = 5 := by rw [hlen]; rfl
  have g0 := hg 0 f0 rfl
  have g1 := hg 1 f1 rfl
  have g2 := hg 2 f2 rfl
  have g3 := hg 3 f3 rfl
  have g4 := hg 4 f4 rfl
  rw [t0, o0, int_cells, List.getElem?_eq_getElem (by omega)] at g0
  rw [t1, o1, str_cells, List.getElem?_eq_getElem (by omega)] at g1
  rw [t2, o2, str_cells, List.getElem?_eq_getElem (by omega)] at g2
  rw [t3, o3, rat_cells66, List.getElem?_eq_getElem (by omega)] at g3
  rw [t4, o4, rat_cells66, List.getElem?_eq_getElem (by omega)] at g4
  obtain ⟨z, hz, _⟩ := DataW.trod_int Try.underlying3 g0
  obtain ⟨s1, hs1, _⟩ := DataW.trod_string Try.underlying9 g1
  obtain ⟨s2, hs2, _⟩ := DataW.trod_string Try.underlying9 g2
  obtain ⟨s, M, t, N, hM, hN, e3⟩ := rat_of g3
  obtain ⟨s', M', t', N', hM', hN', e4⟩ := rat_of g4
  obtain ⟨o, ho⟩ := Rt.vc_any (s := s) (t := t) hM hN
  obtain ⟨o', ho'⟩ := Rt.vc_any (s := s') (t := t') hM' hN'
  have e0 := one_cell hz
  have e1 := one_cell hs1
  have e2 := one_cell hs2
  refine ⟨⟨z, s1, s2, _, _, o, o', ho, ho'⟩, ?_⟩
  rw [Mt.c_list]
  congr 1
  show cs = Value.int .i64 z :: Value.string s1 :: Value.string s2 :: (_ ++ _)
  have d69 : cs.drop 69 = (Bg.ratA s' M' t' N').toList := by
    rw [← e4, List.take_of_length_le (by rw [List.length_drop]; omega)]
  have d3 : cs.drop 3 = (Bg.ratA s M t N).toList ++ (Bg.ratA s' M' t' N').toList := by
    have e5 := (List.take_append_drop 66 (cs.drop 3)).symm
    rw [List.drop_drop, e3, d69] at e5
    exact e5
  rw [← d3]
  match cs, e0, e1, e2 with
  | [], e0, _, _ => simp at e0
  | [_], _, e1, _ => simp at e1
  | [_, _], _, _, e2 => simp at e2
  | a :: b :: c :: r, e0, e1, e2 =>
    simp at e0 e1 e2
    subst e0 e1 e2
    rfl
theorem open_diffs {v : Value} {d : DataW H} {p : List MemPlace} (hv : Value.okWide Try.prog W .any base 22 v) (h : DataW.Trod enc Try.prog W 0 (fun _ => true) true 22 v d p) :
    ∃ L : List Mt.D, RdS 135 W v (L.map Mt.c) := by
  obtain ⟨A, m, cap, rfl, hR, hl, hc⟩ := open_slrows Try.underlying22 diff_cells (by decide) hv h
  obtain ⟨M, rfl, _⟩ := list_of (f := Mt.c) (Q := fun _ => True) (fun c hcm => by
    obtain ⟨f, y, hy⟩ := hc c hcm
    obtain ⟨mk, e⟩ := diff_of hy
    exact ⟨mk, by rw [← e], trivial⟩)
  exact ⟨M, hR⟩
theorem open_diff {v : Value} {d : DataW H} {p : List MemPlace} (hv : Value.okWide Try.prog W .any base 30 v) (h : DataW.Trod enc Try.prog W 0 (fun _ => true) true 30 v d p) :
    ∃ m : Mt.D, v = .agg (Mt.c m) := by
  obtain ⟨f0, f1, f2, f3, f4, hu, _⟩ := diff_struct
  obtain ⟨cs, rfl, hsz⟩ := okWide_struct hu hv
  obtain ⟨fuel, hf⟩ := h
  obtain ⟨m, e⟩ := diff_of hf
  refine ⟨m, ?_⟩
  rw [← e]
  rfl
end
theorem measures_arg (sv : Value) (L : List Mt.D) (d : Mt.D) (s : Bool) (M : Nat) (t : Bool) (N : Nat) (w : World) (hR : RdS 135 w sv (L.map Mt.c)) (hM : M < Bg.lim) (hN : N < Bg.lim) :
    Calls Try.prog 3 #[sv, .agg (Mt.c d), .agg (Bg.ratA s M t N)] w fun r w' => r = .returned (.bool true) ∧ Below w.heap.size w w' := by
  obtain ⟨o, ho⟩ := Rt.vc_any (s := s) (t := t) hM hN
  exact measures_any sv L d o _ w hR ho
end Go.Proofs.Yteamjgifohamgaa
