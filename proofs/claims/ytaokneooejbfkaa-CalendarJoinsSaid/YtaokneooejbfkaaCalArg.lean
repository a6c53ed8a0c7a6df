/- An argument of type api.Calendar, opened. -/
import Derived.Test.YtaokneooejbfkaaShut
import Derived.Test.YtaokneooejbfkaaEngA
import Derived.ChangeSlices
namespace Go.Proofs.Ytaokneooejbfkaa
set_option maxRecDepth 8000
open Go.RowKit Go.ChangeShapes Go.WideShapes Go.ChangeAt Go.ChangeMaps Go.WideElems
theorem cal_cells : Try.prog.cellsOf 25 = 9 := by kernel_rfl
theorem int_cells : Try.prog.cellsOf 3 = 1 := by kernel_rfl
theorem bool_cells' : Try.prog.cellsOf 4 = 1 := by kernel_rfl
theorem str_cells : Try.prog.cellsOf 9 = 1 := by kernel_rfl
theorem week_cells : Try.prog.cellsOf 23 = 7 := by kernel_rfl
theorem sl_cells : Try.prog.cellsOf 22 = 1 := by kernel_rfl
theorem cal_struct : ∃ f0 f1 f2 : Field, Try.prog.underlying 25 = some (.struct #[f0, f1, f2]) ∧ f0.type = 9 ∧ f0.offset = 0 ∧ f1.type = 23 ∧ f1.offset = 1 ∧ f2.type = 22 ∧ f2.offset = 8 := by
  rw [Try.underlying25]
  exact ⟨_, _, _, rfl, rfl, rfl, rfl, rfl, rfl, rfl⟩
theorem nine {l : List Value} (h : l.length = 9) : ∃ a0 a1 a2 a3 a4 a5 a6 a7 a8, l = [a0, a1, a2, a3, a4, a5, a6, a7, a8] := by
  match l, h with
  | [a0, a1, a2, a3, a4, a5, a6, a7, a8], _ => exact ⟨a0, a1, a2, a3, a4, a5, a6, a7, a8, rfl⟩
section
variable {H : Type} {enc : TypeId × Value → H} {W : World} {base : Nat}
theorem ints_of {fuel : Nat} {cs : List Value} {x : DataW H × List MemPlace} (h : DataW.trod enc Try.prog W 0 (fun _ => true) true fuel 22 cs = some x) :
    ∃ (A : Option Addr) (hs : List Int) (c : Nat), cs = [.slice A hs.length c] ∧ IntsAt W A hs ∧ hs.length ≤ 9223372036854775807 ∧ (∀ n ∈ hs, (Lit.int .i64 n).wf = true) := by
  rcases open_ints Try.underlying22 Try.underlying3 int_cells h with ⟨hcs, _⟩ | ⟨a, len, cap, zs, hcs, _, hl, hm, hz, hx, hcell, hwz⟩
  · exact ⟨none, [], 0, hcs, IntsAt.nil _ _, by simp, by simp⟩
  · have hzl : zs.length = cap := by simpa using hz
    have e : (zs.take len).length = len := by rw [List.length_take]; omega
    refine ⟨some a, zs.take len, cap, by rw [e]; exact hcs, ?_, by rw [e]; unfold maxLen at hm; omega, fun n hn => hwz n (List.mem_of_mem_take hn)⟩
    by_cases h0 : len = 0
    · left; rw [h0]; rfl
    · right
      obtain ⟨b, off, rfl, hc⟩ := ints_at hcell (by omega)
      refine ⟨b, off, rfl, ?_, fun j hj => ?_⟩
      · exact World.block_lt_of_cell? W _ (hc 0 (by omega))
      · rw [e] at hj
        rw [hc j (by omega)]
        simp [List.getD, hj]
theorem open_cal {v : Value} {d : DataW H} {p : List MemPlace} (hv : Value.okWide Try.prog W .any base 25 v) (h : DataW.Trod enc Try.prog W 0 (fun _ => true) true 25 v d p) :
    ∃ (s : ByteArray) (k : Nat → Bool) (A : Option Addr) (hs : List Int) (c : Nat), v = .agg #[.string s, .bool (k 0), .bool (k 1), .bool (k 2), .bool (k 3), .bool (k 4), .bool (k 5), .bool (k 6), .slice A hs.length c] ∧ IntsAt W A hs ∧ hs.length ≤ 9223372036854775807 := by
  obtain ⟨f0, f1, f2, hu, t0, o0, t1, o1, t2, o2⟩ := cal_struct
  obtain ⟨cs, rfl, hsz⟩ := okWide_struct hu hv
  obtain ⟨fuel, hf⟩ := h
  obtain ⟨xs, n, _, hx, _, hlen, hg⟩ := DataW.trod_struct hu hf
  obtain ⟨l⟩ := cs
  obtain ⟨a0, a1, a2, a3, a4, a5, a6, a7, a8, rfl⟩ := nine (by simpa [cal_cells] using hsz)
  have g0 := hg 0 f0 rfl
  have g1 := hg 1 f1 rfl
  have g2 := hg 2 f2 rfl
  rw [t0, o0, str_cells] at g0
  rw [t1, o1, week_cells] at g1
  rw [t2, o2, sl_cells] at g2
  simp only [Value.cells] at g0 g1 g2
  obtain ⟨x0, hx0⟩ : ∃ x0, xs[0]? = some x0 := ⟨_, List.getElem?_eq_getElem (by rw [hlen]; simp)⟩
  obtain ⟨x1, hx1⟩ : ∃ x1, xs[1]? = some x1 := ⟨_, List.getElem?_eq_getElem (by rw [hlen]; simp)⟩
  obtain ⟨x2, hx2⟩ : ∃ x2, xs[2]? = some x2 := ⟨_, List.getElem?_eq_getElem (by rw [hlen]; simp)⟩
  rw [hx0] at g0
  rw [hx1] at g1
  rw [hx2] at g2
  obtain ⟨s, hs0, _, _⟩ := DataW.trod_string Try.underlying9 g0
  obtain ⟨A, hs, c, hs2, hA, hl, _⟩ := ints_of g2
  obtain ⟨ys, m, _, _, _, hyl, hy⟩ := DataW.trod_array Try.underlying23 g1
  have hb : ∀ i, i < 7 → ∃ b, ((([a0, a1, a2, a3, a4, a5, a6, a7, a8].drop 1).take 7).drop i).take 1 = [Value.bool b] := by
    intro i hi
    have h1 := hy i hi
    rw [bool_cells', Nat.mul_one] at h1
    obtain ⟨yi, hyi⟩ : ∃ yi, ys[i]? = some yi := ⟨_, List.getElem?_eq_getElem (by omega)⟩
    rw [hyi] at h1
    obtain ⟨b, hb, _⟩ := DataW.trod_bool Try.underlying4 h1
    exact ⟨b, hb⟩
  obtain ⟨b0, e0⟩ := hb 0 (by omega)
  obtain ⟨b1, e1⟩ := hb 1 (by omega)
  obtain ⟨b2, e2⟩ := hb 2 (by omega)
  obtain ⟨b3, e3⟩ := hb 3 (by omega)
  obtain ⟨b4, e4⟩ := hb 4 (by omega)
  obtain ⟨b5, e5⟩ := hb 5 (by omega)
  obtain ⟨b6, e6⟩ := hb 6 (by omega)
  simp at e0 e1 e2 e3 e4 e5 e6 hs0 hs2
  subst e0 e1 e2 e3 e4 e5 e6 hs0 hs2
  exact ⟨s, fun i => [b0, b1, b2, b3, b4, b5, b6].getD i false, A, hs, c, rfl, hA, hl⟩
theorem open_slints {v : Value} {d : DataW H} {p : List MemPlace} (hv : Value.okWide Try.prog W .any base 22 v) (h : DataW.Trod enc Try.prog W 0 (fun _ => true) true 22 v d p) :
    ∃ (A : Option Addr) (xs : List Int) (c : Nat), v = .slice A xs.length c ∧ IntsAt W A xs ∧ xs.length ≤ 9223372036854775807 ∧ (∀ n ∈ xs, (Lit.int .i64 n).wf = true) := by
  obtain ⟨a0, len, cap, rfl⟩ := okWide_slice Try.underlying22 hv
  obtain ⟨fuel, hf⟩ := h
  obtain ⟨A, xs, c, hcs, hI, hl, hw⟩ := ints_of hf
  simp [Value.cells] at hcs
  exact ⟨A, xs, c, by simp [hcs], hI, hl, hw⟩
end
end Go.Proofs.Ytaokneooejbfkaa
