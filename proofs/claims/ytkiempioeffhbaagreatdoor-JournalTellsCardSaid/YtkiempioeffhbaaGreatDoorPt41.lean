/- Walks. -/
import Derived.Test.YtkiempioeffhbaaGreatDoorPt30
import Derived.Test.YtkiempioeffhbaaGreatDoorPt09
namespace Go.Proofs.YtkiempioeffhbaaGreatDoor
set_option maxHeartbeats 16000000
set_option maxRecDepth 8000
section
open Go.RowKit Go.ChangeShapes Go.WideShapes Go.ChangeAt Go.ChangeMaps Go.WideElems
theorem rat_cells66 : Tryz.prog.cellsOf 43 = 66 := by kernel_rfl
theorem rat_struct : ∃ f0 f1 : Field, Tryz.prog.underlying 43 = some (.struct #[f0, f1]) ∧ f0.type = 41 ∧ f0.offset = 0 ∧ f1.type = 41 ∧ f1.offset = 33 := by
 rw [Tryz.underlying43]
 exact ⟨_, _, rfl, rfl, rfl, rfl, rfl⟩
section
variable {H : Type} {enc : TypeId × Value → H} {W : World} {base : Nat}
theorem rat_of {fuel : Nat} {cs : List Value} {x : DataW H × List MemPlace} {b : Nat} {sp : Nat → Bool} {hd : Bool} (h : DataW.trod enc Tryz.prog W b sp hd fuel 43 cs = some x) :
    ∃ (s : Bool) (M : Nat) (t : Bool) (N : Nat), M < Bg.lim ∧ N < Bg.lim ∧ cs = (Bg.ratA s M t N).toList := by
 obtain ⟨f0, f1, hu, t0, o0, t1, o1⟩ := rat_struct
 obtain ⟨xs, n, _, hx, hcl, hlen, hg⟩ := DataW.trod_struct hu h
 rw [rat_cells66] at hcl
 have g0 := hg 0 f0 rfl
 have g1 := hg 1 f1 rfl
 rw [t0, o0, int_cells33] at g0
 rw [t1, o1, int_cells33] at g1
 obtain ⟨x0, hx0⟩ : ∃ x0, xs[0]? = some x0 := ⟨_, List.getElem?_eq_getElem (by rw [hlen]; simp)⟩
 obtain ⟨x1, hx1⟩ : ∃ x1, xs[1]? = some x1 := ⟨_, List.getElem?_eq_getElem (by rw [hlen]; simp)⟩
 rw [hx0] at g0
 rw [hx1] at g1
 obtain ⟨s, M, hM, e0⟩ := big_of g0
 obtain ⟨t, N, hN, e1⟩ := big_of g1
 refine ⟨s, M, t, N, hM, hN, ?_⟩
 have h1 : ∀ j, j < 33 → cs[j]? = (Bg.intA s M)[j]? := by
  intro j hj
  have e : ((cs.drop 0).take 33)[j]? = (Bg.intA s M).toList[j]? := by rw [e0]
  rw [List.getElem?_take_of_lt hj, List.getElem?_drop, Nat.zero_add] at e
  rw [e]; exact Array.getElem?_toList ..
 have h2 : ∀ j, j < 33 → cs[33 + j]? = (Bg.intA t N)[j]? := by
  intro j hj
  have e : ((cs.drop 33).take 33)[j]? = (Bg.intA t N).toList[j]? := by rw [e1]
  rw [List.getElem?_take_of_lt hj, List.getElem?_drop] at e
  rw [e]; exact Array.getElem?_toList ..
 have e := ratA_ext (c := cs.toArray) (s := s) (M := M) (t := t) (N := N) (by simpa using hcl) (fun j hj => by rw [List.getElem?_toArray]; exact h1 j hj) (fun j hj => by rw [List.getElem?_toArray]; exact h2 j hj)
 rw [← e]
end
end
end Go.Proofs.YtkiempioeffhbaaGreatDoor
