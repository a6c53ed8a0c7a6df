/- Walks. -/
import Derived.ChangeSlices
import Derived.Test.YtiekmabiecalbaaGreatDoorPa29
namespace Go.Proofs.YtiekmabiecalbaaGreatDoor
set_option maxHeartbeats 16000000
set_option maxRecDepth 8000
section
open Go.RowKit Go.ChangeShapes Go.WideShapes Go.ChangeAt Go.ChangeMaps Go.WideElems
theorem int_cells : Tryz.prog.cellsOf 3 = 1 := by kernel_rfl
section
variable {H : Type} {enc : TypeId × Value → H} {W : World} {base : Nat}
theorem ints_of {fuel : Nat} {cs : List Value} {x : DataW H × List MemPlace} (h : DataW.trod enc Tryz.prog W 0 (fun _ => true) true fuel 22 cs = some x) :
    ∃ (A : Option Addr) (hs : List Int) (c : Nat), cs = [.slice A hs.length c] ∧ IntsAt W A hs ∧ hs.length ≤ 9223372036854775807 ∧ (∀ n ∈ hs, (Lit.int .i64 n).wf = true) := by
 rcases open_ints Tryz.underlying22 Tryz.underlying3 int_cells h with ⟨hcs, _⟩ | ⟨a, len, cap, zs, hcs, _, hl, hm, hz, hx, hcell, hwz⟩
 ·exact ⟨none, [], 0, hcs, IntsAt.nil _ _, by simp, by simp⟩
 ·have hzl : zs.length = cap := by simpa using hz
  have e : (zs.take len).length = len := by rw [List.length_take]; omega
  refine ⟨some a, zs.take len, cap, by rw [e]; exact hcs, ?_, by rw [e]; unfold maxLen at hm; omega, fun n hn => hwz n (List.mem_of_mem_take hn)⟩
  by_cases h0 : len = 0
  ·left; rw [h0]; rfl
  ·right
   obtain ⟨b, off, rfl, hc⟩ := ints_at hcell Zo
   refine ⟨b, off, rfl, ?_, fun j hj => ?_⟩
   ·exact World.block_lt_of_cell? W _ (hc 0 Zo)
   ·rw [e] at hj
    rw [hc j Zo]
    simp [List.getD, hj]
theorem open_slints {v : Value} {d : DataW H} {p : List MemPlace} (hv : Value.okWide Tryz.prog W .any base 22 v) (h : DataW.Trod enc Tryz.prog W 0 (fun _ => true) true 22 v d p) :
    ∃ (A : Option Addr) (xs : List Int) (c : Nat), v = .slice A xs.length c ∧ IntsAt W A xs ∧ xs.length ≤ 9223372036854775807 ∧ (∀ n ∈ xs, (Lit.int .i64 n).wf = true) := by
 obtain ⟨a0, len, cap, rfl⟩ := okWide_slice Tryz.underlying22 hv
 obtain ⟨fuel, hf⟩ := h
 obtain ⟨A, xs, c, hcs, hI, hl, hw⟩ := ints_of hf
 simp [Value.cells] at hcs
 exact ⟨A, xs, c, by simp [hcs], hI, hl, hw⟩
end
end
end Go.Proofs.YtiekmabiecalbaaGreatDoor
