/- Walks. -/
import Derived.Test.YtkiempioeffhbaaGreatDoorPt30
import Derived.Test.YtkiempioeffhbaaGreatDoorPt04
namespace Go.Proofs.YtkiempioeffhbaaGreatDoor
set_option maxHeartbeats 16000000
set_option maxRecDepth 8000
section
open Go.RowKit Go.ChangeShapes Go.WideShapes Go.ChangeAt Go.ChangeMaps Go.WideElems
section
variable {H : Type} {enc : TypeId × Value → H} {W : World} {base : Nat}
theorem open_rows {t e : TypeId} {n b0 fuel : Nat} {cs : List Value} {x : DataW H × List MemPlace} {sp : Nat → Bool} {hd : Bool} (ht : Tryz.prog.underlying t = some (.slice e)) (hc : Tryz.prog.cellsOf e = n) (h0 : 0 < n) (h : DataW.trod enc Tryz.prog W b0 sp hd fuel t cs = some x) :
    ∃ (A : Option Addr) (m : List (Array Value)) (cap : Nat), cs = [.slice A m.length cap] ∧ RdS n W (.slice A m.length cap) m ∧ m.length ≤ maxLen ∧ ∀ c ∈ m, ∃ f y, DataW.trod enc Tryz.prog W b0 sp hd f e c.toList = some y := by
 rcases DataW.trod_slice ht h with ⟨rfl, _⟩ | ⟨a, len, cap, elems, rest, k, rfl, rfl, rfl, hb, hl, hm, hlen, hel, _, _⟩
 ·exact ⟨none, [], 0, rfl, ⟨by simp, none, 0, rfl, Nat.le_refl _, .inl rfl⟩, by simp, by simp⟩
 rw [hc] at hel
 obtain ⟨m, hmdef⟩ : ∃ m : List (Array Value), m = (List.range len).map (fun i => ((W.cells? b0 (a.add (i * n)) n).getD []).toArray) := ⟨_, rfl⟩
 have hml : m.length = len := by rw [hmdef]; simp
 have each : ∀ (i : Nat), i < len → ∃ cs' y, W.cells? b0 (a.add (i * n)) n = some cs' ∧ m[i]? = some cs'.toArray ∧ cs'.length = n ∧ DataW.trod enc Tryz.prog W b0 sp hd k e cs' = some y ∧ ∀ j, j < n → W.cell? ((a.add (i * n)).add j) = cs'[j]? := by
  intro i hi
  have h1 := hel i hi
  rw [List.getElem?_eq_getElem Zo, Option.bind_eq_some_iff] at h1
  obtain ⟨cs', hcs, hy⟩ := h1
  obtain ⟨_, g2, g3⟩ := World.cells?_some hcs
  refine ⟨cs', _, hcs, ?_, g2, hy, g3⟩
  rw [hmdef, List.getElem?_map, List.getElem?_range hi]
  simp [hcs]
 have hsz : ∀ c ∈ m, c.size = n := by
  intro c hcm
  obtain ⟨i, hi⟩ := List.getElem?_of_mem hcm
  obtain ⟨cs', y, _, e1, e2, _⟩ := each i (by have := (List.getElem?_eq_some_iff.1 hi).1; omega)
  rw [hi] at e1; injection e1 with e1; rw [e1]; simpa using e2
 refine ⟨some a, m, cap, by rw [hml], ⟨hsz, some a, cap, rfl, by omega, ?_⟩, by omega, ?_⟩
 ·by_cases hz : len = 0
  ·exact .inl (List.eq_nil_of_length_eq_zero Zo)
  ·right
   obtain ⟨c0, y0, _, e1, e2, _, e4⟩ := each 0 Zo
   have e5 := e4 0 h0
   rw [List.getElem?_eq_getElem Zo] at e5
   obtain ⟨b, off, spot⟩ := a
   have hspot : spot = none := by simpa [Addr.add] using World.cell?_spot e5
   subst hspot
   have e6 : ∃ c t fr, W.heap[b]? = some (.cells c t fr) := by
    have e5' : W.cell? ⟨b, off, none⟩ = some c0[0] := by simpa [Addr.add] using e5
    unfold World.cell? at e5'
    split at e5'
    ·rename_i c t fr hh; exact ⟨c, t, fr, hh⟩
    ·cases e5'
   obtain ⟨c, t, fr, hh⟩ := e6
   have hR : Rbk W b c := ⟨t, fr, hh⟩
   refine ⟨b, off, c, rfl, hR, fun j hj => ?_⟩
   rw [hml] at hj
   have hn : n * (j / n) + j % n = j := Nat.div_add_mod j n
   have hq : j / n < len := Nat.div_lt_of_lt_mul (by rw [Nat.mul_comm]; exact hj)
   have hr : j % n < n := Nat.mod_lt _ h0
   obtain ⟨cs', y, _, f1, f2, _, f4⟩ := each (j / n) hq
   have f5 := f4 (j % n) hr
   rw [Go.WideShapes.add_plain, Go.WideShapes.add_plain, hR.cell] at f5
   have f6 := rows_at hsz f1 hr
   rw [hn] at f6
   rw [f6, ← List.getElem?_toArray] at *
   rw [show off + j = off + j / n * n + j % n by rw [Nat.mul_comm]; omega, f5]
 ·intro c hcm
  obtain ⟨i, hi⟩ := List.getElem?_of_mem hcm
  obtain ⟨cs', y, _, e1, e2, e3, _⟩ := each i (by have := (List.getElem?_eq_some_iff.1 hi).1; omega)
  rw [hi] at e1; injection e1 with e1
  exact ⟨k, y, by rw [e1]; exact e3⟩
theorem open_slrows {t e : TypeId} {n : Nat} {v : Value} {d : DataW H} {p : List MemPlace} (ht : Tryz.prog.underlying t = some (.slice e)) (hc : Tryz.prog.cellsOf e = n) (h0 : 0 < n) (hv : Value.okWide Tryz.prog W .any base t v) (h : DataW.Trod enc Tryz.prog W 0 (fun _ => true) true t v d p) :
    ∃ (A : Option Addr) (m : List (Array Value)) (cap : Nat), v = .slice A m.length cap ∧ RdS n W (.slice A m.length cap) m ∧ m.length ≤ maxLen ∧ ∀ c ∈ m, ∃ f y, DataW.trod enc Tryz.prog W 0 (fun _ => true) true f e c.toList = some y := by
 obtain ⟨a0, len, cap, rfl⟩ := okWide_slice ht hv
 obtain ⟨fuel, hf⟩ := h
 obtain ⟨A, m, c, hcs, hR, hl, hw⟩ := open_rows ht hc h0 hf
 simp [Value.cells] at hcs
 exact ⟨A, m, c, by simp [hcs], hR, hl, hw⟩
end
end
end Go.Proofs.YtkiempioeffhbaaGreatDoor
