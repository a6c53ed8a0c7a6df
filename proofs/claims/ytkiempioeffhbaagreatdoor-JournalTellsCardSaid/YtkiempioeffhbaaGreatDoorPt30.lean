/- Walks. -/
import Derived.ChangeSlices
import Derived.Test.YtkiempioeffhbaaGreatDoorPt29
namespace Go.Proofs.YtkiempioeffhbaaGreatDoor
set_option maxHeartbeats 16000000
set_option maxRecDepth 8000
section
open Go.RowKit Go.ChangeShapes Go.WideShapes Go.ChangeAt Go.ChangeMaps Go.WideElems
theorem int_cells : Tryz.prog.cellsOf 3 = 1 := by kernel_rfl
theorem wf_i64 {n : Int} (h : (Lit.int .i64 n).wf = true) : -9223372036854775808 ≤ n ∧ n < 9223372036854775808 := by
 simp [Lit.wf, IntKind.min, IntKind.max, IntKind.signed, IntKind.bits] at h
 omega
end
section
open Go.RowKit Go.ChangeShapes Go.WideShapes Go.ChangeAt Go.ChangeMaps Go.WideElems
theorem Bg.num_of : ∀ (n : Nat) (f : Nat → Nat), (∀ i, i < n → f i < 4294967296) → ∃ N, N < Bg.pw n ∧ ∀ i, i < n → Bg.limb N i = f i
 | 0, _, _ => ⟨0, Bg.ppos 0, by intro i h; omega⟩
 | n + 1, f, hf => by
  obtain ⟨N, hN, hl⟩ := Bg.num_of n f (fun i h => hf i Zo)
  refine ⟨N + f n * Bg.pw n, Bg.lt_succ hN (hf n Zo), fun i hi => ?_⟩
  by_cases h : i < n
  ·rw [Bg.limb_add_high _ _ _ _ hN h, hl i h]
  ·obtain rfl : i = n := by omega
   have := Bg.limb_mid N (f i) 0 i hN (hf i Zo)
   simpa using this
theorem int_cells33 : Tryz.prog.cellsOf 41 = 33 := by kernel_rfl
theorem arr_cells32 : Tryz.prog.cellsOf 39 = 32 := by kernel_rfl
theorem u32_cells1 : Tryz.prog.cellsOf 38 = 1 := by kernel_rfl
theorem bool_cells1 : Tryz.prog.cellsOf 4 = 1 := by kernel_rfl
theorem int_struct : ∃ f0 f1 : Field, Tryz.prog.underlying 41 = some (.struct #[f0, f1]) ∧ f0.type = 4 ∧ f0.offset = 0 ∧ f1.type = 39 ∧ f1.offset = 1 := by
 rw [Tryz.underlying41]
 exact ⟨_, _, rfl, rfl, rfl, rfl, rfl⟩
section
variable {H : Type} {enc : TypeId × Value → H} {W : World} {base : Nat}
theorem big_of {fuel : Nat} {cs : List Value} {x : DataW H × List MemPlace} {b : Nat} {sp : Nat → Bool} {hd : Bool} (h : DataW.trod enc Tryz.prog W b sp hd fuel 41 cs = some x) :
    ∃ (s : Bool) (N : Nat), N < Bg.lim ∧ cs = (Bg.intA s N).toList := by
 obtain ⟨f0, f1, hu, t0, o0, t1, o1⟩ := int_struct
 obtain ⟨xs, n, _, hx, hcl, hlen, hg⟩ := DataW.trod_struct hu h
 rw [int_cells33] at hcl
 have g0 := hg 0 f0 rfl
 have g1 := hg 1 f1 rfl
 rw [t0, o0, bool_cells1] at g0
 rw [t1, o1, arr_cells32] at g1
 obtain ⟨x0, hx0⟩ : ∃ x0, xs[0]? = some x0 := ⟨_, List.getElem?_eq_getElem (by rw [hlen]; simp)⟩
 obtain ⟨x1, hx1⟩ : ∃ x1, xs[1]? = some x1 := ⟨_, List.getElem?_eq_getElem (by rw [hlen]; simp)⟩
 rw [hx0] at g0
 rw [hx1] at g1
 obtain ⟨s, hs, _⟩ := DataW.trod_bool Tryz.underlying4 g0
 obtain ⟨ys, m, _, _, _, hyl, hy⟩ := DataW.trod_array Tryz.underlying39 g1
 have hb : ∀ i, i < 32 → ∃ k : Nat, k < 4294967296 ∧ cs[1 + i]? = some (.int .u32 (k : Nat)) := by
  intro i hi
  have h1 := hy i hi
  rw [u32_cells1, Nat.mul_one] at h1
  obtain ⟨yi, hyi⟩ : ∃ yi, ys[i]? = some yi := ⟨_, List.getElem?_eq_getElem Zo⟩
  rw [hyi] at h1
  obtain ⟨k, hk, _, hw⟩ := DataW.trod_int Tryz.underlying38 h1
  have hk0 : 0 ≤ k ∧ k ≤ 4294967295 := by simpa [Lit.wf, IntKind.min, IntKind.max, IntKind.signed, IntKind.bits] using hw
  refine ⟨k.toNat, by omega, ?_⟩
  have e : ((((cs.drop 1).take 32).drop i).take 1)[0]? = some (.int .u32 k) := by rw [hk]; rfl
  rw [List.getElem?_take_of_lt Zo, List.getElem?_drop, List.getElem?_take_of_lt Zo, List.getElem?_drop] at e
  rw [show 1 + (i + 0) = 1 + i from rfl] at e
  rw [e, show ((k.toNat : Nat) : Int) = k from by omega]
 have hs0 : cs[0]? = some (.bool s) := by
  have e : ((cs.drop 0).take 1)[0]? = some (.bool s) := by rw [hs]; rfl
  rw [List.getElem?_take_of_lt Zo, List.getElem?_drop] at e
  exact e
 obtain ⟨f, hf⟩ : ∃ f : Nat → Nat, ∀ i, i < 32 → f i < 4294967296 ∧ cs[1 + i]? = some (.int .u32 (f i : Nat)) := by
  refine ⟨fun i => if h : i < 32 then (hb i h).choose else 0, fun i hi => ?_⟩
  simp only [hi, dif_pos]
  exact (hb i hi).choose_spec
 obtain ⟨N, hN, hl⟩ := Bg.num_of 32 f (fun i hi => (hf i hi).1)
 refine ⟨s, N, hN, ?_⟩
 apply List.ext_getElem?
 intro j
 have e3 : (Bg.intA s N).toList[j]? = (Bg.intA s N)[j]? := Array.getElem?_toList ..
 rw [e3]
 clear e3
 match j with
 | 0 => rw [hs0, Bg.intA_neg]
 | j + 1 =>
  by_cases hj : j < 32
  ·rw [Nat.add_comm j 1, (hf j hj).2, Nat.add_comm 1 j, Bg.intA_at s N j hj]
   unfold Bg.lv
   rw [hl j hj]
  ·rw [List.getElem?_eq_none Zo, Array.getElem?_eq_none (by rw [Bg.intA_size]; omega)]
end
end
end Go.Proofs.YtkiempioeffhbaaGreatDoor
