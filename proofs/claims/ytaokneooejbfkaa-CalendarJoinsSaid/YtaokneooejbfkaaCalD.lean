/- The contracts of the methods of workdays.Days. -/
import Derived.Test.YtaokneooejbfkaaCalO
namespace Go.Proofs.Ytaokneooejbfkaa
set_option maxRecDepth 8000
open Go.RowKit Go.Maps
theorem seven_cell (k : Nat → Bool) (v : Value) (w : World) (i : Nat) (hi : i < 7) : (w.alloc (Obj.cells #[.bool (k 0), .bool (k 1), .bool (k 2), .bool (k 3), .bool (k 4), .bool (k 5), .bool (k 6), v] 51)).cell? ⟨w.heap.size, i, none⟩ = some (.bool (k i)) := by
  have : i = 0 ∨ i = 1 ∨ i = 2 ∨ i = 3 ∨ i = 4 ∨ i = 5 ∨ i = 6 := by omega
  rcases this with h | h | h | h | h | h | h <;> subst h <;> simp
theorem dBusiness_any (k : Nat → Bool) (r n : Nat) (f : Int → Bool) (d : Int) (w : World) (hm : BMap w r n f) :
    Calls Try.prog 21 #[.agg #[.bool (k 0), .bool (k 1), .bool (k 2), .bool (k 3), .bool (k 4), .bool (k 5), .bool (k 6), .map (some r)], .int .i64 d] w fun e w' => e = .returned (.bool (Cl.opnF k f d)) ∧ Below w.heap.size w w' := by
  by_cases h0 : d < 0
  · rw [Cl.opnF_low h0]
    clear hm
    go_enter Try.func21, Try.ntmps21
    go_wp2
    go_ret
    exact ⟨rfl, below_new _ _⟩
  · by_cases h1 : 73048 < d
    · rw [Cl.opnF_high h1]
      clear hm
      go_enter Try.func21, Try.ntmps21
      go_wp2
      go_ret
      exact ⟨rfl, below_new _ _⟩
    · rw [Cl.opnF_mid (by omega) (by omega)]
      have hlk := (hm.alloc (Obj.cells #[.bool (k 0), .bool (k 1), .bool (k 2), .bool (k 3), .bool (k 4), .bool (k 5), .bool (k 6), .map (some r)] 51)).look (x := d) (by omega) (by omega)
      have hw := seven_cell k (.map (some r)) w ((d + 5) % 7).toNat (by omega)
      clear hm
      go_enter Try.func21, Try.ntmps21
      go_wp2
      all_goals
        go_ret
        exact ⟨rfl, below_new _ _⟩

set_option maxHeartbeats 1000000 in
theorem dFrom_any (k : Nat → Bool) (r n : Nat) (f : Int → Bool) (d : Int) (w : World) (hm : BMap w r n f) (h0 : 0 ≤ d) (h1 : d ≤ 73049) :
    Calls Try.prog 33 #[.agg #[.bool (k 0), .bool (k 1), .bool (k 2), .bool (k 3), .bool (k 4), .bool (k 5), .bool (k 6), .map (some r)], .int .i64 d] w fun e w' => e = .returned (.tuple #[.int .i64 ((Cl.up (Cl.opnF k f) d).getD 0), .bool (Cl.up (Cl.opnF k f) d).isSome]) ∧ Below w.heap.size w w' := by
  obtain ⟨O, hO⟩ : ∃ O, O = Cl.opnF k f := ⟨_, rfl⟩
  obtain ⟨u, hu⟩ : ∃ u, u = Cl.up (Cl.opnF k f) d := ⟨_, rfl⟩
  rw [← hu, ]
  have HU := Lib.hid hu
  clear hu
  have HM := Lib.hid (hm.alloc (Obj.cells #[.bool (k 0), .bool (k 1), .bool (k 2), .bool (k 3), .bool (k 4), .bool (k 5), .bool (k 6), .map (some r)] 51))
  clear hm
  go_enter Try.func33, Try.ntmps33
  go_wp2
  go_loopw [1] (fun i wr => ∃ x : Int, d ≤ x ∧ x ≤ 73049 ∧ i = .int .i64 x ∧ Hid (u = Cl.up (Cl.opnF k f) x) ∧ Below (w.heap.size + 1) (w.alloc (Obj.cells #[.bool (k 0), .bool (k 1), .bool (k 2), .bool (k 3), .bool (k 4), .bool (k 5), .bool (k 6), .map (some r)] 51)) wr)
    (fun i _ => (73049 - intOf i).toNat)
  case atStart => exact ⟨d, by omega, by omega, rfl, HU, Below.refl _ _⟩
  case round =>
    obtain ⟨x, hx0, hx1, rfl, HX, hb⟩ := hrel
    have hbw : Below w.heap.size w wr := bup (below_new w (Obj.cells #[.bool (k 0), .bool (k 1), .bool (k 2), .bool (k 3), .bool (k 4), .bool (k 5), .bool (k 6), .map (some r)] 51)) hb (by omega)
    have HMr := Lib.hid (HM.out.below (hb.mono (by simp) : Below (w.alloc (Obj.cells #[.bool (k 0), .bool (k 1), .bool (k 2), .bool (k 3), .bool (k 4), .bool (k 5), .bool (k 6), .map (some r)] 51)).heap.size _ _))
    have HB := Lib.hid hb; have HW := Lib.hid hbw
    obtain ⟨hc, hf⟩ := bcellB hb
    clear hb hbw
    by_cases hlt : x ≤ 73048
    · cases ho : Cl.opnF k f x
      · have HO := Lib.hid ho
        clear ho
        go_wp2_with (go_at_call 21; refine (dBusiness_any k r n f x _ HMr.out).mono ?_; rintro e w1 ⟨rfl, hb1⟩; rw [HO.out])
        go_roundw
        case rel => exact ⟨x + 1, by omega, by omega, rfl, Lib.hid (HX.out.trans (Cl.up_no hlt HO.out)), HB.out.trans (hb1.mono (by have := HB.out.size; simpa using this))⟩
        case measure => simp [intOf]; omega
      · have HO := Lib.hid ho
        clear ho
        have HE := Lib.hid (HX.out.trans (Cl.up_yes hlt HO.out))
        go_wp2_with (go_at_call 21; refine (dBusiness_any k r n f x _ HMr.out).mono ?_; rintro e w1 ⟨rfl, hb1⟩; rw [HO.out])
        go_ret2
        rw [HE.out]
        exact ⟨rfl, HW.out.trans (hb1.mono HW.out.size)⟩
    · have HE := Lib.hid (HX.out.trans (Cl.up_end _ (by omega)))
      go_wp2
      go_ret2
      rw [HE.out]
      exact ⟨rfl, HW.out⟩
set_option maxHeartbeats 1000000 in
theorem dTo_any (k : Nat → Bool) (r n : Nat) (f : Int → Bool) (d : Int) (w : World) (hm : BMap w r n f) (h0 : -1 ≤ d) (h1 : d ≤ 73048) :
    Calls Try.prog 35 #[.agg #[.bool (k 0), .bool (k 1), .bool (k 2), .bool (k 3), .bool (k 4), .bool (k 5), .bool (k 6), .map (some r)], .int .i64 d] w fun e w' => e = .returned (.tuple #[.int .i64 ((Cl.dn (Cl.opnF k f) d).getD 0), .bool (Cl.dn (Cl.opnF k f) d).isSome]) ∧ Below w.heap.size w w' := by
  obtain ⟨O, hO⟩ : ∃ O, O = Cl.opnF k f := ⟨_, rfl⟩
  obtain ⟨u, hu⟩ : ∃ u, u = Cl.dn (Cl.opnF k f) d := ⟨_, rfl⟩
  rw [← hu, ]
  have HU := Lib.hid hu
  clear hu
  have HM := Lib.hid (hm.alloc (Obj.cells #[.bool (k 0), .bool (k 1), .bool (k 2), .bool (k 3), .bool (k 4), .bool (k 5), .bool (k 6), .map (some r)] 51))
  clear hm
  go_enter Try.func35, Try.ntmps35
  go_wp2
  go_loopw [1] (fun i wr => ∃ x : Int, x ≤ d ∧ -1 ≤ x ∧ i = .int .i64 x ∧ Hid (u = Cl.dn (Cl.opnF k f) x) ∧ Below (w.heap.size + 1) (w.alloc (Obj.cells #[.bool (k 0), .bool (k 1), .bool (k 2), .bool (k 3), .bool (k 4), .bool (k 5), .bool (k 6), .map (some r)] 51)) wr)
    (fun i _ => (intOf i + 1).toNat)
  case atStart => exact ⟨d, by omega, by omega, rfl, HU, Below.refl _ _⟩
  case round =>
    obtain ⟨x, hx0, hx1, rfl, HX, hb⟩ := hrel
    have hbw : Below w.heap.size w wr := bup (below_new w (Obj.cells #[.bool (k 0), .bool (k 1), .bool (k 2), .bool (k 3), .bool (k 4), .bool (k 5), .bool (k 6), .map (some r)] 51)) hb (by omega)
    have HMr := Lib.hid (HM.out.below (hb.mono (by simp) : Below (w.alloc (Obj.cells #[.bool (k 0), .bool (k 1), .bool (k 2), .bool (k 3), .bool (k 4), .bool (k 5), .bool (k 6), .map (some r)] 51)).heap.size _ _))
    have HB := Lib.hid hb; have HW := Lib.hid hbw
    obtain ⟨hc, hf⟩ := bcellB hb
    clear hb hbw
    by_cases hlt : 0 ≤ x
    · cases ho : Cl.opnF k f x
      · have HO := Lib.hid ho
        clear ho
        go_wp2_with (go_at_call 21; refine (dBusiness_any k r n f x _ HMr.out).mono ?_; rintro e w1 ⟨rfl, hb1⟩; rw [HO.out])
        go_roundw
        case rel => exact ⟨x - 1, by omega, by omega, rfl, Lib.hid (HX.out.trans (Cl.dn_no hlt HO.out)), HB.out.trans (hb1.mono (by have := HB.out.size; simpa using this))⟩
        case measure => simp [intOf]; omega
      · have HO := Lib.hid ho
        clear ho
        have HE := Lib.hid (HX.out.trans (Cl.dn_yes hlt HO.out))
        go_wp2_with (go_at_call 21; refine (dBusiness_any k r n f x _ HMr.out).mono ?_; rintro e w1 ⟨rfl, hb1⟩; rw [HO.out])
        go_ret2
        rw [HE.out]
        exact ⟨rfl, HW.out.trans (hb1.mono HW.out.size)⟩
    · have HE := Lib.hid (HX.out.trans (Cl.dn_end _ (by omega)))
      go_wp2
      go_ret2
      rw [HE.out]
      exact ⟨rfl, HW.out⟩
end Go.Proofs.Ytaokneooejbfkaa
