/- The contract of Days.Step. -/
import Derived.Test.YtaokneooejbfkaaCalD
namespace Go.Proofs.Ytaokneooejbfkaa
set_option maxRecDepth 8000
open Go.RowKit Go.Maps

set_option maxHeartbeats 2000000 in
theorem dStep_up (k : Nat → Bool) (r n : Nat) (f : Int → Bool) (d c : Int) (w : World) (hm : BMap w r n f) (h0 : 0 ≤ d) (h1 : d ≤ 73048) (hc0 : 0 < c) (hc1 : c ≤ 9223372036854775807) :
    Calls Try.prog 34 #[.agg #[.bool (k 0), .bool (k 1), .bool (k 2), .bool (k 3), .bool (k 4), .bool (k 5), .bool (k 6), .map (some r)], .int .i64 d, .int .i64 c] w fun e w' => e = .returned (.tuple #[.int .i64 ((Cl.stp (Cl.opnF k f) c.toNat d).getD 0), .bool (Cl.stp (Cl.opnF k f) c.toNat d).isSome]) ∧ Below w.heap.size w w' := by
  obtain ⟨u, hu⟩ : ∃ u, u = Cl.stp (Cl.opnF k f) c.toNat d := ⟨_, rfl⟩
  rw [← hu]
  have HU := Lib.hid hu
  clear hu
  have HM := Lib.hid (hm.alloc (Obj.cells #[.bool (k 0), .bool (k 1), .bool (k 2), .bool (k 3), .bool (k 4), .bool (k 5), .bool (k 6), .map (some r)] 51))
  clear hm
  go_enter Try.func34, Try.ntmps34
  go_wp2
  go_loopw [1, 2, 8] (fun i m o wr => ∃ x y : Int, ∃ b : Bool, 0 ≤ x ∧ x ≤ 73048 ∧ 0 ≤ y ∧ y ≤ c ∧ i = .int .i64 x ∧ m = .int .i64 y ∧ o = .bool b ∧ Hid (if b = true then u = Cl.stp (Cl.opnF k f) y.toNat x else u = none ∧ x = 0) ∧ Below (w.heap.size + 1) (w.alloc (Obj.cells #[.bool (k 0), .bool (k 1), .bool (k 2), .bool (k 3), .bool (k 4), .bool (k 5), .bool (k 6), .map (some r)] 51)) wr)
    (fun _ m _ _ => (intOf m).toNat)
  case atStart => exact ⟨d, c, true, by omega, by omega, by omega, by omega, rfl, rfl, rfl, Lib.hid (by simpa using HU.out), Below.refl _ _⟩
  case round =>
    obtain ⟨x, y, b, hx0, hx1, hy0, hy1, rfl, rfl, rfl, HX, hb⟩ := hrel
    have hbw : Below w.heap.size w wr := bup (below_new w (Obj.cells #[.bool (k 0), .bool (k 1), .bool (k 2), .bool (k 3), .bool (k 4), .bool (k 5), .bool (k 6), .map (some r)] 51)) hb (by omega)
    have HMr := Lib.hid (HM.out.below (hb.mono (by simp) : Below (w.alloc (Obj.cells #[.bool (k 0), .bool (k 1), .bool (k 2), .bool (k 3), .bool (k 4), .bool (k 5), .bool (k 6), .map (some r)] 51)).heap.size _ _))
    have HB := Lib.hid hb; have HW := Lib.hid hbw
    obtain ⟨hc, hf⟩ := bcellB hb
    clear hb hbw
    by_cases hlt : 0 < y
    · cases b
      · have HE := Lib.hid (by simpa [Hid] using HX : u = none ∧ x = 0)
        go_wp2
        refine wp_loop_rounds 1 ?_
        rw [rounds_succ]
        go_wp2
        go_ret2
        rw [HE.out.1, HE.out.2]
        exact ⟨rfl, HW.out⟩
      · have HE := Lib.hid (by simpa [Hid] using HX : u = Cl.stp (Cl.opnF k f) y.toNat x)
        obtain ⟨q, hq⟩ : ∃ q, q = Cl.up (Cl.opnF k f) (x + 1) := ⟨_, rfl⟩
        have HQ := Lib.hid hq
        clear hq
        cases q with
        | none =>
          go_wp2_with (go_at_call 33; refine (dFrom_any k r n f (x + 1) _ HMr.out (by omega) (by omega)).mono ?_; rintro e w1 ⟨rfl, hb1⟩; rw [← HQ.out])
          go_roundw
          case rel => exact ⟨0, y - 1, false, by omega, by omega, by omega, by omega, rfl, rfl, rfl, Lib.hid (by simpa using HE.out.trans (Cl.stp_none hlt HQ.out.symm)), HB.out.trans (hb1.mono (by have := HB.out.size; simpa using this))⟩
          case measure => simp [intOf]; omega
        | some z =>
          have hz := Cl.up_range HQ.out.symm
          obtain ⟨z0, z1, _⟩ := hz
          go_wp2_with (go_at_call 33; refine (dFrom_any k r n f (x + 1) _ HMr.out (by omega) (by omega)).mono ?_; rintro e w1 ⟨rfl, hb1⟩; rw [← HQ.out])
          go_roundw
          case rel => exact ⟨z, y - 1, true, by omega, by omega, by omega, by omega, rfl, rfl, rfl, Lib.hid (by simpa using HE.out.trans (Cl.stp_some hlt HQ.out.symm)), HB.out.trans (hb1.mono (by have := HB.out.size; simpa using this))⟩
          case measure => simp [intOf]; omega
    · obtain rfl : y = 0 := by omega
      have HE := Lib.hid (by simpa [Hid, Cl.stp] using HX : if b = true then u = some x else u = none ∧ x = 0)
      clear HX hlt
      go_wp2
      refine wp_loop_rounds 1 ?_
      rw [rounds_succ]
      go_wp2
      go_ret2
      cases b
      · have := HE.out; simp at this; rw [this.1, this.2]; exact ⟨rfl, HW.out⟩
      · have := HE.out; simp at this; rw [this]; exact ⟨rfl, HW.out⟩

set_option maxHeartbeats 2000000 in
theorem dStep_dn (k : Nat → Bool) (r n : Nat) (f : Int → Bool) (d c : Int) (w : World) (hm : BMap w r n f) (h0 : 0 ≤ d) (h1 : d ≤ 73048) (hc0 : c < 0) (hc1 : -9223372036854775808 ≤ c) :
    Calls Try.prog 34 #[.agg #[.bool (k 0), .bool (k 1), .bool (k 2), .bool (k 3), .bool (k 4), .bool (k 5), .bool (k 6), .map (some r)], .int .i64 d, .int .i64 c] w fun e w' => e = .returned (.tuple #[.int .i64 ((Cl.stpD (Cl.opnF k f) (-c).toNat d).getD 0), .bool (Cl.stpD (Cl.opnF k f) (-c).toNat d).isSome]) ∧ Below w.heap.size w w' := by
  obtain ⟨u, hu⟩ : ∃ u, u = Cl.stpD (Cl.opnF k f) (-c).toNat d := ⟨_, rfl⟩
  rw [← hu]
  have HU := Lib.hid hu
  clear hu
  have HM := Lib.hid (hm.alloc (Obj.cells #[.bool (k 0), .bool (k 1), .bool (k 2), .bool (k 3), .bool (k 4), .bool (k 5), .bool (k 6), .map (some r)] 51))
  clear hm
  go_enter Try.func34, Try.ntmps34
  go_wp2
  refine wp_loop_rounds 1 ?_
  rw [rounds_succ]
  go_wp2
  go_loopw [1, 2, 8] (fun i m o wr => ∃ x y : Int, ∃ b : Bool, 0 ≤ x ∧ x ≤ 73048 ∧ y ≤ 0 ∧ c ≤ y ∧ i = .int .i64 x ∧ m = .int .i64 y ∧ o = .bool b ∧ Hid (if b = true then u = Cl.stpD (Cl.opnF k f) (-y).toNat x else u = none ∧ x = 0) ∧ Below (w.heap.size + 1) (w.alloc (Obj.cells #[.bool (k 0), .bool (k 1), .bool (k 2), .bool (k 3), .bool (k 4), .bool (k 5), .bool (k 6), .map (some r)] 51)) wr)
    (fun _ m _ _ => (- intOf m).toNat)
  case atStart => exact ⟨d, c, true, by omega, by omega, by omega, by omega, rfl, rfl, rfl, Lib.hid (by simpa using HU.out), Below.refl _ _⟩
  case round =>
    obtain ⟨x, y, b, hx0, hx1, hy0, hy1, rfl, rfl, rfl, HX, hb⟩ := hrel
    have hbw : Below w.heap.size w wr := bup (below_new w (Obj.cells #[.bool (k 0), .bool (k 1), .bool (k 2), .bool (k 3), .bool (k 4), .bool (k 5), .bool (k 6), .map (some r)] 51)) hb (by omega)
    have HMr := Lib.hid (HM.out.below (hb.mono (by simp) : Below (w.alloc (Obj.cells #[.bool (k 0), .bool (k 1), .bool (k 2), .bool (k 3), .bool (k 4), .bool (k 5), .bool (k 6), .map (some r)] 51)).heap.size _ _))
    have HB := Lib.hid hb; have HW := Lib.hid hbw
    obtain ⟨hc, hf⟩ := bcellB hb
    clear hb hbw
    by_cases hlt : y < 0
    · cases b
      · have HE := Lib.hid (by simpa [Hid] using HX : u = none ∧ x = 0)
        go_wp2
        go_ret2
        rw [HE.out.1, HE.out.2]
        exact ⟨rfl, HW.out⟩
      · have HE := Lib.hid (by simpa [Hid] using HX : u = Cl.stpD (Cl.opnF k f) (-y).toNat x)
        obtain ⟨q, hq⟩ : ∃ q, q = Cl.dn (Cl.opnF k f) (x - 1) := ⟨_, rfl⟩
        have HQ := Lib.hid hq
        clear hq
        cases q with
        | none =>
          go_wp2_with (go_at_call 35; refine (dTo_any k r n f (x - 1) _ HMr.out (by omega) (by omega)).mono ?_; rintro e w1 ⟨rfl, hb1⟩; rw [← HQ.out])
          go_roundw
          case rel => exact ⟨0, y + 1, false, by omega, by omega, by omega, by omega, rfl, rfl, rfl, Lib.hid (by simpa using HE.out.trans (Cl.stpD_none (by omega) HQ.out.symm)), HB.out.trans (hb1.mono (by have := HB.out.size; simpa using this))⟩
          case measure => simp [intOf]; omega
        | some z =>
          have hz := Cl.dn_range HQ.out.symm
          obtain ⟨z0, z1, _⟩ := hz
          go_wp2_with (go_at_call 35; refine (dTo_any k r n f (x - 1) _ HMr.out (by omega) (by omega)).mono ?_; rintro e w1 ⟨rfl, hb1⟩; rw [← HQ.out])
          go_roundw
          case rel => exact ⟨z, y + 1, true, by omega, by omega, by omega, by omega, rfl, rfl, rfl, Lib.hid (by have := HE.out.trans (Cl.stpD_some (by omega) HQ.out.symm); rw [show -y - 1 = -(y + 1) from by omega] at this; simpa using this), HB.out.trans (hb1.mono (by have := HB.out.size; simpa using this))⟩
          case measure => simp [intOf]; omega
    · obtain rfl : y = 0 := by omega
      have HE := Lib.hid (by simpa [Hid, Cl.stpD] using HX : if b = true then u = some x else u = none ∧ x = 0)
      clear HX hlt
      go_wp2
      go_ret2
      cases b
      · have := HE.out; simp at this; rw [this.1, this.2]; exact ⟨rfl, HW.out⟩
      · have := HE.out; simp at this; rw [this]; exact ⟨rfl, HW.out⟩
end Go.Proofs.Ytaokneooejbfkaa
