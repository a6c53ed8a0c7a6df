/- The contract of calendar.Count. -/
import Derived.Test.YtaokneooejbfkaaCalG
namespace Go.Proofs.Ytaokneooejbfkaa
set_option maxRecDepth 8000
open Go.RowKit Go.Maps
set_option maxHeartbeats 1000000 in
theorem count_any (s : ByteArray) (k : Nat → Bool) (A : Option Addr) (hs : List Int) (c : Nat) (x y : Int) (w : World) (hA : IntsAt w A hs) (hl : hs.length ≤ 9223372036854775807) :
    Calls Try.prog 23 #[.agg #[.string s, .bool (k 0), .bool (k 1), .bool (k 2), .bool (k 3), .bool (k 4), .bool (k 5), .bool (k 6), .slice A hs.length c], .int .i64 x, .int .i64 y] w fun e w' => e = .returned (.tuple #[.int .i64 (Cl.cntV s k hs x y), .int .i64 (Cl.cntE s k hs x y)]) ∧ Below w.heap.size w w' := by
  have HA := Lib.hid ((hA.alloc (Obj.cells #[.string s, .bool (k 0), .bool (k 1), .bool (k 2), .bool (k 3), .bool (k 4), .bool (k 5), .bool (k 6), .slice A hs.length c] 25)).alloc (.cells #[.int .i64 x, .int .i64 y] 3))
  have HO := Lib.hid (ints_two (w.alloc (Obj.cells #[.string s, .bool (k 0), .bool (k 1), .bool (k 2), .bool (k 3), .bool (k 4), .bool (k 5), .bool (k 6), .slice A hs.length c] 25)) x y 3 (w.heap.size + 1) (by simp))
  clear hA
  cases hv : Cl.validC s k hs
  · have HE := Lib.hid (by simp [Cl.cntE, hv] : Cl.cntE s k hs x y = 80)
    have HB := Lib.hid (by simp [Cl.cntV, HE.out] : Cl.cntV s k hs x y = 0)
    have HV := Lib.hid hv
    clear hv
    rw [HE.out, HB.out]
    go_enter Try.func23, Try.ntmps23
    go_wp2_with (go_at_call 20; refine (days_bad s k A hs c (some ⟨w.heap.size + 1, 0, none⟩) [x, y] 2 _ HA.out hl HV.out).mono ?_; rintro e w1 ⟨rfl, hb⟩; obtain ⟨hc, hf⟩ := bcell hb)
    go_ret2
    exact ⟨rfl, (bup ((below_new _ _).alloc (by simp) _) hb (by simp; omega)).alloc (by have := hb.size; simp at this; omega) _⟩
  · cases hd : (Dt.isDay x && Dt.isDay y)
    · have HE := Lib.hid (by simp only [Cl.cntE, hv, hd]; simp : Cl.cntE s k hs x y = 50)
      have HB := Lib.hid (by simp [Cl.cntV, HE.out] : Cl.cntV s k hs x y = 0)
      have HV := Lib.hid hv
      have HD := Lib.hid ((two_days x y).trans hd)
      clear hv hd
      rw [HE.out, HB.out]
      go_enter Try.func23, Try.ntmps23
      go_wp2_with (go_at_call 20; refine (days_out s k A hs c (some ⟨w.heap.size + 1, 0, none⟩) [x, y] 2 _ HA.out HO.out (by simp) HV.out HD.out).mono ?_; rintro e w1 ⟨rfl, hb⟩; obtain ⟨hc, hf⟩ := bcell hb)
      go_ret2
      exact ⟨rfl, (bup ((below_new _ _).alloc (by simp) _) hb (by simp; omega)).alloc (by have := hb.size; simp at this; omega) _⟩
    · have HV := Lib.hid hv
      have HD := Lib.hid ((two_days x y).trans hd)
      have hxy : 0 ≤ x ∧ x ≤ 73048 ∧ 0 ≤ y ∧ y ≤ 73048 := by simp [Dt.isDay] at hd; omega
      obtain ⟨x0, x1, y0, y1⟩ := hxy
      by_cases hp : y < x
      · have HE := Lib.hid (by simp only [Cl.cntE, hv, hd]; simp [hp] : Cl.cntE s k hs x y = 61)
        have HB := Lib.hid (by simp [Cl.cntV, HE.out] : Cl.cntV s k hs x y = 0)
        clear hv hd
        rw [HE.out, HB.out]
        go_enter Try.func23, Try.ntmps23
        go_wp2_with (go_at_call 20; refine (days_ok s k A hs c (some ⟨w.heap.size + 1, 0, none⟩) [x, y] 2 _ HA.out HO.out (by simp) HV.out HD.out).mono ?_; rintro e w1 ⟨r, rfl, hm, hr, hb⟩; obtain ⟨hc, hf⟩ := bcell hb)
        go_ret2
        exact ⟨rfl, (bup ((below_new _ _).alloc (by simp) _) hb (by simp; omega)).alloc (by have := hb.size; simp at this; omega) _⟩
      · have HE := Lib.hid (by simp only [Cl.cntE, hv, hd]; simp [hp] : Cl.cntE s k hs x y = 0)
        have HB := Lib.hid (by simp [Cl.cntV, HE.out, Cl.opn] : Cl.cntV s k hs x y = Cl.cnt (Cl.opnF k (Cl.has hs)) (y - x).toNat x)
        clear hv hd
        rw [HE.out, HB.out]
        go_enter Try.func23, Try.ntmps23
        go_wp2_with (go_at_call 20; refine (days_ok s k A hs c (some ⟨w.heap.size + 1, 0, none⟩) [x, y] 2 _ HA.out HO.out (by simp) HV.out HD.out).mono ?_; rintro e w1 ⟨r, rfl, hm, hr, hb⟩; obtain ⟨hc, hf⟩ := bcell hb)
        have HM := Lib.hid (hm.alloc (Obj.cells #[.bool (k 0), .bool (k 1), .bool (k 2), .bool (k 3), .bool (k 4), .bool (k 5), .bool (k 6), .map (some r)] 51))
        have HW := Lib.hid ((bup ((below_new _ _).alloc (by simp) _) hb (by simp; omega)).alloc (by have := hb.size; simp at this; omega) (Obj.cells #[.bool (k 0), .bool (k 1), .bool (k 2), .bool (k 3), .bool (k 4), .bool (k 5), .bool (k 6), .map (some r)] 51) : Below w.heap.size w _)
        have hz : w.heap.size ≤ w1.heap.size := by have := hb.size; simp at this; omega
        clear hm hr hb hc hf
        go_loopw [10, 11] (fun m i wr => ∃ (z : Int) (q : Int), x ≤ z ∧ z ≤ y ∧ i = .int .i64 z ∧ m = .int .i64 q ∧ 0 ≤ q ∧ q ≤ z - x ∧ Hid (q = Cl.cnt (Cl.opnF k (Cl.has hs)) (z - x).toNat x) ∧ Below (w1.heap.size + 1) (w1.alloc (Obj.cells #[.bool (k 0), .bool (k 1), .bool (k 2), .bool (k 3), .bool (k 4), .bool (k 5), .bool (k 6), .map (some r)] 51)) wr)
          (fun _ i _ => (y - intOf i).toNat)
        case atStart => exact ⟨x, 0, by omega, by omega, rfl, rfl, by omega, by omega, Lib.hid (by rw [show (x - x).toNat = 0 from by omega]; rfl), Below.refl _ _⟩
        case round =>
          obtain ⟨z, q, hz0, hz1, rfl, rfl, q0, q1, HQ, hb⟩ := hrel
          obtain ⟨hc, hf⟩ := bcellB hb
          have HMr := Lib.hid (HM.out.below (hb.mono (by simp)))
          have HB1 := Lib.hid hb
          clear hb
          by_cases hlt : z < y
          · have HS := Lib.hid (Cl.cnt_succ (Cl.opnF k (Cl.has hs)) (z - x).toNat x)
            cases ho : Cl.opnF k (Cl.has hs) z
            all_goals
              have HO1 := Lib.hid ho
              clear ho
              go_wp2_with (go_at_call 21; refine (dBusiness_any k r hs.length (Cl.has hs) z _ HMr.out).mono ?_; rintro e w2 ⟨rfl, hb2⟩; rw [HO1.out])
              go_roundw
              case rel => exact ⟨z + 1, _, by omega, by omega, rfl, rfl, by omega, by omega, Lib.hid (by rw [show (z + 1 - x).toNat = (z - x).toNat + 1 from by omega, HS.out, ← HQ.out, show x + ((z - x).toNat : Int) = z from by omega, HO1.out]; simp), HB1.out.trans (hb2.mono (by have := HB1.out.size; simpa using this))⟩
              case measure => simp [intOf]; omega
          · obtain rfl : z = y := by omega
            go_wp2
            go_ret2
            rw [← HQ.out]
            exact ⟨rfl, bup HW.out HB1.out (by omega)⟩
end Go.Proofs.Ytaokneooejbfkaa
