/- The contracts of the reference's check, Business, Count. -/
import Derived.Test.YtakckjccdknjaaaRefB
namespace Go.Proofs.Ytakckjccdknjaaa
open Go.RowKit
theorem valid_of {s : ByteArray} {k : Nat → Bool} {hs : List Int} (hv : Cl.validC s k hs = true) : hs.length ≤ 2000 ∧ Cl.asc (-1) hs = true := by
  unfold Cl.validC at hv
  simp only [Bool.and_eq_true, decide_eq_true_eq] at hv
  exact ⟨hv.1.2, hv.2⟩
set_option maxHeartbeats 1000000 in
theorem rcheck_any (s : ByteArray) (k : Nat → Bool) (A : Option Addr) (hs : List Int) (c : Nat) (d : Int) (w : World) (hA : IntsAt w A hs) (hl : hs.length ≤ 9223372036854775807) :
    Calls Try.prog 31 #[.agg #[.string s, .bool (k 0), .bool (k 1), .bool (k 2), .bool (k 3), .bool (k 4), .bool (k 5), .bool (k 6), .slice A hs.length c], .int .i64 d] w fun e w' => e = .returned (.int .i64 (Cl.preE s k hs d)) ∧ Below w.heap.size w w' := by
  have HA := Lib.hid (hA.alloc (Obj.cells #[.string s, .bool (k 0), .bool (k 1), .bool (k 2), .bool (k 3), .bool (k 4), .bool (k 5), .bool (k 6), .slice A hs.length c] 25))
  clear hA
  cases hv : Cl.validC s k hs
  · have HC := Lib.hid (by simp [Cl.chk, hv] : Cl.chk s k hs = 80)
    have HE := Lib.hid (by simp [Cl.preE, hv] : Cl.preE s k hs d = 80)
    rw [HE.out]
    clear hv
    go_enter Try.func31, Try.ntmps31
    go_wp2_with (go_at_call 19; refine (rCheck_any s k A hs c _ HA.out hl).mono ?_; rintro e w1 ⟨rfl, hb⟩; rw [HC.out])
    go_ret
    exact ⟨rfl, bup (below_new _ _) hb (by simp)⟩
  · have HC := Lib.hid (by simp [Cl.chk, hv] : Cl.chk s k hs = 0)
    have HE := Lib.hid (by simp [Cl.preE, hv] : Cl.preE s k hs d = if Dt.isDay d = false then 50 else 0)
    rw [HE.out]
    clear hv
    cases hd : Dt.isDay d
    all_goals
      have HD := Lib.hid hd
      clear hd
      go_enter Try.func31, Try.ntmps31
      go_wp2_with (first
        | (go_at_call 19; refine (rCheck_any s k A hs c _ HA.out hl).mono ?_; rintro e w1 ⟨rfl, hb⟩; rw [HC.out])
        | (go_at_call 36; refine (rOut_any _ _).mono ?_; rintro e w' ⟨rfl, rfl⟩; rw [HD.out]))
      go_ret
      exact ⟨rfl, bup (below_new _ _) hb (by simp)⟩

set_option maxHeartbeats 1000000 in
theorem rBiz_any (s : ByteArray) (k : Nat → Bool) (A : Option Addr) (hs : List Int) (c : Nat) (d : Int) (w : World) (hA : IntsAt w A hs) (hl : hs.length ≤ 9223372036854775807) :
    Calls Try.prog 10 #[.agg #[.string s, .bool (k 0), .bool (k 1), .bool (k 2), .bool (k 3), .bool (k 4), .bool (k 5), .bool (k 6), .slice A hs.length c], .int .i64 d] w fun e w' => e = .returned (.tuple #[.bool (Cl.bizB s k hs d), .int .i64 (Cl.preE s k hs d)]) ∧ Below w.heap.size w w' := by
  have HA := Lib.hid (hA.alloc (Obj.cells #[.string s, .bool (k 0), .bool (k 1), .bool (k 2), .bool (k 3), .bool (k 4), .bool (k 5), .bool (k 6), .slice A hs.length c] 25))
  clear hA
  by_cases hp : Cl.preE s k hs d = 0
  · have hv : Cl.validC s k hs = true := by
      cases h : Cl.validC s k hs
      · simp [Cl.preE, h] at hp
      · rfl
    have hd : Dt.isDay d = true := by
      cases h : Dt.isDay d
      · simp [Cl.preE, hv, h] at hp
      · rfl
    have HB := Lib.hid (by simp [Cl.bizB, hv, hd] : Cl.bizB s k hs d = Cl.opn k hs d)
    have HV := Lib.hid (valid_of hv)
    have HP := Lib.hid hp
    have HD := Lib.hid hd
    rw [HB.out, hp]
    clear hv hd hp
    go_enter Try.func10, Try.ntmps10
    go_wp2_with (first
      | (go_at_call 31; refine (rcheck_any s k A hs c d _ HA.out hl).mono ?_; rintro e w1 ⟨rfl, hb⟩; rw [HP.out]; obtain ⟨hc, hf⟩ := bcell hb)
      | (go_at_call 32; refine (rOpen_any s k A hs c d _ (HA.out.below hb) HV.out.1 HV.out.2 HD.out).mono ?_; rintro e w2 ⟨rfl, hb2⟩))
    go_ret2
    exact ⟨rfl, bup (bup (below_new _ _) hb (by simp)) hb2 (by have := hb.size; simp at this; omega)⟩
  · have HB := Lib.hid (show Cl.bizB s k hs d = false from by
      cases h : Cl.validC s k hs
      · simp [Cl.bizB, h]
      · cases h2 : Dt.isDay d
        · simp [Cl.bizB, h2]
        · simp [Cl.preE, h, h2] at hp)
    rw [HB.out]
    have hpb : (Cl.preE s k hs d != 0) = true := by simp [hp]
    clear hp
    obtain ⟨e0, he⟩ : ∃ e0, e0 = Cl.preE s k hs d := ⟨_, rfl⟩
    rw [← he] at hpb
    rw [← he]
    have HE := Lib.hid he
    clear he
    go_enter Try.func10, Try.ntmps10
    go_wp2_with (go_at_call 31; refine (rcheck_any s k A hs c d _ HA.out hl).mono ?_; rintro e w1 ⟨rfl, hb⟩; rw [← HE.out])
    go_ret2
    exact ⟨rfl, bup (below_new _ _) hb (by simp)⟩

set_option maxHeartbeats 2000000 in
theorem rCount_any (s : ByteArray) (k : Nat → Bool) (A : Option Addr) (hs : List Int) (c : Nat) (x y : Int) (w : World) (hA : IntsAt w A hs) (hl : hs.length ≤ 9223372036854775807) :
    Calls Try.prog 14 #[.agg #[.string s, .bool (k 0), .bool (k 1), .bool (k 2), .bool (k 3), .bool (k 4), .bool (k 5), .bool (k 6), .slice A hs.length c], .int .i64 x, .int .i64 y] w fun e w' => e = .returned (.tuple #[.int .i64 (Cl.cntV s k hs x y), .int .i64 (Cl.cntE s k hs x y)]) ∧ Below w.heap.size w w' := by
  have HA := Lib.hid (hA.alloc (Obj.cells #[.string s, .bool (k 0), .bool (k 1), .bool (k 2), .bool (k 3), .bool (k 4), .bool (k 5), .bool (k 6), .slice A hs.length c] 25))
  clear hA
  cases hv : Cl.validC s k hs
  · have HC := Lib.hid (by simp [Cl.chk, hv] : Cl.chk s k hs = 80)
    have HE := Lib.hid (by simp [Cl.cntE, hv] : Cl.cntE s k hs x y = 80)
    have HB := Lib.hid (by simp [Cl.cntV, HE.out] : Cl.cntV s k hs x y = 0)
    clear hv
    rw [HE.out, HB.out]
    go_enter Try.func14, Try.ntmps14
    go_wp2_with (go_at_call 19; refine (rCheck_any s k A hs c _ HA.out hl).mono ?_; rintro e w1 ⟨rfl, hb⟩; rw [HC.out])
    go_ret2
    exact ⟨rfl, bup (below_new _ _) hb (by simp)⟩
  · have HC := Lib.hid (by simp [Cl.chk, hv] : Cl.chk s k hs = 0)
    cases hd : Dt.isDay x
    · have HE := Lib.hid (by simp [Cl.cntE, hv, hd] : Cl.cntE s k hs x y = 50)
      have HB := Lib.hid (by simp [Cl.cntV, HE.out] : Cl.cntV s k hs x y = 0)
      have HD := Lib.hid hd
      clear hv hd
      rw [HE.out, HB.out]
      go_enter Try.func14, Try.ntmps14
      go_wp2_with (first
        | (go_at_call 19; refine (rCheck_any s k A hs c _ HA.out hl).mono ?_; rintro e w1 ⟨rfl, hb⟩; rw [HC.out])
        | (go_at_call 36; refine (rOut_t HD.out _).mono ?_; rintro e w' ⟨rfl, rfl⟩))
      go_ret2
      exact ⟨rfl, bup (below_new _ _) hb (by simp)⟩
    · cases hd2 : Dt.isDay y
      · have HE := Lib.hid (by simp [Cl.cntE, hv, hd2] : Cl.cntE s k hs x y = 50)
        have HB := Lib.hid (by simp [Cl.cntV, HE.out] : Cl.cntV s k hs x y = 0)
        have HD := Lib.hid hd
        have HD2 := Lib.hid hd2
        clear hv hd hd2
        rw [HE.out, HB.out]
        go_enter Try.func14, Try.ntmps14
        go_wp2_with (first
          | (go_at_call 19; refine (rCheck_any s k A hs c _ HA.out hl).mono ?_; rintro e w1 ⟨rfl, hb⟩; rw [HC.out])
          | (go_at_call 36; ((with_reducible refine (rOut_f (n := x) HD.out _).mono ?_); rintro e w' ⟨rfl, rfl⟩))
          | (go_at_call 36; ((with_reducible refine (rOut_t (n := y) HD2.out _).mono ?_); rintro e w' ⟨rfl, rfl⟩)))
        go_ret2
        exact ⟨rfl, bup (below_new _ _) hb (by simp)⟩
      · have hxy : 0 ≤ x ∧ x ≤ 73048 ∧ 0 ≤ y ∧ y ≤ 73048 := by simp [Dt.isDay] at hd hd2; omega
        obtain ⟨x0, x1, y0, y1⟩ := hxy
        have HD := Lib.hid hd
        have HD2 := Lib.hid hd2
        have HV := Lib.hid (valid_of hv)
        by_cases hp : y < x
        · have HE := Lib.hid (by simp [Cl.cntE, hv, hd, hd2, hp] : Cl.cntE s k hs x y = 61)
          have HB := Lib.hid (by simp [Cl.cntV, HE.out] : Cl.cntV s k hs x y = 0)
          clear hv hd hd2
          rw [HE.out, HB.out]
          go_enter Try.func14, Try.ntmps14
          go_wp2_with (first
            | (go_at_call 19; refine (rCheck_any s k A hs c _ HA.out hl).mono ?_; rintro e w1 ⟨rfl, hb⟩; rw [HC.out])
            | (go_at_call 36; ((with_reducible refine (rOut_f (n := x) HD.out _).mono ?_); rintro e w' ⟨rfl, rfl⟩))
            | (go_at_call 36; ((with_reducible refine (rOut_f (n := y) HD2.out _).mono ?_); rintro e w' ⟨rfl, rfl⟩)))
          go_ret2
          exact ⟨rfl, bup (below_new _ _) hb (by simp)⟩
        · have HE := Lib.hid (by simp [Cl.cntE, hv, hd, hd2, hp] : Cl.cntE s k hs x y = 0)
          have HB := Lib.hid (by simp [Cl.cntV, HE.out] : Cl.cntV s k hs x y = Cl.cnt (Cl.opn k hs) (y - x).toNat x)
          clear hv hd hd2
          rw [HE.out, HB.out]
          go_enter Try.func14, Try.ntmps14
          go_wp2_with (first
            | (go_at_call 19; refine (rCheck_any s k A hs c _ HA.out hl).mono ?_; rintro e w1 ⟨rfl, hb⟩; rw [HC.out]; obtain ⟨hc, hf⟩ := bcell hb)
            | (go_at_call 36; ((with_reducible refine (rOut_f (n := x) HD.out _).mono ?_); rintro e w' ⟨rfl, rfl⟩))
            | (go_at_call 36; ((with_reducible refine (rOut_f (n := y) HD2.out _).mono ?_); rintro e w' ⟨rfl, rfl⟩)))
          have HB0 := Lib.hid hb
          clear hb hc hf
          go_loopw [8, 9] (fun m i wr => ∃ (z : Int) (q : Int), x ≤ z ∧ z ≤ y ∧ i = .int .i64 z ∧ m = .int .i64 q ∧ 0 ≤ q ∧ q ≤ z - x ∧ Hid (q = Cl.cnt (Cl.opn k hs) (z - x).toNat x) ∧ Below (w.heap.size + 1) (w.alloc (Obj.cells #[.string s, .bool (k 0), .bool (k 1), .bool (k 2), .bool (k 3), .bool (k 4), .bool (k 5), .bool (k 6), .slice A hs.length c] 25)) wr)
            (fun _ i _ => (y - intOf i).toNat)
          case atStart => exact ⟨x, 0, by omega, by omega, rfl, rfl, by omega, by omega, Lib.hid (by rw [show (x - x).toNat = 0 from by omega]; rfl), HB0.out.mono (by simp)⟩
          case round =>
            obtain ⟨z, q, hz0, hz1, rfl, rfl, q0, q1, HQ, hb⟩ := hrel
            obtain ⟨hc, hf⟩ := bcellB hb
            have HA1 := Lib.hid (HA.out.below (hb.mono (by simp)))
            have HB1 := Lib.hid hb
            clear hb
            by_cases hlt : z < y
            · have HS := Lib.hid (Cl.cnt_succ (Cl.opn k hs) (z - x).toNat x)
              have HZ := Lib.hid (show Dt.isDay z = true from by unfold Dt.isDay; simp; omega)
              cases ho : Cl.opn k hs z
              all_goals
                have HO1 := Lib.hid ho
                clear ho
                go_wp2_with (go_at_call 32; refine (rOpen_any s k A hs c z _ HA1.out HV.out.1 HV.out.2 HZ.out).mono ?_; rintro e w2 ⟨rfl, hb2⟩; rw [HO1.out])
                go_roundw
                case rel => exact ⟨z + 1, _, by omega, by omega, rfl, rfl, by omega, by omega, Lib.hid (by rw [show (z + 1 - x).toNat = (z - x).toNat + 1 from by omega, HS.out, ← HQ.out, show x + ((z - x).toNat : Int) = z from by omega, HO1.out]; simp), HB1.out.trans (hb2.mono (by have := HB1.out.size; simpa using this))⟩
                case measure => simp [intOf]; omega
            · obtain rfl : z = y := by omega
              go_wp2
              go_ret2
              rw [← HQ.out]
              exact ⟨rfl, bup (below_new _ _) HB1.out (by omega)⟩
end Go.Proofs.Ytakckjccdknjaaa
