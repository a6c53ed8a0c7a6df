/- The contracts of calendar.Business, Add, Count. -/
import Derived.Test.YtaokneooejbfkaaCalF
namespace Go.Proofs.Ytaokneooejbfkaa
set_option maxRecDepth 8000
open Go.RowKit Go.Maps
theorem ints_one (w : World) (d : Int) (t : TypeId) (b : Nat) (hb : b = w.heap.size) : IntsAt (w.alloc (.cells #[.int .i64 d] t)) (some ⟨b, 0, none⟩) [d] :=
  .inr ⟨_, 0, rfl, by simp [hb], fun j hj => by
    have : j = 0 := by simpa using hj
    subst this; simp [hb]⟩
theorem ints_two (w : World) (x y : Int) (t : TypeId) (b : Nat) (hb : b = w.heap.size) : IntsAt (w.alloc (.cells #[.int .i64 x, .int .i64 y] t)) (some ⟨b, 0, none⟩) [x, y] :=
  .inr ⟨_, 0, rfl, by simp [hb], fun j hj => by
    have : j = 0 ∨ j = 1 := by simp at hj; omega
    rcases this with h | h <;> subst h <;> simp [hb]⟩
theorem one_day (d : Int) : allDay [d] = Dt.isDay d := by simp [allDay]
theorem two_days (a b : Int) : allDay [a, b] = (Dt.isDay a && Dt.isDay b) := by simp [allDay]

set_option maxHeartbeats 1000000 in
theorem biz_any (s : ByteArray) (k : Nat → Bool) (A : Option Addr) (hs : List Int) (c : Nat) (d : Int) (w : World) (hA : IntsAt w A hs) (hl : hs.length ≤ 9223372036854775807) :
    Calls Try.prog 11 #[.agg #[.string s, .bool (k 0), .bool (k 1), .bool (k 2), .bool (k 3), .bool (k 4), .bool (k 5), .bool (k 6), .slice A hs.length c], .int .i64 d] w fun e w' => e = .returned (.tuple #[.bool (Cl.bizB s k hs d), .int .i64 (Cl.preE s k hs d)]) ∧ Below w.heap.size w w' := by
  have HA := Lib.hid ((hA.alloc (Obj.cells #[.string s, .bool (k 0), .bool (k 1), .bool (k 2), .bool (k 3), .bool (k 4), .bool (k 5), .bool (k 6), .slice A hs.length c] 25)).alloc (.cells #[.int .i64 d] 3))
  have HO := Lib.hid (ints_one (w.alloc (Obj.cells #[.string s, .bool (k 0), .bool (k 1), .bool (k 2), .bool (k 3), .bool (k 4), .bool (k 5), .bool (k 6), .slice A hs.length c] 25)) d 3 (w.heap.size + 1) (by simp))
  clear hA
  cases hv : Cl.validC s k hs
  · have HE := Lib.hid (by simp [Cl.preE, hv] : Cl.preE s k hs d = 80)
    have HB := Lib.hid (by simp [Cl.bizB, hv] : Cl.bizB s k hs d = false)
    have HV := Lib.hid hv
    clear hv
    rw [HE.out, HB.out]
    go_enter Try.func11, Try.ntmps11
    go_wp2_with (go_at_call 20; refine (days_bad s k A hs c (some ⟨w.heap.size + 1, 0, none⟩) [d] 1 _ HA.out hl HV.out).mono ?_; rintro e w1 ⟨rfl, hb⟩; obtain ⟨hc, hf⟩ := bcell hb)
    go_ret2
    exact ⟨rfl, (bup ((below_new _ _).alloc (by simp) _) hb (by simp; omega)).alloc (by have := hb.size; simp at this; omega) _⟩
  · cases hd : Dt.isDay d
    · have HE := Lib.hid (by simp [Cl.preE, hv, hd] : Cl.preE s k hs d = 50)
      have HB := Lib.hid (by simp [Cl.bizB, hd] : Cl.bizB s k hs d = false)
      have HV := Lib.hid hv
      have HD := Lib.hid ((one_day d).trans hd)
      clear hv hd
      rw [HE.out, HB.out]
      go_enter Try.func11, Try.ntmps11
      go_wp2_with (go_at_call 20; refine (days_out s k A hs c (some ⟨w.heap.size + 1, 0, none⟩) [d] 1 _ HA.out HO.out (by simp) HV.out HD.out).mono ?_; rintro e w1 ⟨rfl, hb⟩; obtain ⟨hc, hf⟩ := bcell hb)
      go_ret2
      exact ⟨rfl, (bup ((below_new _ _).alloc (by simp) _) hb (by simp; omega)).alloc (by have := hb.size; simp at this; omega) _⟩
    · have HE := Lib.hid (by simp [Cl.preE, hv, hd] : Cl.preE s k hs d = 0)
      have HB := Lib.hid (by simp [Cl.bizB, hd, hv, Cl.opn] : Cl.bizB s k hs d = Cl.opnF k (Cl.has hs) d)
      have HV := Lib.hid hv
      have HD := Lib.hid ((one_day d).trans hd)
      clear hv hd
      rw [HE.out, HB.out]
      go_enter Try.func11, Try.ntmps11
      go_wp2_with (first
        | (go_at_call 20; refine (days_ok s k A hs c (some ⟨w.heap.size + 1, 0, none⟩) [d] 1 _ HA.out HO.out (by simp) HV.out HD.out).mono ?_; rintro e w1 ⟨r, rfl, hm, hr, hb⟩; obtain ⟨hc, hf⟩ := bcell hb)
        | (go_at_call 21; refine (dBusiness_any k r hs.length (Cl.has hs) d _ (hm.alloc _)).mono ?_; rintro e w2 ⟨rfl, hb2⟩))
      go_ret2
      exact ⟨rfl, bup ((bup ((below_new _ _).alloc (by simp) _) hb (by simp; omega)).alloc (by have := hb.size; simp at this; omega) _) hb2 (by have := hb.size; simp at this ⊢; omega)⟩

set_option maxHeartbeats 1000000 in
theorem add_any (s : ByteArray) (k : Nat → Bool) (A : Option Addr) (hs : List Int) (c : Nat) (d n : Int) (w : World) (hA : IntsAt w A hs) (hl : hs.length ≤ 9223372036854775807) (hn0 : -9223372036854775808 ≤ n) (hn1 : n ≤ 9223372036854775807) :
    Calls Try.prog 22 #[.agg #[.string s, .bool (k 0), .bool (k 1), .bool (k 2), .bool (k 3), .bool (k 4), .bool (k 5), .bool (k 6), .slice A hs.length c], .int .i64 d, .int .i64 n] w fun e w' => e = .returned (.tuple #[.int .i64 (Cl.addV s k hs d n), .int .i64 (Cl.addE s k hs d n)]) ∧ Below w.heap.size w w' := by
  have HA := Lib.hid ((hA.alloc (Obj.cells #[.string s, .bool (k 0), .bool (k 1), .bool (k 2), .bool (k 3), .bool (k 4), .bool (k 5), .bool (k 6), .slice A hs.length c] 25)).alloc (.cells #[.int .i64 d] 3))
  have HO := Lib.hid (ints_one (w.alloc (Obj.cells #[.string s, .bool (k 0), .bool (k 1), .bool (k 2), .bool (k 3), .bool (k 4), .bool (k 5), .bool (k 6), .slice A hs.length c] 25)) d 3 (w.heap.size + 1) (by simp))
  clear hA
  cases hv : Cl.validC s k hs
  · have HE := Lib.hid (by simp [Cl.addE, Cl.preE, hv] : Cl.addE s k hs d n = 80)
    have HB := Lib.hid (by simp [Cl.addV, Cl.preE, hv] : Cl.addV s k hs d n = 0)
    have HV := Lib.hid hv
    clear hv
    rw [HE.out, HB.out]
    go_enter Try.func22, Try.ntmps22
    go_wp2_with (go_at_call 20; refine (days_bad s k A hs c (some ⟨w.heap.size + 1, 0, none⟩) [d] 1 _ HA.out hl HV.out).mono ?_; rintro e w1 ⟨rfl, hb⟩; obtain ⟨hc, hf⟩ := bcell hb)
    go_ret2
    exact ⟨rfl, (bup ((below_new _ _).alloc (by simp) _) hb (by simp; omega)).alloc (by have := hb.size; simp at this; omega) _⟩
  · cases hd : Dt.isDay d
    · have HE := Lib.hid (by simp [Cl.addE, Cl.preE, hv, hd] : Cl.addE s k hs d n = 50)
      have HB := Lib.hid (by simp [Cl.addV, Cl.preE, hv, hd] : Cl.addV s k hs d n = 0)
      have HV := Lib.hid hv
      have HD := Lib.hid ((one_day d).trans hd)
      clear hv hd
      rw [HE.out, HB.out]
      go_enter Try.func22, Try.ntmps22
      go_wp2_with (go_at_call 20; refine (days_out s k A hs c (some ⟨w.heap.size + 1, 0, none⟩) [d] 1 _ HA.out HO.out (by simp) HV.out HD.out).mono ?_; rintro e w1 ⟨rfl, hb⟩; obtain ⟨hc, hf⟩ := bcell hb)
      go_ret2
      exact ⟨rfl, (bup ((below_new _ _).alloc (by simp) _) hb (by simp; omega)).alloc (by have := hb.size; simp at this; omega) _⟩
    · have HE := Lib.hid (by simp [Cl.addE, Cl.preE, hv, hd] : Cl.addE s k hs d n = if (Cl.addO k hs d n).isSome = true then 0 else 81)
      have HB := Lib.hid (by simp [Cl.addV, Cl.preE, hv, hd] : Cl.addV s k hs d n = (Cl.addO k hs d n).getD 0)
      have HV := Lib.hid hv
      have HD := Lib.hid ((one_day d).trans hd)
      have hd0 : 0 ≤ d ∧ d ≤ 73048 := by unfold Dt.isDay at hd; simpa using hd
      obtain ⟨d0, d1⟩ := hd0
      clear hv hd
      rcases Int.lt_trichotomy n 0 with h | h | h
      · have HX := Lib.hid (show Cl.addO k hs d n = Cl.stpD (Cl.opnF k (Cl.has hs)) (-n).toNat d from by unfold Cl.addO; rw [if_neg (by omega), if_neg (by omega)]; rfl)
        have hne : (n == 0) = false := beq_eq_false_iff_ne.2 (by omega)
        obtain ⟨q, hq⟩ : ∃ q, q = Cl.addO k hs d n := ⟨_, rfl⟩
        rw [← hq] at HX
        rw [HE.out, HB.out, ← hq]
        clear hq
        cases q
        all_goals
          go_enter Try.func22, Try.ntmps22
          go_wp2_with (first
            | (go_at_call 20; refine (days_ok s k A hs c (some ⟨w.heap.size + 1, 0, none⟩) [d] 1 _ HA.out HO.out (by simp) HV.out HD.out).mono ?_; rintro e w1 ⟨r, rfl, hm, hr, hb⟩; obtain ⟨hc, hf⟩ := bcell hb)
            | (go_at_call 34; refine (dStep_dn k r hs.length (Cl.has hs) d n _ (hm.alloc _) d0 d1 h hn0).mono ?_; rintro e w2 ⟨rfl, hb2⟩; rw [← HX.out])
            | (go_at_call 32; ((with_reducible refine (found_no _ _).mono ?_); rintro e w' ⟨rfl, rfl⟩))
            | (go_at_call 32; ((with_reducible refine (found_yes _ _).mono ?_); rintro e w' ⟨rfl, rfl⟩)))
          go_ret2
          exact ⟨by simp, bup ((bup ((below_new _ _).alloc (by simp) _) hb (by simp; omega)).alloc (by have := hb.size; simp at this; omega) _) hb2 (by have := hb.size; simp at this ⊢; omega)⟩
      · subst h
        have HX := Lib.hid (show Cl.addO k hs d 0 = Cl.up (Cl.opnF k (Cl.has hs)) d from by unfold Cl.addO; rw [if_pos rfl]; rfl)
        obtain ⟨q, hq⟩ : ∃ q, q = Cl.addO k hs d 0 := ⟨_, rfl⟩
        rw [← hq] at HX
        rw [HE.out, HB.out, ← hq]
        clear hq
        cases q
        all_goals
          go_enter Try.func22, Try.ntmps22
          go_wp2_with (first
            | (go_at_call 20; refine (days_ok s k A hs c (some ⟨w.heap.size + 1, 0, none⟩) [d] 1 _ HA.out HO.out (by simp) HV.out HD.out).mono ?_; rintro e w1 ⟨r, rfl, hm, hr, hb⟩; obtain ⟨hc, hf⟩ := bcell hb)
            | (go_at_call 33; refine (dFrom_any k r hs.length (Cl.has hs) d _ (hm.alloc _) d0 (by omega)).mono ?_; rintro e w2 ⟨rfl, hb2⟩; rw [← HX.out])
            | (go_at_call 32; ((with_reducible refine (found_no _ _).mono ?_); rintro e w' ⟨rfl, rfl⟩))
            | (go_at_call 32; ((with_reducible refine (found_yes _ _).mono ?_); rintro e w' ⟨rfl, rfl⟩)))
          go_ret2
          exact ⟨by simp, bup ((bup ((below_new _ _).alloc (by simp) _) hb (by simp; omega)).alloc (by have := hb.size; simp at this; omega) _) hb2 (by have := hb.size; simp at this ⊢; omega)⟩
      · have HX := Lib.hid (show Cl.addO k hs d n = Cl.stp (Cl.opnF k (Cl.has hs)) n.toNat d from by unfold Cl.addO; rw [if_neg (by omega), if_pos (by omega)]; rfl)
        have hne : (n == 0) = false := beq_eq_false_iff_ne.2 (by omega)
        obtain ⟨q, hq⟩ : ∃ q, q = Cl.addO k hs d n := ⟨_, rfl⟩
        rw [← hq] at HX
        rw [HE.out, HB.out, ← hq]
        clear hq
        cases q
        all_goals
          go_enter Try.func22, Try.ntmps22
          go_wp2_with (first
            | (go_at_call 20; refine (days_ok s k A hs c (some ⟨w.heap.size + 1, 0, none⟩) [d] 1 _ HA.out HO.out (by simp) HV.out HD.out).mono ?_; rintro e w1 ⟨r, rfl, hm, hr, hb⟩; obtain ⟨hc, hf⟩ := bcell hb)
            | (go_at_call 34; refine (dStep_up k r hs.length (Cl.has hs) d n _ (hm.alloc _) d0 d1 h hn1).mono ?_; rintro e w2 ⟨rfl, hb2⟩; rw [← HX.out])
            | (go_at_call 32; ((with_reducible refine (found_no _ _).mono ?_); rintro e w' ⟨rfl, rfl⟩))
            | (go_at_call 32; ((with_reducible refine (found_yes _ _).mono ?_); rintro e w' ⟨rfl, rfl⟩)))
          go_ret2
          exact ⟨by simp, bup ((bup ((below_new _ _).alloc (by simp) _) hb (by simp; omega)).alloc (by have := hb.size; simp at this; omega) _) hb2 (by have := hb.size; simp at this ⊢; omega)⟩
end Go.Proofs.Ytaokneooejbfkaa
