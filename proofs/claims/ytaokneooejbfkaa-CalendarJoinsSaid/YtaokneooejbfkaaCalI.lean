/- The contract of calendar.Adjust. -/
import Derived.Test.YtaokneooejbfkaaCalH
import Derived.Test.YtaokneooejbfkaaDateA
namespace Go.Proofs.Ytaokneooejbfkaa
set_option maxRecDepth 8000
open Go.RowKit Go.Maps
theorem mEnd_any (n : Int) (w : World) (h : Dt.isDay n = true) :
    Calls Try.prog 36 #[.int .i64 n] w fun e w' => e = .returned (.tuple #[.int .i64 (Cl.mEnd n), .int .i64 0]) ∧ w = w' := by
  refine (monthEnd_yes n w h ahead_c).mono ?_
  rintro e w' ⟨y, m, d, hc, rfl, rfl⟩
  have := Dt.civ_of hc
  exact ⟨by simp [Cl.mEnd, this], rfl⟩
theorem civil_any (n : Int) (w : World) (h : Dt.isDay n = true) :
    Calls Try.prog 37 #[.int .i64 n] w fun e w' => e = .returned (.tuple #[.int .i64 (Dt.civ n).1, .int .i64 (Dt.civ n).2.1, .int .i64 (Cl.mDay n), .int .i64 0]) ∧ w = w' := by
  refine (civil_yes n w h ahead_c).mono ?_
  rintro e w' ⟨y, m, d, hc, rfl, rfl⟩
  have := Dt.civ_of hc
  exact ⟨by simp [Cl.mDay, this], rfl⟩
theorem found_opt (q : Option Int) (w : World) :
    Calls Try.prog 32 #[.int .i64 (q.getD 0), .bool q.isSome] w fun e w' => e = .returned (.tuple #[.int .i64 (q.getD 0), .int .i64 (Cl.errO q)]) ∧ w = w' := by
  cases q
  · exact (found_no _ w).mono fun _ _ h => h
  · exact (found_yes _ w).mono fun _ _ h => h
set_option maxHeartbeats 4000000 in
theorem adj_bad (s : ByteArray) (k : Nat → Bool) (A : Option Addr) (hs : List Int) (c : Nat) (d v : Int) (w : World) (hA : IntsAt w A hs) (hl : hs.length ≤ 9223372036854775807) (hp : Cl.adjP s k hs d v ≠ 0) :
    Calls Try.prog 24 #[.agg #[.string s, .bool (k 0), .bool (k 1), .bool (k 2), .bool (k 3), .bool (k 4), .bool (k 5), .bool (k 6), .slice A hs.length c], .int .i64 d, .int .i64 v] w fun e w' => e = .returned (.tuple #[.int .i64 0, .int .i64 (Cl.adjP s k hs d v)]) ∧ Below w.heap.size w w' := by
  have HA := Lib.hid ((hA.alloc (Obj.cells #[.string s, .bool (k 0), .bool (k 1), .bool (k 2), .bool (k 3), .bool (k 4), .bool (k 5), .bool (k 6), .slice A hs.length c] 25)).alloc (.cells #[.int .i64 d] 3))
  have HO := Lib.hid (ints_one (w.alloc (Obj.cells #[.string s, .bool (k 0), .bool (k 1), .bool (k 2), .bool (k 3), .bool (k 4), .bool (k 5), .bool (k 6), .slice A hs.length c] 25)) d 3 (w.heap.size + 1) (by simp))
  clear hA
  cases hv : Cl.validC s k hs
  · have HE := Lib.hid (by simp [Cl.adjP, Cl.preE, hv] : Cl.adjP s k hs d v = 80)
    have HV := Lib.hid hv
    clear hv hp
    rw [HE.out]
    go_enter Try.func24, Try.ntmps24
    go_wp2_with (go_at_call 20; refine (days_bad s k A hs c (some ⟨w.heap.size + 1, 0, none⟩) [d] 1 _ HA.out hl HV.out).mono ?_; rintro e w1 ⟨rfl, hb⟩; obtain ⟨hc, hf⟩ := bcell hb)
    go_ret2
    exact ⟨rfl, (bup ((below_new _ _).alloc (by simp) _) hb (by simp; omega)).alloc (by have := hb.size; simp at this; omega) _⟩
  · cases hd : Dt.isDay d
    · have HE := Lib.hid (by simp [Cl.adjP, Cl.preE, hv, hd] : Cl.adjP s k hs d v = 50)
      have HV := Lib.hid hv
      have HD := Lib.hid ((one_day d).trans hd)
      clear hv hd hp
      rw [HE.out]
      go_enter Try.func24, Try.ntmps24
      go_wp2_with (go_at_call 20; refine (days_out s k A hs c (some ⟨w.heap.size + 1, 0, none⟩) [d] 1 _ HA.out HO.out (by simp) HV.out HD.out).mono ?_; rintro e w1 ⟨rfl, hb⟩; obtain ⟨hc, hf⟩ := bcell hb)
      go_ret2
      exact ⟨rfl, (bup ((below_new _ _).alloc (by simp) _) hb (by simp; omega)).alloc (by have := hb.size; simp at this; omega) _⟩
    · have HV := Lib.hid hv
      have HD := Lib.hid ((one_day d).trans hd)
      have h14 : ¬ (1 ≤ v ∧ v ≤ 4) := by
        intro h
        simp [Cl.adjP, Cl.preE, hv, hd, h] at hp
      have HE := Lib.hid (by simp [Cl.adjP, Cl.preE, hv, hd, h14] : Cl.adjP s k hs d v = 82)
      clear hv hd hp
      rw [HE.out]
      have h14' : v < 1 ∨ 4 < v := by omega
      clear h14
      rcases h14' with h14 | h14
      all_goals
        go_enter Try.func24, Try.ntmps24
        go_wp2_with (go_at_call 20; refine (days_ok s k A hs c (some ⟨w.heap.size + 1, 0, none⟩) [d] 1 _ HA.out HO.out (by simp) HV.out HD.out).mono ?_; rintro e w1 ⟨r, rfl, hm, hr, hb⟩; obtain ⟨hc, hf⟩ := bcell hb)
        go_ret2
        exact ⟨rfl, (bup ((below_new _ _).alloc (by simp) _) hb (by simp; omega)).alloc (by have := hb.size; simp at this; omega) _⟩
end Go.Proofs.Ytaokneooejbfkaa
