/- The contract of the reference's Adjust. -/
import Derived.Test.YtakckjccdknjaaaRefD
namespace Go.Proofs.Ytakckjccdknjaaa
open Go.RowKit
theorem rMonth_any (n : Int) (w : World) (h : Dt.isDay n = true) :
    Calls Try.prog 40 #[.int .i64 n] w fun e w' => e = .returned (.int .i64 (Cl.mNo n)) ∧ w = w' := by
  go_enter Try.func40, Try.ntmps40
  go_wp2_with fail
  refine (rCivil_yes n _ h).mono ?_
  rintro e w' ⟨y, m, d, hc, rfl, rfl⟩
  have he := Lib.hid (Dt.civ_of hc)
  obtain ⟨h1, h2, h3, h4, h5, h6, h7⟩ := hc
  clear h7
  go_wp2
  go_ret
  exact ⟨ret_int (by unfold Cl.mNo; rw [he.out]), rfl⟩
theorem rAdd_one (s : ByteArray) (k : Nat → Bool) (A : Option Addr) (hs : List Int) (c : Nat) (d : Int) (w : World) (hA : IntsAt w A hs) (hl : hs.length ≤ 9223372036854775807) (hp : Cl.preE s k hs d = 0) :
    Calls Try.prog 12 #[.agg #[.string s, .bool (k 0), .bool (k 1), .bool (k 2), .bool (k 3), .bool (k 4), .bool (k 5), .bool (k 6), .slice A hs.length c], .int .i64 d, .int .i64 1] w fun e w' => e = .returned (.tuple #[.int .i64 ((Cl.addO k hs d 1).getD 0), .int .i64 (Cl.errO (Cl.addO k hs d 1))]) ∧ Below w.heap.size w w' := by
  have h := rAdd_pos s k A hs c d 1 w hA hl hp (by omega) (by omega)
  have HB : Cl.addV s k hs d 1 = (Cl.addO k hs d 1).getD 0 := by simp [Cl.addV, hp]
  have HE : Cl.addE s k hs d 1 = Cl.errO (Cl.addO k hs d 1) := by simp [Cl.addE, hp, Cl.errO]
  rw [HB, HE] at h
  exact h
theorem rAdd_back (s : ByteArray) (k : Nat → Bool) (A : Option Addr) (hs : List Int) (c : Nat) (d : Int) (w : World) (hA : IntsAt w A hs) (hl : hs.length ≤ 9223372036854775807) (hp : Cl.preE s k hs d = 0) :
    Calls Try.prog 12 #[.agg #[.string s, .bool (k 0), .bool (k 1), .bool (k 2), .bool (k 3), .bool (k 4), .bool (k 5), .bool (k 6), .slice A hs.length c], .int .i64 d, .int .i64 (-1)] w fun e w' => e = .returned (.tuple #[.int .i64 ((Cl.addO k hs d (-1)).getD 0), .int .i64 (Cl.errO (Cl.addO k hs d (-1)))]) ∧ Below w.heap.size w w' := by
  have h := rAdd_neg s k A hs c d (-1) w hA hl hp (by omega) (by omega)
  have HB : Cl.addV s k hs d (-1) = (Cl.addO k hs d (-1)).getD 0 := by simp [Cl.addV, hp]
  have HE : Cl.addE s k hs d (-1) = Cl.errO (Cl.addO k hs d (-1)) := by simp [Cl.addE, hp, Cl.errO]
  rw [HB, HE] at h
  exact h
theorem addO_day {k : Nat → Bool} {hs : List Int} {d a : Int} (h : Cl.addO k hs d 1 = some a ∨ Cl.addO k hs d (-1) = some a) : Dt.isDay a = true ∨ ¬ Dt.isDay d = true := by
  by_cases hd : Dt.isDay d = true
  · left
    have h0 : 0 ≤ d ∧ d ≤ 73048 := by unfold Dt.isDay at hd; simpa using hd
    rcases h with h | h
    · rw [Cl.addO_pos (by omega), Cl.nthU_one] at h
      have := Cl.up_range h
      unfold Dt.isDay; simp; omega
    · rw [Cl.addO_neg (by omega), show -(-1 : Int) = 1 from rfl, Cl.nthL_one] at h
      have := Cl.dn_range h
      unfold Dt.isDay; simp; omega
  · right; exact hd

set_option maxHeartbeats 1000000 in
theorem rAdj_bad (s : ByteArray) (k : Nat → Bool) (A : Option Addr) (hs : List Int) (c : Nat) (d v : Int) (w : World) (hA : IntsAt w A hs) (hl : hs.length ≤ 9223372036854775807) (hp : Cl.adjP s k hs d v ≠ 0) :
    Calls Try.prog 16 #[.agg #[.string s, .bool (k 0), .bool (k 1), .bool (k 2), .bool (k 3), .bool (k 4), .bool (k 5), .bool (k 6), .slice A hs.length c], .int .i64 d, .int .i64 v] w fun e w' => e = .returned (.tuple #[.int .i64 0, .int .i64 (Cl.adjP s k hs d v)]) ∧ Below w.heap.size w w' := by
  have HA := Lib.hid (hA.alloc (Obj.cells #[.string s, .bool (k 0), .bool (k 1), .bool (k 2), .bool (k 3), .bool (k 4), .bool (k 5), .bool (k 6), .slice A hs.length c] 25))
  clear hA
  by_cases hq : Cl.preE s k hs d = 0
  · have h14 : ¬ (1 ≤ v ∧ v ≤ 4) := by
      intro h
      simp [Cl.adjP, hq, h] at hp
    have HE := Lib.hid (by simp [Cl.adjP, hq, h14] : Cl.adjP s k hs d v = 82)
    have HP := Lib.hid hq
    rw [HE.out]
    have h14' : v < 1 ∨ 4 < v := by omega
    clear hp hq h14
    rcases h14' with h14 | h14
    all_goals
      go_enter Try.func16, Try.ntmps16
      go_wp2_with (go_at_call 31; refine (rcheck_any s k A hs c d _ HA.out hl).mono ?_; rintro e w1 ⟨rfl, hb⟩; rw [HP.out])
      go_ret2
      exact ⟨rfl, bup (below_new _ _) hb (by simp)⟩
  · have HE2 := Lib.hid (by simp [Cl.adjP, hq] : Cl.adjP s k hs d v = Cl.preE s k hs d)
    rw [HE2.out]
    have hpb : (Cl.preE s k hs d != 0) = true := by simp [hq]
    clear hp hq
    obtain ⟨e0, he⟩ : ∃ e0, e0 = Cl.preE s k hs d := ⟨_, rfl⟩
    rw [← he] at hpb
    rw [← he]
    have HE := Lib.hid he
    clear he
    go_enter Try.func16, Try.ntmps16
    go_wp2_with (go_at_call 31; refine (rcheck_any s k A hs c d _ HA.out hl).mono ?_; rintro e w1 ⟨rfl, hb⟩; rw [← HE.out])
    go_ret2
    exact ⟨rfl, bup (below_new _ _) hb (by simp)⟩

set_option maxHeartbeats 4000000 in
theorem rAdj_ok (s : ByteArray) (k : Nat → Bool) (A : Option Addr) (hs : List Int) (c : Nat) (d v : Int) (w : World) (hA : IntsAt w A hs) (hl : hs.length ≤ 9223372036854775807) (hp : Cl.preE s k hs d = 0) (v1 : 1 ≤ v) (v4 : v ≤ 4) :
    Calls Try.prog 16 #[.agg #[.string s, .bool (k 0), .bool (k 1), .bool (k 2), .bool (k 3), .bool (k 4), .bool (k 5), .bool (k 6), .slice A hs.length c], .int .i64 d, .int .i64 v] w fun e w' => e = .returned (.tuple #[.int .i64 ((Cl.adjO k hs d v).getD 0), .int .i64 (Cl.errO (Cl.adjO k hs d v))]) ∧ Below w.heap.size w w' := by
  have HA := Lib.hid (hA.alloc (Obj.cells #[.string s, .bool (k 0), .bool (k 1), .bool (k 2), .bool (k 3), .bool (k 4), .bool (k 5), .bool (k 6), .slice A hs.length c] 25))
  clear hA
  obtain ⟨hv, hd⟩ := preE_parts hp
  have HP := Lib.hid hp
  have HD := Lib.hid hd
  have HV := Lib.hid (valid_of hv)
  have h0 : 0 ≤ d ∧ d ≤ 73048 := by unfold Dt.isDay at hd; simpa using hd
  obtain ⟨d0, d1⟩ := h0
  clear hv hp
  cases ho : Cl.opn k hs d
  · have hX := Cl.adjO_shut (v := v) hd ho
    have HO := Lib.hid ho
    obtain ⟨U, hU⟩ : ∃ U, U = Cl.addO k hs d 1 := ⟨_, rfl⟩
    obtain ⟨L, hL⟩ : ∃ L, L = Cl.addO k hs d (-1) := ⟨_, rfl⟩
    rw [← hU, ← hL] at hX
    have HU := Lib.hid hU
    have HL := Lib.hid hL
    obtain ⟨X, hXX⟩ : ∃ X, X = Cl.adjO k hs d v := ⟨_, rfl⟩
    rw [← hXX] at hX
    rw [← hXX]
    have HX := Lib.hid hX
    clear hU hL hX hXX hd ho
    have hv4 : v = 1 ∨ v = 2 ∨ v = 3 ∨ v = 4 := by omega
    clear v1 v4
    rcases hv4 with h | h | h | h
    · subst h
      have hr : X = U := by rw [HX.out]; simp
      subst hr
      go_enter Try.func16, Try.ntmps16
      go_wp2_with (first
        | (go_at_call 31; refine (rcheck_any s k A hs c d _ HA.out hl).mono ?_; rintro e w1 ⟨rfl, hb⟩; rw [HP.out]; obtain ⟨hc, hf⟩ := bcell hb; have HB1 := Lib.hid hb; clear hb)
        | (go_at_call 32; refine (rOpen_any s k A hs c d _ (HA.out.below HB1.out) HV.out.1 HV.out.2 HD.out).mono ?_; rintro e w2 ⟨rfl, hb2⟩; rw [HO.out]; obtain ⟨hc2, hf2⟩ := bcell hb2; have HB2 := Lib.hid (HB1.out.trans (hb2.mono HB1.out.size)); have hz2 : w.heap.size < w2.heap.size := Nat.lt_of_lt_of_le (by simp) HB2.out.size; clear hb2 hc hf hc2 hf2; obtain ⟨hc, hf⟩ := bcell HB2.out)
        | (go_at_call 12; ((with_reducible refine (rAdd_one s k A hs c d _ (HA.out.below HB2.out) hl HP.out).mono ?_); rintro e w3 ⟨rfl, hb3⟩; rw [← HU.out]; have HB3 := Lib.hid (HB2.out.trans (hb3.mono HB2.out.size)); clear hb3 hc hf; obtain ⟨hc, hf⟩ := bcell HB3.out))
        | (go_at_call 12; ((with_reducible refine (rAdd_back s k A hs c d _ (HA.out.below HB3.out) hl HP.out).mono ?_); rintro e w4 ⟨rfl, hb4⟩; rw [← HL.out]; have HB4 := Lib.hid (HB3.out.trans (hb4.mono HB3.out.size)); clear hb4))
        | (go_at_call 40; ((with_reducible refine (rMonth_any d _ HD.out).mono ?_); rintro e w' ⟨rfl, rfl⟩))
        | (go_at_call 40; ((with_reducible refine (rMonth_any a _ HDa.out).mono ?_); rintro e w' ⟨rfl, rfl⟩)))
      go_ret2
      exact ⟨by simp [Cl.errO], bup (below_new _ _) HB4.out (by simp)⟩
    · subst h
      have hr : X = L := by rw [HX.out]; simp
      subst hr
      go_enter Try.func16, Try.ntmps16
      go_wp2_with (first
        | (go_at_call 31; refine (rcheck_any s k A hs c d _ HA.out hl).mono ?_; rintro e w1 ⟨rfl, hb⟩; rw [HP.out]; obtain ⟨hc, hf⟩ := bcell hb; have HB1 := Lib.hid hb; clear hb)
        | (go_at_call 32; refine (rOpen_any s k A hs c d _ (HA.out.below HB1.out) HV.out.1 HV.out.2 HD.out).mono ?_; rintro e w2 ⟨rfl, hb2⟩; rw [HO.out]; obtain ⟨hc2, hf2⟩ := bcell hb2; have HB2 := Lib.hid (HB1.out.trans (hb2.mono HB1.out.size)); have hz2 : w.heap.size < w2.heap.size := Nat.lt_of_lt_of_le (by simp) HB2.out.size; clear hb2 hc hf hc2 hf2; obtain ⟨hc, hf⟩ := bcell HB2.out)
        | (go_at_call 12; ((with_reducible refine (rAdd_one s k A hs c d _ (HA.out.below HB2.out) hl HP.out).mono ?_); rintro e w3 ⟨rfl, hb3⟩; rw [← HU.out]; have HB3 := Lib.hid (HB2.out.trans (hb3.mono HB2.out.size)); clear hb3 hc hf; obtain ⟨hc, hf⟩ := bcell HB3.out))
        | (go_at_call 12; ((with_reducible refine (rAdd_back s k A hs c d _ (HA.out.below HB3.out) hl HP.out).mono ?_); rintro e w4 ⟨rfl, hb4⟩; rw [← HL.out]; have HB4 := Lib.hid (HB3.out.trans (hb4.mono HB3.out.size)); clear hb4))
        | (go_at_call 40; ((with_reducible refine (rMonth_any d _ HD.out).mono ?_); rintro e w' ⟨rfl, rfl⟩))
        | (go_at_call 40; ((with_reducible refine (rMonth_any a _ HDa.out).mono ?_); rintro e w' ⟨rfl, rfl⟩)))
      go_ret2
      exact ⟨by simp [Cl.errO], bup (below_new _ _) HB4.out (by simp)⟩
    · subst h
      cases U with
      | none =>
        have hr : X = L := by rw [HX.out]; simp
        subst hr
        have hE : Cl.errO none = 81 := rfl
        go_enter Try.func16, Try.ntmps16
        go_wp2_with (first
          | (go_at_call 31; refine (rcheck_any s k A hs c d _ HA.out hl).mono ?_; rintro e w1 ⟨rfl, hb⟩; rw [HP.out]; obtain ⟨hc, hf⟩ := bcell hb; have HB1 := Lib.hid hb; clear hb)
          | (go_at_call 32; refine (rOpen_any s k A hs c d _ (HA.out.below HB1.out) HV.out.1 HV.out.2 HD.out).mono ?_; rintro e w2 ⟨rfl, hb2⟩; rw [HO.out]; obtain ⟨hc2, hf2⟩ := bcell hb2; have HB2 := Lib.hid (HB1.out.trans (hb2.mono HB1.out.size)); have hz2 : w.heap.size < w2.heap.size := Nat.lt_of_lt_of_le (by simp) HB2.out.size; clear hb2 hc hf hc2 hf2; obtain ⟨hc, hf⟩ := bcell HB2.out)
          | (go_at_call 12; ((with_reducible refine (rAdd_one s k A hs c d _ (HA.out.below HB2.out) hl HP.out).mono ?_); rintro e w3 ⟨rfl, hb3⟩; rw [← HU.out]; have HB3 := Lib.hid (HB2.out.trans (hb3.mono HB2.out.size)); clear hb3 hc hf; obtain ⟨hc, hf⟩ := bcell HB3.out))
          | (go_at_call 12; ((with_reducible refine (rAdd_back s k A hs c d _ (HA.out.below HB3.out) hl HP.out).mono ?_); rintro e w4 ⟨rfl, hb4⟩; rw [← HL.out]; have HB4 := Lib.hid (HB3.out.trans (hb4.mono HB3.out.size)); clear hb4))
          | (go_at_call 40; ((with_reducible refine (rMonth_any d _ HD.out).mono ?_); rintro e w' ⟨rfl, rfl⟩))
          | (go_at_call 40; ((with_reducible refine (rMonth_any a _ HDa.out).mono ?_); rintro e w' ⟨rfl, rfl⟩)))
        go_ret2
        exact ⟨by simp [Cl.errO], bup (below_new _ _) HB4.out (by simp)⟩
      | some a =>
        have hE : Cl.errO (some a) = 0 := rfl
        have HDa := Lib.hid (show Dt.isDay a = true from by
          rcases addO_day (Or.inl HU.out.symm) with h | h
          · exact h
          · exact absurd HD.out h)
        by_cases ha : Cl.mNo a = Cl.mNo d
        · have hr : X = some a := by rw [HX.out]; simp [ha]
          subst hr
          have hab : (Cl.mNo a == Cl.mNo d) = true := by simp [ha]
          clear ha
          go_enter Try.func16, Try.ntmps16
          go_wp2_with (first
            | (go_at_call 31; refine (rcheck_any s k A hs c d _ HA.out hl).mono ?_; rintro e w1 ⟨rfl, hb⟩; rw [HP.out]; obtain ⟨hc, hf⟩ := bcell hb; have HB1 := Lib.hid hb; clear hb)
            | (go_at_call 32; refine (rOpen_any s k A hs c d _ (HA.out.below HB1.out) HV.out.1 HV.out.2 HD.out).mono ?_; rintro e w2 ⟨rfl, hb2⟩; rw [HO.out]; obtain ⟨hc2, hf2⟩ := bcell hb2; have HB2 := Lib.hid (HB1.out.trans (hb2.mono HB1.out.size)); have hz2 : w.heap.size < w2.heap.size := Nat.lt_of_lt_of_le (by simp) HB2.out.size; clear hb2 hc hf hc2 hf2; obtain ⟨hc, hf⟩ := bcell HB2.out)
            | (go_at_call 12; ((with_reducible refine (rAdd_one s k A hs c d _ (HA.out.below HB2.out) hl HP.out).mono ?_); rintro e w3 ⟨rfl, hb3⟩; rw [← HU.out]; have HB3 := Lib.hid (HB2.out.trans (hb3.mono HB2.out.size)); clear hb3 hc hf; obtain ⟨hc, hf⟩ := bcell HB3.out))
            | (go_at_call 12; ((with_reducible refine (rAdd_back s k A hs c d _ (HA.out.below HB3.out) hl HP.out).mono ?_); rintro e w4 ⟨rfl, hb4⟩; rw [← HL.out]; have HB4 := Lib.hid (HB3.out.trans (hb4.mono HB3.out.size)); clear hb4))
            | (go_at_call 40; ((with_reducible refine (rMonth_any d _ HD.out).mono ?_); rintro e w' ⟨rfl, rfl⟩))
            | (go_at_call 40; ((with_reducible refine (rMonth_any a _ HDa.out).mono ?_); rintro e w' ⟨rfl, rfl⟩)))
          go_ret2
          exact ⟨by simp [Cl.errO], bup (below_new _ _) HB4.out (by simp)⟩
        · have hr : X = L := by rw [HX.out]; simp [ha]
          subst hr
          have hab : (Cl.mNo a == Cl.mNo d) = false := beq_eq_false_iff_ne.2 ha
          clear ha
          go_enter Try.func16, Try.ntmps16
          go_wp2_with (first
            | (go_at_call 31; refine (rcheck_any s k A hs c d _ HA.out hl).mono ?_; rintro e w1 ⟨rfl, hb⟩; rw [HP.out]; obtain ⟨hc, hf⟩ := bcell hb; have HB1 := Lib.hid hb; clear hb)
            | (go_at_call 32; refine (rOpen_any s k A hs c d _ (HA.out.below HB1.out) HV.out.1 HV.out.2 HD.out).mono ?_; rintro e w2 ⟨rfl, hb2⟩; rw [HO.out]; obtain ⟨hc2, hf2⟩ := bcell hb2; have HB2 := Lib.hid (HB1.out.trans (hb2.mono HB1.out.size)); have hz2 : w.heap.size < w2.heap.size := Nat.lt_of_lt_of_le (by simp) HB2.out.size; clear hb2 hc hf hc2 hf2; obtain ⟨hc, hf⟩ := bcell HB2.out)
            | (go_at_call 12; ((with_reducible refine (rAdd_one s k A hs c d _ (HA.out.below HB2.out) hl HP.out).mono ?_); rintro e w3 ⟨rfl, hb3⟩; rw [← HU.out]; have HB3 := Lib.hid (HB2.out.trans (hb3.mono HB2.out.size)); clear hb3 hc hf; obtain ⟨hc, hf⟩ := bcell HB3.out))
            | (go_at_call 12; ((with_reducible refine (rAdd_back s k A hs c d _ (HA.out.below HB3.out) hl HP.out).mono ?_); rintro e w4 ⟨rfl, hb4⟩; rw [← HL.out]; have HB4 := Lib.hid (HB3.out.trans (hb4.mono HB3.out.size)); clear hb4))
            | (go_at_call 40; ((with_reducible refine (rMonth_any d _ HD.out).mono ?_); rintro e w' ⟨rfl, rfl⟩))
            | (go_at_call 40; ((with_reducible refine (rMonth_any a _ HDa.out).mono ?_); rintro e w' ⟨rfl, rfl⟩)))
          go_ret2
          exact ⟨by simp [Cl.errO], bup (below_new _ _) HB4.out (by simp)⟩
    · subst h
      cases L with
      | none =>
        have hr : X = U := by rw [HX.out]; simp
        subst hr
        have hE : Cl.errO none = 81 := rfl
        go_enter Try.func16, Try.ntmps16
        go_wp2_with (first
          | (go_at_call 31; refine (rcheck_any s k A hs c d _ HA.out hl).mono ?_; rintro e w1 ⟨rfl, hb⟩; rw [HP.out]; obtain ⟨hc, hf⟩ := bcell hb; have HB1 := Lib.hid hb; clear hb)
          | (go_at_call 32; refine (rOpen_any s k A hs c d _ (HA.out.below HB1.out) HV.out.1 HV.out.2 HD.out).mono ?_; rintro e w2 ⟨rfl, hb2⟩; rw [HO.out]; obtain ⟨hc2, hf2⟩ := bcell hb2; have HB2 := Lib.hid (HB1.out.trans (hb2.mono HB1.out.size)); have hz2 : w.heap.size < w2.heap.size := Nat.lt_of_lt_of_le (by simp) HB2.out.size; clear hb2 hc hf hc2 hf2; obtain ⟨hc, hf⟩ := bcell HB2.out)
          | (go_at_call 12; ((with_reducible refine (rAdd_one s k A hs c d _ (HA.out.below HB2.out) hl HP.out).mono ?_); rintro e w3 ⟨rfl, hb3⟩; rw [← HU.out]; have HB3 := Lib.hid (HB2.out.trans (hb3.mono HB2.out.size)); clear hb3 hc hf; obtain ⟨hc, hf⟩ := bcell HB3.out))
          | (go_at_call 12; ((with_reducible refine (rAdd_back s k A hs c d _ (HA.out.below HB3.out) hl HP.out).mono ?_); rintro e w4 ⟨rfl, hb4⟩; rw [← HL.out]; have HB4 := Lib.hid (HB3.out.trans (hb4.mono HB3.out.size)); clear hb4))
          | (go_at_call 40; ((with_reducible refine (rMonth_any d _ HD.out).mono ?_); rintro e w' ⟨rfl, rfl⟩))
          | (go_at_call 40; ((with_reducible refine (rMonth_any a _ HDa.out).mono ?_); rintro e w' ⟨rfl, rfl⟩)))
        go_ret2
        exact ⟨by simp [Cl.errO], bup (below_new _ _) HB4.out (by simp)⟩
      | some a =>
        have hE : Cl.errO (some a) = 0 := rfl
        have HDa := Lib.hid (show Dt.isDay a = true from by
          rcases addO_day (Or.inr HL.out.symm) with h | h
          · exact h
          · exact absurd HD.out h)
        by_cases ha : Cl.mNo a = Cl.mNo d
        · have hr : X = some a := by rw [HX.out]; simp [ha]
          subst hr
          have hab : (Cl.mNo a == Cl.mNo d) = true := by simp [ha]
          clear ha
          go_enter Try.func16, Try.ntmps16
          go_wp2_with (first
            | (go_at_call 31; refine (rcheck_any s k A hs c d _ HA.out hl).mono ?_; rintro e w1 ⟨rfl, hb⟩; rw [HP.out]; obtain ⟨hc, hf⟩ := bcell hb; have HB1 := Lib.hid hb; clear hb)
            | (go_at_call 32; refine (rOpen_any s k A hs c d _ (HA.out.below HB1.out) HV.out.1 HV.out.2 HD.out).mono ?_; rintro e w2 ⟨rfl, hb2⟩; rw [HO.out]; obtain ⟨hc2, hf2⟩ := bcell hb2; have HB2 := Lib.hid (HB1.out.trans (hb2.mono HB1.out.size)); have hz2 : w.heap.size < w2.heap.size := Nat.lt_of_lt_of_le (by simp) HB2.out.size; clear hb2 hc hf hc2 hf2; obtain ⟨hc, hf⟩ := bcell HB2.out)
            | (go_at_call 12; ((with_reducible refine (rAdd_one s k A hs c d _ (HA.out.below HB2.out) hl HP.out).mono ?_); rintro e w3 ⟨rfl, hb3⟩; rw [← HU.out]; have HB3 := Lib.hid (HB2.out.trans (hb3.mono HB2.out.size)); clear hb3 hc hf; obtain ⟨hc, hf⟩ := bcell HB3.out))
            | (go_at_call 12; ((with_reducible refine (rAdd_back s k A hs c d _ (HA.out.below HB3.out) hl HP.out).mono ?_); rintro e w4 ⟨rfl, hb4⟩; rw [← HL.out]; have HB4 := Lib.hid (HB3.out.trans (hb4.mono HB3.out.size)); clear hb4))
            | (go_at_call 40; ((with_reducible refine (rMonth_any d _ HD.out).mono ?_); rintro e w' ⟨rfl, rfl⟩))
            | (go_at_call 40; ((with_reducible refine (rMonth_any a _ HDa.out).mono ?_); rintro e w' ⟨rfl, rfl⟩)))
          go_ret2
          exact ⟨by simp [Cl.errO], bup (below_new _ _) HB4.out (by simp)⟩
        · have hr : X = U := by rw [HX.out]; simp [ha]
          subst hr
          have hab : (Cl.mNo a == Cl.mNo d) = false := beq_eq_false_iff_ne.2 ha
          clear ha
          go_enter Try.func16, Try.ntmps16
          go_wp2_with (first
            | (go_at_call 31; refine (rcheck_any s k A hs c d _ HA.out hl).mono ?_; rintro e w1 ⟨rfl, hb⟩; rw [HP.out]; obtain ⟨hc, hf⟩ := bcell hb; have HB1 := Lib.hid hb; clear hb)
            | (go_at_call 32; refine (rOpen_any s k A hs c d _ (HA.out.below HB1.out) HV.out.1 HV.out.2 HD.out).mono ?_; rintro e w2 ⟨rfl, hb2⟩; rw [HO.out]; obtain ⟨hc2, hf2⟩ := bcell hb2; have HB2 := Lib.hid (HB1.out.trans (hb2.mono HB1.out.size)); have hz2 : w.heap.size < w2.heap.size := Nat.lt_of_lt_of_le (by simp) HB2.out.size; clear hb2 hc hf hc2 hf2; obtain ⟨hc, hf⟩ := bcell HB2.out)
            | (go_at_call 12; ((with_reducible refine (rAdd_one s k A hs c d _ (HA.out.below HB2.out) hl HP.out).mono ?_); rintro e w3 ⟨rfl, hb3⟩; rw [← HU.out]; have HB3 := Lib.hid (HB2.out.trans (hb3.mono HB2.out.size)); clear hb3 hc hf; obtain ⟨hc, hf⟩ := bcell HB3.out))
            | (go_at_call 12; ((with_reducible refine (rAdd_back s k A hs c d _ (HA.out.below HB3.out) hl HP.out).mono ?_); rintro e w4 ⟨rfl, hb4⟩; rw [← HL.out]; have HB4 := Lib.hid (HB3.out.trans (hb4.mono HB3.out.size)); clear hb4))
            | (go_at_call 40; ((with_reducible refine (rMonth_any d _ HD.out).mono ?_); rintro e w' ⟨rfl, rfl⟩))
            | (go_at_call 40; ((with_reducible refine (rMonth_any a _ HDa.out).mono ?_); rintro e w' ⟨rfl, rfl⟩)))
          go_ret2
          exact ⟨by simp [Cl.errO], bup (below_new _ _) HB4.out (by simp)⟩
  · have hX := Cl.adjO_open (v := v) hd ho
    have HO := Lib.hid ho
    rw [hX]
    clear hX hd ho
    go_enter Try.func16, Try.ntmps16
    go_wp2_with (first
      | (go_at_call 31; refine (rcheck_any s k A hs c d _ HA.out hl).mono ?_; rintro e w1 ⟨rfl, hb⟩; rw [HP.out]; obtain ⟨hc, hf⟩ := bcell hb)
      | (go_at_call 32; refine (rOpen_any s k A hs c d _ (HA.out.below hb) HV.out.1 HV.out.2 HD.out).mono ?_; rintro e w2 ⟨rfl, hb2⟩; rw [HO.out]))
    go_ret2
    exact ⟨by simp [Cl.errO], bup (bup (below_new _ _) hb (by simp)) hb2 (by have := hb.size; simp at this; omega)⟩
end Go.Proofs.Ytakckjccdknjaaa
