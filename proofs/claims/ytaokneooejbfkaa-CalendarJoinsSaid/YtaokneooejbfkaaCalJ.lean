/- The contract of calendar.Adjust, where there is something to search. -/
import Derived.Test.YtaokneooejbfkaaCalI
namespace Go.Proofs.Ytaokneooejbfkaa
set_option maxRecDepth 8000
open Go.RowKit Go.Maps
theorem mDay_bd {n : Int} (h : Dt.isDay n = true) : 1 ≤ Cl.mDay n ∧ Cl.mDay n ≤ 31 := by
  obtain ⟨h1, h2, h3, h4, h5, h6, h7⟩ := Dt.civ_spec h
  have := Dt.dim_bd (Dt.civ n).1 (Dt.civ n).2.1
  unfold Cl.mDay; omega
set_option maxHeartbeats 4000000 in
theorem adj_ok (s : ByteArray) (k : Nat → Bool) (A : Option Addr) (hs : List Int) (c : Nat) (d v : Int) (w : World) (hA : IntsAt w A hs) (hv : Cl.validC s k hs = true) (hd : Dt.isDay d = true) (v1 : 1 ≤ v) (v4 : v ≤ 4) :
    Calls Try.prog 24 #[.agg #[.string s, .bool (k 0), .bool (k 1), .bool (k 2), .bool (k 3), .bool (k 4), .bool (k 5), .bool (k 6), .slice A hs.length c], .int .i64 d, .int .i64 v] w fun e w' => e = .returned (.tuple #[.int .i64 ((Cl.adjO k hs d v).getD 0), .int .i64 (Cl.errO (Cl.adjO k hs d v))]) ∧ Below w.heap.size w w' := by
  have HA := Lib.hid ((hA.alloc (Obj.cells #[.string s, .bool (k 0), .bool (k 1), .bool (k 2), .bool (k 3), .bool (k 4), .bool (k 5), .bool (k 6), .slice A hs.length c] 25)).alloc (.cells #[.int .i64 d] 3))
  have HO := Lib.hid (ints_one (w.alloc (Obj.cells #[.string s, .bool (k 0), .bool (k 1), .bool (k 2), .bool (k 3), .bool (k 4), .bool (k 5), .bool (k 6), .slice A hs.length c] 25)) d 3 (w.heap.size + 1) (by simp))
  clear hA
  have HV := Lib.hid hv
  have HD := Lib.hid ((one_day d).trans hd)
  have HDD := Lib.hid hd
  have hd0 : 0 ≤ d ∧ d ≤ 73048 := by unfold Dt.isDay at hd; simpa using hd
  obtain ⟨d0, d1⟩ := hd0
  obtain ⟨m0, m1⟩ := mDay_bd hd
  clear hv hd
  obtain ⟨U, hU⟩ : ∃ U, U = Cl.up (Cl.opnF k (Cl.has hs)) d := ⟨_, rfl⟩
  obtain ⟨L, hL⟩ : ∃ L, L = Cl.dn (Cl.opnF k (Cl.has hs)) d := ⟨_, rfl⟩
  have hX : Cl.adjO k hs d v = if v = 1 then U else if v = 3 then (if U.isSome = true ∧ U.getD 0 ≤ Cl.mEnd d then U else L) else if v = 4 then (if L.isSome = true ∧ d - Cl.mDay d < L.getD 0 then L else U) else L := by rw [hU, hL]; rfl
  have HU := Lib.hid hU
  have HL := Lib.hid hL
  obtain ⟨X, hXX⟩ : ∃ X, X = Cl.adjO k hs d v := ⟨_, rfl⟩
  rw [← hXX] at hX
  rw [← hXX]
  have HX := Lib.hid hX
  clear hU hL hX hXX
  have hv4 : v = 1 ∨ v = 2 ∨ v = 3 ∨ v = 4 := by omega
  clear v1 v4
  rcases hv4 with h | h | h | h
  · subst h
    have hr : X = U := by rw [HX.out]; simp
    subst hr
    go_enter Try.func24, Try.ntmps24
    go_wp2_with (first
      | (go_at_call 20; refine (days_ok s k A hs c (some ⟨w.heap.size + 1, 0, none⟩) [d] 1 _ HA.out HO.out (by simp) HV.out HD.out).mono ?_; rintro e w1 ⟨r, rfl, hm, hr, hb⟩; obtain ⟨hc, hf⟩ := bcell hb; have HM := Lib.hid (hm.alloc (Obj.cells #[.bool (k 0), .bool (k 1), .bool (k 2), .bool (k 3), .bool (k 4), .bool (k 5), .bool (k 6), .map (some r)] 51)); have HB := Lib.hid ((bup ((below_new _ _).alloc (by simp) _) hb (by simp; omega)).alloc (by have := hb.size; simp at this; omega) (Obj.cells #[.bool (k 0), .bool (k 1), .bool (k 2), .bool (k 3), .bool (k 4), .bool (k 5), .bool (k 6), .map (some r)] 51) : Below w.heap.size w _); clear hm hr hb)
      | (go_at_call 33; refine (dFrom_any k r hs.length (Cl.has hs) d _ HM.out d0 (by omega)).mono ?_; rintro e w2 ⟨rfl, hb2⟩; rw [← HU.out]; obtain ⟨hc2, hf2⟩ := bcell hb2; have HM2 := Lib.hid (HM.out.below hb2); have HB2 := Lib.hid (bup HB.out hb2 HB.out.size); clear hb2)
      | (go_at_call 35; refine (dTo_any k r hs.length (Cl.has hs) d _ HM2.out (by omega) d1).mono ?_; rintro e w3 ⟨rfl, hb3⟩; rw [← HL.out]; have HB3 := Lib.hid (bup HB2.out hb3 HB2.out.size); clear hb3)
      | (go_at_call 36; refine (mEnd_any d _ HDD.out).mono ?_; rintro e w' ⟨rfl, rfl⟩)
      | (go_at_call 37; refine (civil_any d _ HDD.out).mono ?_; rintro e w' ⟨rfl, rfl⟩)
      | (go_at_call 32; ((with_reducible refine (found_opt _ _).mono ?_); rintro e w' ⟨rfl, rfl⟩))
      | (go_at_call 32; ((with_reducible refine (found_yes _ _).mono ?_); rintro e w' ⟨rfl, rfl⟩)))
    go_ret2
    exact ⟨by simp [Cl.errO], HB3.out⟩
  · subst h
    have hr : X = L := by rw [HX.out]; simp
    subst hr
    go_enter Try.func24, Try.ntmps24
    go_wp2_with (first
      | (go_at_call 20; refine (days_ok s k A hs c (some ⟨w.heap.size + 1, 0, none⟩) [d] 1 _ HA.out HO.out (by simp) HV.out HD.out).mono ?_; rintro e w1 ⟨r, rfl, hm, hr, hb⟩; obtain ⟨hc, hf⟩ := bcell hb; have HM := Lib.hid (hm.alloc (Obj.cells #[.bool (k 0), .bool (k 1), .bool (k 2), .bool (k 3), .bool (k 4), .bool (k 5), .bool (k 6), .map (some r)] 51)); have HB := Lib.hid ((bup ((below_new _ _).alloc (by simp) _) hb (by simp; omega)).alloc (by have := hb.size; simp at this; omega) (Obj.cells #[.bool (k 0), .bool (k 1), .bool (k 2), .bool (k 3), .bool (k 4), .bool (k 5), .bool (k 6), .map (some r)] 51) : Below w.heap.size w _); clear hm hr hb)
      | (go_at_call 33; refine (dFrom_any k r hs.length (Cl.has hs) d _ HM.out d0 (by omega)).mono ?_; rintro e w2 ⟨rfl, hb2⟩; rw [← HU.out]; obtain ⟨hc2, hf2⟩ := bcell hb2; have HM2 := Lib.hid (HM.out.below hb2); have HB2 := Lib.hid (bup HB.out hb2 HB.out.size); clear hb2)
      | (go_at_call 35; refine (dTo_any k r hs.length (Cl.has hs) d _ HM2.out (by omega) d1).mono ?_; rintro e w3 ⟨rfl, hb3⟩; rw [← HL.out]; have HB3 := Lib.hid (bup HB2.out hb3 HB2.out.size); clear hb3)
      | (go_at_call 36; refine (mEnd_any d _ HDD.out).mono ?_; rintro e w' ⟨rfl, rfl⟩)
      | (go_at_call 37; refine (civil_any d _ HDD.out).mono ?_; rintro e w' ⟨rfl, rfl⟩)
      | (go_at_call 32; ((with_reducible refine (found_opt _ _).mono ?_); rintro e w' ⟨rfl, rfl⟩))
      | (go_at_call 32; ((with_reducible refine (found_yes _ _).mono ?_); rintro e w' ⟨rfl, rfl⟩)))
    go_ret2
    exact ⟨by simp [Cl.errO], HB3.out⟩
  · subst h
    cases U with
    | none =>
      have hr : X = L := by rw [HX.out]; simp
      subst hr
      go_enter Try.func24, Try.ntmps24
      go_wp2_with (first
        | (go_at_call 20; refine (days_ok s k A hs c (some ⟨w.heap.size + 1, 0, none⟩) [d] 1 _ HA.out HO.out (by simp) HV.out HD.out).mono ?_; rintro e w1 ⟨r, rfl, hm, hr, hb⟩; obtain ⟨hc, hf⟩ := bcell hb; have HM := Lib.hid (hm.alloc (Obj.cells #[.bool (k 0), .bool (k 1), .bool (k 2), .bool (k 3), .bool (k 4), .bool (k 5), .bool (k 6), .map (some r)] 51)); have HB := Lib.hid ((bup ((below_new _ _).alloc (by simp) _) hb (by simp; omega)).alloc (by have := hb.size; simp at this; omega) (Obj.cells #[.bool (k 0), .bool (k 1), .bool (k 2), .bool (k 3), .bool (k 4), .bool (k 5), .bool (k 6), .map (some r)] 51) : Below w.heap.size w _); clear hm hr hb)
        | (go_at_call 33; refine (dFrom_any k r hs.length (Cl.has hs) d _ HM.out d0 (by omega)).mono ?_; rintro e w2 ⟨rfl, hb2⟩; rw [← HU.out]; obtain ⟨hc2, hf2⟩ := bcell hb2; have HM2 := Lib.hid (HM.out.below hb2); have HB2 := Lib.hid (bup HB.out hb2 HB.out.size); clear hb2)
        | (go_at_call 35; refine (dTo_any k r hs.length (Cl.has hs) d _ HM2.out (by omega) d1).mono ?_; rintro e w3 ⟨rfl, hb3⟩; rw [← HL.out]; have HB3 := Lib.hid (bup HB2.out hb3 HB2.out.size); clear hb3)
        | (go_at_call 36; refine (mEnd_any d _ HDD.out).mono ?_; rintro e w' ⟨rfl, rfl⟩)
        | (go_at_call 37; refine (civil_any d _ HDD.out).mono ?_; rintro e w' ⟨rfl, rfl⟩)
        | (go_at_call 32; ((with_reducible refine (found_opt _ _).mono ?_); rintro e w' ⟨rfl, rfl⟩))
        | (go_at_call 32; ((with_reducible refine (found_yes _ _).mono ?_); rintro e w' ⟨rfl, rfl⟩)))
      go_ret2
      exact ⟨by simp [Cl.errO], HB3.out⟩
    | some a =>
      by_cases ha : a ≤ Cl.mEnd d
      · have hr : X = some a := by rw [HX.out]; simp [ha]
        subst hr
        go_enter Try.func24, Try.ntmps24
        go_wp2_with (first
          | (go_at_call 20; refine (days_ok s k A hs c (some ⟨w.heap.size + 1, 0, none⟩) [d] 1 _ HA.out HO.out (by simp) HV.out HD.out).mono ?_; rintro e w1 ⟨r, rfl, hm, hr, hb⟩; obtain ⟨hc, hf⟩ := bcell hb; have HM := Lib.hid (hm.alloc (Obj.cells #[.bool (k 0), .bool (k 1), .bool (k 2), .bool (k 3), .bool (k 4), .bool (k 5), .bool (k 6), .map (some r)] 51)); have HB := Lib.hid ((bup ((below_new _ _).alloc (by simp) _) hb (by simp; omega)).alloc (by have := hb.size; simp at this; omega) (Obj.cells #[.bool (k 0), .bool (k 1), .bool (k 2), .bool (k 3), .bool (k 4), .bool (k 5), .bool (k 6), .map (some r)] 51) : Below w.heap.size w _); clear hm hr hb)
          | (go_at_call 33; refine (dFrom_any k r hs.length (Cl.has hs) d _ HM.out d0 (by omega)).mono ?_; rintro e w2 ⟨rfl, hb2⟩; rw [← HU.out]; obtain ⟨hc2, hf2⟩ := bcell hb2; have HM2 := Lib.hid (HM.out.below hb2); have HB2 := Lib.hid (bup HB.out hb2 HB.out.size); clear hb2)
          | (go_at_call 35; refine (dTo_any k r hs.length (Cl.has hs) d _ HM2.out (by omega) d1).mono ?_; rintro e w3 ⟨rfl, hb3⟩; rw [← HL.out]; have HB3 := Lib.hid (bup HB2.out hb3 HB2.out.size); clear hb3)
          | (go_at_call 36; refine (mEnd_any d _ HDD.out).mono ?_; rintro e w' ⟨rfl, rfl⟩)
          | (go_at_call 37; refine (civil_any d _ HDD.out).mono ?_; rintro e w' ⟨rfl, rfl⟩)
          | (go_at_call 32; ((with_reducible refine (found_opt _ _).mono ?_); rintro e w' ⟨rfl, rfl⟩))
          | (go_at_call 32; ((with_reducible refine (found_yes _ _).mono ?_); rintro e w' ⟨rfl, rfl⟩)))
        go_ret2
        exact ⟨by simp [Cl.errO], HB3.out⟩
      · have hr : X = L := by rw [HX.out]; simp [ha]
        subst hr
        go_enter Try.func24, Try.ntmps24
        go_wp2_with (first
          | (go_at_call 20; refine (days_ok s k A hs c (some ⟨w.heap.size + 1, 0, none⟩) [d] 1 _ HA.out HO.out (by simp) HV.out HD.out).mono ?_; rintro e w1 ⟨r, rfl, hm, hr, hb⟩; obtain ⟨hc, hf⟩ := bcell hb; have HM := Lib.hid (hm.alloc (Obj.cells #[.bool (k 0), .bool (k 1), .bool (k 2), .bool (k 3), .bool (k 4), .bool (k 5), .bool (k 6), .map (some r)] 51)); have HB := Lib.hid ((bup ((below_new _ _).alloc (by simp) _) hb (by simp; omega)).alloc (by have := hb.size; simp at this; omega) (Obj.cells #[.bool (k 0), .bool (k 1), .bool (k 2), .bool (k 3), .bool (k 4), .bool (k 5), .bool (k 6), .map (some r)] 51) : Below w.heap.size w _); clear hm hr hb)
          | (go_at_call 33; refine (dFrom_any k r hs.length (Cl.has hs) d _ HM.out d0 (by omega)).mono ?_; rintro e w2 ⟨rfl, hb2⟩; rw [← HU.out]; obtain ⟨hc2, hf2⟩ := bcell hb2; have HM2 := Lib.hid (HM.out.below hb2); have HB2 := Lib.hid (bup HB.out hb2 HB.out.size); clear hb2)
          | (go_at_call 35; refine (dTo_any k r hs.length (Cl.has hs) d _ HM2.out (by omega) d1).mono ?_; rintro e w3 ⟨rfl, hb3⟩; rw [← HL.out]; have HB3 := Lib.hid (bup HB2.out hb3 HB2.out.size); clear hb3)
          | (go_at_call 36; refine (mEnd_any d _ HDD.out).mono ?_; rintro e w' ⟨rfl, rfl⟩)
          | (go_at_call 37; refine (civil_any d _ HDD.out).mono ?_; rintro e w' ⟨rfl, rfl⟩)
          | (go_at_call 32; ((with_reducible refine (found_opt _ _).mono ?_); rintro e w' ⟨rfl, rfl⟩))
          | (go_at_call 32; ((with_reducible refine (found_yes _ _).mono ?_); rintro e w' ⟨rfl, rfl⟩)))
        go_ret2
        exact ⟨by simp [Cl.errO], HB3.out⟩
  · subst h
    cases L with
    | none =>
      have hr : X = U := by rw [HX.out]; simp
      subst hr
      go_enter Try.func24, Try.ntmps24
      go_wp2_with (first
        | (go_at_call 20; refine (days_ok s k A hs c (some ⟨w.heap.size + 1, 0, none⟩) [d] 1 _ HA.out HO.out (by simp) HV.out HD.out).mono ?_; rintro e w1 ⟨r, rfl, hm, hr, hb⟩; obtain ⟨hc, hf⟩ := bcell hb; have HM := Lib.hid (hm.alloc (Obj.cells #[.bool (k 0), .bool (k 1), .bool (k 2), .bool (k 3), .bool (k 4), .bool (k 5), .bool (k 6), .map (some r)] 51)); have HB := Lib.hid ((bup ((below_new _ _).alloc (by simp) _) hb (by simp; omega)).alloc (by have := hb.size; simp at this; omega) (Obj.cells #[.bool (k 0), .bool (k 1), .bool (k 2), .bool (k 3), .bool (k 4), .bool (k 5), .bool (k 6), .map (some r)] 51) : Below w.heap.size w _); clear hm hr hb)
        | (go_at_call 33; refine (dFrom_any k r hs.length (Cl.has hs) d _ HM.out d0 (by omega)).mono ?_; rintro e w2 ⟨rfl, hb2⟩; rw [← HU.out]; obtain ⟨hc2, hf2⟩ := bcell hb2; have HM2 := Lib.hid (HM.out.below hb2); have HB2 := Lib.hid (bup HB.out hb2 HB.out.size); clear hb2)
        | (go_at_call 35; refine (dTo_any k r hs.length (Cl.has hs) d _ HM2.out (by omega) d1).mono ?_; rintro e w3 ⟨rfl, hb3⟩; rw [← HL.out]; have HB3 := Lib.hid (bup HB2.out hb3 HB2.out.size); clear hb3)
        | (go_at_call 36; refine (mEnd_any d _ HDD.out).mono ?_; rintro e w' ⟨rfl, rfl⟩)
        | (go_at_call 37; refine (civil_any d _ HDD.out).mono ?_; rintro e w' ⟨rfl, rfl⟩)
        | (go_at_call 32; ((with_reducible refine (found_opt _ _).mono ?_); rintro e w' ⟨rfl, rfl⟩))
        | (go_at_call 32; ((with_reducible refine (found_yes _ _).mono ?_); rintro e w' ⟨rfl, rfl⟩)))
      go_ret2
      exact ⟨by simp [Cl.errO], HB3.out⟩
    | some a =>
      by_cases ha : d - Cl.mDay d < a
      · have hr : X = some a := by rw [HX.out]; simp [ha]
        subst hr
        go_enter Try.func24, Try.ntmps24
        go_wp2_with (first
          | (go_at_call 20; refine (days_ok s k A hs c (some ⟨w.heap.size + 1, 0, none⟩) [d] 1 _ HA.out HO.out (by simp) HV.out HD.out).mono ?_; rintro e w1 ⟨r, rfl, hm, hr, hb⟩; obtain ⟨hc, hf⟩ := bcell hb; have HM := Lib.hid (hm.alloc (Obj.cells #[.bool (k 0), .bool (k 1), .bool (k 2), .bool (k 3), .bool (k 4), .bool (k 5), .bool (k 6), .map (some r)] 51)); have HB := Lib.hid ((bup ((below_new _ _).alloc (by simp) _) hb (by simp; omega)).alloc (by have := hb.size; simp at this; omega) (Obj.cells #[.bool (k 0), .bool (k 1), .bool (k 2), .bool (k 3), .bool (k 4), .bool (k 5), .bool (k 6), .map (some r)] 51) : Below w.heap.size w _); clear hm hr hb)
          | (go_at_call 33; refine (dFrom_any k r hs.length (Cl.has hs) d _ HM.out d0 (by omega)).mono ?_; rintro e w2 ⟨rfl, hb2⟩; rw [← HU.out]; obtain ⟨hc2, hf2⟩ := bcell hb2; have HM2 := Lib.hid (HM.out.below hb2); have HB2 := Lib.hid (bup HB.out hb2 HB.out.size); clear hb2)
          | (go_at_call 35; refine (dTo_any k r hs.length (Cl.has hs) d _ HM2.out (by omega) d1).mono ?_; rintro e w3 ⟨rfl, hb3⟩; rw [← HL.out]; have HB3 := Lib.hid (bup HB2.out hb3 HB2.out.size); clear hb3)
          | (go_at_call 36; refine (mEnd_any d _ HDD.out).mono ?_; rintro e w' ⟨rfl, rfl⟩)
          | (go_at_call 37; refine (civil_any d _ HDD.out).mono ?_; rintro e w' ⟨rfl, rfl⟩)
          | (go_at_call 32; ((with_reducible refine (found_opt _ _).mono ?_); rintro e w' ⟨rfl, rfl⟩))
          | (go_at_call 32; ((with_reducible refine (found_yes _ _).mono ?_); rintro e w' ⟨rfl, rfl⟩)))
        go_ret2
        exact ⟨by simp [Cl.errO], HB3.out⟩
      · have hr : X = U := by rw [HX.out]; simp [ha]
        subst hr
        have hbd : decide (d - Cl.mDay d < a) = false := decide_eq_false ha
        go_enter Try.func24, Try.ntmps24
        go_wp2_with (first
          | (go_at_call 20; refine (days_ok s k A hs c (some ⟨w.heap.size + 1, 0, none⟩) [d] 1 _ HA.out HO.out (by simp) HV.out HD.out).mono ?_; rintro e w1 ⟨r, rfl, hm, hr, hb⟩; obtain ⟨hc, hf⟩ := bcell hb; have HM := Lib.hid (hm.alloc (Obj.cells #[.bool (k 0), .bool (k 1), .bool (k 2), .bool (k 3), .bool (k 4), .bool (k 5), .bool (k 6), .map (some r)] 51)); have HB := Lib.hid ((bup ((below_new _ _).alloc (by simp) _) hb (by simp; omega)).alloc (by have := hb.size; simp at this; omega) (Obj.cells #[.bool (k 0), .bool (k 1), .bool (k 2), .bool (k 3), .bool (k 4), .bool (k 5), .bool (k 6), .map (some r)] 51) : Below w.heap.size w _); clear hm hr hb)
          | (go_at_call 33; refine (dFrom_any k r hs.length (Cl.has hs) d _ HM.out d0 (by omega)).mono ?_; rintro e w2 ⟨rfl, hb2⟩; rw [← HU.out]; obtain ⟨hc2, hf2⟩ := bcell hb2; have HM2 := Lib.hid (HM.out.below hb2); have HB2 := Lib.hid (bup HB.out hb2 HB.out.size); clear hb2)
          | (go_at_call 35; refine (dTo_any k r hs.length (Cl.has hs) d _ HM2.out (by omega) d1).mono ?_; rintro e w3 ⟨rfl, hb3⟩; rw [← HL.out]; have HB3 := Lib.hid (bup HB2.out hb3 HB2.out.size); clear hb3)
          | (go_at_call 36; refine (mEnd_any d _ HDD.out).mono ?_; rintro e w' ⟨rfl, rfl⟩)
          | (go_at_call 37; refine (civil_any d _ HDD.out).mono ?_; rintro e w' ⟨rfl, rfl⟩)
          | (go_at_call 32; ((with_reducible refine (found_opt _ _).mono ?_); rintro e w' ⟨rfl, rfl⟩))
          | (go_at_call 32; ((with_reducible refine (found_yes _ _).mono ?_); rintro e w' ⟨rfl, rfl⟩)))
        go_ret2
        exact ⟨by simp [Cl.errO], HB3.out⟩
end Go.Proofs.Ytaokneooejbfkaa
