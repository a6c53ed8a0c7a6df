/- The contract of calendar.days: the business days of a valid calendar, for one or two days. -/
import Derived.Test.YtaokneooejbfkaaCalB
import Derived.Test.YtaokneooejbfkaaCalS
namespace Go.Proofs.Ytaokneooejbfkaa
set_option maxRecDepth 8000
open Go.RowKit Go.Maps
/-- Are all of some days days? -/
def allDay : List Int → Bool
  | [] => true
  | d :: t => Dt.isDay d && allDay t
set_option maxHeartbeats 1000000 in
theorem days_bad (s : ByteArray) (k : Nat → Bool) (A : Option Addr) (hs : List Int) (c : Nat) (L : Option Addr) (ds : List Int) (cd : Nat) (w : World) (hA : IntsAt w A hs) (hl : hs.length ≤ 9223372036854775807) (hv : Cl.validC s k hs = false) :
    Calls Try.prog 20 #[.agg #[.string s, .bool (k 0), .bool (k 1), .bool (k 2), .bool (k 3), .bool (k 4), .bool (k 5), .bool (k 6), .slice A hs.length c], .slice L ds.length cd] w fun e w' => e = .returned (.tuple #[.agg #[.bool false, .bool false, .bool false, .bool false, .bool false, .bool false, .bool false, .map none], .int .i64 80]) ∧ Below w.heap.size w w' := by
  have HC := Lib.hid (by simp [Cl.chk, hv] : Cl.chk s k hs = 80)
  have HA := Lib.hid hA
  have HL := Lib.hid hl
  clear hv hA hl
  go_enter Try.func20, Try.ntmps20
  go_wp2_with (go_at_call 15; refine (cCheck_any s k A hs c _ ((HA.out.alloc _).alloc _) HL.out).mono ?_; rintro e w1 ⟨rfl, hb⟩; rw [HC.out]; obtain ⟨hc, hf⟩ := bcell hb)
  refine bodyPost_ret (v := .tuple #[.agg #[.bool false, .bool false, .bool false, .bool false, .bool false, .bool false, .bool false, .map none], .int .i64 80]) (by simp [results, Try.results20, go_sem, hc]) rfl ⟨rfl, ?_⟩
  repeat (refine Below.setCell ?_ (by simp) _)
  exact bup ((below_new _ _).alloc (by simp) _) hb (by simp; omega)

theorem allDay_drop (ds : List Int) (j : Nat) (h : j < ds.length) : allDay (ds.drop j) = (Dt.isDay (ds.getD j 0) && allDay (ds.drop (j + 1))) := by
  rw [List.drop_eq_getElem_cons h]
  simp [allDay, List.getD, List.getElem?_eq_getElem h]
theorem valid_parts {s : ByteArray} {k : Nat → Bool} {hs : List Int} (hv : Cl.validC s k hs = true) : hs.length ≤ 2000 ∧ Cl.asc (-1) hs = true := by
  unfold Cl.validC at hv
  simp only [Bool.and_eq_true, decide_eq_true_eq] at hv
  exact ⟨hv.1.2, hv.2⟩
theorem asc_days : ∀ (hs : List Int) (last : Int), Cl.asc last hs = true → ∀ j, j < hs.length → 0 ≤ hs.getD j 0 ∧ hs.getD j 0 ≤ 73048
  | [], _, _, j, h => by simp at h
  | x :: t, last, h, j, hj => by
    unfold Cl.asc at h
    simp only [Bool.and_eq_true, decide_eq_true_eq] at h
    cases j with
    | zero => have := h.1.2; unfold Dt.isDay at this; simpa using this
    | succ j => exact asc_days t x h.2 j (by simpa using hj)
set_option maxHeartbeats 1000000 in
theorem days_out (s : ByteArray) (k : Nat → Bool) (A : Option Addr) (hs : List Int) (c : Nat) (L : Option Addr) (ds : List Int) (cd : Nat) (w : World) (hA : IntsAt w A hs) (hL : IntsAt w L ds) (hn : ds.length ≤ 100) (hv : Cl.validC s k hs = true) (hd : allDay ds = false) :
    Calls Try.prog 20 #[.agg #[.string s, .bool (k 0), .bool (k 1), .bool (k 2), .bool (k 3), .bool (k 4), .bool (k 5), .bool (k 6), .slice A hs.length c], .slice L ds.length cd] w fun e w' => e = .returned (.tuple #[.agg #[.bool false, .bool false, .bool false, .bool false, .bool false, .bool false, .bool false, .map none], .int .i64 50]) ∧ Below w.heap.size w w' := by
  have HC := Lib.hid (by simp [Cl.chk, hv] : Cl.chk s k hs = 0)
  have HA := Lib.hid hA
  have HD := Lib.hid hd
  have HL := Lib.hid (show hs.length ≤ 9223372036854775807 from by have := (valid_parts hv).1; omega)
  have HLL := Lib.hid ((hL.alloc (Obj.cells #[.string s, .bool (k 0), .bool (k 1), .bool (k 2), .bool (k 3), .bool (k 4), .bool (k 5), .bool (k 6), .slice A hs.length c] 25)).alloc (Obj.cells #[.bool false, .bool false, .bool false, .bool false, .bool false, .bool false, .bool false, .map none] 51))
  clear hv hA hL hd
  go_enter Try.func20, Try.ntmps20
  go_wp2_with (go_at_call 15; refine (cCheck_any s k A hs c _ ((HA.out.alloc _).alloc _) HL.out).mono ?_; rintro e w1 ⟨rfl, hb⟩; rw [HC.out]; obtain ⟨hc, hf⟩ := bcell hb)
  have HLL1 := Lib.hid (HLL.out.below hb)
  go_loop [17] (fun i => ∃ j : Nat, j ≤ ds.length ∧ i = .int .i64 j ∧ Hid (allDay ds = allDay (ds.drop j))) (fun i => ds.length - (intOf i).toNat)
  case atStart => exact ⟨0, by omega, rfl, rfl⟩
  case round =>
    obtain ⟨j, hj, rfl, HS⟩ := hrel
    by_cases hlt : j < ds.length
    · obtain ⟨b, off, rfl, hbl, hcell⟩ := HLL1.out.at_ hlt
      have hcj := hcell j hlt
      have HX := Lib.hid (allDay_drop ds j hlt)
      obtain ⟨x, hx⟩ : ∃ x, x = ds.getD j 0 := ⟨_, rfl⟩
      rw [← hx] at hcj HX
      clear hx hcell
      cases h2 : Dt.isDay x
      · have H2 := Lib.hid h2
        clear h2
        go_wp2_with (go_at_call 26; refine (cvalid_any _ _).mono ?_; rintro e w' ⟨rfl, rfl⟩; rw [H2.out])
        refine bodyPost_ret (v := .tuple #[.agg #[.bool false, .bool false, .bool false, .bool false, .bool false, .bool false, .bool false, .map none], .int .i64 50]) (by simp [results, Try.results20, go_sem, hc]) rfl ⟨rfl, ?_⟩
        repeat (refine Below.setCell ?_ (by simp) _)
        exact bup ((below_new _ _).alloc (by simp) _) hb (by simp; omega)
      · have H2 := Lib.hid h2
        clear h2
        go_wp2_with (go_at_call 26; refine (cvalid_any _ _).mono ?_; rintro e w' ⟨rfl, rfl⟩; rw [H2.out])
        go_round
        case rel => exact ⟨j + 1, by omega, by go_num, Lib.hid (by have := HS.out; rw [HX.out, H2.out] at this; simpa using this)⟩
        case measure => simp [intOf]; omega
    · exfalso
      have := HS.out
      rw [HD.out, List.drop_of_length_le (by omega)] at this
      simp [allDay] at this
set_option maxHeartbeats 1000000 in
theorem days_ok (s : ByteArray) (k : Nat → Bool) (A : Option Addr) (hs : List Int) (c : Nat) (L : Option Addr) (ds : List Int) (cd : Nat) (w : World) (hA : IntsAt w A hs) (hL : IntsAt w L ds) (hn : ds.length ≤ 100) (hv : Cl.validC s k hs = true) (hd : allDay ds = true) :
    Calls Try.prog 20 #[.agg #[.string s, .bool (k 0), .bool (k 1), .bool (k 2), .bool (k 3), .bool (k 4), .bool (k 5), .bool (k 6), .slice A hs.length c], .slice L ds.length cd] w fun e w' => ∃ r, e = .returned (.tuple #[.agg #[.bool (k 0), .bool (k 1), .bool (k 2), .bool (k 3), .bool (k 4), .bool (k 5), .bool (k 6), .map (some r)], .int .i64 0]) ∧ BMap w' r hs.length (Cl.has hs) ∧ w.heap.size ≤ r ∧ Below w.heap.size w w' := by
  have HC := Lib.hid (by simp [Cl.chk, hv] : Cl.chk s k hs = 0)
  have HA := Lib.hid hA
  have HD := Lib.hid hd
  have HV := Lib.hid (valid_parts hv)
  have HL := Lib.hid (show hs.length ≤ 9223372036854775807 from by have := (valid_parts hv).1; omega)
  have HLL := Lib.hid ((hL.alloc (Obj.cells #[.string s, .bool (k 0), .bool (k 1), .bool (k 2), .bool (k 3), .bool (k 4), .bool (k 5), .bool (k 6), .slice A hs.length c] 25)).alloc (Obj.cells #[.bool false, .bool false, .bool false, .bool false, .bool false, .bool false, .bool false, .map none] 51))
  clear hv hA hL hd
  go_enter Try.func20, Try.ntmps20
  go_wp2_with (go_at_call 15; refine (cCheck_any s k A hs c _ ((HA.out.alloc _).alloc _) HL.out).mono ?_; rintro e w1 ⟨rfl, hb⟩; rw [HC.out]; obtain ⟨hc, hf⟩ := bcell hb)
  have HLL1 := Lib.hid (HLL.out.below hb)
  go_loop [17] (fun i => ∃ j : Nat, j ≤ ds.length ∧ i = .int .i64 j ∧ Hid (allDay ds = allDay (ds.drop j))) (fun i => ds.length - (intOf i).toNat)
  case atStart => exact ⟨0, by omega, rfl, rfl⟩
  case round =>
    obtain ⟨j, hj, rfl, HS⟩ := hrel
    by_cases hlt : j < ds.length
    · obtain ⟨b, off, rfl, hbl, hcell⟩ := HLL1.out.at_ hlt
      have hcj := hcell j hlt
      have HX := Lib.hid (allDay_drop ds j hlt)
      obtain ⟨x, hx⟩ : ∃ x, x = ds.getD j 0 := ⟨_, rfl⟩
      rw [← hx] at hcj HX
      clear hx hcell
      have h2' : Dt.isDay x = true := by
        have := HS.out
        rw [HD.out, HX.out] at this
        cases h : Dt.isDay x
        · rw [h] at this; cases this
        · rfl
      have H2 := Lib.hid h2'
      clear h2'
      go_wp2_with (go_at_call 26; refine (cvalid_any _ _).mono ?_; rintro e w' ⟨rfl, rfl⟩; rw [H2.out])
      go_round
      case rel => exact ⟨j + 1, by omega, by go_num, Lib.hid (by have := HS.out; rw [HX.out, H2.out] at this; simpa using this)⟩
      case measure => simp [intOf]; omega
    · have HB := Lib.hid hb
      have hz : w.heap.size + 1 < w1.heap.size := by have := hb.size; simp at this; omega
      have HO := Lib.hid (asc_days hs (-1) HV.out.2)
      clear hb
      go_wp2_with (go_at_call 31; refine (of_any s k A hs c _ (((HA.out.alloc _).alloc _).below HB.out) HV.out.1 HO.out).mono ?_; rintro e w2 ⟨r, rfl, hm, hr, hb2⟩; obtain ⟨hc2, hf2⟩ := bcell hb2)
      refine bodyPost_ret (v := .tuple #[.agg #[.bool (k 0), .bool (k 1), .bool (k 2), .bool (k 3), .bool (k 4), .bool (k 5), .bool (k 6), .map (some r)], .int .i64 0]) (by simp [results, Try.results20, go_sem, hc, hc2, hz]) rfl ⟨r, rfl, ?_, by omega, ?_⟩
      · repeat (refine BMap.set ?_ (by simp; omega) _)
        exact hm
      · repeat (refine Below.setCell ?_ (by simp) _)
        exact bup (bup ((below_new _ _).alloc (by simp) _) HB.out (by simp; omega)) hb2 (by omega)
end Go.Proofs.Ytaokneooejbfkaa
