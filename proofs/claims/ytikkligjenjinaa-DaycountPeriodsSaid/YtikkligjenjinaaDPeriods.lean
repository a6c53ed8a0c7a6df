/- The maker of days; DaycountPeriods, walked. -/
import Derived.Test.YtikkligjenjinaaDayE
namespace Go.Proofs.Ytikkligjenjinaa
set_option maxRecDepth 8000
open Go.RowKit
def DayPost (W : World) (tb m : Nat) (w : World) (e : Ending) (w' : World) : Prop :=
  ∃ v : Int, e = .returned (.int .i64 v) ∧ 0 ≤ v ∧ v ≤ 73048 ∧ Tp W tb (m + 1000) w' ∧ w.grownBy w' (some tb)
set_option maxHeartbeats 2000000 in
theorem day_any (W : World) (tb m : Nat) (w : World) (hT : Tp W tb m w) (hm : m ≤ 900000000) :
    Calls Try.prog 13 #[.pointer (some ⟨tb, 0, none⟩)] w (DayPost W tb m w) := by
  obtain ⟨cs, hb, hc, h0, hle0⟩ := hT
  have HM := Mem.start1 w hb
  have HC := Lib.hid hc
  have H0 := Lib.hid h0
  have hle : ∀ b ∈ [tb], W.heap.size ≤ b := by simpa using hle0
  clear hb hc h0
  go_enter Try.func13, Try.ntmps13
  go_wp2_with fail
  (refine (next_any W tb _ _ _ (HM.tp (by ((repeat (first | exact Look.here | refine Look.there ?_)); done)) HC.out H0.out hle) (by omega) (by omega) (by omega)).mono ?_; rintro e9 w2 ⟨k, rfl, k0, k1, ⟨c1, hb1, hc1, -, -⟩, hg⟩; replace HM := HM.put (c' := c1) (by (repeat (first | exact At.here | apply At.there))) hb1 (Only.of_grown hg); clear hg hb1; replace HC := Lib.hid hc1; clear hc1)
  by_cases c0 : k = 0
  · subst c0
    go_wp2_with fail
    (refine (next_any W tb _ _ _ (HM.tp (by ((repeat (first | exact Look.here | refine Look.there ?_)); done)) HC.out H0.out hle) (by omega) (by omega) (by omega)).mono ?_; rintro e9 w2 ⟨v, rfl, v0, v1, ⟨c1, hb1, hc1, -, -⟩, hg⟩; replace HM := HM.put (c' := c1) (by (repeat (first | exact At.here | apply At.there))) hb1 (Only.of_grown hg); clear hg hb1; replace HC := Lib.hid hc1; clear hc1)
    go_wp2_with fail
    obtain ⟨hT, hg⟩ := HM.done (by ((repeat (first | exact Look.here | refine Look.there ?_)); done)) HC.out H0.out hle0
    go_ret
    exact ⟨v, rfl, by omega, by omega, hT.mono (by omega), hg⟩
  by_cases c1 : k = 1
  · subst c1
    go_wp2_with fail
    (refine (next_any W tb _ _ _ (HM.tp (by ((repeat (first | exact Look.here | refine Look.there ?_)); done)) HC.out H0.out hle) (by omega) (by omega) (by omega)).mono ?_; rintro e9 w2 ⟨v, rfl, v0, v1, ⟨c1, hb1, hc1, -, -⟩, hg⟩; replace HM := HM.put (c' := c1) (by (repeat (first | exact At.here | apply At.there))) hb1 (Only.of_grown hg); clear hg hb1; replace HC := Lib.hid hc1; clear hc1)
    go_wp2_with fail
    obtain ⟨hT, hg⟩ := HM.done (by ((repeat (first | exact Look.here | refine Look.there ?_)); done)) HC.out H0.out hle0
    go_ret
    exact ⟨73048 - v, rfl, by omega, by omega, hT.mono (by omega), hg⟩
  by_cases c2 : k = 2
  · subst c2
    go_wp2_with fail
    (refine (next_any W tb _ _ _ (HM.tp (by ((repeat (first | exact Look.here | refine Look.there ?_)); done)) HC.out H0.out hle) (by omega) (by omega) (by omega)).mono ?_; rintro e9 w2 ⟨v, rfl, v0, v1, ⟨c1, hb1, hc1, -, -⟩, hg⟩; replace HM := HM.put (c' := c1) (by (repeat (first | exact At.here | apply At.there))) hb1 (Only.of_grown hg); clear hg hb1; replace HC := Lib.hid hc1; clear hc1)
    go_wp2_with fail
    obtain ⟨hT, hg⟩ := HM.done (by ((repeat (first | exact Look.here | refine Look.there ?_)); done)) HC.out H0.out hle0
    go_ret
    exact ⟨v, rfl, by omega, by omega, hT.mono (by omega), hg⟩
  by_cases c3 : k = 3
  · subst c3
    go_wp2_with fail
    (refine (pick_new (tb := tb) (W := W) HM (by ((repeat (first | exact Look.here | refine Look.there ?_)); done)) HC.out H0.out (by first | exact hle | simpa using hle) [59, 60, 365, 366, 1520, 8825, 36584, 36583, 36525, 9861, 9862] _ (by omega) (by simp) (by simp)).mono ?_; rintro e9 w2 ⟨v1, c1, rfl, hv, hc1, hb1, hg⟩; replace HM := HM.put (c' := c1) (by (repeat (first | exact At.here | apply At.there))) hb1 hg; clear hg hb1; replace HC := Lib.hid hc1; clear hc1)
    have hvb : 0 ≤ v1 ∧ v1 ≤ 36584 := by
      simp only [List.mem_cons, List.not_mem_nil, or_false] at hv
      omega
    obtain ⟨v0, v2⟩ := hvb
    clear hv
    go_wp2_with fail
    obtain ⟨hT, hg⟩ := HM.done (by ((repeat (first | exact Look.here | refine Look.there ?_)); done)) HC.out H0.out hle0
    go_ret
    exact ⟨v1, rfl, by omega, by omega, hT.mono (by omega), hg⟩
  have a0 : ((k : Int) == 0) = false := by simpa using c0
  have a1 : ((k : Int) == 1) = false := by simpa using c1
  have a2 : ((k : Int) == 2) = false := by simpa using c2
  have a3 : ((k : Int) == 3) = false := by simpa using c3
  clear c0 c1 c2 c3
  go_wp2_with fail
  (refine (next_any W tb _ _ _ (HM.tp (by ((repeat (first | exact Look.here | refine Look.there ?_)); done)) HC.out H0.out hle) (by omega) (by omega) (by omega)).mono ?_; rintro e9 w2 ⟨v, rfl, v0, v1, ⟨c1, hb1, hc1, -, -⟩, hg⟩; replace HM := HM.put (c' := c1) (by (repeat (first | exact At.here | apply At.there))) hb1 (Only.of_grown hg); clear hg hb1; replace HC := Lib.hid hc1; clear hc1)
  go_wp2_with fail
  obtain ⟨hT, hg⟩ := HM.done (by ((repeat (first | exact Look.here | refine Look.there ?_)); done)) HC.out H0.out hle0
  go_ret
  exact ⟨9487 + v, rfl, by omega, by omega, hT.mono (by omega), hg⟩
set_option maxRecDepth 100000 in
set_option maxHeartbeats 4000000 in
theorem dperiods_any (A : Option Addr) (xs : List Int) (c0 : Nat) (W : World) (hI : IntsAt W A xs) (hxl : xs.length ≤ 9223372036854775807) :
    Calls Try.prog 4 #[.slice A xs.length c0] W fun e w' => e = .returned (.bool true) ∧ Below W.heap.size W w' := by
  have HM := Mem.start W
  have HI := Lib.hid hI
  clear hI
  go_enter Try.func4, Try.ntmps4
  go_upto_region 2 with (first | fail | (first | ((with_reducible refine g_ld ?_); refine a_ld HM ?_) | ((with_reducible refine g_st ?_); refine a_st HM ?_; clear HM; intro w1 HM) | ((with_reducible refine g_al ?_); refine a_al HM ?_; clear HM; intro bk w1 HM) | ((with_reducible refine g_bx ?_); refine a_bx HM ?_; clear HM; intro bk w1 HM) | ((with_reducible refine g_bld ?_); refine a_bld ?_)))
  obtain ⟨tb, rfl⟩ := HM.nm0
  have HC : Hid (TapeC W 0 #[.slice A xs.length c0, .int .i64 0]) := ⟨A, xs, c0, 0, rfl, by omega, by omega, HI.out, hxl⟩
  have H0 : Hid (Below W.heap.size W W) := Below.refl _ _
  have hle : ∀ b ∈ ([] : List Nat), W.heap.size ≤ b := by simp
  go_wp2_with fail
  (refine (day_any W tb _ _ (HM.tp (by ((repeat (first | exact Look.here | refine Look.there ?_)); done)) HC.out H0.out hle) (by omega)).mono ?_; rintro e9 w2 ⟨a, rfl, a0, a1, ⟨c1, hb1, hc1, -, -⟩, hg9⟩; replace HM := HM.put (c' := c1) (by (repeat (first | exact At.here | apply At.there))) hb1 (Only.of_grown hg9); clear hg9 hb1; replace HC := Lib.hid hc1; clear hc1)
  go_wp2_with fail
  (refine (day_any W tb _ _ (HM.tp (by ((repeat (first | exact Look.here | refine Look.there ?_)); done)) HC.out H0.out hle) (by omega)).mono ?_; rintro e9 w2 ⟨b, rfl, b0, b1, ⟨c1, hb1, hc1, -, -⟩, hg9⟩; replace HM := HM.put (c' := c1) (by (repeat (first | exact At.here | apply At.there))) hb1 (Only.of_grown hg9); clear hg9 hb1; replace HC := Lib.hid hc1; clear hc1)
  go_wp2_with fail
  (refine (chance_any W tb _ 3 4 _ (HM.tp (by ((repeat (first | exact Look.here | refine Look.there ?_)); done)) HC.out H0.out hle) (by omega) (by omega) (by omega)).mono ?_; rintro e9 w2 ⟨ch, rfl, ⟨c1, hb1, hc1, -, -⟩, hg⟩; replace HM := HM.put (c' := c1) (by (repeat (first | exact At.here | apply At.there))) hb1 (Only.of_grown hg); clear hg hb1; replace HC := Lib.hid hc1; clear hc1)
  go_upto_if 15 with fail
  go_cut [5] (fun v wc => ∃ (t : Int) (c : Array Value), v = .int .i64 t ∧ 0 ≤ t ∧ t ≤ 73048 ∧ Mem W [] [(tb, c)] wc)
  case first =>
    cases ch with
    | false =>
      go_wp2_with fail
      go_meet
      case rel => exact ⟨b, _, rfl, b0, b1, HM⟩
    | true =>
      go_wp2_with fail
      (refine (next_any W tb _ _ _ (HM.tp (by ((repeat (first | exact Look.here | refine Look.there ?_)); done)) HC.out H0.out hle) (by omega) (by omega) (by omega)).mono ?_; rintro e9 w2 ⟨u, rfl, u0, u1, ⟨c1, hb1, hc1, -, -⟩, hg⟩; replace HM := HM.put (c' := c1) (by (repeat (first | exact At.here | apply At.there))) hb1 (Only.of_grown hg); clear hg hb1; replace HC := Lib.hid hc1; clear hc1)
      go_wp2_with fail
      (refine (pick_new (tb := tb) (W := W) HM (by ((repeat (first | exact Look.here | refine Look.there ?_)); done)) HC.out H0.out (by first | exact hle | simpa using hle) [0, 1, 2, 30, 31, 59, 365, 366, 800, u] _ (by omega) (by simp) (by simp)).mono ?_; rintro e9 w2 ⟨v1, c1, rfl, hv, hc1, hb1, hg⟩; replace HM := HM.put (c' := c1) (by (repeat (first | exact At.here | apply At.there))) hb1 hg; clear hg hb1; replace HC := Lib.hid hc1; clear hc1)
      have hvb : 0 ≤ v1 ∧ v1 ≤ 3000 := by
        simp only [List.mem_cons, List.not_mem_nil, or_false] at hv
        omega
      obtain ⟨p0, p1⟩ := hvb
      clear hv
      obtain ⟨t, ht⟩ : ∃ t, min 73048 (a + v1) = t := ⟨_, rfl⟩
      have t0 : 0 ≤ t := by omega
      have t1 : t ≤ 73048 := by omega
      go_wp2_with fail
      go_meet
      case rel => exact ⟨t, _, rfl, t0, t1, HM.pick⟩
  case rest =>
    clear HM HC
    obtain ⟨t, c, rfl, t0, t1, HM⟩ := hcut
    go_step
    go_wp2_with fail
    go_loopw [6] (fun i wr => ∃ v : Int, i = .int .i64 v ∧ 0 ≤ v ∧ v ≤ 6 ∧ Mem W [] [(tb, c)] wr) (fun i _ => (6 - intOf i).toNat)
    case atStart => exact ⟨0, rfl, by omega, by omega, HM⟩
    case round =>
      obtain ⟨v, rfl, v0, v1, HM⟩ := hrel
      by_cases hlt : v ≤ 5
      · go_wp2_with (first | (go_at_call 3; ((with_reducible refine (dexact_any v a t _ (by omega) (by omega) (by omega) (by omega) (by omega) (by omega)).mono ?_); rintro e9 w2 ⟨rfl, hL⟩; replace HM := HM.call hL; clear hL)) | (first | ((with_reducible refine g_ld ?_); refine a_ld HM ?_) | ((with_reducible refine g_st ?_); refine a_st HM ?_; clear HM; intro w1 HM) | ((with_reducible refine g_al ?_); refine a_al HM ?_; clear HM; intro bk w1 HM) | ((with_reducible refine g_bx ?_); refine a_bx HM ?_; clear HM; intro bk w1 HM) | ((with_reducible refine g_bld ?_); refine a_bld ?_)))
        go_roundw
        case rel => exact ⟨v + 1, rfl, by omega, by omega, HM⟩
        case measure => simp [intOf]; omega
      · go_wp2_with (first | (go_at_call 12; ((with_reducible refine (dknown_any _).mono ?_); rintro e9 w2 ⟨rfl, hL⟩; replace HM := HM.call hL; clear hL)) | (first | ((with_reducible refine g_ld ?_); refine a_ld HM ?_) | ((with_reducible refine g_st ?_); refine a_st HM ?_; clear HM; intro w1 HM) | ((with_reducible refine g_al ?_); refine a_al HM ?_; clear HM; intro bk w1 HM) | ((with_reducible refine g_bx ?_); refine a_bx HM ?_; clear HM; intro bk w1 HM) | ((with_reducible refine g_bld ?_); refine a_bld ?_)))
        go_ret
        exact ⟨rfl, HM.low⟩
end Go.Proofs.Ytikkligjenjinaa
