/- The contract of calendar.Check. -/
import Derived.Test.YtaokneooejbfkaaCalA
import Derived.Test.YtaokneooejbfkaaCalE
import Derived.Test.YtaokneooejbfkaaCalMath
namespace Go.Proofs.Ytaokneooejbfkaa
set_option maxRecDepth 8000
open Go.RowKit
set_option maxHeartbeats 1000000 in
theorem cCheck_any (s : ByteArray) (k : Nat → Bool) (A : Option Addr) (hs : List Int) (c : Nat) (w : World) (hA : IntsAt w A hs) (hl : hs.length ≤ 9223372036854775807) :
    Calls Try.prog 15 #[.agg #[.string s, .bool (k 0), .bool (k 1), .bool (k 2), .bool (k 3), .bool (k 4), .bool (k 5), .bool (k 6), .slice A hs.length c]] w fun e w' => e = .returned (.int .i64 (Cl.chk s k hs)) ∧ Below w.heap.size w w' := by
  cases hu : Nm.usableB s
  · have HR := Lib.hid (Cl.chk_u (k := k) (hs := hs) hu)
    have HU := Lib.hid hu
    have HA := Lib.hid hA
    clear hu hA
    go_enter Try.func15, Try.ntmps15
    go_wp2_with (go_at_call 25; refine (cusable_any _ _).mono ?_; rintro e w' ⟨rfl, hb⟩; rw [HU.out])
    go_ret
    exact ⟨ret_int HR.out.symm, bup (below_new _ _) hb (by simp)⟩
  · have he := eq_seven k
    cases ha : Cl.allK k
    · have HU := Lib.hid hu
      have HK := Lib.hid ha
      rw [ha] at he
      clear hu ha
      by_cases h2 : 2000 < hs.length
      · have HR := Lib.hid (Cl.chk_l (s := s) (k := k) h2)
        clear hA
        go_enter Try.func15, Try.ntmps15
        go_wp2_with (go_at_call 25; refine (cusable_any _ _).mono ?_; rintro e w' ⟨rfl, hb⟩; rw [HU.out]; obtain ⟨hc, hf⟩ := bcell hb)
        go_ret
        exact ⟨ret_int HR.out.symm, bup (below_new _ _) hb (by simp)⟩
      · have HR := Lib.hid (Cl.chk_asc HU.out HK.out (by omega : hs.length ≤ 2000))
        go_enter Try.func15, Try.ntmps15
        go_wp2_with (go_at_call 25; refine (cusable_any _ _).mono ?_; rintro e w' ⟨rfl, hb⟩; rw [HU.out]; obtain ⟨hc, hf⟩ := bcell hb)
        have hA1 := Lib.hid ((hA.alloc _).below hb)
        clear hA
        go_loop [3, 25] (fun l t => ∃ (j : Nat) (last : Int), j ≤ hs.length ∧ t = .int .i64 j ∧ l = .int .i64 last ∧ Hid (Cl.asc (-1) hs = Cl.asc last (hs.drop j))) (fun _ t => hs.length - (intOf t).toNat)
        case atStart => exact ⟨0, -1, by omega, rfl, rfl, rfl⟩
        case round =>
          obtain ⟨j, last, hj, rfl, rfl, HS⟩ := hrel
          by_cases hlt : j < hs.length
          · obtain ⟨b, off, rfl, hbl, hcell⟩ := hA1.out.at_ hlt
            have hcj := hcell j hlt
            clear hcell he
            obtain ⟨x, hx⟩ : ∃ x, x = hs.getD j 0 := ⟨_, rfl⟩
            rw [← hx] at hcj
            have HD := Lib.hid (Cl.asc_drop last hs j hlt)
            rw [← hx] at HD
            clear hx
            by_cases h1 : last < x
            · cases h2 : Dt.isDay x
              · have HX := Lib.hid h2
                clear h2
                go_wp2_with (go_at_call 26; refine (cvalid_any _ _).mono ?_; rintro e w' ⟨rfl, rfl⟩; rw [HX.out])
                go_ret
                have := HR.out; rw [HS.out, HD.out, HX.out] at this
                exact ⟨ret_int (by rw [this]; simp), bup (below_new _ _) hb (by simp)⟩
              · have HX := Lib.hid h2
                have H1 := Lib.hid h1
                clear h2
                go_wp2_with (go_at_call 26; refine (cvalid_any _ _).mono ?_; rintro e w' ⟨rfl, rfl⟩; rw [HX.out])
                go_round
                case rel => exact ⟨j + 1, x, by omega, by go_num, rfl, Lib.hid (by have := HS.out; rw [HD.out, HX.out, decide_eq_true H1.out] at this; simpa using this)⟩
                case measure => simp [intOf]; omega
            · have H1 := Lib.hid h1
              go_wp2
              go_ret
              have := HR.out; rw [HS.out, HD.out, decide_eq_false (by have := H1.out; omega)] at this
              exact ⟨ret_int (by rw [this]; simp), bup (below_new _ _) hb (by simp)⟩
          · obtain rfl : j = hs.length := by omega
            clear he
            go_wp2
            go_ret
            have := HR.out; rw [HS.out] at this
            exact ⟨ret_int (by rw [this]; simp [Cl.asc]), bup (below_new _ _) hb (by simp)⟩
    · have HR := Lib.hid (Cl.chk_k (s := s) (hs := hs) ha)
      have HU := Lib.hid hu
      rw [ha] at he
      clear hu hA ha
      go_enter Try.func15, Try.ntmps15
      go_wp2_with (go_at_call 25; refine (cusable_any _ _).mono ?_; rintro e w' ⟨rfl, hb⟩; rw [HU.out]; obtain ⟨hc, hf⟩ := bcell hb)
      go_ret
      exact ⟨ret_int HR.out.symm, bup (below_new _ _) hb (by simp)⟩
end Go.Proofs.Ytaokneooejbfkaa
