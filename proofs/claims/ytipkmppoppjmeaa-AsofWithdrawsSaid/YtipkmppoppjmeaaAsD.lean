/- Find of both. -/
import Derived.Test.YtipkmppoppjmeaaAsC
namespace Go.Proofs.Ytipkmppoppjmeaa
set_option maxRecDepth 8000
open Go.RowKit Go.Maps
def As.findR (M : List As.Mk) (k : Int) (s : ByteArray) : Nat × Bool × Int := if As.ok M then ((As.cnt M k M.length s).getD 0, (As.cnt M k M.length s).isSome, 0) else (0, false, 130)
set_option maxHeartbeats 4000000 in
theorem find_any (sv : Value) (M : List As.Mk) (k : Int) (s : ByteArray) (w : World) (hR : As.Rd w sv M) (hs : s.size ≤ maxLen) (n : Nat) (t : Bool) (e : Int) (hr : Hid ((n, t, e) = As.findR M k s)) :
    Calls Try.prog 11 #[sv, .int .i64 k, .string s] w fun r w' => r = .returned (.tuple #[.int .i64 (n : Nat), .bool t, .int .i64 e]) ∧ Below w.heap.size w w' := by
  have HM := Mem.start w
  have HR := Lib.hid hR
  obtain ⟨A, cap, rfl⟩ := hR.form
  have hML := hR.2
  obtain ⟨e0, he0⟩ : ∃ e0, Hid (e0 = As.err M) := ⟨_, Lib.hid rfl⟩
  clear hR
  by_cases hok : As.ok M = true
  · obtain ⟨o, ho⟩ : ∃ o, o = As.cnt M k M.length s := ⟨_, rfl⟩
    obtain ⟨rfl, rfl, rfl⟩ : n = o.getD 0 ∧ t = o.isSome ∧ e = 0 := by
      have h := hr.out; unfold As.findR at h; rw [if_pos hok, ← ho] at h; simpa using h
    obtain rfl : e0 = 0 := he0.out.trans (As.err_ok hok)
    have HOK := Lib.hid hok
    have HO := Lib.hid ho
    clear hok ho hr
    go_enter Try.func11, Try.ntmps11
    go_wp2_with (first | first
      | (go_at_call 16; ((with_reducible refine (check_any _ M _ (As.Rd.below HR.out HM.low) 0 he0).mono ?_); rintro e9 w2 ⟨rfl, hL⟩; replace HM := HM.call hL; clear hL))
      | (go_at_call 26; refine (counting_any _ M k _ (As.Rd.below HR.out HM.low) HOK.out).mono ?_; rintro e9 w2 ⟨bm, n, rfl, HI, hble, hL⟩; replace HM := HM.call hL; clear hL)
      | ((with_reducible refine g_lk ?_); refine a_lk o HI.out hs HO.out.symm ?_) | (first | ((with_reducible refine g_ld ?_); refine a_ld HM ?_) | ((with_reducible refine g_st ?_); refine a_st HM ?_; clear HM; intro w1 HM) | ((with_reducible refine g_al ?_); refine a_al HM ?_; clear HM; intro bk w1 HM) | ((with_reducible refine g_bx ?_); refine a_bx HM ?_; clear HM; intro bk w1 HM) | ((with_reducible refine g_bld ?_); refine a_bld ?_)))
    go_ret3
    exact ⟨rfl, HM.low⟩
  · have hok := Bool.eq_false_iff.2 hok
    obtain ⟨rfl, rfl, rfl⟩ : n = 0 ∧ t = false ∧ e = 130 := by
      have h := hr.out; unfold As.findR at h; rw [hok, if_neg Bool.false_ne_true] at h; simpa using h
    obtain rfl : e0 = 130 := he0.out.trans (As.err_bad hok)
    clear hok hr
    go_enter Try.func11, Try.ntmps11
    go_wp2_with (first | (go_at_call 16; ((with_reducible refine (check_any _ M _ (As.Rd.below HR.out HM.low) 130 he0).mono ?_); rintro e9 w2 ⟨rfl, hL⟩; replace HM := HM.call hL; clear hL)) | (first | ((with_reducible refine g_ld ?_); refine a_ld HM ?_) | ((with_reducible refine g_st ?_); refine a_st HM ?_; clear HM; intro w1 HM) | ((with_reducible refine g_al ?_); refine a_al HM ?_; clear HM; intro bk w1 HM) | ((with_reducible refine g_bx ?_); refine a_bx HM ?_; clear HM; intro bk w1 HM) | ((with_reducible refine g_bld ?_); refine a_bld ?_)))
    go_ret3
    exact ⟨rfl, HM.low⟩
set_option maxHeartbeats 4000000 in
theorem rfind_any (sv : Value) (M : List As.Mk) (k : Int) (s : ByteArray) (w : World) (hR : As.Rd w sv M) (n : Nat) (t : Bool) (e : Int) (hr : Hid ((n, t, e) = As.findR M k s)) :
    Calls Try.prog 12 #[sv, .int .i64 k, .string s] w fun r w' => r = .returned (.tuple #[.int .i64 (n : Nat), .bool t, .int .i64 e]) ∧ Below w.heap.size w w' := by
  have HM := Mem.start w
  have HR := Lib.hid hR
  obtain ⟨A, cap, rfl⟩ := hR.form
  have hML := hR.2
  obtain ⟨e0, he0⟩ : ∃ e0, Hid (e0 = As.err M) := ⟨_, Lib.hid rfl⟩
  clear hR
  by_cases hok : As.ok M = true
  · obtain rfl : e0 = 0 := he0.out.trans (As.err_ok hok)
    have h0 := hr.out
    unfold As.findR at h0
    rw [if_pos hok] at h0
    clear hok hr
    unfold As.cnt at h0
    cases hl : As.last M k s M.length with
    | none =>
      rw [hl] at h0
      obtain ⟨rfl, rfl, rfl⟩ : n = 0 ∧ t = false ∧ e = 0 := by simpa using h0
      have hz2 : Hid ((-1 : Int) = As.enc (As.last M k s M.length)) := Lib.hid (by rw [hl]; rfl)
      clear hl h0
      go_enter Try.func12, Try.ntmps12
      go_wp2_with (first | first | (go_at_call 17; ((with_reducible refine (rcheck_any _ M _ (As.Rd.below HR.out HM.low) 0 he0).mono ?_); rintro e9 w2 ⟨rfl, hL⟩; replace HM := HM.call hL; clear hL)) | (go_at_call 28; ((with_reducible refine (rlast_any _ M k s _ (As.Rd.below HR.out HM.low) (-1) hz2).mono ?_); rintro e9 w2 ⟨rfl, hL⟩; replace HM := HM.call hL; clear hL)) | (first | ((with_reducible refine g_ld ?_); refine a_ld HM ?_) | ((with_reducible refine g_st ?_); refine a_st HM ?_; clear HM; intro w1 HM) | ((with_reducible refine g_al ?_); refine a_al HM ?_; clear HM; intro bk w1 HM) | ((with_reducible refine g_bx ?_); refine a_bx HM ?_; clear HM; intro bk w1 HM) | ((with_reducible refine g_bld ?_); refine a_bld ?_)))
      go_ret3
      exact ⟨rfl, HM.low⟩
    | some i =>
      obtain ⟨hi, ⟨m, hm, _, _⟩, _⟩ := As.last_some hl
      have hz2 : Hid ((i : Int) = As.enc (As.last M k s M.length)) := Lib.hid (by rw [hl]; rfl)
      obtain ⟨b, off, cs, rfl, HB, l0, l1, l2, l3⟩ := HR.out.at_ hm
      have hlt1 : (i : Int) < M.length := by omega
      rw [hl] at h0
      simp only [hm, Option.map_some] at h0
      clear hl hm l0 l1 l2
      cases hv : m.vd with
      | true =>
        rw [hv] at l3 h0
        obtain ⟨rfl, rfl, rfl⟩ : n = 0 ∧ t = false ∧ e = 0 := by simpa using h0
        clear hv h0
        go_enter Try.func12, Try.ntmps12
        go_wp2_with (first | first | (go_at_call 17; ((with_reducible refine (rcheck_any _ M _ (As.Rd.below HR.out HM.low) 0 he0).mono ?_); rintro e9 w2 ⟨rfl, hL⟩; replace HM := HM.call hL; clear hL)) | (go_at_call 28; ((with_reducible refine (rlast_any _ M k s _ (As.Rd.below HR.out HM.low) i hz2).mono ?_); rintro e9 w2 ⟨rfl, hL⟩; replace HM := HM.call hL; clear hL)) | (first | ((with_reducible refine g_ld ?_); refine a_ld HM ?_) | ((with_reducible refine g_st ?_); refine a_st HM ?_; clear HM; intro w1 HM) | ((with_reducible refine g_al ?_); refine a_al HM ?_; clear HM; intro bk w1 HM) | ((with_reducible refine g_bx ?_); refine a_bx HM ?_; clear HM; intro bk w1 HM) | ((with_reducible refine g_bld ?_); refine a_bld ?_)))
        go_ret3
        exact ⟨rfl, HM.low⟩
      | false =>
        rw [hv] at l3 h0
        obtain ⟨rfl, rfl, rfl⟩ : n = i ∧ t = true ∧ e = 0 := by simpa using h0
        clear hv h0
        go_enter Try.func12, Try.ntmps12
        go_wp2_with (first | first | (go_at_call 17; ((with_reducible refine (rcheck_any _ M _ (As.Rd.below HR.out HM.low) 0 he0).mono ?_); rintro e9 w2 ⟨rfl, hL⟩; replace HM := HM.call hL; clear hL)) | (go_at_call 28; ((with_reducible refine (rlast_any _ M k s _ (As.Rd.below HR.out HM.low) n hz2).mono ?_); rintro e9 w2 ⟨rfl, hL⟩; replace HM := HM.call hL; clear hL)) | (first | ((with_reducible refine g_ld ?_); refine a_ld HM ?_) | ((with_reducible refine g_st ?_); refine a_st HM ?_; clear HM; intro w1 HM) | ((with_reducible refine g_al ?_); refine a_al HM ?_; clear HM; intro bk w1 HM) | ((with_reducible refine g_bx ?_); refine a_bx HM ?_; clear HM; intro bk w1 HM) | ((with_reducible refine g_bld ?_); refine a_bld ?_)))
        go_ret3
        exact ⟨rfl, HM.low⟩
  · have hok := Bool.eq_false_iff.2 hok
    obtain ⟨rfl, rfl, rfl⟩ : n = 0 ∧ t = false ∧ e = 130 := by
      have h := hr.out; unfold As.findR at h; rw [hok, if_neg Bool.false_ne_true] at h; simpa using h
    obtain rfl : e0 = 130 := he0.out.trans (As.err_bad hok)
    clear hok hr
    go_enter Try.func12, Try.ntmps12
    go_wp2_with (first | (go_at_call 17; ((with_reducible refine (rcheck_any _ M _ (As.Rd.below HR.out HM.low) 130 he0).mono ?_); rintro e9 w2 ⟨rfl, hL⟩; replace HM := HM.call hL; clear hL)) | (first | ((with_reducible refine g_ld ?_); refine a_ld HM ?_) | ((with_reducible refine g_st ?_); refine a_st HM ?_; clear HM; intro w1 HM) | ((with_reducible refine g_al ?_); refine a_al HM ?_; clear HM; intro bk w1 HM) | ((with_reducible refine g_bx ?_); refine a_bx HM ?_; clear HM; intro bk w1 HM) | ((with_reducible refine g_bld ?_); refine a_bld ?_)))
    go_ret3
    exact ⟨rfl, HM.low⟩
end Go.Proofs.Ytipkmppoppjmeaa
