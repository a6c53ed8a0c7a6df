/- counting of the program; last and counting of the document. -/
import Derived.Test.YtipkmppoppjmeaaAsA
import Derived.Lib.SlicesS
namespace Go.Proofs.Ytipkmppoppjmeaa
set_option maxRecDepth 8000
open Go.RowKit Go.Maps
set_option maxHeartbeats 4000000 in
theorem counting_any (sv : Value) (M : List As.Mk) (k : Int) (w : World) (hR : As.Rd w sv M) (hok : As.ok M = true) :
    Calls Try.prog 26 #[sv, .int .i64 k] w fun r w' => ∃ b n, r = .returned (.map (some b)) ∧ Hid (IMap w' b n (As.cnt M k M.length)) ∧ w.heap.size ≤ b ∧ Below w.heap.size w w' := by
  have HM := Mem.start w
  obtain ⟨A, cap, rfl⟩ := hR.form
  have HR := Lib.hid hR
  have HOK := Lib.hid hok
  have hML := As.ok_len hok
  have hz := As.za
  have hmm := @run_makeMap Try.prog
  clear hR hok
  go_enter Try.func26, Try.ntmps26
  go_wp2_with fail
  replace HM := HM.call (below_new w (.map #[] 0))
  have HI := IMap.made w
  obtain ⟨bm, hbm⟩ : ∃ x, x = w.heap.size := ⟨_, rfl⟩
  have hble : w.heap.size ≤ bm := by omega
  rw [← hbm] at HI ⊢
  clear hmm
  go_loopw [11] (fun iv wr => ∃ (i : Nat), iv = .int .i64 (i : Nat) ∧ i ≤ M.length ∧ Hid (IMap wr bm i (As.cnt M k i)) ∧ Mem w [] [] wr) (fun iv _ => M.length - (intOf iv).toNat)
  case atStart => exact ⟨0, rfl, by omega, Lib.hid (HI.congr fun s => (As.cnt_zero M k s).symm), HM⟩
  case round =>
    clear HM HI hbm
    obtain ⟨i, rfl, hi, HI, HW⟩ := hrel
    have HM := Mem.start wr
    by_cases hlt : i < M.length
    · obtain ⟨m, hm⟩ : ∃ m, M[i]? = some m := ⟨_, List.getElem?_eq_getElem hlt⟩
      have hg := As.ok_get HOK.out hm
      obtain ⟨b, off, cs, rfl, HB, l0, l1, l2, l3⟩ := (HR.out.below HW.low).at_ hm
      have hlt1 : (i : Int) < M.length := by omega
      have sa := As.sa As.z0 m
      have la0 := As.la0 m
      have la1 := As.la1 m
      have la2 := As.la2 m
      have hs : m.key.size ≤ maxLen := len_small (by omega)
      clear l1 l2 l3
      by_cases hk : k < m.kn
      · have hst : ∀ s, As.cnt M k i s = As.cnt M k M.length s := fun s => (As.cnt_stop (n := i) (fun j p hj hp => by
          rcases Nat.lt_or_ge i j with h | h
          · have := As.ok_lt HOK.out h hm hp; omega
          · obtain rfl : j = i := by omega
            rw [hm] at hp; injection hp with hp; subst hp; exact hk) hi s).symm
        have HST := Lib.hid hst
        clear hm hst hg
        have g1 : decide (k < m.kn) = true := decide_eq_true hk
        go_wp2_with (first | fail | (first | ((with_reducible refine g_ld ?_); refine a_ld HM ?_) | ((with_reducible refine g_st ?_); refine a_st HM ?_; clear HM; intro w1 HM) | ((with_reducible refine g_al ?_); refine a_al HM ?_; clear HM; intro bk w1 HM) | ((with_reducible refine g_bx ?_); refine a_bx HM ?_; clear HM; intro bk w1 HM) | ((with_reducible refine g_bld ?_); refine a_bld ?_)))
        go_ret
        exact ⟨bm, _, rfl, Lib.hid ((HI.out.below HM.low).congr HST.out), hble, (HW.call HM.low).low⟩
      · have HS := Lib.hid (As.cnt_step hm (show m.kn ≤ k by omega))
        have g1 : decide (k < m.kn) = false := decide_eq_false hk
        clear hm hg
        cases hv : m.vd with
        | true =>
          rw [hv] at la2
          have HV := Lib.hid hv
          clear hv hk
          go_wp2_with (first | first | ((with_reducible refine g_del ?_); refine a_del (HI.out.below HM.low) hs ?_; intro w1 HI2 hg) | (first | ((with_reducible refine g_ld ?_); refine a_ld HM ?_) | ((with_reducible refine g_st ?_); refine a_st HM ?_; clear HM; intro w1 HM) | ((with_reducible refine g_al ?_); refine a_al HM ?_; clear HM; intro bk w1 HM) | ((with_reducible refine g_bx ?_); refine a_bx HM ?_; clear HM; intro bk w1 HM) | ((with_reducible refine g_bld ?_); refine a_bld ?_)))
          go_roundw
          case rel => exact ⟨i + 1, by go_num, by omega, Lib.hid ((HI2.mono (by omega)).congr fun s => by rw [HS.out s, HV.out]; by_cases e : m.key = s <;> simp [e]), (HW.call HM.low).side0 hg hble⟩
          case measure => simp [intOf]; omega
        | false =>
          rw [hv] at la2
          have HV := Lib.hid hv
          clear hv hk
          go_wp2_with (first | first | ((with_reducible refine g_upd ?_); refine a_upd i (HI.out.below HM.low) (by omega) hs (by omega) ?_; intro w1 HI2 hg) | (first | ((with_reducible refine g_ld ?_); refine a_ld HM ?_) | ((with_reducible refine g_st ?_); refine a_st HM ?_; clear HM; intro w1 HM) | ((with_reducible refine g_al ?_); refine a_al HM ?_; clear HM; intro bk w1 HM) | ((with_reducible refine g_bx ?_); refine a_bx HM ?_; clear HM; intro bk w1 HM) | ((with_reducible refine g_bld ?_); refine a_bld ?_)))
          go_roundw
          case rel => exact ⟨i + 1, by go_num, by omega, Lib.hid ((HI2.mono (by omega)).congr fun s => by rw [HS.out s, HV.out]; by_cases e : m.key = s <;> simp [e]), (HW.call HM.low).side0 hg hble⟩
          case measure => simp [intOf]; omega
    · obtain rfl : i = M.length := by omega
      go_wp2_with fail
      go_ret
      exact ⟨bm, _, rfl, HI, hble, HW.low⟩
theorem bytes_ne {x y : ByteArray} (h : x ≠ y) : (x.toList == y.toList) = false := (Lib.bytes_beq_false_iff x y).2 h
theorem bytes_eq (x : ByteArray) : (x.toList == x.toList) = true := beq_self_eq_true _
theorem As.last_step {M : List As.Mk} {k : Int} {s : ByteArray} {i : Nat} {m : As.Mk} (hm : M[i]? = some m) : As.last M k s (i + 1) = if m.kn ≤ k ∧ m.key = s then some i else As.last M k s i := by rw [As.last, hm]
set_option maxHeartbeats 4000000 in
theorem rlast_any (sv : Value) (M : List As.Mk) (k : Int) (s : ByteArray) (w : World) (hR : As.Rd w sv M) (z : Int) (hz : Hid (z = As.enc (As.last M k s M.length))) :
    Calls Try.prog 28 #[sv, .int .i64 k, .string s] w fun r w' => r = .returned (.int .i64 z) ∧ Below w.heap.size w w' := by
  have HM := Mem.start w
  obtain ⟨A, cap, rfl⟩ := hR.form
  have HR := Lib.hid hR
  have hML := hR.2
  clear hR
  go_enter Try.func28, Try.ntmps28
  go_wp2_with fail
  go_loopw [7, 8] (fun av iv wr => ∃ (i : Nat) (a : Int), iv = .int .i64 (i : Nat) ∧ av = .int .i64 a ∧ i ≤ M.length ∧ Hid (a = As.enc (As.last M k s i)) ∧ Mem w [] [] wr) (fun _ iv _ => M.length - (intOf iv).toNat)
  case atStart => exact ⟨0, -1, rfl, rfl, by omega, Lib.hid rfl, HM⟩
  case round =>
    clear HM
    obtain ⟨i, a, rfl, rfl, hi, HA, HM⟩ := hrel
    by_cases hlt : i < M.length
    · obtain ⟨m, hm⟩ : ∃ m, M[i]? = some m := ⟨_, List.getElem?_eq_getElem hlt⟩
      obtain ⟨b, off, cs, rfl, HB, l0, l1, l2, l3⟩ := HR.out.at_ hm
      have hlt1 : (i : Int) < M.length := by omega
      have HS := Lib.hid (As.last_step (k := k) (s := s) hm)
      clear l0 l3 hm
      by_cases hk : m.kn ≤ k
      · by_cases hs : m.key = s
        · subst hs
          have HA2 : Hid ((i : Int) = As.enc (As.last M k m.key (i + 1))) := Lib.hid (by rw [HS.out, if_pos ⟨hk, rfl⟩]; rfl)
          have g1 : decide (m.kn ≤ k) = true := decide_eq_true hk
          clear hk
          go_wp2_with (first | fail | (first | ((with_reducible refine g_ld ?_); refine a_ld HM ?_) | ((with_reducible refine g_st ?_); refine a_st HM ?_; clear HM; intro w1 HM) | ((with_reducible refine g_al ?_); refine a_al HM ?_; clear HM; intro bk w1 HM) | ((with_reducible refine g_bx ?_); refine a_bx HM ?_; clear HM; intro bk w1 HM) | ((with_reducible refine g_bld ?_); refine a_bld ?_)))
          go_roundw
          case rel => exact ⟨i + 1, _, by go_num, rfl, by omega, HA2, HM⟩
          case measure => simp [intOf]; omega
        · have HA2 : Hid (a = As.enc (As.last M k s (i + 1))) := Lib.hid (by rw [HS.out, if_neg (fun h => hs h.2)]; exact HA.out)
          have g1 : decide (m.kn ≤ k) = true := decide_eq_true hk
          have g2 := bytes_ne hs
          clear hk hs
          go_wp2_with (first | fail | (first | ((with_reducible refine g_ld ?_); refine a_ld HM ?_) | ((with_reducible refine g_st ?_); refine a_st HM ?_; clear HM; intro w1 HM) | ((with_reducible refine g_al ?_); refine a_al HM ?_; clear HM; intro bk w1 HM) | ((with_reducible refine g_bx ?_); refine a_bx HM ?_; clear HM; intro bk w1 HM) | ((with_reducible refine g_bld ?_); refine a_bld ?_)))
          go_roundw
          case rel => exact ⟨i + 1, _, by go_num, rfl, by omega, HA2, HM⟩
          case measure => simp [intOf]; omega
      · have HA2 : Hid (a = As.enc (As.last M k s (i + 1))) := Lib.hid (by rw [HS.out, if_neg (fun h => hk h.1)]; exact HA.out)
        have g1 : decide (m.kn ≤ k) = false := decide_eq_false hk
        clear hk
        go_wp2_with (first | fail | (first | ((with_reducible refine g_ld ?_); refine a_ld HM ?_) | ((with_reducible refine g_st ?_); refine a_st HM ?_; clear HM; intro w1 HM) | ((with_reducible refine g_al ?_); refine a_al HM ?_; clear HM; intro bk w1 HM) | ((with_reducible refine g_bx ?_); refine a_bx HM ?_; clear HM; intro bk w1 HM) | ((with_reducible refine g_bld ?_); refine a_bld ?_)))
        go_roundw
        case rel => exact ⟨i + 1, _, by go_num, rfl, by omega, HA2, HM⟩
        case measure => simp [intOf]; omega
    · obtain rfl : i = M.length := by omega
      obtain rfl : a = z := HA.out.trans hz.out.symm
      go_wp2_with fail
      go_ret
      exact ⟨rfl, HM.low⟩
set_option maxHeartbeats 4000000 in
theorem rcounting_any (sv : Value) (M : List As.Mk) (k : Int) (s : ByteArray) (w : World) (hR : As.Rd w sv M) (z : Int) (hz : Hid (z = As.enc (As.cnt M k M.length s))) :
    Calls Try.prog 30 #[sv, .int .i64 k, .string s] w fun r w' => r = .returned (.int .i64 z) ∧ Below w.heap.size w w' := by
  have HM := Mem.start w
  have HR := Lib.hid hR
  obtain ⟨A, cap, rfl⟩ := hR.form
  have hML := hR.2
  clear hR
  cases hl : As.last M k s M.length with
  | none =>
    obtain rfl : z = -1 := by rw [hz.out]; unfold As.cnt; rw [hl]; rfl
    have hz2 : Hid ((-1 : Int) = As.enc (As.last M k s M.length)) := Lib.hid (by rw [hl]; rfl)
    clear hl
    go_enter Try.func30, Try.ntmps30
    go_wp2_with (first | (go_at_call 28; ((with_reducible refine (rlast_any _ M k s _ (HR.out.below HM.low) (-1) hz2).mono ?_); rintro e9 w2 ⟨rfl, hL⟩; replace HM := HM.call hL; clear hL)) | (first | ((with_reducible refine g_ld ?_); refine a_ld HM ?_) | ((with_reducible refine g_st ?_); refine a_st HM ?_; clear HM; intro w1 HM) | ((with_reducible refine g_al ?_); refine a_al HM ?_; clear HM; intro bk w1 HM) | ((with_reducible refine g_bx ?_); refine a_bx HM ?_; clear HM; intro bk w1 HM) | ((with_reducible refine g_bld ?_); refine a_bld ?_)))
    go_ret
    exact ⟨rfl, HM.low⟩
  | some i =>
    obtain ⟨hi, ⟨m, hm, _, _⟩, _⟩ := As.last_some hl
    have hz2 : Hid ((i : Int) = As.enc (As.last M k s M.length)) := Lib.hid (by rw [hl]; rfl)
    obtain ⟨b, off, cs, rfl, HB, l0, l1, l2, l3⟩ := HR.out.at_ hm
    have hlt1 : (i : Int) < M.length := by omega
    have hv0 := hz.out
    unfold As.cnt at hv0
    rw [hl] at hv0
    simp only [hm, Option.map_some] at hv0
    clear hl hm l0 l1 l2
    cases hv : m.vd with
    | true =>
      rw [hv] at l3 hv0
      obtain rfl : z = -1 := by rw [hv0]; rfl
      clear hv hv0
      go_enter Try.func30, Try.ntmps30
      go_wp2_with (first | (go_at_call 28; ((with_reducible refine (rlast_any _ M k s _ (HR.out.below HM.low) i hz2).mono ?_); rintro e9 w2 ⟨rfl, hL⟩; replace HM := HM.call hL; clear hL)) | (first | ((with_reducible refine g_ld ?_); refine a_ld HM ?_) | ((with_reducible refine g_st ?_); refine a_st HM ?_; clear HM; intro w1 HM) | ((with_reducible refine g_al ?_); refine a_al HM ?_; clear HM; intro bk w1 HM) | ((with_reducible refine g_bx ?_); refine a_bx HM ?_; clear HM; intro bk w1 HM) | ((with_reducible refine g_bld ?_); refine a_bld ?_)))
      go_ret
      exact ⟨rfl, HM.low⟩
    | false =>
      rw [hv] at l3 hv0
      obtain rfl : z = (i : Int) := by rw [hv0]; rfl
      clear hv hv0
      go_enter Try.func30, Try.ntmps30
      go_wp2_with (first | (go_at_call 28; ((with_reducible refine (rlast_any _ M k s _ (HR.out.below HM.low) i hz2).mono ?_); rintro e9 w2 ⟨rfl, hL⟩; replace HM := HM.call hL; clear hL)) | (first | ((with_reducible refine g_ld ?_); refine a_ld HM ?_) | ((with_reducible refine g_st ?_); refine a_st HM ?_; clear HM; intro w1 HM) | ((with_reducible refine g_al ?_); refine a_al HM ?_; clear HM; intro bk w1 HM) | ((with_reducible refine g_bx ?_); refine a_bx HM ?_; clear HM; intro bk w1 HM) | ((with_reducible refine g_bld ?_); refine a_bld ?_)))
      go_ret
      exact ⟨rfl, HM.low⟩
end Go.Proofs.Ytipkmppoppjmeaa
