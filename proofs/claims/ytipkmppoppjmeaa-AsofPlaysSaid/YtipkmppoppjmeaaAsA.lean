/- Check of both. -/
import Derived.Test.YtipkmppoppjmeaaAs0
namespace Go.Proofs.Ytipkmppoppjmeaa
set_option maxRecDepth 8000
open Go.RowKit Go.Maps
theorem As.okFrom_step {last : Int} {M : List As.Mk} {i : Nat} {m : As.Mk} (hm : M[i]? = some m) : As.okFrom last (M.drop i) = (!(decide (m.key.size = 0) || decide (64 < m.key.size) || decide (m.kn ≤ last) || decide (2147483647 < m.kn)) && As.okFrom m.kn (M.drop (i + 1))) := by
  obtain ⟨hi, e⟩ := List.getElem?_eq_some_iff.1 hm
  rw [List.drop_eq_getElem_cons hi, e, As.okFrom]
theorem As.okFrom_end {last : Int} {M : List As.Mk} {i : Nat} (hi : M.length ≤ i) : As.okFrom last (M.drop i) = true := by
  rw [List.drop_of_length_le hi, As.okFrom]
theorem As.err_bad {M : List As.Mk} (h : As.ok M = false) : As.err M = 130 := by unfold As.err; rw [h]; rfl
theorem As.err_ok {M : List As.Mk} (h : As.ok M = true) : As.err M = 0 := by unfold As.err; rw [h]; rfl
theorem As.ok_long {M : List As.Mk} (h : 4096 < M.length) : As.ok M = false := by
  unfold As.ok; rw [decide_eq_false (by omega)]; rfl
theorem As.ok_short {M : List As.Mk} (h : ¬ 4096 < M.length) : As.ok M = As.okFrom 0 M := by
  unfold As.ok; rw [decide_eq_true (by omega), Bool.true_and]
set_option maxHeartbeats 4000000 in
theorem check_any (sv : Value) (M : List As.Mk) (w : World) (hR : As.Rd w sv M) (e : Int) (he : Hid (e = As.err M)) :
    Calls Try.prog 16 #[sv] w fun r w' => r = .returned (.int .i64 e) ∧ Below w.heap.size w w' := by
  have HM := Mem.start w
  obtain ⟨A, cap, rfl⟩ := hR.form
  have HR := Lib.hid hR
  have hML := hR.2
  have hz := As.za
  clear hR
  by_cases hl : 4096 < M.length
  · obtain rfl : e = 130 := he.out.trans (As.err_bad (As.ok_long hl))
    have hl1 : (4096 : Int) < M.length := by omega
    go_enter Try.func16, Try.ntmps16
    go_wp2_with fail
    go_ret
    exact ⟨rfl, HM.low⟩
  · have hok := Lib.hid (As.ok_short hl)
    have hl1 : (M.length : Int) ≤ 4096 := by omega
    go_enter Try.func16, Try.ntmps16
    go_wp2_with fail
    go_loopw [3, 11] (fun lv iv wr => ∃ (i : Nat) (last : Int), iv = .int .i64 (i : Nat) ∧ lv = .int .i64 last ∧ i ≤ M.length ∧ Hid (As.ok M = As.okFrom last (M.drop i)) ∧ Mem w [] [] wr) (fun _ iv _ => M.length - (intOf iv).toNat)
    case atStart => exact ⟨0, 0, rfl, rfl, by omega, hok, HM⟩
    case round =>
      clear HM hok
      obtain ⟨i, last, rfl, rfl, hi, HO, HM⟩ := hrel
      by_cases hlt : i < M.length
      · obtain ⟨m, hm⟩ : ∃ m, M[i]? = some m := ⟨_, List.getElem?_eq_getElem hlt⟩
        obtain ⟨b, off, cs, rfl, HB, l0, l1, l2, l3⟩ := HR.out.at_ hm
        have hlt1 : (i : Int) < M.length := by omega
        have hst := HO.out.trans (As.okFrom_step hm)
        have sa := As.sa As.z0 m
        have la0 := As.la0 m
        have la1 := As.la1 m
        clear l1 l2 l3 hm
        by_cases hb : m.key.size = 0 ∨ 64 < m.key.size ∨ m.kn ≤ last ∨ 2147483647 < m.kn
        · have hf : As.ok M = false := by
            rw [hst]
            rcases hb with h | h | h | h <;> simp [h]
          obtain rfl : e = 130 := he.out.trans (As.err_bad hf)
          have hcase : m.key.size = 0 ∨ (m.key.size ≠ 0 ∧ 64 < m.key.size) ∨ (m.key.size ≠ 0 ∧ ¬ 64 < m.key.size ∧ m.kn ≤ last) ∨ (m.key.size ≠ 0 ∧ ¬ 64 < m.key.size ∧ ¬ m.kn ≤ last ∧ 2147483647 < m.kn) := by omega
          clear hst hf HO hb
          rcases hcase with h1 | ⟨h1, h2⟩ | ⟨h1, h2, h3⟩ | ⟨h1, h2, h3, h4⟩
          · have g1 : ((m.key.size : Int) == 0) = true := beq_iff_eq.2 (by omega)
            clear h1
            go_wp2_with (first | fail | (first | ((with_reducible refine g_ld ?_); refine a_ld HM ?_) | ((with_reducible refine g_st ?_); refine a_st HM ?_; clear HM; intro w1 HM) | ((with_reducible refine g_al ?_); refine a_al HM ?_; clear HM; intro bk w1 HM) | ((with_reducible refine g_bx ?_); refine a_bx HM ?_; clear HM; intro bk w1 HM) | ((with_reducible refine g_bld ?_); refine a_bld ?_)))
            go_ret
            exact ⟨rfl, HM.low⟩
          · have g1 : ((m.key.size : Int) == 0) = false := beq_eq_false_iff_ne.2 (by omega)
            have g2 : decide ((64 : Int) < m.key.size) = true := decide_eq_true (by omega)
            clear h1 h2
            go_wp2_with (first | fail | (first | ((with_reducible refine g_ld ?_); refine a_ld HM ?_) | ((with_reducible refine g_st ?_); refine a_st HM ?_; clear HM; intro w1 HM) | ((with_reducible refine g_al ?_); refine a_al HM ?_; clear HM; intro bk w1 HM) | ((with_reducible refine g_bx ?_); refine a_bx HM ?_; clear HM; intro bk w1 HM) | ((with_reducible refine g_bld ?_); refine a_bld ?_)))
            go_ret
            exact ⟨rfl, HM.low⟩
          · have g1 : ((m.key.size : Int) == 0) = false := beq_eq_false_iff_ne.2 (by omega)
            have g2 : decide ((64 : Int) < m.key.size) = false := decide_eq_false (by omega)
            have g3 : decide (m.kn ≤ last) = true := decide_eq_true h3
            clear h1 h2 h3
            go_wp2_with (first | fail | (first | ((with_reducible refine g_ld ?_); refine a_ld HM ?_) | ((with_reducible refine g_st ?_); refine a_st HM ?_; clear HM; intro w1 HM) | ((with_reducible refine g_al ?_); refine a_al HM ?_; clear HM; intro bk w1 HM) | ((with_reducible refine g_bx ?_); refine a_bx HM ?_; clear HM; intro bk w1 HM) | ((with_reducible refine g_bld ?_); refine a_bld ?_)))
            go_ret
            exact ⟨rfl, HM.low⟩
          · have g1 : ((m.key.size : Int) == 0) = false := beq_eq_false_iff_ne.2 (by omega)
            have g2 : decide ((64 : Int) < m.key.size) = false := decide_eq_false (by omega)
            have g3 : decide (m.kn ≤ last) = false := decide_eq_false h3
            have g4 : decide ((2147483647 : Int) < m.kn) = true := decide_eq_true (by omega)
            clear h1 h2 h3 h4
            go_wp2_with (first | fail | (first | ((with_reducible refine g_ld ?_); refine a_ld HM ?_) | ((with_reducible refine g_st ?_); refine a_st HM ?_; clear HM; intro w1 HM) | ((with_reducible refine g_al ?_); refine a_al HM ?_; clear HM; intro bk w1 HM) | ((with_reducible refine g_bx ?_); refine a_bx HM ?_; clear HM; intro bk w1 HM) | ((with_reducible refine g_bld ?_); refine a_bld ?_)))
            go_ret
            exact ⟨rfl, HM.low⟩
        · have hg : As.ok M = As.okFrom m.kn (M.drop (i + 1)) := by
            rw [hst, decide_eq_false (by omega), decide_eq_false (by omega), decide_eq_false (by omega), decide_eq_false (by omega)]; rfl
          have HG := Lib.hid hg
          have g1 : ((m.key.size : Int) == 0) = false := beq_eq_false_iff_ne.2 (by omega)
          have g2 : decide ((64 : Int) < m.key.size) = false := decide_eq_false (by omega)
          have g3 : decide (m.kn ≤ last) = false := decide_eq_false (by omega)
          have g4 : decide ((2147483647 : Int) < m.kn) = false := decide_eq_false (by omega)
          clear hst hg
          go_wp2_with (first | fail | (first | ((with_reducible refine g_ld ?_); refine a_ld HM ?_) | ((with_reducible refine g_st ?_); refine a_st HM ?_; clear HM; intro w1 HM) | ((with_reducible refine g_al ?_); refine a_al HM ?_; clear HM; intro bk w1 HM) | ((with_reducible refine g_bx ?_); refine a_bx HM ?_; clear HM; intro bk w1 HM) | ((with_reducible refine g_bld ?_); refine a_bld ?_)))
          go_roundw
          case rel => exact ⟨i + 1, m.kn, by go_num, rfl, by omega, HG, HM.pick⟩
          case measure => simp [intOf]; omega
      · obtain rfl : i = M.length := by omega
        obtain rfl : e = 0 := he.out.trans (As.err_ok (by rw [HO.out, As.okFrom_end (Nat.le_refl _)]))
        go_wp2_with fail
        go_ret
        exact ⟨rfl, HM.low⟩
set_option maxHeartbeats 4000000 in
theorem rcheck_any (sv : Value) (M : List As.Mk) (w : World) (hR : As.Rd w sv M) (e : Int) (he : Hid (e = As.err M)) :
    Calls Try.prog 17 #[sv] w fun r w' => r = .returned (.int .i64 e) ∧ Below w.heap.size w w' := by
  have HM := Mem.start w
  obtain ⟨A, cap, rfl⟩ := hR.form
  have HR := Lib.hid hR
  have hML := hR.2
  clear hR
  by_cases hl : 4096 < M.length
  · obtain rfl : e = 130 := he.out.trans (As.err_bad (As.ok_long hl))
    have hl1 : (4096 : Int) < M.length := by omega
    go_enter Try.func17, Try.ntmps17
    go_wp2_with fail
    go_ret
    exact ⟨rfl, HM.low⟩
  · have hok := Lib.hid (As.ok_short hl)
    have hl1 : (M.length : Int) ≤ 4096 := by omega
    go_enter Try.func17, Try.ntmps17
    go_wp2_with fail
    go_loopw [3] (fun iv wr => ∃ (i : Nat) (last : Int), iv = .int .i64 (i : Nat) ∧ i ≤ M.length ∧ Hid ((i = 0 ∧ last = 0) ∨ (0 < i ∧ 0 ≤ last ∧ ∃ p, M[i - 1]? = some p ∧ p.kn = last)) ∧ Hid (As.ok M = As.okFrom last (M.drop i)) ∧ Mem w [] [] wr) (fun iv _ => M.length - (intOf iv).toNat)
    case atStart => exact ⟨0, 0, rfl, by omega, Lib.hid (.inl ⟨rfl, rfl⟩), hok, HM⟩
    case round =>
      clear HM hok
      obtain ⟨i, last, rfl, hi, HL, HO, HM⟩ := hrel
      by_cases hlt : i < M.length
      · obtain ⟨m, hm⟩ : ∃ m, M[i]? = some m := ⟨_, List.getElem?_eq_getElem hlt⟩
        have hR1 := HR.out.below HM.low
        obtain ⟨b, off, rfl, c0, c1, -⟩ := hR1.cells hm
        have hlt1 : (i : Int) < M.length := by omega
        have hst := HO.out.trans (As.okFrom_step hm)
        have hla : 0 ≤ last := by rcases HL.out with ⟨_, h⟩ | ⟨_, h, _⟩ <;> omega
        by_cases hb : m.key.size = 0 ∨ 64 < m.key.size ∨ m.kn ≤ last ∨ 2147483647 < m.kn
        · have hf : As.ok M = false := by
            rw [hst]
            rcases hb with h | h | h | h <;> simp [h]
          obtain rfl : e = 130 := he.out.trans (As.err_bad hf)
          have hcase : m.key.size < 1 ∨ (¬ m.key.size < 1 ∧ 64 < m.key.size) ∨ (¬ m.key.size < 1 ∧ ¬ 64 < m.key.size ∧ m.kn < 1) ∨ (¬ m.key.size < 1 ∧ ¬ 64 < m.key.size ∧ ¬ m.kn < 1 ∧ 2147483647 < m.kn) ∨ (¬ m.key.size < 1 ∧ ¬ 64 < m.key.size ∧ ¬ m.kn < 1 ∧ ¬ 2147483647 < m.kn ∧ m.kn ≤ last) := by omega
          clear hst hf HO hb
          rcases hcase with h1 | ⟨h1, h2⟩ | ⟨h1, h2, h3⟩ | ⟨h1, h2, h3, h4⟩ | ⟨h1, h2, h3, h4, h5⟩
          · have g1 : decide ((m.key.size : Int) < 1) = true := decide_eq_true (by omega)
            clear h1 hR1
            go_wp2_with fail
            go_quiet (fail)
            go_wp2_with fail
            go_ret
            exact ⟨rfl, (HM.drewN _).low⟩
          · have g1 : decide ((m.key.size : Int) < 1) = false := decide_eq_false (by omega)
            have g2 : decide ((64 : Int) < m.key.size) = true := decide_eq_true (by omega)
            clear h1 h2 hR1
            go_wp2_with fail
            go_quiet (fail)
            go_wp2_with fail
            go_ret
            exact ⟨rfl, (HM.drewN _).low⟩
          · have g1 : decide ((m.key.size : Int) < 1) = false := decide_eq_false (by omega)
            have g2 : decide ((64 : Int) < m.key.size) = false := decide_eq_false (by omega)
            have g3 : decide (m.kn < 1) = true := decide_eq_true h3
            clear h1 h2 h3 hR1
            go_wp2_with fail
            go_quiet (fail)
            go_wp2_with fail
            go_ret
            exact ⟨rfl, (HM.drewN _).low⟩
          · have g1 : decide ((m.key.size : Int) < 1) = false := decide_eq_false (by omega)
            have g2 : decide ((64 : Int) < m.key.size) = false := decide_eq_false (by omega)
            have g3 : decide (m.kn < 1) = false := decide_eq_false h3
            have g4 : decide ((2147483647 : Int) < m.kn) = true := decide_eq_true (by omega)
            clear h1 h2 h3 h4 hR1
            go_wp2_with fail
            go_quiet (fail)
            go_wp2_with fail
            go_ret
            exact ⟨rfl, (HM.drewN _).low⟩
          · obtain ⟨hi0, p, hp, hpk⟩ : 0 < i ∧ ∃ p, M[i - 1]? = some p ∧ p.kn = last := by
              rcases HL.out with ⟨_, h⟩ | ⟨h, _, h2⟩
              · omega
              · exact ⟨h, h2⟩
            obtain ⟨b2, off2, e2, -, c2, -⟩ := hR1.cells hp
            injection e2 with e2
            injection e2 with e2 e3 e4
            subst e2 e3
            rw [hpk] at c2
            have hi1 : ((i : Int) - 1).toNat = i - 1 := by omega
            have hi2 : (0 : Int) ≤ (i : Int) - 1 := by omega
            have hi3 : (i : Int) - 1 < M.length := by omega
            have g0 : decide ((0 : Int) < i) = true := decide_eq_true (by omega)
            have g1 : decide ((m.key.size : Int) < 1) = false := decide_eq_false (by omega)
            have g2 : decide ((64 : Int) < m.key.size) = false := decide_eq_false (by omega)
            have g3 : decide (m.kn < 1) = false := decide_eq_false h3
            have g4 : decide ((2147483647 : Int) < m.kn) = false := decide_eq_false (by omega)
            have g5 : decide (m.kn ≤ last) = true := decide_eq_true h5
            clear h1 h2 h3 h4 h5 hR1 hp hm hpk e4
            go_wp2_with fail
            go_quiet (fail)
            go_wp2_with fail
            go_ret
            exact ⟨rfl, (HM.drewN _).low⟩
        · have hg : As.ok M = As.okFrom m.kn (M.drop (i + 1)) := by
            rw [hst, decide_eq_false (show ¬ m.key.size = 0 by omega), decide_eq_false (show ¬ 64 < m.key.size by omega), decide_eq_false (show ¬ m.kn ≤ last by omega), decide_eq_false (show ¬ 2147483647 < m.kn by omega)]; rfl
          have HG := Lib.hid hg
          have HL2 : Hid ((i + 1 = 0 ∧ m.kn = 0) ∨ (0 < i + 1 ∧ 0 ≤ m.kn ∧ ∃ p, M[i + 1 - 1]? = some p ∧ p.kn = m.kn)) := Lib.hid (.inr ⟨by omega, by omega, m, by simpa using hm, rfl⟩)
          have g1 : decide ((m.key.size : Int) < 1) = false := decide_eq_false (by omega)
          have g2 : decide ((64 : Int) < m.key.size) = false := decide_eq_false (by omega)
          have g3 : decide (m.kn < 1) = false := decide_eq_false (by omega)
          have g4 : decide ((2147483647 : Int) < m.kn) = false := decide_eq_false (by omega)
          have hnl : ¬ m.kn ≤ last := by omega
          clear hst hg hb
          by_cases hi0 : 0 < i
          · obtain ⟨p, hp, hpk⟩ : ∃ p, M[i - 1]? = some p ∧ p.kn = last := by
              rcases HL.out with ⟨h, _⟩ | ⟨_, _, h2⟩
              · omega
              · exact h2
            obtain ⟨b2, off2, e2, -, c2, -⟩ := hR1.cells hp
            injection e2 with e2
            injection e2 with e2 e3 e4
            subst e2 e3
            rw [hpk] at c2
            have hi1 : ((i : Int) - 1).toNat = i - 1 := by omega
            have hi2 : (0 : Int) ≤ (i : Int) - 1 := by omega
            have hi3 : (i : Int) - 1 < M.length := by omega
            have g0 : decide ((0 : Int) < i) = true := decide_eq_true (by omega)
            have g00 : decide (0 < i) = true := decide_eq_true hi0
            have g5 : decide (m.kn ≤ last) = false := decide_eq_false hnl
            clear hR1 hp hm hpk e4
            go_wp2_with fail
            go_quiet (fail)
            go_wp2_with fail
            go_roundw
            case rel => exact ⟨i + 1, m.kn, by go_num, by omega, HL2, HG, HM.drewN _⟩
            case measure => simp [intOf]; omega
          · have g0 : decide ((0 : Int) < i) = false := decide_eq_false (by omega)
            have g00 : decide (0 < i) = false := decide_eq_false hi0
            clear hR1 hm hnl hi0
            go_wp2_with fail
            go_quiet (fail)
            go_wp2_with fail
            go_roundw
            case rel => exact ⟨i + 1, m.kn, by go_num, by omega, HL2, HG, HM.drewN _⟩
            case measure => simp [intOf]; omega
      · obtain rfl : i = M.length := by omega
        obtain rfl : e = 0 := he.out.trans (As.err_ok (by rw [HO.out, As.okFrom_end (Nat.le_refl _)]))
        go_wp2_with fail
        go_ret
        exact ⟨rfl, HM.low⟩
end Go.Proofs.Ytipkmppoppjmeaa
