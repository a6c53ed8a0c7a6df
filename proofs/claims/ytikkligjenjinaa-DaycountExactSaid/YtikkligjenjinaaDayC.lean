/- The words of the bases, of both. -/
import Derived.Test.YtikkligjenjinaaEngE
import Derived.Test.YtikkligjenjinaaDayA
import Derived.Lib.SlicesS
namespace Go.Proofs.Ytikkligjenjinaa
set_option maxRecDepth 8000
open Go.RowKit
theorem bytes_ne {x y : ByteArray} (h : x ≠ y) : (x.toList == y.toList) = false := (Lib.bytes_beq_false_iff x y).2 h
theorem za_words : ZA 64 #[.string { data := #[] }, .string { data := #[] }, .string { data := #[] }, .string { data := #[] }] := ⟨.agg #[.string { data := #[] }, .string { data := #[] }, .string { data := #[] }, .string { data := #[] }], rfl, fun w => by kernel_rfl⟩
theorem sa_words : SA 64 #[.string { data := #[] }, .string { data := #[] }, .string { data := #[] }, .string { data := #[] }] 0 (.agg #[.string { data := #[97, 99, 116, 51, 54, 48] }, .string { data := #[97, 99, 116, 51, 54, 53] }, .string { data := #[97, 99, 116, 97, 99, 116] }, .string { data := #[116, 104, 105, 114, 116, 121, 51, 54, 48] }]) #[.string { data := #[97, 99, 116, 51, 54, 48] }, .string { data := #[97, 99, 116, 51, 54, 53] }, .string { data := #[97, 99, 116, 97, 99, 116] }, .string { data := #[116, 104, 105, 114, 116, 121, 51, 54, 48] }] := SA.whole (by kernel_rfl) (by simp [Value.oneCell']) rfl
theorem la_words : LA 64 #[.string { data := #[97, 99, 116, 51, 54, 48] }, .string { data := #[97, 99, 116, 51, 54, 53] }, .string { data := #[97, 99, 116, 97, 99, 116] }, .string { data := #[116, 104, 105, 114, 116, 121, 51, 54, 48] }] 0 (.agg #[.string { data := #[97, 99, 116, 51, 54, 48] }, .string { data := #[97, 99, 116, 51, 54, 53] }, .string { data := #[97, 99, 116, 97, 99, 116] }, .string { data := #[116, 104, 105, 114, 116, 121, 51, 54, 48] }]) := LA.whole (by kernel_rfl) (by kernel_rfl)
theorem words_any (w : World) : Calls Try.prog 44 #[] w fun e w' => e = .returned (.agg #[.string { data := #[97, 99, 116, 51, 54, 48] }, .string { data := #[97, 99, 116, 51, 54, 53] }, .string { data := #[97, 99, 116, 97, 99, 116] }, .string { data := #[116, 104, 105, 114, 116, 121, 51, 54, 48] }]) ∧ Below w.heap.size w w' := by
  have HM := Mem.start w
  have h1 := za_words
  have h2 := sa_words
  go_enter Try.func44, Try.ntmps44
  go_wp2_with (first | fail | (first | ((with_reducible refine g_ld ?_); refine a_ld HM ?_) | ((with_reducible refine g_st ?_); refine a_st HM ?_; clear HM; intro w1 HM) | ((with_reducible refine g_al ?_); refine a_al HM ?_; clear HM; intro bk w1 HM) | ((with_reducible refine g_bx ?_); refine a_bx HM ?_; clear HM; intro bk w1 HM) | ((with_reducible refine g_bld ?_); refine a_bld ?_)))
  refine bodyPost_ret (r_c rfl rfl (HM.get (by ((repeat (first | exact Look.here | refine Look.there ?_)); done))) la_words) rfl ⟨rfl, HM.low⟩
theorem ix_w0 (w : World) : (Instr.index 64 (.agg #[.string { data := #[97, 99, 116, 51, 54, 48] }, .string { data := #[97, 99, 116, 51, 54, 53] }, .string { data := #[97, 99, 116, 97, 99, 116] }, .string { data := #[116, 104, 105, 114, 116, 121, 51, 54, 48] }]) (.int .i64 0)).run Try.prog w = .ok (.string { data := #[97, 99, 116, 51, 54, 48] }) w := by kernel_rfl
theorem ix_w1 (w : World) : (Instr.index 64 (.agg #[.string { data := #[97, 99, 116, 51, 54, 48] }, .string { data := #[97, 99, 116, 51, 54, 53] }, .string { data := #[97, 99, 116, 97, 99, 116] }, .string { data := #[116, 104, 105, 114, 116, 121, 51, 54, 48] }]) (.int .i64 1)).run Try.prog w = .ok (.string { data := #[97, 99, 116, 51, 54, 53] }) w := by kernel_rfl
theorem ix_w2 (w : World) : (Instr.index 64 (.agg #[.string { data := #[97, 99, 116, 51, 54, 48] }, .string { data := #[97, 99, 116, 51, 54, 53] }, .string { data := #[97, 99, 116, 97, 99, 116] }, .string { data := #[116, 104, 105, 114, 116, 121, 51, 54, 48] }]) (.int .i64 2)).run Try.prog w = .ok (.string { data := #[97, 99, 116, 97, 99, 116] }) w := by kernel_rfl
theorem ix_w3 (w : World) : (Instr.index 64 (.agg #[.string { data := #[97, 99, 116, 51, 54, 48] }, .string { data := #[97, 99, 116, 51, 54, 53] }, .string { data := #[97, 99, 116, 97, 99, 116] }, .string { data := #[116, 104, 105, 114, 116, 121, 51, 54, 48] }]) (.int .i64 3)).run Try.prog w = .ok (.string { data := #[116, 104, 105, 114, 116, 121, 51, 54, 48] }) w := by kernel_rfl
/-- The word of a basis, and its error. -/
def Dy.word (b : Int) : ByteArray := if b = 1 then { data := #[97, 99, 116, 51, 54, 48] } else if b = 2 then { data := #[97, 99, 116, 51, 54, 53] } else if b = 3 then { data := #[97, 99, 116, 97, 99, 116] } else if b = 4 then { data := #[116, 104, 105, 114, 116, 121, 51, 54, 48] } else { data := #[] }
def Dy.werr (b : Int) : Int := if b < 1 ∨ 4 < b then 60 else 0
theorem format_any (b : Int) (w : World) : Calls Try.prog 25 #[.int .i64 b] w fun e w' => e = .returned (.tuple #[.string (Dy.word b), .int .i64 (Dy.werr b)]) ∧ Below w.heap.size w w' := by
  have HM := Mem.start w
  by_cases h1 : b < 1
  · have e1 : Dy.word b = { data := #[] } := by unfold Dy.word; rw [if_neg (by omega), if_neg (by omega), if_neg (by omega), if_neg (by omega)]
    have e2 : Dy.werr b = 60 := by unfold Dy.werr; rw [if_pos (.inl h1)]
    rw [e1, e2]
    clear e1 e2
    go_enter Try.func25, Try.ntmps25
    go_wp2_with (first | fail | (first | ((with_reducible refine g_ld ?_); refine a_ld HM ?_) | ((with_reducible refine g_st ?_); refine a_st HM ?_; clear HM; intro w1 HM) | ((with_reducible refine g_al ?_); refine a_al HM ?_; clear HM; intro bk w1 HM) | ((with_reducible refine g_bx ?_); refine a_bx HM ?_; clear HM; intro bk w1 HM) | ((with_reducible refine g_bld ?_); refine a_bld ?_)))
    go_ret2
    exact ⟨rfl, HM.low⟩
  by_cases h2 : 4 < b
  · have e1 : Dy.word b = { data := #[] } := by unfold Dy.word; rw [if_neg (by omega), if_neg (by omega), if_neg (by omega), if_neg (by omega)]
    have e2 : Dy.werr b = 60 := by unfold Dy.werr; rw [if_pos (.inr h2)]
    rw [e1, e2]
    clear e1 e2
    go_enter Try.func25, Try.ntmps25
    go_wp2_with (first | fail | (first | ((with_reducible refine g_ld ?_); refine a_ld HM ?_) | ((with_reducible refine g_st ?_); refine a_st HM ?_; clear HM; intro w1 HM) | ((with_reducible refine g_al ?_); refine a_al HM ?_; clear HM; intro bk w1 HM) | ((with_reducible refine g_bx ?_); refine a_bx HM ?_; clear HM; intro bk w1 HM) | ((with_reducible refine g_bld ?_); refine a_bld ?_)))
    go_ret2
    exact ⟨rfl, HM.low⟩
  have hb : b = 1 ∨ b = 2 ∨ b = 3 ∨ b = 4 := by omega
  clear h1 h2
  have i0 := ix_w0
  have i1 := ix_w1
  have i2 := ix_w2
  have i3 := ix_w3
  rcases hb with rfl | rfl | rfl | rfl
  all_goals
    go_enter Try.func25, Try.ntmps25
    go_wp2_with (first | (go_at_call 44; ((with_reducible refine (words_any _).mono ?_); rintro e9 w2 ⟨rfl, hL⟩; replace HM := HM.call hL; clear hL)) | (first | ((with_reducible refine g_ld ?_); refine a_ld HM ?_) | ((with_reducible refine g_st ?_); refine a_st HM ?_; clear HM; intro w1 HM) | ((with_reducible refine g_al ?_); refine a_al HM ?_; clear HM; intro bk w1 HM) | ((with_reducible refine g_bx ?_); refine a_bx HM ?_; clear HM; intro bk w1 HM) | ((with_reducible refine g_bld ?_); refine a_bld ?_)))
    go_ret2
    exact ⟨rfl, HM.low⟩
theorem rword_any (b : Int) (w : World) : Calls Try.prog 45 #[.int .i64 b] w fun e w' => e = .returned (.string (Dy.word b)) ∧ w = w' := by
  by_cases h1 : b = 1
  · subst h1; go_enter Try.func45, Try.ntmps45; go_wp2; go_ret; exact ⟨rfl, rfl⟩
  by_cases h2 : b = 2
  · subst h2; go_enter Try.func45, Try.ntmps45; go_wp2; go_ret; exact ⟨rfl, rfl⟩
  by_cases h3 : b = 3
  · subst h3; go_enter Try.func45, Try.ntmps45; go_wp2; go_ret; exact ⟨rfl, rfl⟩
  by_cases h4 : b = 4
  · subst h4; go_enter Try.func45, Try.ntmps45; go_wp2; go_ret; exact ⟨rfl, rfl⟩
  have e1 : Dy.word b = { data := #[] } := by unfold Dy.word; rw [if_neg (by omega), if_neg (by omega), if_neg (by omega), if_neg (by omega)]
  have a1 : ((b : Int) == 1) = false := by simpa using h1
  have a2 : ((b : Int) == 2) = false := by simpa using h2
  have a3 : ((b : Int) == 3) = false := by simpa using h3
  have a4 : ((b : Int) == 4) = false := by simpa using h4
  rw [e1]
  clear e1 h1 h2 h3 h4
  go_enter Try.func45, Try.ntmps45
  go_wp2
  go_ret
  exact ⟨rfl, rfl⟩
theorem rformat_any (b : Int) (w : World) : Calls Try.prog 26 #[.int .i64 b] w fun e w' => e = .returned (.tuple #[.string (Dy.word b), .int .i64 (Dy.werr b)]) ∧ w = w' := by
  have hw := rword_any b w
  by_cases h : b < 1 ∨ 4 < b
  · have e1 : Dy.word b = { data := #[] } := by unfold Dy.word; rw [if_neg (by omega), if_neg (by omega), if_neg (by omega), if_neg (by omega)]
    have e2 : Dy.werr b = 60 := by unfold Dy.werr; rw [if_pos h]
    rw [e1] at hw
    rw [e1, e2]
    have HW := Lib.hid hw
    clear e1 e2 hw h
    go_enter Try.func26, Try.ntmps26
    go_wp2_with (go_at_call 45; ((with_reducible refine (HW.out).mono ?_); rintro e w' ⟨rfl, rfl⟩))
    go_ret2
    exact ⟨rfl, rfl⟩
  · have hb : b = 1 ∨ b = 2 ∨ b = 3 ∨ b = 4 := by omega
    clear h
    rcases hb with rfl | rfl | rfl | rfl
    all_goals
      have HW := Lib.hid hw
      clear hw
      go_enter Try.func26, Try.ntmps26
      go_wp2_with fail
      refine HW.out.mono ?_
      rintro e w' ⟨rfl, rfl⟩
      unfold Dy.word
      go_wp2
      go_ret2
      exact ⟨rfl, rfl⟩
/-- What Parse returns. -/
def Dy.prs (s : ByteArray) : Int × Int := if s = { data := #[97, 99, 116, 51, 54, 48] } then (1, 0) else if s = { data := #[97, 99, 116, 51, 54, 53] } then (2, 0) else if s = { data := #[97, 99, 116, 97, 99, 116] } then (3, 0) else if s = { data := #[116, 104, 105, 114, 116, 121, 51, 54, 48] } then (4, 0) else (0, 60)
theorem parse_any (s : ByteArray) (n e : Int) (hr : Hid ((n, e) = Dy.prs s)) (w : World) : Calls Try.prog 23 #[.string s] w fun r w' => r = .returned (.tuple #[.int .i64 n, .int .i64 e]) ∧ Below w.heap.size w w' := by
  have HM := Mem.start w
  have i0 := ix_w0
  have i1 := ix_w1
  have i2 := ix_w2
  have i3 := ix_w3
  have hq := hr.out
  unfold Dy.prs at hq
  by_cases h1 : s = { data := #[97, 99, 116, 51, 54, 48] }
  · obtain ⟨rfl, rfl⟩ : n = 1 ∧ e = 0 := by rw [if_pos h1] at hq; simpa using hq
    subst h1
    clear hq hr
    go_enter Try.func23, Try.ntmps23
    go_wp2_with (first | (go_at_call 44; ((with_reducible refine (words_any _).mono ?_); rintro e9 w2 ⟨rfl, hL⟩; replace HM := HM.call hL; clear hL)) | (first | ((with_reducible refine g_ld ?_); refine a_ld HM ?_) | ((with_reducible refine g_st ?_); refine a_st HM ?_; clear HM; intro w1 HM) | ((with_reducible refine g_al ?_); refine a_al HM ?_; clear HM; intro bk w1 HM) | ((with_reducible refine g_bx ?_); refine a_bx HM ?_; clear HM; intro bk w1 HM) | ((with_reducible refine g_bld ?_); refine a_bld ?_)))
    go_loopw [7] (fun i wr => ∃ v : Int, i = .int .i64 v ∧ (v = 0) ∧ Mem w [] [] wr) (fun i _ => (4 - intOf i).toNat)
    case atStart => exact ⟨0, rfl, rfl, HM.pick⟩
    case round =>
      obtain ⟨v, rfl, hv, HM⟩ := hrel
      subst hv
      go_wp2_with (first | fail | (first | ((with_reducible refine g_ld ?_); refine a_ld HM ?_) | ((with_reducible refine g_st ?_); refine a_st HM ?_; clear HM; intro w1 HM) | ((with_reducible refine g_al ?_); refine a_al HM ?_; clear HM; intro bk w1 HM) | ((with_reducible refine g_bx ?_); refine a_bx HM ?_; clear HM; intro bk w1 HM) | ((with_reducible refine g_bld ?_); refine a_bld ?_)))
      go_ret2
      exact ⟨rfl, HM.low⟩
  by_cases h2 : s = { data := #[97, 99, 116, 51, 54, 53] }
  · obtain ⟨rfl, rfl⟩ : n = 2 ∧ e = 0 := by rw [if_neg h1, if_pos h2] at hq; simpa using hq
    subst h2
    clear h1
    clear hq hr
    go_enter Try.func23, Try.ntmps23
    go_wp2_with (first | (go_at_call 44; ((with_reducible refine (words_any _).mono ?_); rintro e9 w2 ⟨rfl, hL⟩; replace HM := HM.call hL; clear hL)) | (first | ((with_reducible refine g_ld ?_); refine a_ld HM ?_) | ((with_reducible refine g_st ?_); refine a_st HM ?_; clear HM; intro w1 HM) | ((with_reducible refine g_al ?_); refine a_al HM ?_; clear HM; intro bk w1 HM) | ((with_reducible refine g_bx ?_); refine a_bx HM ?_; clear HM; intro bk w1 HM) | ((with_reducible refine g_bld ?_); refine a_bld ?_)))
    go_loopw [7] (fun i wr => ∃ v : Int, i = .int .i64 v ∧ (v = 0 ∨ v = 1) ∧ Mem w [] [] wr) (fun i _ => (4 - intOf i).toNat)
    case atStart => exact ⟨0, rfl, .inl rfl, HM.pick⟩
    case round =>
      obtain ⟨v, rfl, hv, HM⟩ := hrel
      rcases hv with rfl | rfl
      · go_wp2_with (first | fail | (first | ((with_reducible refine g_ld ?_); refine a_ld HM ?_) | ((with_reducible refine g_st ?_); refine a_st HM ?_; clear HM; intro w1 HM) | ((with_reducible refine g_al ?_); refine a_al HM ?_; clear HM; intro bk w1 HM) | ((with_reducible refine g_bx ?_); refine a_bx HM ?_; clear HM; intro bk w1 HM) | ((with_reducible refine g_bld ?_); refine a_bld ?_)))
        go_roundw
        case rel => exact ⟨1, rfl, .inr rfl, HM⟩
        case measure => simp [intOf]
      · go_wp2_with (first | fail | (first | ((with_reducible refine g_ld ?_); refine a_ld HM ?_) | ((with_reducible refine g_st ?_); refine a_st HM ?_; clear HM; intro w1 HM) | ((with_reducible refine g_al ?_); refine a_al HM ?_; clear HM; intro bk w1 HM) | ((with_reducible refine g_bx ?_); refine a_bx HM ?_; clear HM; intro bk w1 HM) | ((with_reducible refine g_bld ?_); refine a_bld ?_)))
        go_ret2
        exact ⟨rfl, HM.low⟩
  by_cases h3 : s = { data := #[97, 99, 116, 97, 99, 116] }
  · obtain ⟨rfl, rfl⟩ : n = 3 ∧ e = 0 := by rw [if_neg h1, if_neg h2, if_pos h3] at hq; simpa using hq
    subst h3
    clear h1 h2
    clear hq hr
    go_enter Try.func23, Try.ntmps23
    go_wp2_with (first | (go_at_call 44; ((with_reducible refine (words_any _).mono ?_); rintro e9 w2 ⟨rfl, hL⟩; replace HM := HM.call hL; clear hL)) | (first | ((with_reducible refine g_ld ?_); refine a_ld HM ?_) | ((with_reducible refine g_st ?_); refine a_st HM ?_; clear HM; intro w1 HM) | ((with_reducible refine g_al ?_); refine a_al HM ?_; clear HM; intro bk w1 HM) | ((with_reducible refine g_bx ?_); refine a_bx HM ?_; clear HM; intro bk w1 HM) | ((with_reducible refine g_bld ?_); refine a_bld ?_)))
    go_loopw [7] (fun i wr => ∃ v : Int, i = .int .i64 v ∧ (v = 0 ∨ v = 1 ∨ v = 2) ∧ Mem w [] [] wr) (fun i _ => (4 - intOf i).toNat)
    case atStart => exact ⟨0, rfl, .inl rfl, HM.pick⟩
    case round =>
      obtain ⟨v, rfl, hv, HM⟩ := hrel
      rcases hv with rfl | rfl | rfl
      · go_wp2_with (first | fail | (first | ((with_reducible refine g_ld ?_); refine a_ld HM ?_) | ((with_reducible refine g_st ?_); refine a_st HM ?_; clear HM; intro w1 HM) | ((with_reducible refine g_al ?_); refine a_al HM ?_; clear HM; intro bk w1 HM) | ((with_reducible refine g_bx ?_); refine a_bx HM ?_; clear HM; intro bk w1 HM) | ((with_reducible refine g_bld ?_); refine a_bld ?_)))
        go_roundw
        case rel => exact ⟨1, rfl, .inr (.inl rfl), HM⟩
        case measure => simp [intOf]
      · go_wp2_with (first | fail | (first | ((with_reducible refine g_ld ?_); refine a_ld HM ?_) | ((with_reducible refine g_st ?_); refine a_st HM ?_; clear HM; intro w1 HM) | ((with_reducible refine g_al ?_); refine a_al HM ?_; clear HM; intro bk w1 HM) | ((with_reducible refine g_bx ?_); refine a_bx HM ?_; clear HM; intro bk w1 HM) | ((with_reducible refine g_bld ?_); refine a_bld ?_)))
        go_roundw
        case rel => exact ⟨2, rfl, .inr (.inr rfl), HM⟩
        case measure => simp [intOf]
      · go_wp2_with (first | fail | (first | ((with_reducible refine g_ld ?_); refine a_ld HM ?_) | ((with_reducible refine g_st ?_); refine a_st HM ?_; clear HM; intro w1 HM) | ((with_reducible refine g_al ?_); refine a_al HM ?_; clear HM; intro bk w1 HM) | ((with_reducible refine g_bx ?_); refine a_bx HM ?_; clear HM; intro bk w1 HM) | ((with_reducible refine g_bld ?_); refine a_bld ?_)))
        go_ret2
        exact ⟨rfl, HM.low⟩
  by_cases h4 : s = { data := #[116, 104, 105, 114, 116, 121, 51, 54, 48] }
  · obtain ⟨rfl, rfl⟩ : n = 4 ∧ e = 0 := by rw [if_neg h1, if_neg h2, if_neg h3, if_pos h4] at hq; simpa using hq
    subst h4
    clear h1 h2 h3
    clear hq hr
    go_enter Try.func23, Try.ntmps23
    go_wp2_with (first | (go_at_call 44; ((with_reducible refine (words_any _).mono ?_); rintro e9 w2 ⟨rfl, hL⟩; replace HM := HM.call hL; clear hL)) | (first | ((with_reducible refine g_ld ?_); refine a_ld HM ?_) | ((with_reducible refine g_st ?_); refine a_st HM ?_; clear HM; intro w1 HM) | ((with_reducible refine g_al ?_); refine a_al HM ?_; clear HM; intro bk w1 HM) | ((with_reducible refine g_bx ?_); refine a_bx HM ?_; clear HM; intro bk w1 HM) | ((with_reducible refine g_bld ?_); refine a_bld ?_)))
    go_loopw [7] (fun i wr => ∃ v : Int, i = .int .i64 v ∧ (v = 0 ∨ v = 1 ∨ v = 2 ∨ v = 3) ∧ Mem w [] [] wr) (fun i _ => (4 - intOf i).toNat)
    case atStart => exact ⟨0, rfl, .inl rfl, HM.pick⟩
    case round =>
      obtain ⟨v, rfl, hv, HM⟩ := hrel
      rcases hv with rfl | rfl | rfl | rfl
      · go_wp2_with (first | fail | (first | ((with_reducible refine g_ld ?_); refine a_ld HM ?_) | ((with_reducible refine g_st ?_); refine a_st HM ?_; clear HM; intro w1 HM) | ((with_reducible refine g_al ?_); refine a_al HM ?_; clear HM; intro bk w1 HM) | ((with_reducible refine g_bx ?_); refine a_bx HM ?_; clear HM; intro bk w1 HM) | ((with_reducible refine g_bld ?_); refine a_bld ?_)))
        go_roundw
        case rel => exact ⟨1, rfl, .inr (.inl rfl), HM⟩
        case measure => simp [intOf]
      · go_wp2_with (first | fail | (first | ((with_reducible refine g_ld ?_); refine a_ld HM ?_) | ((with_reducible refine g_st ?_); refine a_st HM ?_; clear HM; intro w1 HM) | ((with_reducible refine g_al ?_); refine a_al HM ?_; clear HM; intro bk w1 HM) | ((with_reducible refine g_bx ?_); refine a_bx HM ?_; clear HM; intro bk w1 HM) | ((with_reducible refine g_bld ?_); refine a_bld ?_)))
        go_roundw
        case rel => exact ⟨2, rfl, .inr (.inr (.inl rfl)), HM⟩
        case measure => simp [intOf]
      · go_wp2_with (first | fail | (first | ((with_reducible refine g_ld ?_); refine a_ld HM ?_) | ((with_reducible refine g_st ?_); refine a_st HM ?_; clear HM; intro w1 HM) | ((with_reducible refine g_al ?_); refine a_al HM ?_; clear HM; intro bk w1 HM) | ((with_reducible refine g_bx ?_); refine a_bx HM ?_; clear HM; intro bk w1 HM) | ((with_reducible refine g_bld ?_); refine a_bld ?_)))
        go_roundw
        case rel => exact ⟨3, rfl, .inr (.inr (.inr rfl)), HM⟩
        case measure => simp [intOf]
      · go_wp2_with (first | fail | (first | ((with_reducible refine g_ld ?_); refine a_ld HM ?_) | ((with_reducible refine g_st ?_); refine a_st HM ?_; clear HM; intro w1 HM) | ((with_reducible refine g_al ?_); refine a_al HM ?_; clear HM; intro bk w1 HM) | ((with_reducible refine g_bx ?_); refine a_bx HM ?_; clear HM; intro bk w1 HM) | ((with_reducible refine g_bld ?_); refine a_bld ?_)))
        go_ret2
        exact ⟨rfl, HM.low⟩
  obtain ⟨rfl, rfl⟩ : n = 0 ∧ e = 60 := by rw [if_neg h1, if_neg h2, if_neg h3, if_neg h4] at hq; simpa using hq
  have n1 : (([97, 99, 116, 51, 54, 48] : List UInt8) == s.toList) = false := by simpa using bytes_ne (Ne.symm h1)
  have n2 : (([97, 99, 116, 51, 54, 53] : List UInt8) == s.toList) = false := by simpa using bytes_ne (Ne.symm h2)
  have n3 : (([97, 99, 116, 97, 99, 116] : List UInt8) == s.toList) = false := by simpa using bytes_ne (Ne.symm h3)
  have n4 : (([116, 104, 105, 114, 116, 121, 51, 54, 48] : List UInt8) == s.toList) = false := by simpa using bytes_ne (Ne.symm h4)
  clear h1 h2 h3 h4
  clear hq hr
  go_enter Try.func23, Try.ntmps23
  go_wp2_with (first | (go_at_call 44; ((with_reducible refine (words_any _).mono ?_); rintro e9 w2 ⟨rfl, hL⟩; replace HM := HM.call hL; clear hL)) | (first | ((with_reducible refine g_ld ?_); refine a_ld HM ?_) | ((with_reducible refine g_st ?_); refine a_st HM ?_; clear HM; intro w1 HM) | ((with_reducible refine g_al ?_); refine a_al HM ?_; clear HM; intro bk w1 HM) | ((with_reducible refine g_bx ?_); refine a_bx HM ?_; clear HM; intro bk w1 HM) | ((with_reducible refine g_bld ?_); refine a_bld ?_)))
  go_loopw [7] (fun i wr => ∃ v : Int, i = .int .i64 v ∧ (v = 0 ∨ v = 1 ∨ v = 2 ∨ v = 3 ∨ v = 4) ∧ Mem w [] [] wr) (fun i _ => (4 - intOf i).toNat)
  case atStart => exact ⟨0, rfl, .inl rfl, HM.pick⟩
  case round =>
    obtain ⟨v, rfl, hv, HM⟩ := hrel
    rcases hv with rfl | rfl | rfl | rfl | rfl
    · go_wp2_with (first | fail | (first | ((with_reducible refine g_ld ?_); refine a_ld HM ?_) | ((with_reducible refine g_st ?_); refine a_st HM ?_; clear HM; intro w1 HM) | ((with_reducible refine g_al ?_); refine a_al HM ?_; clear HM; intro bk w1 HM) | ((with_reducible refine g_bx ?_); refine a_bx HM ?_; clear HM; intro bk w1 HM) | ((with_reducible refine g_bld ?_); refine a_bld ?_)))
      go_roundw
      case rel => exact ⟨1, rfl, .inr (.inl rfl), HM⟩
      case measure => simp [intOf]
    · go_wp2_with (first | fail | (first | ((with_reducible refine g_ld ?_); refine a_ld HM ?_) | ((with_reducible refine g_st ?_); refine a_st HM ?_; clear HM; intro w1 HM) | ((with_reducible refine g_al ?_); refine a_al HM ?_; clear HM; intro bk w1 HM) | ((with_reducible refine g_bx ?_); refine a_bx HM ?_; clear HM; intro bk w1 HM) | ((with_reducible refine g_bld ?_); refine a_bld ?_)))
      go_roundw
      case rel => exact ⟨2, rfl, .inr (.inr (.inl rfl)), HM⟩
      case measure => simp [intOf]
    · go_wp2_with (first | fail | (first | ((with_reducible refine g_ld ?_); refine a_ld HM ?_) | ((with_reducible refine g_st ?_); refine a_st HM ?_; clear HM; intro w1 HM) | ((with_reducible refine g_al ?_); refine a_al HM ?_; clear HM; intro bk w1 HM) | ((with_reducible refine g_bx ?_); refine a_bx HM ?_; clear HM; intro bk w1 HM) | ((with_reducible refine g_bld ?_); refine a_bld ?_)))
      go_roundw
      case rel => exact ⟨3, rfl, .inr (.inr (.inr (.inl rfl))), HM⟩
      case measure => simp [intOf]
    · go_wp2_with (first | fail | (first | ((with_reducible refine g_ld ?_); refine a_ld HM ?_) | ((with_reducible refine g_st ?_); refine a_st HM ?_; clear HM; intro w1 HM) | ((with_reducible refine g_al ?_); refine a_al HM ?_; clear HM; intro bk w1 HM) | ((with_reducible refine g_bx ?_); refine a_bx HM ?_; clear HM; intro bk w1 HM) | ((with_reducible refine g_bld ?_); refine a_bld ?_)))
      go_roundw
      case rel => exact ⟨4, rfl, .inr (.inr (.inr (.inr rfl))), HM⟩
      case measure => simp [intOf]
    · go_wp2_with (first | fail | (first | ((with_reducible refine g_ld ?_); refine a_ld HM ?_) | ((with_reducible refine g_st ?_); refine a_st HM ?_; clear HM; intro w1 HM) | ((with_reducible refine g_al ?_); refine a_al HM ?_; clear HM; intro bk w1 HM) | ((with_reducible refine g_bx ?_); refine a_bx HM ?_; clear HM; intro bk w1 HM) | ((with_reducible refine g_bld ?_); refine a_bld ?_)))
      go_ret2
      exact ⟨rfl, HM.low⟩
theorem rword_1 (w : World) : Calls Try.prog 45 #[.int .i64 1] w fun e w' => e = .returned (.string { data := #[97, 99, 116, 51, 54, 48] }) ∧ w = w' := rword_any 1 w
theorem rword_2 (w : World) : Calls Try.prog 45 #[.int .i64 2] w fun e w' => e = .returned (.string { data := #[97, 99, 116, 51, 54, 53] }) ∧ w = w' := rword_any 2 w
theorem rword_3 (w : World) : Calls Try.prog 45 #[.int .i64 3] w fun e w' => e = .returned (.string { data := #[97, 99, 116, 97, 99, 116] }) ∧ w = w' := rword_any 3 w
theorem rword_4 (w : World) : Calls Try.prog 45 #[.int .i64 4] w fun e w' => e = .returned (.string { data := #[116, 104, 105, 114, 116, 121, 51, 54, 48] }) ∧ w = w' := rword_any 4 w
theorem rparse_any (s : ByteArray) (n e : Int) (hr : Hid ((n, e) = Dy.prs s)) (w : World) : Calls Try.prog 24 #[.string s] w fun r w' => r = .returned (.tuple #[.int .i64 n, .int .i64 e]) ∧ w = w' := by
  have hq := hr.out
  unfold Dy.prs at hq
  by_cases h1 : s = { data := #[97, 99, 116, 51, 54, 48] }
  · obtain ⟨rfl, rfl⟩ : n = 1 ∧ e = 0 := by rw [if_pos h1] at hq; simpa using hq
    subst h1
    clear hq hr
    go_enter Try.func24, Try.ntmps24
    go_wp2
    go_loop [4] (fun i => ∃ v : Int, i = .int .i64 v ∧ (v = 1)) (fun i => (5 - intOf i).toNat)
    case atStart => exact ⟨1, rfl, rfl⟩
    case round =>
      obtain ⟨v, rfl, hv⟩ := hrel
      subst hv
      go_wp2_with (go_at_call 45; ((with_reducible refine (rword_1 _).mono ?_); rintro e w' ⟨rfl, rfl⟩))
      go_ret2
      exact ⟨rfl, rfl⟩
  by_cases h2 : s = { data := #[97, 99, 116, 51, 54, 53] }
  · obtain ⟨rfl, rfl⟩ : n = 2 ∧ e = 0 := by rw [if_neg h1, if_pos h2] at hq; simpa using hq
    subst h2
    clear h1
    clear hq hr
    go_enter Try.func24, Try.ntmps24
    go_wp2
    go_loop [4] (fun i => ∃ v : Int, i = .int .i64 v ∧ (v = 1 ∨ v = 2)) (fun i => (5 - intOf i).toNat)
    case atStart => exact ⟨1, rfl, .inl rfl⟩
    case round =>
      obtain ⟨v, rfl, hv⟩ := hrel
      rcases hv with rfl | rfl
      · go_wp2_with (go_at_call 45; ((with_reducible refine (rword_1 _).mono ?_); rintro e w' ⟨rfl, rfl⟩))
        go_round
        case rel => exact ⟨2, rfl, .inr rfl⟩
        case measure => simp [intOf]
      · go_wp2_with (go_at_call 45; ((with_reducible refine (rword_2 _).mono ?_); rintro e w' ⟨rfl, rfl⟩))
        go_ret2
        exact ⟨rfl, rfl⟩
  by_cases h3 : s = { data := #[97, 99, 116, 97, 99, 116] }
  · obtain ⟨rfl, rfl⟩ : n = 3 ∧ e = 0 := by rw [if_neg h1, if_neg h2, if_pos h3] at hq; simpa using hq
    subst h3
    clear h1 h2
    clear hq hr
    go_enter Try.func24, Try.ntmps24
    go_wp2
    go_loop [4] (fun i => ∃ v : Int, i = .int .i64 v ∧ (v = 1 ∨ v = 2 ∨ v = 3)) (fun i => (5 - intOf i).toNat)
    case atStart => exact ⟨1, rfl, .inl rfl⟩
    case round =>
      obtain ⟨v, rfl, hv⟩ := hrel
      rcases hv with rfl | rfl | rfl
      · go_wp2_with (go_at_call 45; ((with_reducible refine (rword_1 _).mono ?_); rintro e w' ⟨rfl, rfl⟩))
        go_round
        case rel => exact ⟨2, rfl, .inr (.inl rfl)⟩
        case measure => simp [intOf]
      · go_wp2_with (go_at_call 45; ((with_reducible refine (rword_2 _).mono ?_); rintro e w' ⟨rfl, rfl⟩))
        go_round
        case rel => exact ⟨3, rfl, .inr (.inr rfl)⟩
        case measure => simp [intOf]
      · go_wp2_with (go_at_call 45; ((with_reducible refine (rword_3 _).mono ?_); rintro e w' ⟨rfl, rfl⟩))
        go_ret2
        exact ⟨rfl, rfl⟩
  by_cases h4 : s = { data := #[116, 104, 105, 114, 116, 121, 51, 54, 48] }
  · obtain ⟨rfl, rfl⟩ : n = 4 ∧ e = 0 := by rw [if_neg h1, if_neg h2, if_neg h3, if_pos h4] at hq; simpa using hq
    subst h4
    clear h1 h2 h3
    clear hq hr
    go_enter Try.func24, Try.ntmps24
    go_wp2
    go_loop [4] (fun i => ∃ v : Int, i = .int .i64 v ∧ (v = 1 ∨ v = 2 ∨ v = 3 ∨ v = 4)) (fun i => (5 - intOf i).toNat)
    case atStart => exact ⟨1, rfl, .inl rfl⟩
    case round =>
      obtain ⟨v, rfl, hv⟩ := hrel
      rcases hv with rfl | rfl | rfl | rfl
      · go_wp2_with (go_at_call 45; ((with_reducible refine (rword_1 _).mono ?_); rintro e w' ⟨rfl, rfl⟩))
        go_round
        case rel => exact ⟨2, rfl, .inr (.inl rfl)⟩
        case measure => simp [intOf]
      · go_wp2_with (go_at_call 45; ((with_reducible refine (rword_2 _).mono ?_); rintro e w' ⟨rfl, rfl⟩))
        go_round
        case rel => exact ⟨3, rfl, .inr (.inr (.inl rfl))⟩
        case measure => simp [intOf]
      · go_wp2_with (go_at_call 45; ((with_reducible refine (rword_3 _).mono ?_); rintro e w' ⟨rfl, rfl⟩))
        go_round
        case rel => exact ⟨4, rfl, .inr (.inr (.inr rfl))⟩
        case measure => simp [intOf]
      · go_wp2_with (go_at_call 45; ((with_reducible refine (rword_4 _).mono ?_); rintro e w' ⟨rfl, rfl⟩))
        go_ret2
        exact ⟨rfl, rfl⟩
  obtain ⟨rfl, rfl⟩ : n = 0 ∧ e = 60 := by rw [if_neg h1, if_neg h2, if_neg h3, if_neg h4] at hq; simpa using hq
  have n1 : (([97, 99, 116, 51, 54, 48] : List UInt8) == s.toList) = false := by simpa using bytes_ne (Ne.symm h1)
  have n2 : (([97, 99, 116, 51, 54, 53] : List UInt8) == s.toList) = false := by simpa using bytes_ne (Ne.symm h2)
  have n3 : (([97, 99, 116, 97, 99, 116] : List UInt8) == s.toList) = false := by simpa using bytes_ne (Ne.symm h3)
  have n4 : (([116, 104, 105, 114, 116, 121, 51, 54, 48] : List UInt8) == s.toList) = false := by simpa using bytes_ne (Ne.symm h4)
  clear h1 h2 h3 h4
  clear hq hr
  go_enter Try.func24, Try.ntmps24
  go_wp2
  go_loop [4] (fun i => ∃ v : Int, i = .int .i64 v ∧ (v = 1 ∨ v = 2 ∨ v = 3 ∨ v = 4 ∨ v = 5)) (fun i => (5 - intOf i).toNat)
  case atStart => exact ⟨1, rfl, .inl rfl⟩
  case round =>
    obtain ⟨v, rfl, hv⟩ := hrel
    rcases hv with rfl | rfl | rfl | rfl | rfl
    · go_wp2_with (go_at_call 45; ((with_reducible refine (rword_1 _).mono ?_); rintro e w' ⟨rfl, rfl⟩))
      go_round
      case rel => exact ⟨2, rfl, .inr (.inl rfl)⟩
      case measure => simp [intOf]
    · go_wp2_with (go_at_call 45; ((with_reducible refine (rword_2 _).mono ?_); rintro e w' ⟨rfl, rfl⟩))
      go_round
      case rel => exact ⟨3, rfl, .inr (.inr (.inl rfl))⟩
      case measure => simp [intOf]
    · go_wp2_with (go_at_call 45; ((with_reducible refine (rword_3 _).mono ?_); rintro e w' ⟨rfl, rfl⟩))
      go_round
      case rel => exact ⟨4, rfl, .inr (.inr (.inr (.inl rfl)))⟩
      case measure => simp [intOf]
    · go_wp2_with (go_at_call 45; ((with_reducible refine (rword_4 _).mono ?_); rintro e w' ⟨rfl, rfl⟩))
      go_round
      case rel => exact ⟨5, rfl, .inr (.inr (.inr (.inr rfl)))⟩
      case measure => simp [intOf]
    · go_wp2_with fail
      go_ret2
      exact ⟨rfl, rfl⟩
end Go.Proofs.Ytikkligjenjinaa
