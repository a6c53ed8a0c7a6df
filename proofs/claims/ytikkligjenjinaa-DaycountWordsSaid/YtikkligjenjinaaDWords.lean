/- DaycountWords, walked. -/
import Derived.Test.YtikkligjenjinaaDayE
namespace Go.Proofs.Ytikkligjenjinaa
set_option maxRecDepth 8000
open Go.RowKit
theorem wf_1 (w : World) : Calls Try.prog 25 #[.int .i64 1] w fun r w' => r = .returned (.tuple #[.string { data := #[97, 99, 116, 51, 54, 48] }, .int .i64 0]) ∧ Below w.heap.size w w' := format_any 1 w
theorem wf_2 (w : World) : Calls Try.prog 25 #[.int .i64 2] w fun r w' => r = .returned (.tuple #[.string { data := #[97, 99, 116, 51, 54, 53] }, .int .i64 0]) ∧ Below w.heap.size w w' := format_any 2 w
theorem wf_4 (w : World) : Calls Try.prog 25 #[.int .i64 4] w fun r w' => r = .returned (.tuple #[.string { data := #[116, 104, 105, 114, 116, 121, 51, 54, 48] }, .int .i64 0]) ∧ Below w.heap.size w w' := format_any 4 w
theorem wp_1 (w : World) : Calls Try.prog 23 #[.string { data := #[97, 99, 116, 51, 54, 48] }] w fun r w' => r = .returned (.tuple #[.int .i64 1, .int .i64 0]) ∧ Below w.heap.size w w' := parse_any _ 1 0 (Lib.hid (by decide)) w
theorem wp_2 (w : World) : Calls Try.prog 23 #[.string { data := #[97, 99, 116, 51, 54, 53] }] w fun r w' => r = .returned (.tuple #[.int .i64 2, .int .i64 0]) ∧ Below w.heap.size w w' := parse_any _ 2 0 (Lib.hid (by decide)) w
theorem wp_3 (w : World) : Calls Try.prog 23 #[.string { data := #[97, 99, 116, 97, 99, 116] }] w fun r w' => r = .returned (.tuple #[.int .i64 3, .int .i64 0]) ∧ Below w.heap.size w w' := parse_any _ 3 0 (Lib.hid (by decide)) w
theorem wp_4 (w : World) : Calls Try.prog 23 #[.string { data := #[116, 104, 105, 114, 116, 121, 51, 54, 48] }] w fun r w' => r = .returned (.tuple #[.int .i64 4, .int .i64 0]) ∧ Below w.heap.size w w' := parse_any _ 4 0 (Lib.hid (by decide)) w
set_option maxRecDepth 100000 in
set_option maxHeartbeats 4000000 in
theorem dwords_any (s : ByteArray) (b : Int) (w : World) (_h1 : -9223372036854775808 ≤ b) (_h2 : b < 9223372036854775808) :
    Calls Try.prog 7 #[.string s, .int .i64 b] w fun e w' => e = .returned (.bool true) ∧ Below w.heap.size w w' := by
  have HM := Mem.start w
  obtain ⟨n, e, hr⟩ : ∃ n e, Hid ((n, e) = Dy.prs s) := ⟨_, _, rfl⟩
  have H1 : ∀ w, Hid (Calls Try.prog 25 #[.int .i64 b] w fun r w' => r = .returned (.tuple #[.string (Dy.word b), .int .i64 (Dy.werr b)]) ∧ Below w.heap.size w w') := fun w => Lib.hid (format_any b w)
  have H2 : ∀ w, Hid (Calls Try.prog 26 #[.int .i64 b] w fun r w' => r = .returned (.tuple #[.string (Dy.word b), .int .i64 (Dy.werr b)]) ∧ Below w.heap.size w w') := fun w => Lib.hid (bel (rformat_any b w))
  generalize Dy.word b = W at *
  generalize Dy.werr b = q at *
  have G1 := Lib.hid H1
  have G2 := Lib.hid H2
  clear H1 H2
  go_enter Try.func7, Try.ntmps7
  go_wp2_with (first | first | (go_at_call 23; ((with_reducible refine (parse_any s n e hr _).mono ?_); rintro e9 w2 ⟨rfl, hL⟩; replace HM := HM.call hL; clear hL)) | (go_at_call 24; ((with_reducible refine (bel (rparse_any s n e hr _)).mono ?_); rintro e9 w2 ⟨rfl, hL⟩; replace HM := HM.call hL; clear hL)) | (go_at_call 25; ((with_reducible refine ((G1.out _).out).mono ?_); rintro e9 w2 ⟨rfl, hL⟩; replace HM := HM.call hL; clear hL)) | (go_at_call 26; ((with_reducible refine ((G2.out _).out).mono ?_); rintro e9 w2 ⟨rfl, hL⟩; replace HM := HM.call hL; clear hL)) | (first | ((with_reducible refine g_ld ?_); refine a_ld HM ?_) | ((with_reducible refine g_st ?_); refine a_st HM ?_; clear HM; intro w1 HM) | ((with_reducible refine g_al ?_); refine a_al HM ?_; clear HM; intro bk w1 HM) | ((with_reducible refine g_bx ?_); refine a_bx HM ?_; clear HM; intro bk w1 HM) | ((with_reducible refine g_bld ?_); refine a_bld ?_)))
  go_loopw [13] (fun i wr => ∃ v : Int, i = .int .i64 v ∧ (v = 1 ∨ v = 2 ∨ v = 3 ∨ v = 4 ∨ v = 5) ∧ Mem w [] [] wr) (fun i _ => (6 - intOf i).toNat)
  case atStart => exact ⟨1, rfl, .inl rfl, HM⟩
  case round =>
    obtain ⟨v, rfl, hv, HM⟩ := hrel
    rcases hv with rfl | rfl | rfl | rfl | rfl
    · go_wp2_with (first | first | (go_at_call 25; ((with_reducible refine (wf_1 _).mono ?_); rintro e9 w2 ⟨rfl, hL⟩; replace HM := HM.call hL; clear hL)) | (go_at_call 23; ((with_reducible refine (wp_1 _).mono ?_); rintro e9 w2 ⟨rfl, hL⟩; replace HM := HM.call hL; clear hL)) | (first | ((with_reducible refine g_ld ?_); refine a_ld HM ?_) | ((with_reducible refine g_st ?_); refine a_st HM ?_; clear HM; intro w1 HM) | ((with_reducible refine g_al ?_); refine a_al HM ?_; clear HM; intro bk w1 HM) | ((with_reducible refine g_bx ?_); refine a_bx HM ?_; clear HM; intro bk w1 HM) | ((with_reducible refine g_bld ?_); refine a_bld ?_)))
      go_roundw
      case rel => exact ⟨2, rfl, .inr (.inl rfl), HM⟩
      case measure => simp [intOf]
    · go_wp2_with (first | first | (go_at_call 25; ((with_reducible refine (wf_2 _).mono ?_); rintro e9 w2 ⟨rfl, hL⟩; replace HM := HM.call hL; clear hL)) | (go_at_call 23; ((with_reducible refine (wp_2 _).mono ?_); rintro e9 w2 ⟨rfl, hL⟩; replace HM := HM.call hL; clear hL)) | (first | ((with_reducible refine g_ld ?_); refine a_ld HM ?_) | ((with_reducible refine g_st ?_); refine a_st HM ?_; clear HM; intro w1 HM) | ((with_reducible refine g_al ?_); refine a_al HM ?_; clear HM; intro bk w1 HM) | ((with_reducible refine g_bx ?_); refine a_bx HM ?_; clear HM; intro bk w1 HM) | ((with_reducible refine g_bld ?_); refine a_bld ?_)))
      go_roundw
      case rel => exact ⟨3, rfl, .inr (.inr (.inl rfl)), HM⟩
      case measure => simp [intOf]
    · go_wp2_with (first | first | (go_at_call 25; ((with_reducible refine (format_3 _).mono ?_); rintro e9 w2 ⟨rfl, hL⟩; replace HM := HM.call hL; clear hL)) | (go_at_call 23; ((with_reducible refine (wp_3 _).mono ?_); rintro e9 w2 ⟨rfl, hL⟩; replace HM := HM.call hL; clear hL)) | (first | ((with_reducible refine g_ld ?_); refine a_ld HM ?_) | ((with_reducible refine g_st ?_); refine a_st HM ?_; clear HM; intro w1 HM) | ((with_reducible refine g_al ?_); refine a_al HM ?_; clear HM; intro bk w1 HM) | ((with_reducible refine g_bx ?_); refine a_bx HM ?_; clear HM; intro bk w1 HM) | ((with_reducible refine g_bld ?_); refine a_bld ?_)))
      go_roundw
      case rel => exact ⟨4, rfl, .inr (.inr (.inr (.inl rfl))), HM⟩
      case measure => simp [intOf]
    · go_wp2_with (first | first | (go_at_call 25; ((with_reducible refine (wf_4 _).mono ?_); rintro e9 w2 ⟨rfl, hL⟩; replace HM := HM.call hL; clear hL)) | (go_at_call 23; ((with_reducible refine (wp_4 _).mono ?_); rintro e9 w2 ⟨rfl, hL⟩; replace HM := HM.call hL; clear hL)) | (first | ((with_reducible refine g_ld ?_); refine a_ld HM ?_) | ((with_reducible refine g_st ?_); refine a_st HM ?_; clear HM; intro w1 HM) | ((with_reducible refine g_al ?_); refine a_al HM ?_; clear HM; intro bk w1 HM) | ((with_reducible refine g_bx ?_); refine a_bx HM ?_; clear HM; intro bk w1 HM) | ((with_reducible refine g_bld ?_); refine a_bld ?_)))
      go_roundw
      case rel => exact ⟨5, rfl, .inr (.inr (.inr (.inr rfl))), HM⟩
      case measure => simp [intOf]
    · go_wp2_with (first | (go_at_call 12; ((with_reducible refine (dknown_any _).mono ?_); rintro e9 w2 ⟨rfl, hL⟩; replace HM := HM.call hL; clear hL)) | (first | ((with_reducible refine g_ld ?_); refine a_ld HM ?_) | ((with_reducible refine g_st ?_); refine a_st HM ?_; clear HM; intro w1 HM) | ((with_reducible refine g_al ?_); refine a_al HM ?_; clear HM; intro bk w1 HM) | ((with_reducible refine g_bx ?_); refine a_bx HM ?_; clear HM; intro bk w1 HM) | ((with_reducible refine g_bld ?_); refine a_bld ?_)))
      go_ret
      exact ⟨rfl, HM.low⟩
end Go.Proofs.Ytikkligjenjinaa
