/- The law BigintDigits, walked. -/
import Derived.Test.YtnfojnlcclccbaaTexts
import Derived.Test.YtnfojnlcclccbaaTapeS
import Derived.Test.YtnfojnlcclccbaaTxtBack
namespace Go.Proofs.Ytnfojnlcclccbaa
set_option maxRecDepth 8000
open Go.RowKit
theorem format_z (z : Int) (T : ByteArray) (hz : z.natAbs < Bg.lim) (hT : Hid (T = Tx.txt (decide (z < 0)) z.natAbs)) (w : World) :
    Calls Try.prog 7 #[.agg (Bg.zA z)] w fun r w' => r = .returned (.string T) ∧ Below w.heap.size w w' := by
  rw [zA_int z]; exact format_t _ _ T hz hT w
set_option maxRecDepth 100000 in
set_option maxHeartbeats 4000000 in
theorem digits_any (A : Option Addr) (xs : List Int) (c0 : Nat) (W : World) (hI : IntsAt W A xs) (hxl : xs.length ≤ 9223372036854775807) :
    Calls Try.prog 4 #[.slice A xs.length c0] W fun e w' => e = .returned (.bool true) ∧ Below W.heap.size W w' := by
  have HM := Mem.start W
  have HI := Lib.hid hI
  clear hI
  go_enter Try.func4, Try.ntmps4
  go_upto_region 2 with (first | fail | (first | ((with_reducible refine g_ld ?_); refine a_ld HM ?_) | ((with_reducible refine g_st ?_); refine a_st HM ?_; clear HM; intro w1 HM) | ((with_reducible refine g_al ?_); refine a_al HM ?_; clear HM; intro bk w1 HM) | ((with_reducible refine g_bx ?_); refine a_bx HM ?_; clear HM; intro bk w1 HM) | ((with_reducible refine g_bld ?_); refine a_bld ?_)))
  obtain ⟨tb, rfl⟩ := HM.nm0
  have HC : Hid (TapeC W 0 #[.slice A xs.length c0, .int .i64 0]) := ⟨A, xs, c0, 0, rfl, by omega, by omega, HI.out, hxl⟩
  have H0 : Hid (Below W.heap.size W W) := Below.refl _ _
  have hle : ∀ b ∈ ([] : List Nat), W.heap.size ≤ b := by simp
  go_wp2_with (first | fail | (first | ((with_reducible refine g_ld ?_); refine a_ld HM ?_) | ((with_reducible refine g_st ?_); refine a_st HM ?_; clear HM; intro w1 HM) | ((with_reducible refine g_al ?_); refine a_al HM ?_; clear HM; intro bk w1 HM) | ((with_reducible refine g_bx ?_); refine a_bx HM ?_; clear HM; intro bk w1 HM) | ((with_reducible refine g_bld ?_); refine a_bld ?_)))
  go_loopw [4] (fun i wr => ∃ (j q : Nat) (c : Array Value), i = .int .i64 (j : Nat) ∧ j ≤ 4 ∧ q ≤ 2000 * j ∧ Hid (TapeC W q c) ∧ Mem W [] [(tb, c)] wr) (fun i _ => 4 - (intOf i).toNat)
  case atStart => exact ⟨0, 0, _, rfl, by omega, by omega, HC, HM⟩
  case round =>
    clear HM HC
    obtain ⟨j, q, c, rfl, hj, hq, HC, HM⟩ := hrel
    by_cases hlt : j < 4
    · have hlt1 : (j : Int) < 4 := by omega
      go_wp2_with fail
      (refine (one_new (tb := tb) (W := W) HM (by ((repeat (first | exact Look.here | refine Look.there ?_)); done)) HC.out H0.out hle [{ data := #[] }, { data := #[45] }, { data := #[] }, { data := #[43] }, { data := #[48] }] _ (by omega) (by simp) (by simp)).mono ?_; rintro e9 w2 ⟨s1, c1, rfl, hs1, hc1, hb1, hg⟩; replace HM := HM.put (c' := c1) (by (repeat (first | exact At.here | apply At.there))) hb1 hg; clear hg hb1; replace HC := Lib.hid hc1; clear hc1)
      have hs1b : s1.size ≤ 1 := by
        simp only [List.mem_cons, List.not_mem_nil, or_false] at hs1
        rcases hs1 with rfl | rfl | rfl | rfl | rfl <;> decide
      clear hs1
      go_wp2_with fail
      (refine (next_any W tb _ _ _ (HM.tp (by ((repeat (first | exact Look.here | refine Look.there ?_)); done)) HC.out H0.out hle) (by omega) (by omega) (by omega)).mono ?_; rintro e9 w2 ⟨v, rfl, h0v, h1v, ⟨c1, hb1, hc1, -, -⟩, hg⟩; replace HM := HM.put (c' := c1) (by (repeat (first | exact At.here | apply At.there))) hb1 (Only.of_grown hg); clear hg hb1; replace HC := Lib.hid hc1; clear hc1)
      go_wp2_with fail
      (refine (pick_new (tb := tb) (W := W) HM (by ((repeat (first | exact Look.here | refine Look.there ?_)); done)) HC.out H0.out (by first | exact hle | simpa using hle) [0, 1, 3, 20, 308, 309, 310, v] _ (by omega) (by simp) (by simp)).mono ?_; rintro e9 w2 ⟨v1, c1, rfl, hv, hc1, hb1, hg⟩; replace HM := HM.put (c' := c1) (by (repeat (first | exact At.here | apply At.there))) hb1 hg; clear hg hb1; replace HC := Lib.hid hc1; clear hc1)
      have hv0 : 0 ≤ v1 ∧ v1 ≤ 310 := by
        simp only [List.mem_cons, List.not_mem_nil, or_false] at hv
        omega
      obtain ⟨k, rfl⟩ : ∃ k : Nat, v1 = k := ⟨v1.toNat, by omega⟩
      have hk : k ≤ 310 := by omega
      clear hv hv0 h0v h1v
      go_wp2_with fail
      (refine (one_new (tb := tb) (W := W) HM (by ((repeat (first | exact Look.here | refine Look.there ?_)); done)) HC.out H0.out hle [{ data := #[48, 49, 50, 51, 52, 53, 54, 55, 56, 57] }, { data := #[48, 49, 50, 51, 52, 53, 54, 55, 56, 57] }, { data := #[57] }, { data := #[49, 48] }, { data := #[49, 32] }] _ (by omega) (by simp) (by simp)).mono ?_; rintro e9 w2 ⟨al, c1, rfl, hal, hc1, hb1, hg⟩; replace HM := HM.put (c' := c1) (by (repeat (first | exact At.here | apply At.there))) hb1 hg; clear hg hb1; replace HC := Lib.hid hc1; clear hc1)
      have hal2 : 0 < al.size ∧ al.size ≤ 1000 := by
        simp only [List.mem_cons, List.not_mem_nil, or_false] at hal
        rcases hal with rfl | rfl | rfl | rfl | rfl <;> exact ⟨by decide, by decide⟩
      clear hal
      go_wp2_with fail
      refine (text_any W tb _ k al _ (HM.tp (by ((repeat (first | exact Look.here | refine Look.there ?_)); done)) HC.out H0.out hle) (by omega) (by omega) hal2.1 hal2.2).mono ?_
      rintro e9 w2 ⟨s2, rfl, hs2b, ⟨c2, hb1, hc2, -, -⟩, hg⟩
      replace HM := HM.put (c' := c2) (by (repeat (first | exact At.here | apply At.there))) hb1 (Only.of_grown hg)
      clear hg hb1
      replace HC := Lib.hid hc2
      clear hc2 hal2
      obtain ⟨str, hstr⟩ : ∃ x, x = s1 ++ s2 := ⟨_, rfl⟩
      have hstr2 := hstr.symm
      clear hstr
      obtain ⟨D, g, hD⟩ : ∃ D g, Hid ((D, g) = Tx.cut str) := ⟨_, _, Lib.hid rfl⟩
      obtain ⟨n, e, hr⟩ : ∃ n e, Hid ((n, e) = Tx.prs (Tx.ns D) g) := ⟨_, _, Lib.hid rfl⟩
      have ln : n.natAbs < Bg.lim := Tx.prs_lim hr.out
      go_upto_region 6 with fail
      clear hstr2
      by_cases he : e = 0
      · subst he
        have HF : Hid (Hid (str = Tx.txt (decide (n < 0)) n.natAbs)) := Lib.hid (Lib.hid (Tx.txt_prs hD.out hr.out).symm)
        go_wp2_with (first | (first | (go_at_call 5; ((with_reducible refine (parse_any str D g hD n 0 hr _).mono ?_); rintro e9 w2 ⟨rfl, hL⟩; replace HM := HM.call hL; clear hL)) | (go_at_call 6; ((with_reducible refine (rparse_any str D g hD n 0 hr _).mono ?_); rintro e9 w2 ⟨rfl, hL⟩; replace HM := HM.call hL; clear hL)) | (go_at_call 7; ((with_reducible refine (format_z n str ln HF.out _).mono ?_); rintro e9 w2 ⟨rfl, hL⟩; replace HM := HM.call hL; clear hL)) | ((with_reducible refine g_bin ?_); refine a_cmpz .neq (n) (n) false (.inr rfl) (by simp) (ln) (ln) ?_)) | (first | ((with_reducible refine g_ld ?_); refine a_ld HM ?_) | ((with_reducible refine g_st ?_); refine a_st HM ?_; clear HM; intro w1 HM) | ((with_reducible refine g_al ?_); refine a_al HM ?_; clear HM; intro bk w1 HM) | ((with_reducible refine g_bx ?_); refine a_bx HM ?_; clear HM; intro bk w1 HM) | ((with_reducible refine g_bld ?_); refine a_bld ?_)))
        go_roundw
        case rel => exact ⟨j + 1, _, c2, by go_num, by omega, by omega, HC, HM.pick⟩
        case measure => simp [intOf]; omega
      · have he1 : (e == 0) = false := by simpa using he
        go_wp2_with (first | first | (go_at_call 5; ((with_reducible refine (parse_any str D g hD n e hr _).mono ?_); rintro e9 w2 ⟨rfl, hL⟩; replace HM := HM.call hL; clear hL)) | (go_at_call 6; ((with_reducible refine (rparse_any str D g hD n e hr _).mono ?_); rintro e9 w2 ⟨rfl, hL⟩; replace HM := HM.call hL; clear hL)) | ((with_reducible refine g_bin ?_); refine a_cmpz .neq (n) (n) false (.inr rfl) (by simp) (ln) (ln) ?_) | (first | ((with_reducible refine g_ld ?_); refine a_ld HM ?_) | ((with_reducible refine g_st ?_); refine a_st HM ?_; clear HM; intro w1 HM) | ((with_reducible refine g_al ?_); refine a_al HM ?_; clear HM; intro bk w1 HM) | ((with_reducible refine g_bx ?_); refine a_bx HM ?_; clear HM; intro bk w1 HM) | ((with_reducible refine g_bld ?_); refine a_bld ?_)))
        go_roundw
        case rel => exact ⟨j + 1, _, c2, by go_num, by omega, by omega, HC, HM.pick⟩
        case measure => simp [intOf]; omega
    · obtain rfl : j = 4 := by omega
      go_wp2_with (first | (go_at_call 8; ((with_reducible refine (known_any _).mono ?_); rintro e9 w2 ⟨rfl, hL⟩; replace HM := HM.call hL; clear hL)) | (first | ((with_reducible refine g_ld ?_); refine a_ld HM ?_) | ((with_reducible refine g_st ?_); refine a_st HM ?_; clear HM; intro w1 HM) | ((with_reducible refine g_al ?_); refine a_al HM ?_; clear HM; intro bk w1 HM) | ((with_reducible refine g_bx ?_); refine a_bx HM ?_; clear HM; intro bk w1 HM) | ((with_reducible refine g_bld ?_); refine a_bld ?_)))
      go_ret
      exact ⟨rfl, HM.low⟩
end Go.Proofs.Ytnfojnlcclccbaa
