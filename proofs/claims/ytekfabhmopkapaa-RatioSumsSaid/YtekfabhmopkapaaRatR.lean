/- The document's Valid and Make of ratios. -/
import Derived.Test.YtekfabhmopkapaaRatK
namespace Go.Proofs.Ytekfabhmopkapaa
set_option maxRecDepth 8000
open Go.RowKit
set_option maxHeartbeats 4000000 in
theorem rvalid_n (s : Bool) (M : Nat) (t : Bool) (N : Nat) (f : Bool) (hM : M < Bg.lim) (hN : N < Bg.lim) (hf : Hid (f = Rt.ok s M t N)) (w : World) :
    Calls Try.prog 38 #[.agg (Bg.ratA s M t N)] w fun r w' => r = .returned (.bool f) ∧ Below w.heap.size w w' := by
  have HM := Mem.start w
  obtain ⟨g1, hg1⟩ : ∃ g, Hid (g = (Bg.toZ s M).sign) := ⟨_, rfl⟩
  obtain ⟨g, hg⟩ : ∃ g, Hid (g = (Bg.toZ t N).sign) := ⟨_, rfl⟩
  obtain ⟨m, hm⟩ : ∃ m : Int, Hid (m = (Bg.bl M : Int)) := ⟨_, rfl⟩
  obtain ⟨n, hn⟩ : ∃ m : Int, Hid (m = (Bg.bl N : Int)) := ⟨_, rfl⟩
  obtain ⟨z, hz⟩ : ∃ z : Int, Hid (z = (Nat.gcd M N : Nat)) := ⟨_, rfl⟩
  obtain ⟨f5, h5⟩ : ∃ b, Hid (b = decide (z = 1)) := ⟨_, rfl⟩
  have lz : z.natAbs < Bg.lim := by
    rw [hz.out, Int.natAbs_natCast]
    rcases Nat.eq_zero_or_pos M with h | h
    · rw [h, Nat.gcd_zero_left]; exact hN
    · exact Nat.lt_of_le_of_lt (Nat.gcd_le_left _ h) hM
  have l1 : ((1 : Int)).natAbs < Bg.lim := small_lim (by decide)
  have k1 := la_rnum s M t N
  have k2 := la_rden s M t N
  have k3 := la_rnneg s M t N
  have hgv : g = -1 ∨ g = 0 ∨ g = 1 := by rw [hg.out]; exact sign_v _
  have hgt : g = 1 → t = false ∧ N ≠ 0 := by
    intro h
    rw [hg.out] at h
    have := Int.sign_eq_one_iff_pos.1 h
    cases t
    · exact ⟨rfl, by simp [Bg.toZ] at this; omega⟩
    · simp [Bg.toZ] at this; omega
  by_cases hA : s = true ∧ M = 0
  · obtain ⟨rfl, hM0⟩ := hA
    obtain rfl : f = false := by rw [hf.out]; unfold Rt.ok; simp [hM0]
    obtain rfl : g1 = 0 := by rw [hg1.out, hM0]; rfl
    clear hM0 hgt hgv
    go_enter Try.func38, Try.ntmps38
    go_wp2_with (first | (go_at_call 49; ((with_reducible refine (rsign_num true M 0 hM hg1 _).mono ?_); rintro e9 w2 ⟨rfl, hL⟩; replace HM := HM.call hL; clear hL)) | (first | ((with_reducible refine g_ld ?_); refine a_ld HM ?_) | ((with_reducible refine g_st ?_); refine a_st HM ?_; clear HM; intro w1 HM) | ((with_reducible refine g_al ?_); refine a_al HM ?_; clear HM; intro bk w1 HM) | ((with_reducible refine g_bx ?_); refine a_bx HM ?_; clear HM; intro bk w1 HM) | ((with_reducible refine g_bld ?_); refine a_bld ?_)))
    go_ret
    exact ⟨rfl, HM.low⟩
  · have hc2 : (!s || decide (M ≠ 0)) = true := by cases s <;> simp_all
    have hbM : (m ≤ 480) = (Bg.bl M ≤ 480) := by rw [hm.out]; simp; omega
    have hbN : (n ≤ 480) = (Bg.bl N ≤ 480) := by rw [hn.out]; simp; omega
    have HBM := Lib.hid hbM
    have HBN := Lib.hid hbN
    clear hbM hbN
    have hs1 : s = true → g1 = -1 := by
      intro h
      rw [hg1.out, h]
      exact Int.sign_eq_neg_one_of_neg (by have : M ≠ 0 := fun h0 => hA ⟨h, h0⟩; simp [Bg.toZ]; omega)
    clear hA
    rcases hgv with rfl | rfl | rfl
    · obtain rfl : f = false := by rw [hf.out]; unfold Rt.ok; rw [← hg.out]; simp
      clear hgt hf hc2
      cases s with
      | false =>
        go_enter Try.func38, Try.ntmps38
        go_wp2_with (first | first | (go_at_call 49; ((with_reducible refine (rsign_num _ M _ hM hg1 _).mono ?_); rintro e9 w2 ⟨rfl, hL⟩; replace HM := HM.call hL; clear hL)) | (go_at_call 49; ((with_reducible refine (rsign_num t N _ hN hg _).mono ?_); rintro e9 w2 ⟨rfl, hL⟩; replace HM := HM.call hL; clear hL)) | (go_at_call 58; ((with_reducible refine (rbits_any _ M m hM hm _).mono ?_); rintro e9 w2 ⟨rfl, hL⟩; replace HM := HM.call hL; clear hL)) | (go_at_call 58; ((with_reducible refine (rbits_any t N n hN hn _).mono ?_); rintro e9 w2 ⟨rfl, hL⟩; replace HM := HM.call hL; clear hL)) | (go_at_call 55; ((with_reducible refine (rgcd_any _ t M N z hM hN hz _).mono ?_); rintro e9 w2 ⟨rfl, hL⟩; replace HM := HM.call hL; clear hL)) | (go_at_call 40; ((with_reducible refine (rfromInt_z 1 (by decide) (by decide) _).mono ?_); rintro e9 w2 ⟨rfl, hL⟩; replace HM := HM.call hL; clear hL)) | ((with_reducible refine g_bin ?_); refine a_cmpz .eql (z) (1) f5 (.inl rfl) ((by rw [if_pos rfl]; exact h5.out)) (lz) (l1) ?_) | (first | ((with_reducible refine g_ld ?_); refine a_ld HM ?_) | ((with_reducible refine g_st ?_); refine a_st HM ?_; clear HM; intro w1 HM) | ((with_reducible refine g_al ?_); refine a_al HM ?_; clear HM; intro bk w1 HM) | ((with_reducible refine g_bx ?_); refine a_bx HM ?_; clear HM; intro bk w1 HM) | ((with_reducible refine g_bld ?_); refine a_bld ?_)))
        go_ret
        exact ⟨rfl, HM.low⟩
      | true =>
        obtain rfl := hs1 rfl
        go_enter Try.func38, Try.ntmps38
        go_wp2_with (first | first | (go_at_call 49; ((with_reducible refine (rsign_num _ M _ hM hg1 _).mono ?_); rintro e9 w2 ⟨rfl, hL⟩; replace HM := HM.call hL; clear hL)) | (go_at_call 49; ((with_reducible refine (rsign_num t N _ hN hg _).mono ?_); rintro e9 w2 ⟨rfl, hL⟩; replace HM := HM.call hL; clear hL)) | (go_at_call 58; ((with_reducible refine (rbits_any _ M m hM hm _).mono ?_); rintro e9 w2 ⟨rfl, hL⟩; replace HM := HM.call hL; clear hL)) | (go_at_call 58; ((with_reducible refine (rbits_any t N n hN hn _).mono ?_); rintro e9 w2 ⟨rfl, hL⟩; replace HM := HM.call hL; clear hL)) | (go_at_call 55; ((with_reducible refine (rgcd_any _ t M N z hM hN hz _).mono ?_); rintro e9 w2 ⟨rfl, hL⟩; replace HM := HM.call hL; clear hL)) | (go_at_call 40; ((with_reducible refine (rfromInt_z 1 (by decide) (by decide) _).mono ?_); rintro e9 w2 ⟨rfl, hL⟩; replace HM := HM.call hL; clear hL)) | ((with_reducible refine g_bin ?_); refine a_cmpz .eql (z) (1) f5 (.inl rfl) ((by rw [if_pos rfl]; exact h5.out)) (lz) (l1) ?_) | (first | ((with_reducible refine g_ld ?_); refine a_ld HM ?_) | ((with_reducible refine g_st ?_); refine a_st HM ?_; clear HM; intro w1 HM) | ((with_reducible refine g_al ?_); refine a_al HM ?_; clear HM; intro bk w1 HM) | ((with_reducible refine g_bx ?_); refine a_bx HM ?_; clear HM; intro bk w1 HM) | ((with_reducible refine g_bld ?_); refine a_bld ?_)))
        go_ret
        exact ⟨rfl, HM.low⟩
    · obtain rfl : f = false := by rw [hf.out]; unfold Rt.ok; rw [← hg.out]; simp
      clear hgt hf hc2
      cases s with
      | false =>
        go_enter Try.func38, Try.ntmps38
        go_wp2_with (first | first | (go_at_call 49; ((with_reducible refine (rsign_num _ M _ hM hg1 _).mono ?_); rintro e9 w2 ⟨rfl, hL⟩; replace HM := HM.call hL; clear hL)) | (go_at_call 49; ((with_reducible refine (rsign_num t N _ hN hg _).mono ?_); rintro e9 w2 ⟨rfl, hL⟩; replace HM := HM.call hL; clear hL)) | (go_at_call 58; ((with_reducible refine (rbits_any _ M m hM hm _).mono ?_); rintro e9 w2 ⟨rfl, hL⟩; replace HM := HM.call hL; clear hL)) | (go_at_call 58; ((with_reducible refine (rbits_any t N n hN hn _).mono ?_); rintro e9 w2 ⟨rfl, hL⟩; replace HM := HM.call hL; clear hL)) | (go_at_call 55; ((with_reducible refine (rgcd_any _ t M N z hM hN hz _).mono ?_); rintro e9 w2 ⟨rfl, hL⟩; replace HM := HM.call hL; clear hL)) | (go_at_call 40; ((with_reducible refine (rfromInt_z 1 (by decide) (by decide) _).mono ?_); rintro e9 w2 ⟨rfl, hL⟩; replace HM := HM.call hL; clear hL)) | ((with_reducible refine g_bin ?_); refine a_cmpz .eql (z) (1) f5 (.inl rfl) ((by rw [if_pos rfl]; exact h5.out)) (lz) (l1) ?_) | (first | ((with_reducible refine g_ld ?_); refine a_ld HM ?_) | ((with_reducible refine g_st ?_); refine a_st HM ?_; clear HM; intro w1 HM) | ((with_reducible refine g_al ?_); refine a_al HM ?_; clear HM; intro bk w1 HM) | ((with_reducible refine g_bx ?_); refine a_bx HM ?_; clear HM; intro bk w1 HM) | ((with_reducible refine g_bld ?_); refine a_bld ?_)))
        go_ret
        exact ⟨rfl, HM.low⟩
      | true =>
        obtain rfl := hs1 rfl
        go_enter Try.func38, Try.ntmps38
        go_wp2_with (first | first | (go_at_call 49; ((with_reducible refine (rsign_num _ M _ hM hg1 _).mono ?_); rintro e9 w2 ⟨rfl, hL⟩; replace HM := HM.call hL; clear hL)) | (go_at_call 49; ((with_reducible refine (rsign_num t N _ hN hg _).mono ?_); rintro e9 w2 ⟨rfl, hL⟩; replace HM := HM.call hL; clear hL)) | (go_at_call 58; ((with_reducible refine (rbits_any _ M m hM hm _).mono ?_); rintro e9 w2 ⟨rfl, hL⟩; replace HM := HM.call hL; clear hL)) | (go_at_call 58; ((with_reducible refine (rbits_any t N n hN hn _).mono ?_); rintro e9 w2 ⟨rfl, hL⟩; replace HM := HM.call hL; clear hL)) | (go_at_call 55; ((with_reducible refine (rgcd_any _ t M N z hM hN hz _).mono ?_); rintro e9 w2 ⟨rfl, hL⟩; replace HM := HM.call hL; clear hL)) | (go_at_call 40; ((with_reducible refine (rfromInt_z 1 (by decide) (by decide) _).mono ?_); rintro e9 w2 ⟨rfl, hL⟩; replace HM := HM.call hL; clear hL)) | ((with_reducible refine g_bin ?_); refine a_cmpz .eql (z) (1) f5 (.inl rfl) ((by rw [if_pos rfl]; exact h5.out)) (lz) (l1) ?_) | (first | ((with_reducible refine g_ld ?_); refine a_ld HM ?_) | ((with_reducible refine g_st ?_); refine a_st HM ?_; clear HM; intro w1 HM) | ((with_reducible refine g_al ?_); refine a_al HM ?_; clear HM; intro bk w1 HM) | ((with_reducible refine g_bx ?_); refine a_bx HM ?_; clear HM; intro bk w1 HM) | ((with_reducible refine g_bld ?_); refine a_bld ?_)))
        go_ret
        exact ⟨rfl, HM.low⟩
    · obtain ⟨ht, hN0⟩ := hgt rfl
      have hff : Hid (f = (Rt.short M N && f5)) := Lib.hid (by
        rw [hf.out, h5.out, hz.out]; unfold Rt.ok; rw [hc2, ← hg.out, ht]; simp)
      clear hgt hf hc2 ht hN0
      by_cases hb1 : m ≤ 480
      · by_cases hb2 : n ≤ 480
        · have hfe : Hid (f = f5) := Lib.hid (by rw [hff.out]; unfold Rt.short; simp [show Bg.bl M ≤ 480 from (by rw [← HBM.out]; exact hb1), show Bg.bl N ≤ 480 from (by rw [← HBN.out]; exact hb2)])
          cases s with
          | false =>
            go_enter Try.func38, Try.ntmps38
            go_wp2_with (first | first | (go_at_call 49; ((with_reducible refine (rsign_num _ M _ hM hg1 _).mono ?_); rintro e9 w2 ⟨rfl, hL⟩; replace HM := HM.call hL; clear hL)) | (go_at_call 49; ((with_reducible refine (rsign_num t N _ hN hg _).mono ?_); rintro e9 w2 ⟨rfl, hL⟩; replace HM := HM.call hL; clear hL)) | (go_at_call 58; ((with_reducible refine (rbits_any _ M m hM hm _).mono ?_); rintro e9 w2 ⟨rfl, hL⟩; replace HM := HM.call hL; clear hL)) | (go_at_call 58; ((with_reducible refine (rbits_any t N n hN hn _).mono ?_); rintro e9 w2 ⟨rfl, hL⟩; replace HM := HM.call hL; clear hL)) | (go_at_call 55; ((with_reducible refine (rgcd_any _ t M N z hM hN hz _).mono ?_); rintro e9 w2 ⟨rfl, hL⟩; replace HM := HM.call hL; clear hL)) | (go_at_call 40; ((with_reducible refine (rfromInt_z 1 (by decide) (by decide) _).mono ?_); rintro e9 w2 ⟨rfl, hL⟩; replace HM := HM.call hL; clear hL)) | ((with_reducible refine g_bin ?_); refine a_cmpz .eql (z) (1) f5 (.inl rfl) ((by rw [if_pos rfl]; exact h5.out)) (lz) (l1) ?_) | (first | ((with_reducible refine g_ld ?_); refine a_ld HM ?_) | ((with_reducible refine g_st ?_); refine a_st HM ?_; clear HM; intro w1 HM) | ((with_reducible refine g_al ?_); refine a_al HM ?_; clear HM; intro bk w1 HM) | ((with_reducible refine g_bx ?_); refine a_bx HM ?_; clear HM; intro bk w1 HM) | ((with_reducible refine g_bld ?_); refine a_bld ?_)))
            go_ret
            exact ⟨by rw [hfe.out]; rfl, HM.low⟩
          | true =>
            obtain rfl := hs1 rfl
            go_enter Try.func38, Try.ntmps38
            go_wp2_with (first | first | (go_at_call 49; ((with_reducible refine (rsign_num _ M _ hM hg1 _).mono ?_); rintro e9 w2 ⟨rfl, hL⟩; replace HM := HM.call hL; clear hL)) | (go_at_call 49; ((with_reducible refine (rsign_num t N _ hN hg _).mono ?_); rintro e9 w2 ⟨rfl, hL⟩; replace HM := HM.call hL; clear hL)) | (go_at_call 58; ((with_reducible refine (rbits_any _ M m hM hm _).mono ?_); rintro e9 w2 ⟨rfl, hL⟩; replace HM := HM.call hL; clear hL)) | (go_at_call 58; ((with_reducible refine (rbits_any t N n hN hn _).mono ?_); rintro e9 w2 ⟨rfl, hL⟩; replace HM := HM.call hL; clear hL)) | (go_at_call 55; ((with_reducible refine (rgcd_any _ t M N z hM hN hz _).mono ?_); rintro e9 w2 ⟨rfl, hL⟩; replace HM := HM.call hL; clear hL)) | (go_at_call 40; ((with_reducible refine (rfromInt_z 1 (by decide) (by decide) _).mono ?_); rintro e9 w2 ⟨rfl, hL⟩; replace HM := HM.call hL; clear hL)) | ((with_reducible refine g_bin ?_); refine a_cmpz .eql (z) (1) f5 (.inl rfl) ((by rw [if_pos rfl]; exact h5.out)) (lz) (l1) ?_) | (first | ((with_reducible refine g_ld ?_); refine a_ld HM ?_) | ((with_reducible refine g_st ?_); refine a_st HM ?_; clear HM; intro w1 HM) | ((with_reducible refine g_al ?_); refine a_al HM ?_; clear HM; intro bk w1 HM) | ((with_reducible refine g_bx ?_); refine a_bx HM ?_; clear HM; intro bk w1 HM) | ((with_reducible refine g_bld ?_); refine a_bld ?_)))
            go_ret
            exact ⟨by rw [hfe.out]; rfl, HM.low⟩
        · have hb2' : decide (n ≤ 480) = false := by simpa using hb2
          obtain rfl : f = false := by rw [hff.out]; unfold Rt.short; simp [show ¬ Bg.bl N ≤ 480 from fun h => hb2 (by rw [HBN.out]; exact h)]
          clear hb2
          cases s with
          | false =>
            go_enter Try.func38, Try.ntmps38
            go_wp2_with (first | first | (go_at_call 49; ((with_reducible refine (rsign_num _ M _ hM hg1 _).mono ?_); rintro e9 w2 ⟨rfl, hL⟩; replace HM := HM.call hL; clear hL)) | (go_at_call 49; ((with_reducible refine (rsign_num t N _ hN hg _).mono ?_); rintro e9 w2 ⟨rfl, hL⟩; replace HM := HM.call hL; clear hL)) | (go_at_call 58; ((with_reducible refine (rbits_any _ M m hM hm _).mono ?_); rintro e9 w2 ⟨rfl, hL⟩; replace HM := HM.call hL; clear hL)) | (go_at_call 58; ((with_reducible refine (rbits_any t N n hN hn _).mono ?_); rintro e9 w2 ⟨rfl, hL⟩; replace HM := HM.call hL; clear hL)) | (go_at_call 55; ((with_reducible refine (rgcd_any _ t M N z hM hN hz _).mono ?_); rintro e9 w2 ⟨rfl, hL⟩; replace HM := HM.call hL; clear hL)) | (go_at_call 40; ((with_reducible refine (rfromInt_z 1 (by decide) (by decide) _).mono ?_); rintro e9 w2 ⟨rfl, hL⟩; replace HM := HM.call hL; clear hL)) | ((with_reducible refine g_bin ?_); refine a_cmpz .eql (z) (1) f5 (.inl rfl) ((by rw [if_pos rfl]; exact h5.out)) (lz) (l1) ?_) | (first | ((with_reducible refine g_ld ?_); refine a_ld HM ?_) | ((with_reducible refine g_st ?_); refine a_st HM ?_; clear HM; intro w1 HM) | ((with_reducible refine g_al ?_); refine a_al HM ?_; clear HM; intro bk w1 HM) | ((with_reducible refine g_bx ?_); refine a_bx HM ?_; clear HM; intro bk w1 HM) | ((with_reducible refine g_bld ?_); refine a_bld ?_)))
            go_ret
            exact ⟨rfl, HM.low⟩
          | true =>
            obtain rfl := hs1 rfl
            go_enter Try.func38, Try.ntmps38
            go_wp2_with (first | first | (go_at_call 49; ((with_reducible refine (rsign_num _ M _ hM hg1 _).mono ?_); rintro e9 w2 ⟨rfl, hL⟩; replace HM := HM.call hL; clear hL)) | (go_at_call 49; ((with_reducible refine (rsign_num t N _ hN hg _).mono ?_); rintro e9 w2 ⟨rfl, hL⟩; replace HM := HM.call hL; clear hL)) | (go_at_call 58; ((with_reducible refine (rbits_any _ M m hM hm _).mono ?_); rintro e9 w2 ⟨rfl, hL⟩; replace HM := HM.call hL; clear hL)) | (go_at_call 58; ((with_reducible refine (rbits_any t N n hN hn _).mono ?_); rintro e9 w2 ⟨rfl, hL⟩; replace HM := HM.call hL; clear hL)) | (go_at_call 55; ((with_reducible refine (rgcd_any _ t M N z hM hN hz _).mono ?_); rintro e9 w2 ⟨rfl, hL⟩; replace HM := HM.call hL; clear hL)) | (go_at_call 40; ((with_reducible refine (rfromInt_z 1 (by decide) (by decide) _).mono ?_); rintro e9 w2 ⟨rfl, hL⟩; replace HM := HM.call hL; clear hL)) | ((with_reducible refine g_bin ?_); refine a_cmpz .eql (z) (1) f5 (.inl rfl) ((by rw [if_pos rfl]; exact h5.out)) (lz) (l1) ?_) | (first | ((with_reducible refine g_ld ?_); refine a_ld HM ?_) | ((with_reducible refine g_st ?_); refine a_st HM ?_; clear HM; intro w1 HM) | ((with_reducible refine g_al ?_); refine a_al HM ?_; clear HM; intro bk w1 HM) | ((with_reducible refine g_bx ?_); refine a_bx HM ?_; clear HM; intro bk w1 HM) | ((with_reducible refine g_bld ?_); refine a_bld ?_)))
            go_ret
            exact ⟨rfl, HM.low⟩
      · have hb1' : decide (m ≤ 480) = false := by simpa using hb1
        obtain rfl : f = false := by rw [hff.out]; unfold Rt.short; simp [show ¬ Bg.bl M ≤ 480 from fun h => hb1 (by rw [HBM.out]; exact h)]
        clear hb1
        cases s with
        | false =>
          go_enter Try.func38, Try.ntmps38
          go_wp2_with (first | first | (go_at_call 49; ((with_reducible refine (rsign_num _ M _ hM hg1 _).mono ?_); rintro e9 w2 ⟨rfl, hL⟩; replace HM := HM.call hL; clear hL)) | (go_at_call 49; ((with_reducible refine (rsign_num t N _ hN hg _).mono ?_); rintro e9 w2 ⟨rfl, hL⟩; replace HM := HM.call hL; clear hL)) | (go_at_call 58; ((with_reducible refine (rbits_any _ M m hM hm _).mono ?_); rintro e9 w2 ⟨rfl, hL⟩; replace HM := HM.call hL; clear hL)) | (go_at_call 58; ((with_reducible refine (rbits_any t N n hN hn _).mono ?_); rintro e9 w2 ⟨rfl, hL⟩; replace HM := HM.call hL; clear hL)) | (go_at_call 55; ((with_reducible refine (rgcd_any _ t M N z hM hN hz _).mono ?_); rintro e9 w2 ⟨rfl, hL⟩; replace HM := HM.call hL; clear hL)) | (go_at_call 40; ((with_reducible refine (rfromInt_z 1 (by decide) (by decide) _).mono ?_); rintro e9 w2 ⟨rfl, hL⟩; replace HM := HM.call hL; clear hL)) | ((with_reducible refine g_bin ?_); refine a_cmpz .eql (z) (1) f5 (.inl rfl) ((by rw [if_pos rfl]; exact h5.out)) (lz) (l1) ?_) | (first | ((with_reducible refine g_ld ?_); refine a_ld HM ?_) | ((with_reducible refine g_st ?_); refine a_st HM ?_; clear HM; intro w1 HM) | ((with_reducible refine g_al ?_); refine a_al HM ?_; clear HM; intro bk w1 HM) | ((with_reducible refine g_bx ?_); refine a_bx HM ?_; clear HM; intro bk w1 HM) | ((with_reducible refine g_bld ?_); refine a_bld ?_)))
          go_ret
          exact ⟨rfl, HM.low⟩
        | true =>
          obtain rfl := hs1 rfl
          go_enter Try.func38, Try.ntmps38
          go_wp2_with (first | first | (go_at_call 49; ((with_reducible refine (rsign_num _ M _ hM hg1 _).mono ?_); rintro e9 w2 ⟨rfl, hL⟩; replace HM := HM.call hL; clear hL)) | (go_at_call 49; ((with_reducible refine (rsign_num t N _ hN hg _).mono ?_); rintro e9 w2 ⟨rfl, hL⟩; replace HM := HM.call hL; clear hL)) | (go_at_call 58; ((with_reducible refine (rbits_any _ M m hM hm _).mono ?_); rintro e9 w2 ⟨rfl, hL⟩; replace HM := HM.call hL; clear hL)) | (go_at_call 58; ((with_reducible refine (rbits_any t N n hN hn _).mono ?_); rintro e9 w2 ⟨rfl, hL⟩; replace HM := HM.call hL; clear hL)) | (go_at_call 55; ((with_reducible refine (rgcd_any _ t M N z hM hN hz _).mono ?_); rintro e9 w2 ⟨rfl, hL⟩; replace HM := HM.call hL; clear hL)) | (go_at_call 40; ((with_reducible refine (rfromInt_z 1 (by decide) (by decide) _).mono ?_); rintro e9 w2 ⟨rfl, hL⟩; replace HM := HM.call hL; clear hL)) | ((with_reducible refine g_bin ?_); refine a_cmpz .eql (z) (1) f5 (.inl rfl) ((by rw [if_pos rfl]; exact h5.out)) (lz) (l1) ?_) | (first | ((with_reducible refine g_ld ?_); refine a_ld HM ?_) | ((with_reducible refine g_st ?_); refine a_st HM ?_; clear HM; intro w1 HM) | ((with_reducible refine g_al ?_); refine a_al HM ?_; clear HM; intro bk w1 HM) | ((with_reducible refine g_bx ?_); refine a_bx HM ?_; clear HM; intro bk w1 HM) | ((with_reducible refine g_bld ?_); refine a_bld ?_)))
          go_ret
          exact ⟨rfl, HM.low⟩
end Go.Proofs.Ytekfabhmopkapaa
