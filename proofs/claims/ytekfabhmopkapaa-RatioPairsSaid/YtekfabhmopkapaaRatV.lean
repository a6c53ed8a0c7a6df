/- ratio: product, whole, canonical, fits, Valid. -/
import Derived.Test.YtekfabhmopkapaaRatO
namespace Go.Proofs.Ytekfabhmopkapaa
set_option maxRecDepth 8000
open Go.RowKit
set_option maxHeartbeats 2000000 in
theorem product_n (s t : Bool) (M N : Nat) (z v : Int) (hM : M < Bg.lim) (hN : N < Bg.lim) (hz : Hid (z = Bg.toZ s M * Bg.toZ t N)) (hv : Hid (v = Bg.resZ z)) (w : World) :
    Calls Try.prog 64 #[.agg (Bg.intA s M), .agg (Bg.intA t N)] w fun r w' => r = .returned (.agg (Bg.zA v)) ∧ Below w.heap.size w w' := by
  have HM := Mem.start w
  obtain ⟨e, he⟩ : ∃ e, Hid (e = Bg.resE z) := ⟨_, rfl⟩
  go_enter Try.func64, Try.ntmps64
  go_wp2_with (first | (go_at_call 87; ((with_reducible refine (mul_n s t M N z v e hM hN hz hv he _).mono ?_); rintro e9 w2 ⟨rfl, hL⟩; replace HM := HM.call hL; clear hL)) | (first | ((with_reducible refine g_ld ?_); refine a_ld HM ?_) | ((with_reducible refine g_st ?_); refine a_st HM ?_; clear HM; intro w1 HM) | ((with_reducible refine g_al ?_); refine a_al HM ?_; clear HM; intro bk w1 HM) | ((with_reducible refine g_bx ?_); refine a_bx HM ?_; clear HM; intro bk w1 HM) | ((with_reducible refine g_bld ?_); refine a_bld ?_)))
  refine bodyPost_ret (r_c rfl rfl (HM.get (by ((repeat (first | exact Look.here | refine Look.there ?_)); done))) (la_z _)) rfl ⟨rfl, HM.low⟩
set_option maxHeartbeats 2000000 in
theorem rproduct_n (s t : Bool) (M N : Nat) (z v : Int) (hM : M < Bg.lim) (hN : N < Bg.lim) (hz : Hid (z = Bg.toZ s M * Bg.toZ t N)) (hv : Hid (v = Bg.resZ z)) (w : World) :
    Calls Try.prog 70 #[.agg (Bg.intA s M), .agg (Bg.intA t N)] w fun r w' => r = .returned (.agg (Bg.zA v)) ∧ Below w.heap.size w w' := by
  have HM := Mem.start w
  obtain ⟨e, he⟩ : ∃ e, Hid (e = Bg.resE z) := ⟨_, rfl⟩
  go_enter Try.func70, Try.ntmps70
  go_wp2_with (first | (go_at_call 89; ((with_reducible refine (rmul_any s t M N z v e hM hN hz hv he _).mono ?_); rintro e9 w2 ⟨rfl, hL⟩; replace HM := HM.call hL; clear hL)) | (first | ((with_reducible refine g_ld ?_); refine a_ld HM ?_) | ((with_reducible refine g_st ?_); refine a_st HM ?_; clear HM; intro w1 HM) | ((with_reducible refine g_al ?_); refine a_al HM ?_; clear HM; intro bk w1 HM) | ((with_reducible refine g_bx ?_); refine a_bx HM ?_; clear HM; intro bk w1 HM) | ((with_reducible refine g_bld ?_); refine a_bld ?_)))
  refine bodyPost_ret (r_c rfl rfl (HM.get (by ((repeat (first | exact Look.here | refine Look.there ?_)); done))) (la_z _)) rfl ⟨rfl, HM.low⟩
set_option maxHeartbeats 2000000 in
theorem whole_n (s t : Bool) (M N : Nat) (x : Int) (hM : M < Bg.lim) (hN : N < Bg.lim) (h0 : 0 < N) (hx : Hid (x = Bg.toZ s M / Bg.toZ t N)) (w : World) :
    Calls Try.prog 53 #[.agg (Bg.intA s M), .agg (Bg.intA t N)] w fun r w' => r = .returned (.agg (Bg.zA x)) ∧ Below w.heap.size w w' := by
  have HM := Mem.start w
  obtain ⟨y, hy⟩ : ∃ y, Hid (y = Bg.toZ s M % Bg.toZ t N) := ⟨_, rfl⟩
  go_enter Try.func53, Try.ntmps53
  go_wp2_with (first | (go_at_call 78; ((with_reducible refine (divMod_r s t M N x y hM hN h0 hx hy _).mono ?_); rintro e9 w2 ⟨rfl, hL⟩; replace HM := HM.call hL; clear hL)) | (first | ((with_reducible refine g_ld ?_); refine a_ld HM ?_) | ((with_reducible refine g_st ?_); refine a_st HM ?_; clear HM; intro w1 HM) | ((with_reducible refine g_al ?_); refine a_al HM ?_; clear HM; intro bk w1 HM) | ((with_reducible refine g_bx ?_); refine a_bx HM ?_; clear HM; intro bk w1 HM) | ((with_reducible refine g_bld ?_); refine a_bld ?_)))
  refine bodyPost_ret (r_c rfl rfl (HM.get (by ((repeat (first | exact Look.here | refine Look.there ?_)); done))) (la_z _)) rfl ⟨rfl, HM.low⟩
set_option maxHeartbeats 2000000 in
theorem canonical_n (s : Bool) (M : Nat) (f : Bool) (hM : M < Bg.lim) (hf : Hid (f = (!s || decide (M ≠ 0)))) (w : World) :
    Calls Try.prog 60 #[.agg (Bg.intA s M)] w fun r w' => r = .returned (.bool f) ∧ Below w.heap.size w w' := by
  have HM := Mem.start w
  cases s with
  | false =>
    obtain rfl : f = true := by rw [hf.out]; rfl
    go_enter Try.func60, Try.ntmps60
    go_wp2_with (first | fail | (first | ((with_reducible refine g_ld ?_); refine a_ld HM ?_) | ((with_reducible refine g_st ?_); refine a_st HM ?_; clear HM; intro w1 HM) | ((with_reducible refine g_al ?_); refine a_al HM ?_; clear HM; intro bk w1 HM) | ((with_reducible refine g_bx ?_); refine a_bx HM ?_; clear HM; intro bk w1 HM) | ((with_reducible refine g_bld ?_); refine a_bld ?_)))
    go_ret
    exact ⟨rfl, HM.low⟩
  | true =>
    obtain ⟨g, hg⟩ : ∃ g, Hid (g = (Bg.toZ true M).sign) := ⟨_, rfl⟩
    by_cases h0 : M = 0
    · obtain rfl : f = false := by rw [hf.out]; simp [h0]
      obtain rfl : g = 0 := by rw [hg.out, h0]; rfl
      clear h0
      go_enter Try.func60, Try.ntmps60
      go_wp2_with (first | (go_at_call 50; ((with_reducible refine (sign_any true M hM 0 hg _).mono ?_); rintro e9 w2 ⟨rfl, hL⟩; replace HM := HM.call hL; clear hL)) | (first | ((with_reducible refine g_ld ?_); refine a_ld HM ?_) | ((with_reducible refine g_st ?_); refine a_st HM ?_; clear HM; intro w1 HM) | ((with_reducible refine g_al ?_); refine a_al HM ?_; clear HM; intro bk w1 HM) | ((with_reducible refine g_bx ?_); refine a_bx HM ?_; clear HM; intro bk w1 HM) | ((with_reducible refine g_bld ?_); refine a_bld ?_)))
      go_ret
      exact ⟨rfl, HM.low⟩
    · obtain rfl : f = true := by rw [hf.out]; simp [h0]
      obtain rfl : g = -1 := by rw [hg.out]; exact Int.sign_eq_neg_one_of_neg (by simp [Bg.toZ]; omega)
      clear h0
      go_enter Try.func60, Try.ntmps60
      go_wp2_with (first | (go_at_call 50; ((with_reducible refine (sign_any true M hM (-1) hg _).mono ?_); rintro e9 w2 ⟨rfl, hL⟩; replace HM := HM.call hL; clear hL)) | (first | ((with_reducible refine g_ld ?_); refine a_ld HM ?_) | ((with_reducible refine g_st ?_); refine a_st HM ?_; clear HM; intro w1 HM) | ((with_reducible refine g_al ?_); refine a_al HM ?_; clear HM; intro bk w1 HM) | ((with_reducible refine g_bx ?_); refine a_bx HM ?_; clear HM; intro bk w1 HM) | ((with_reducible refine g_bld ?_); refine a_bld ?_)))
      go_ret
      exact ⟨rfl, HM.low⟩
set_option maxHeartbeats 2000000 in
theorem fits_n (s : Bool) (M : Nat) (t : Bool) (N : Nat) (f : Bool) (hM : M < Bg.lim) (hN : N < Bg.lim) (hf : Hid (f = Rt.short M N)) (w : World) :
    Calls Try.prog 54 #[.agg (Bg.ratA s M t N)] w fun r w' => r = .returned (.bool f) ∧ Below w.heap.size w w' := by
  have HM := Mem.start w
  obtain ⟨m, hm⟩ : ∃ m : Int, Hid (m = (Bg.bl M : Int)) := ⟨_, rfl⟩
  obtain ⟨n, hn⟩ : ∃ m : Int, Hid (m = (Bg.bl N : Int)) := ⟨_, rfl⟩
  have l1 := la_rnum s M t N
  have l2 := la_rden s M t N
  by_cases h1 : Bg.bl M ≤ 480
  · have h1' : m ≤ 480 := by rw [hm.out]; omega
    have hf2 : Hid (f = decide (n ≤ 480)) := Lib.hid (by rw [hf.out, hn.out]; unfold Rt.short; simp [h1]; omega)
    clear h1
    go_enter Try.func54, Try.ntmps54
    go_wp2_with (first | first | (go_at_call 79; ((with_reducible refine (bits_num s M m hM hm _).mono ?_); rintro e9 w2 ⟨rfl, hL⟩; replace HM := HM.call hL; clear hL)) | (go_at_call 79; ((with_reducible refine (bits_num t N n hN hn _).mono ?_); rintro e9 w2 ⟨rfl, hL⟩; replace HM := HM.call hL; clear hL)) | (first | ((with_reducible refine g_ld ?_); refine a_ld HM ?_) | ((with_reducible refine g_st ?_); refine a_st HM ?_; clear HM; intro w1 HM) | ((with_reducible refine g_al ?_); refine a_al HM ?_; clear HM; intro bk w1 HM) | ((with_reducible refine g_bx ?_); refine a_bx HM ?_; clear HM; intro bk w1 HM) | ((with_reducible refine g_bld ?_); refine a_bld ?_)))
    go_ret
    exact ⟨by rw [hf2.out]; rfl, HM.low⟩
  · have h1' : decide (m ≤ 480) = false := by rw [hm.out]; simp; omega
    obtain rfl : f = false := by rw [hf.out]; unfold Rt.short; simp [h1]
    clear h1
    go_enter Try.func54, Try.ntmps54
    go_wp2_with (first | (go_at_call 79; ((with_reducible refine (bits_num s M m hM hm _).mono ?_); rintro e9 w2 ⟨rfl, hL⟩; replace HM := HM.call hL; clear hL)) | (first | ((with_reducible refine g_ld ?_); refine a_ld HM ?_) | ((with_reducible refine g_st ?_); refine a_st HM ?_; clear HM; intro w1 HM) | ((with_reducible refine g_al ?_); refine a_al HM ?_; clear HM; intro bk w1 HM) | ((with_reducible refine g_bx ?_); refine a_bx HM ?_; clear HM; intro bk w1 HM) | ((with_reducible refine g_bld ?_); refine a_bld ?_)))
    go_ret
    exact ⟨rfl, HM.low⟩
set_option maxHeartbeats 4000000 in
theorem valid_n (s : Bool) (M : Nat) (t : Bool) (N : Nat) (f : Bool) (hM : M < Bg.lim) (hN : N < Bg.lim) (hf : Hid (f = Rt.ok s M t N)) (w : World) :
    Calls Try.prog 15 #[.agg (Bg.ratA s M t N)] w fun r w' => r = .returned (.bool f) ∧ Below w.heap.size w w' := by
  have HM := Mem.start w
  obtain ⟨f1, h1⟩ : ∃ b, Hid (b = Rt.short M N) := ⟨_, rfl⟩
  obtain ⟨f2, h2⟩ : ∃ b, Hid (b = (!s || decide (M ≠ 0))) := ⟨_, rfl⟩
  obtain ⟨f3, h3⟩ : ∃ b, Hid (b = (!t || decide (N ≠ 0))) := ⟨_, rfl⟩
  obtain ⟨g, hg⟩ : ∃ g, Hid (g = (Bg.toZ t N).sign) := ⟨_, rfl⟩
  obtain ⟨z, hz⟩ : ∃ z : Int, Hid (z = (Nat.gcd M N : Nat)) := ⟨_, rfl⟩
  obtain ⟨f5, h5⟩ : ∃ b, Hid (b = decide (z = 1)) := ⟨_, rfl⟩
  have hff : Hid (f = (f1 && (f2 && (f3 && (decide (0 < g) && f5))))) := Lib.hid (by rw [hf.out, h1.out, h2.out, h3.out, hg.out, h5.out, hz.out]; rfl)
  have hgv : g = -1 ∨ g = 0 ∨ g = 1 := by rw [hg.out]; exact sign_v _
  have lz : z.natAbs < Bg.lim := by
    rw [hz.out, Int.natAbs_natCast]
    rcases Nat.eq_zero_or_pos M with h | h
    · rw [h, Nat.gcd_zero_left]; exact hN
    · exact Nat.lt_of_le_of_lt (Nat.gcd_le_left _ h) hM
  have l1 : ((1 : Int)).natAbs < Bg.lim := small_lim (by decide)
  have k1 := la_rnum s M t N
  have k2 := la_rden s M t N
  have k3 := la_rat s M t N
  clear hf
  go_enter Try.func15, Try.ntmps15
  cases f1 with
  | false =>
    obtain rfl : f = false := hff.out
    go_wp2_with (first | (go_at_call 54; ((with_reducible refine (fits_n s M t N false hM hN h1 _).mono ?_); rintro e9 w2 ⟨rfl, hL⟩; replace HM := HM.call hL; clear hL)) | (first | ((with_reducible refine g_ld ?_); refine a_ld HM ?_) | ((with_reducible refine g_st ?_); refine a_st HM ?_; clear HM; intro w1 HM) | ((with_reducible refine g_al ?_); refine a_al HM ?_; clear HM; intro bk w1 HM) | ((with_reducible refine g_bx ?_); refine a_bx HM ?_; clear HM; intro bk w1 HM) | ((with_reducible refine g_bld ?_); refine a_bld ?_)))
    go_ret
    exact ⟨rfl, HM.low⟩
  | true =>
    cases f2 with
    | false =>
      obtain rfl : f = false := hff.out
      go_wp2_with (first | first | (go_at_call 54; ((with_reducible refine (fits_n s M t N true hM hN h1 _).mono ?_); rintro e9 w2 ⟨rfl, hL⟩; replace HM := HM.call hL; clear hL)) | (go_at_call 60; ((with_reducible refine (canonical_n s M false hM h2 _).mono ?_); rintro e9 w2 ⟨rfl, hL⟩; replace HM := HM.call hL; clear hL)) | (first | ((with_reducible refine g_ld ?_); refine a_ld HM ?_) | ((with_reducible refine g_st ?_); refine a_st HM ?_; clear HM; intro w1 HM) | ((with_reducible refine g_al ?_); refine a_al HM ?_; clear HM; intro bk w1 HM) | ((with_reducible refine g_bx ?_); refine a_bx HM ?_; clear HM; intro bk w1 HM) | ((with_reducible refine g_bld ?_); refine a_bld ?_)))
      go_ret
      exact ⟨rfl, HM.low⟩
    | true =>
      cases f3 with
      | false =>
        obtain rfl : f = false := hff.out
        go_wp2_with (first | first | (go_at_call 54; ((with_reducible refine (fits_n s M t N true hM hN h1 _).mono ?_); rintro e9 w2 ⟨rfl, hL⟩; replace HM := HM.call hL; clear hL)) | (go_at_call 60; ((with_reducible refine (canonical_n s M true hM h2 _).mono ?_); rintro e9 w2 ⟨rfl, hL⟩; replace HM := HM.call hL; clear hL)) | (go_at_call 60; ((with_reducible refine (canonical_n t N false hN h3 _).mono ?_); rintro e9 w2 ⟨rfl, hL⟩; replace HM := HM.call hL; clear hL)) | (first | ((with_reducible refine g_ld ?_); refine a_ld HM ?_) | ((with_reducible refine g_st ?_); refine a_st HM ?_; clear HM; intro w1 HM) | ((with_reducible refine g_al ?_); refine a_al HM ?_; clear HM; intro bk w1 HM) | ((with_reducible refine g_bx ?_); refine a_bx HM ?_; clear HM; intro bk w1 HM) | ((with_reducible refine g_bld ?_); refine a_bld ?_)))
        go_ret
        exact ⟨rfl, HM.low⟩
      | true =>
        rcases hgv with rfl | rfl | rfl
        · obtain rfl : f = false := hff.out
          go_wp2_with (first | first | (go_at_call 54; ((with_reducible refine (fits_n s M t N true hM hN h1 _).mono ?_); rintro e9 w2 ⟨rfl, hL⟩; replace HM := HM.call hL; clear hL)) | (go_at_call 60; ((with_reducible refine (canonical_n s M true hM h2 _).mono ?_); rintro e9 w2 ⟨rfl, hL⟩; replace HM := HM.call hL; clear hL)) | (go_at_call 60; ((with_reducible refine (canonical_n t N true hN h3 _).mono ?_); rintro e9 w2 ⟨rfl, hL⟩; replace HM := HM.call hL; clear hL)) | (go_at_call 50; ((with_reducible refine (sign_any t N hN _ hg _).mono ?_); rintro e9 w2 ⟨rfl, hL⟩; replace HM := HM.call hL; clear hL)) | (first | ((with_reducible refine g_ld ?_); refine a_ld HM ?_) | ((with_reducible refine g_st ?_); refine a_st HM ?_; clear HM; intro w1 HM) | ((with_reducible refine g_al ?_); refine a_al HM ?_; clear HM; intro bk w1 HM) | ((with_reducible refine g_bx ?_); refine a_bx HM ?_; clear HM; intro bk w1 HM) | ((with_reducible refine g_bld ?_); refine a_bld ?_)))
          go_ret
          exact ⟨rfl, HM.low⟩
        · obtain rfl : f = false := hff.out
          go_wp2_with (first | first | (go_at_call 54; ((with_reducible refine (fits_n s M t N true hM hN h1 _).mono ?_); rintro e9 w2 ⟨rfl, hL⟩; replace HM := HM.call hL; clear hL)) | (go_at_call 60; ((with_reducible refine (canonical_n s M true hM h2 _).mono ?_); rintro e9 w2 ⟨rfl, hL⟩; replace HM := HM.call hL; clear hL)) | (go_at_call 60; ((with_reducible refine (canonical_n t N true hN h3 _).mono ?_); rintro e9 w2 ⟨rfl, hL⟩; replace HM := HM.call hL; clear hL)) | (go_at_call 50; ((with_reducible refine (sign_any t N hN _ hg _).mono ?_); rintro e9 w2 ⟨rfl, hL⟩; replace HM := HM.call hL; clear hL)) | (first | ((with_reducible refine g_ld ?_); refine a_ld HM ?_) | ((with_reducible refine g_st ?_); refine a_st HM ?_; clear HM; intro w1 HM) | ((with_reducible refine g_al ?_); refine a_al HM ?_; clear HM; intro bk w1 HM) | ((with_reducible refine g_bx ?_); refine a_bx HM ?_; clear HM; intro bk w1 HM) | ((with_reducible refine g_bld ?_); refine a_bld ?_)))
          go_ret
          exact ⟨rfl, HM.low⟩
        · obtain rfl : f = f5 := hff.out
          go_wp2_with (first | first | (go_at_call 54; ((with_reducible refine (fits_n s M t N true hM hN h1 _).mono ?_); rintro e9 w2 ⟨rfl, hL⟩; replace HM := HM.call hL; clear hL)) | (go_at_call 60; ((with_reducible refine (canonical_n s M true hM h2 _).mono ?_); rintro e9 w2 ⟨rfl, hL⟩; replace HM := HM.call hL; clear hL)) | (go_at_call 60; ((with_reducible refine (canonical_n t N true hN h3 _).mono ?_); rintro e9 w2 ⟨rfl, hL⟩; replace HM := HM.call hL; clear hL)) | (go_at_call 50; ((with_reducible refine (sign_any t N hN _ hg _).mono ?_); rintro e9 w2 ⟨rfl, hL⟩; replace HM := HM.call hL; clear hL)) | (go_at_call 51; ((with_reducible refine (gcd_r s t M N z hM hN hz _).mono ?_); rintro e9 w2 ⟨rfl, hL⟩; replace HM := HM.call hL; clear hL)) | (go_at_call 59; ((with_reducible refine (fromInt_z 1 (by decide) (by decide) _).mono ?_); rintro e9 w2 ⟨rfl, hL⟩; replace HM := HM.call hL; clear hL)) | ((with_reducible refine g_bin ?_); refine a_cmpz .eql (z) (1) f (.inl rfl) ((by rw [if_pos rfl]; exact h5.out)) (lz) (l1) ?_) | (first | ((with_reducible refine g_ld ?_); refine a_ld HM ?_) | ((with_reducible refine g_st ?_); refine a_st HM ?_; clear HM; intro w1 HM) | ((with_reducible refine g_al ?_); refine a_al HM ?_; clear HM; intro bk w1 HM) | ((with_reducible refine g_bx ?_); refine a_bx HM ?_; clear HM; intro bk w1 HM) | ((with_reducible refine g_bld ?_); refine a_bld ?_)))
          go_ret
          exact ⟨rfl, HM.low⟩
end Go.Proofs.Ytekfabhmopkapaa
