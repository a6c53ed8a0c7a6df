/- Walks, and plain facts for them. -/
import Derived.Test.YtmbjaaaeekacfaaGreatDoorPb09
import Derived.Test.YtmbjaaaeekacfaaGreatDoorPb10
import Derived.Test.YtmbjaaaeekacfaaGreatDoorPb11
namespace Go.Proofs.YtmbjaaaeekacfaaGreatDoor
set_option maxRecDepth 8000
open Go.RowKit
theorem mul_n (s t : Bool) (M N : Nat) (z v e : Int) (hM : M < Bg.lim) (hN : N < Bg.lim) (hzz : Hid (z = Bg.toZ s M * Bg.toZ t N)) (hv : Hid (v = Bg.resZ z)) (he : Hid (e = Bg.resE z)) (w : World) :
    Calls Tryz.prog 90 #[.agg (Bg.intA s M), .agg (Bg.intA t N)] w fun r w' => r = .returned (.tuple #[.agg (Bg.zA v), .int .i64 e]) ∧ Below w.heap.size w w' := by
 rw [hv.out, he.out, ← Bg.resV_eq]; exact mul_any0 s t M N hM hN z hzz w
theorem divMod_r (s t : Bool) (M N : Nat) (x y : Int) (hM : M < Bg.lim) (hN : N < Bg.lim) (h0 : 0 < N) (hx : Hid (x = Bg.toZ s M / Bg.toZ t N)) (hy : Hid (y = Bg.toZ s M % Bg.toZ t N)) (w : World) :
    Calls Tryz.prog 133 #[.agg (Bg.intA s M), .agg (Bg.intA t N)] w fun e w' => e = .returned (.tuple #[.agg (Bg.zA x), .agg (Bg.zA y), .int .i64 0]) ∧ Below w.heap.size w w' :=
 divMod_any0 s t M N hM hN h0 (divOk_any h0 hM hN) x y hx hy w
theorem gcd_r (s t : Bool) (M N : Nat) (z : Int) (hM : M < Bg.lim) (hN : N < Bg.lim) (hz : Hid (z = (Nat.gcd M N : Nat))) (w : World) :
    Calls Tryz.prog 86 #[.agg (Bg.intA s M), .agg (Bg.intA t N)] w fun e w' => e = .returned (.agg (Bg.zA z)) ∧ Below w.heap.size w w' :=
 gcd_any0 s t M N hM hN (fun _ _ h0 hA hB => divOk_any h0 hA (Nat.lt_of_le_of_lt hB hN)) z hz w
theorem sign_v (g : Int) : g.sign = -1 ∨ g.sign = 0 ∨ g.sign = 1 := by
 rcases Int.lt_trichotomy g 0 with h | h | h
 ·exact .inl (Int.sign_eq_neg_one_of_neg h)
 ·right; left; rw [h]; rfl
 ·right; right; exact Int.sign_eq_one_of_pos h
def Rt.short (M N : Nat) : Bool := decide (Bg.bl M ≤ 480) && decide (Bg.bl N ≤ 480)
def Rt.ok (s : Bool) (M : Nat) (t : Bool) (N : Nat) : Bool := Rt.short M N && ((!s || decide (M ≠ 0)) && ((!t || decide (N ≠ 0)) && (decide (0 < (Bg.toZ t N).sign) && decide ((Nat.gcd M N : Int) = 1))))
def Rt.sg (p q : Int) : Int := if q < 0 then -(Nat.gcd p.natAbs q.natAbs : Int) else (Nat.gcd p.natAbs q.natAbs : Int)
def Rt.mk (p q : Int) : Int × Int × Int :=
 if q = 0 then (0, 0, 11) else if Rt.short (p / Rt.sg p q).natAbs (q / Rt.sg p q).natAbs then (p / Rt.sg p q, q / Rt.sg p q, 0) else (0, 0, 10)
theorem Rt.sg_pos {p q : Int} (h : q ≠ 0) : 0 < Nat.gcd p.natAbs q.natAbs := Nat.gcd_pos_of_pos_right _ (by omega)
theorem Rt.sg_ne {p q : Int} (h : q ≠ 0) : Rt.sg p q ≠ 0 := by
 have := Rt.sg_pos (p := p) h
 unfold Rt.sg; split <;> omega
end Go.Proofs.YtmbjaaaeekacfaaGreatDoor
namespace Go.Proofs.YtmbjaaaeekacfaaGreatDoor
set_option maxRecDepth 8000
open Go.RowKit
set_option maxHeartbeats 2000000 in
theorem product_n (s t : Bool) (M N : Nat) (z v : Int) (hM : M < Bg.lim) (hN : N < Bg.lim) (hz : Hid (z = Bg.toZ s M * Bg.toZ t N)) (hv : Hid (v = Bg.resZ z)) (w : World) :
    Calls Tryz.prog 117 #[.agg (Bg.intA s M), .agg (Bg.intA t N)] w fun r w' => r = .returned (.agg (Bg.zA v)) ∧ Below w.heap.size w w' := by
 have HM := Mem.start w
 obtain ⟨e, he⟩ : ∃ e, Hid (e = Bg.resE z) := ⟨_, rfl⟩
 go_enter Tryz.func117, Tryz.ntmps117
 go_wp2_with (first | (go_at_call 90; ((with_reducible refine (mul_n s t M N z v e hM hN hz hv he _).mono ?_); rintro e9 w2 ⟨rfl, hL⟩; replace HM := HM.call hL; clear hL)) | (first | ((with_reducible refine g_ld ?_); refine a_ld HM ?_) | ((with_reducible refine g_st ?_); refine a_st HM ?_; clear HM; intro w1 HM) | ((with_reducible refine g_al ?_); refine a_al HM ?_; clear HM; intro bk w1 HM) | ((with_reducible refine g_bx ?_); refine a_bx HM ?_; clear HM; intro bk w1 HM)))
 refine bodyPost_ret (r_c rfl rfl (HM.get (by ((repeat (first | exact Look.here | refine Look.there ?_)); done))) (la_z _)) rfl ⟨rfl, HM.low⟩
set_option maxHeartbeats 2000000 in
theorem rproduct_n (s t : Bool) (M N : Nat) (z v : Int) (hM : M < Bg.lim) (hN : N < Bg.lim) (hz : Hid (z = Bg.toZ s M * Bg.toZ t N)) (hv : Hid (v = Bg.resZ z)) (w : World) :
    Calls Tryz.prog 66 #[.agg (Bg.intA s M), .agg (Bg.intA t N)] w fun r w' => r = .returned (.agg (Bg.zA v)) ∧ Below w.heap.size w w' := by
 have HM := Mem.start w
 obtain ⟨e, he⟩ : ∃ e, Hid (e = Bg.resE z) := ⟨_, rfl⟩
 go_enter Tryz.func66, Tryz.ntmps66
 go_wp2_with (first | (go_at_call 107; ((with_reducible refine (rmul_any s t M N z v e hM hN hz hv he _).mono ?_); rintro e9 w2 ⟨rfl, hL⟩; replace HM := HM.call hL; clear hL)) | (first | ((with_reducible refine g_ld ?_); refine a_ld HM ?_) | ((with_reducible refine g_st ?_); refine a_st HM ?_; clear HM; intro w1 HM) | ((with_reducible refine g_al ?_); refine a_al HM ?_; clear HM; intro bk w1 HM) | ((with_reducible refine g_bx ?_); refine a_bx HM ?_; clear HM; intro bk w1 HM)))
 refine bodyPost_ret (r_c rfl rfl (HM.get (by ((repeat (first | exact Look.here | refine Look.there ?_)); done))) (la_z _)) rfl ⟨rfl, HM.low⟩
set_option maxHeartbeats 2000000 in
theorem whole_n (s t : Bool) (M N : Nat) (x : Int) (hM : M < Bg.lim) (hN : N < Bg.lim) (h0 : 0 < N) (hx : Hid (x = Bg.toZ s M / Bg.toZ t N)) (w : World) :
    Calls Tryz.prog 88 #[.agg (Bg.intA s M), .agg (Bg.intA t N)] w fun r w' => r = .returned (.agg (Bg.zA x)) ∧ Below w.heap.size w w' := by
 have HM := Mem.start w
 obtain ⟨y, hy⟩ : ∃ y, Hid (y = Bg.toZ s M % Bg.toZ t N) := ⟨_, rfl⟩
 go_enter Tryz.func88, Tryz.ntmps88
 go_wp2_with (first | (go_at_call 133; ((with_reducible refine (divMod_r s t M N x y hM hN h0 hx hy _).mono ?_); rintro e9 w2 ⟨rfl, hL⟩; replace HM := HM.call hL; clear hL)) | (first | ((with_reducible refine g_ld ?_); refine a_ld HM ?_) | ((with_reducible refine g_st ?_); refine a_st HM ?_; clear HM; intro w1 HM) | ((with_reducible refine g_al ?_); refine a_al HM ?_; clear HM; intro bk w1 HM) | ((with_reducible refine g_bx ?_); refine a_bx HM ?_; clear HM; intro bk w1 HM)))
 refine bodyPost_ret (r_c rfl rfl (HM.get (by ((repeat (first | exact Look.here | refine Look.there ?_)); done))) (la_z _)) rfl ⟨rfl, HM.low⟩
set_option maxHeartbeats 2000000 in
theorem canonical_n (s : Bool) (M : Nat) (f : Bool) (hM : M < Bg.lim) (hf : Hid (f = (!s || decide (M ≠ 0)))) (w : World) :
    Calls Tryz.prog 115 #[.agg (Bg.intA s M)] w fun r w' => r = .returned (.bool f) ∧ Below w.heap.size w w' := by
 have HM := Mem.start w
 cases s with
 | false =>
  obtain rfl : f = true := by rw [hf.out]; rfl
  go_enter Tryz.func115, Tryz.ntmps115
  go_wp2_with (first | ((with_reducible refine g_ld ?_); refine a_ld HM ?_) | ((with_reducible refine g_bx ?_); refine a_bx HM ?_; clear HM; intro bk w1 HM))
  go_ret
  exact ⟨rfl, HM.low⟩
 | true =>
  obtain ⟨g, hg⟩ : ∃ g, Hid (g = (Bg.toZ true M).sign) := ⟨_, rfl⟩
  by_cases h0 : M = 0
  ·obtain rfl : f = false := by rw [hf.out]; simp [h0]
   obtain rfl : g = 0 := by rw [hg.out, h0]; rfl
   clear h0
   go_enter Tryz.func115, Tryz.ntmps115
   go_wp2_with (first | (go_at_call 85; ((with_reducible refine (sign_any true M hM 0 hg _).mono ?_); rintro e9 w2 ⟨rfl, hL⟩; replace HM := HM.call hL; clear hL)) | (first | ((with_reducible refine g_ld ?_); refine a_ld HM ?_) | ((with_reducible refine g_bx ?_); refine a_bx HM ?_; clear HM; intro bk w1 HM)))
   go_ret
   exact ⟨rfl, HM.low⟩
  ·obtain rfl : f = true := by rw [hf.out]; simp [h0]
   obtain rfl : g = -1 := by rw [hg.out]; exact Int.sign_eq_neg_one_of_neg (by simp [Bg.toZ]; omega)
   clear h0
   go_enter Tryz.func115, Tryz.ntmps115
   go_wp2_with (first | (go_at_call 85; ((with_reducible refine (sign_any true M hM (-1) hg _).mono ?_); rintro e9 w2 ⟨rfl, hL⟩; replace HM := HM.call hL; clear hL)) | (first | ((with_reducible refine g_ld ?_); refine a_ld HM ?_) | ((with_reducible refine g_bx ?_); refine a_bx HM ?_; clear HM; intro bk w1 HM)))
   go_ret
   exact ⟨rfl, HM.low⟩
set_option maxHeartbeats 2000000 in
theorem fits_n (s : Bool) (M : Nat) (t : Bool) (N : Nat) (f : Bool) (hM : M < Bg.lim) (hN : N < Bg.lim) (hf : Hid (f = Rt.short M N)) (w : World) :
    Calls Tryz.prog 89 #[.agg (Bg.ratA s M t N)] w fun r w' => r = .returned (.bool f) ∧ Below w.heap.size w w' := by
 have HM := Mem.start w
 obtain ⟨m, hm⟩ : ∃ m : Int, Hid (m = (Bg.bl M : Int)) := ⟨_, rfl⟩
 obtain ⟨n, hn⟩ : ∃ m : Int, Hid (m = (Bg.bl N : Int)) := ⟨_, rfl⟩
 have l1 := la_rnum s M t N
 have l2 := la_rden s M t N
 by_cases h1 : Bg.bl M ≤ 480
 ·have h1' : m ≤ 480 := by rw [hm.out]; omega
  have hf2 : Hid (f = decide (n ≤ 480)) := Lib.hid (by rw [hf.out, hn.out]; unfold Rt.short; simp [h1]; omega)
  clear h1
  go_enter Tryz.func89, Tryz.ntmps89
  go_wp2_with (first | (go_at_call 134; ((with_reducible refine (bits_num s M m hM hm _).mono ?_); rintro e9 w2 ⟨rfl, hL⟩; replace HM := HM.call hL; clear hL)) | (go_at_call 134; ((with_reducible refine (bits_num t N n hN hn _).mono ?_); rintro e9 w2 ⟨rfl, hL⟩; replace HM := HM.call hL; clear hL)) | (first | ((with_reducible refine g_ld ?_); refine a_ld HM ?_) | ((with_reducible refine g_bx ?_); refine a_bx HM ?_; clear HM; intro bk w1 HM)))
  go_ret
  exact ⟨by rw [hf2.out]; rfl, HM.low⟩
 ·have h1' : decide (m ≤ 480) = false := by rw [hm.out]; simp; omega
  obtain rfl : f = false := by rw [hf.out]; unfold Rt.short; simp [h1]
  clear h1
  go_enter Tryz.func89, Tryz.ntmps89
  go_wp2_with (first | (go_at_call 134; ((with_reducible refine (bits_num s M m hM hm _).mono ?_); rintro e9 w2 ⟨rfl, hL⟩; replace HM := HM.call hL; clear hL)) | (first | ((with_reducible refine g_ld ?_); refine a_ld HM ?_) | ((with_reducible refine g_bx ?_); refine a_bx HM ?_; clear HM; intro bk w1 HM)))
  go_ret
  exact ⟨rfl, HM.low⟩
set_option maxHeartbeats 4000000 in
theorem valid_n (s : Bool) (M : Nat) (t : Bool) (N : Nat) (f : Bool) (hM : M < Bg.lim) (hN : N < Bg.lim) (hf : Hid (f = Rt.ok s M t N)) (w : World) :
    Calls Tryz.prog 73 #[.agg (Bg.ratA s M t N)] w fun r w' => r = .returned (.bool f) ∧ Below w.heap.size w w' := by
 have HM := Mem.start w
 obtain ⟨f1, h1⟩ : ∃ b, Hid (b = Rt.short M N) := ⟨_, rfl⟩
 obtain ⟨f2, h2⟩ : ∃ b, Hid (b = (!s || decide (M ≠ 0))) := ⟨_, rfl⟩
 obtain ⟨f3, h3⟩ : ∃ b, Hid (b = (!t || decide (N ≠ 0))) := ⟨_, rfl⟩
 obtain ⟨g, hg⟩ : ∃ g, Hid (g = (Bg.toZ t N).sign) := ⟨_, rfl⟩
 obtain ⟨z, hz⟩ : ∃ z : Int, Hid (z = (Nat.gcd M N : Nat)) := ⟨_, rfl⟩
 obtain ⟨f5, h5⟩ : ∃ b, Hid (b = decide (z = 1)) := ⟨_, rfl⟩
 have hff : Hid (f = (f1 && (f2 && (f3 && (decide (0 < g) && f5))))) := Lib.hid (by rw [hf.out, h1.out, h2.out, h3.out, hg.out, h5.out, hz.out]; rfl)
 have hgv : g = -1 ∨ g = 0 ∨ g = 1 := by rw [hg.out]; exact sign_v _
 have lz : z.natAbs < Bg.lim := by
  rw [hz.out, Int.natAbs_natCast]
  rcases Nat.eq_zero_or_pos M with h | h
  ·rw [h, Nat.gcd_zero_left]; exact hN
  ·exact Nat.lt_of_le_of_lt (Nat.gcd_le_left _ h) hM
 have l1 : ((1 : Int)).natAbs < Bg.lim := small_lim (by decide)
 have k1 := la_rnum s M t N
 have k2 := la_rden s M t N
 have k3 := la_rat s M t N
 clear hf
 go_enter Tryz.func73, Tryz.ntmps73
 cases f1 with
 | false =>
  obtain rfl : f = false := hff.out
  go_wp2_with (first | (go_at_call 89; ((with_reducible refine (fits_n s M t N false hM hN h1 _).mono ?_); rintro e9 w2 ⟨rfl, hL⟩; replace HM := HM.call hL; clear hL)) | (first | ((with_reducible refine g_ld ?_); refine a_ld HM ?_) | ((with_reducible refine g_bx ?_); refine a_bx HM ?_; clear HM; intro bk w1 HM)))
  go_ret
  exact ⟨rfl, HM.low⟩
 | true =>
  cases f2 with
  | false =>
   obtain rfl : f = false := hff.out
   go_wp2_with (first | (go_at_call 89; ((with_reducible refine (fits_n s M t N true hM hN h1 _).mono ?_); rintro e9 w2 ⟨rfl, hL⟩; replace HM := HM.call hL; clear hL)) | (go_at_call 115; ((with_reducible refine (canonical_n s M false hM h2 _).mono ?_); rintro e9 w2 ⟨rfl, hL⟩; replace HM := HM.call hL; clear hL)) | (first | ((with_reducible refine g_ld ?_); refine a_ld HM ?_) | ((with_reducible refine g_bx ?_); refine a_bx HM ?_; clear HM; intro bk w1 HM)))
   go_ret
   exact ⟨rfl, HM.low⟩
  | true =>
   cases f3 with
   | false =>
    obtain rfl : f = false := hff.out
    go_wp2_with (first | (go_at_call 89; ((with_reducible refine (fits_n s M t N true hM hN h1 _).mono ?_); rintro e9 w2 ⟨rfl, hL⟩; replace HM := HM.call hL; clear hL)) | (go_at_call 115; ((with_reducible refine (canonical_n s M true hM h2 _).mono ?_); rintro e9 w2 ⟨rfl, hL⟩; replace HM := HM.call hL; clear hL)) | (go_at_call 115; ((with_reducible refine (canonical_n t N false hN h3 _).mono ?_); rintro e9 w2 ⟨rfl, hL⟩; replace HM := HM.call hL; clear hL)) | (first | ((with_reducible refine g_ld ?_); refine a_ld HM ?_) | ((with_reducible refine g_bx ?_); refine a_bx HM ?_; clear HM; intro bk w1 HM)))
    go_ret
    exact ⟨rfl, HM.low⟩
   | true =>
    rcases hgv with rfl | rfl | rfl
    ·obtain rfl : f = false := hff.out
     go_wp2_with (first | (go_at_call 89; ((with_reducible refine (fits_n s M t N true hM hN h1 _).mono ?_); rintro e9 w2 ⟨rfl, hL⟩; replace HM := HM.call hL; clear hL)) | (go_at_call 115; ((with_reducible refine (canonical_n s M true hM h2 _).mono ?_); rintro e9 w2 ⟨rfl, hL⟩; replace HM := HM.call hL; clear hL)) | (go_at_call 115; ((with_reducible refine (canonical_n t N true hN h3 _).mono ?_); rintro e9 w2 ⟨rfl, hL⟩; replace HM := HM.call hL; clear hL)) | (go_at_call 85; ((with_reducible refine (sign_any t N hN _ hg _).mono ?_); rintro e9 w2 ⟨rfl, hL⟩; replace HM := HM.call hL; clear hL)) | (first | ((with_reducible refine g_ld ?_); refine a_ld HM ?_) | ((with_reducible refine g_bx ?_); refine a_bx HM ?_; clear HM; intro bk w1 HM)))
     go_ret
     exact ⟨rfl, HM.low⟩
    ·obtain rfl : f = false := hff.out
     go_wp2_with (first | (go_at_call 89; ((with_reducible refine (fits_n s M t N true hM hN h1 _).mono ?_); rintro e9 w2 ⟨rfl, hL⟩; replace HM := HM.call hL; clear hL)) | (go_at_call 115; ((with_reducible refine (canonical_n s M true hM h2 _).mono ?_); rintro e9 w2 ⟨rfl, hL⟩; replace HM := HM.call hL; clear hL)) | (go_at_call 115; ((with_reducible refine (canonical_n t N true hN h3 _).mono ?_); rintro e9 w2 ⟨rfl, hL⟩; replace HM := HM.call hL; clear hL)) | (go_at_call 85; ((with_reducible refine (sign_any t N hN _ hg _).mono ?_); rintro e9 w2 ⟨rfl, hL⟩; replace HM := HM.call hL; clear hL)) | (first | ((with_reducible refine g_ld ?_); refine a_ld HM ?_) | ((with_reducible refine g_bx ?_); refine a_bx HM ?_; clear HM; intro bk w1 HM)))
     go_ret
     exact ⟨rfl, HM.low⟩
    ·obtain rfl : f = f5 := hff.out
     go_wp2_with (first | (go_at_call 89; ((with_reducible refine (fits_n s M t N true hM hN h1 _).mono ?_); rintro e9 w2 ⟨rfl, hL⟩; replace HM := HM.call hL; clear hL)) | (go_at_call 115; ((with_reducible refine (canonical_n s M true hM h2 _).mono ?_); rintro e9 w2 ⟨rfl, hL⟩; replace HM := HM.call hL; clear hL)) | (go_at_call 115; ((with_reducible refine (canonical_n t N true hN h3 _).mono ?_); rintro e9 w2 ⟨rfl, hL⟩; replace HM := HM.call hL; clear hL)) | (go_at_call 85; ((with_reducible refine (sign_any t N hN _ hg _).mono ?_); rintro e9 w2 ⟨rfl, hL⟩; replace HM := HM.call hL; clear hL)) | (go_at_call 86; ((with_reducible refine (gcd_r s t M N z hM hN hz _).mono ?_); rintro e9 w2 ⟨rfl, hL⟩; replace HM := HM.call hL; clear hL)) | (go_at_call 47; ((with_reducible refine (fromInt_z 1 (by decide) (by decide) _).mono ?_); rintro e9 w2 ⟨rfl, hL⟩; replace HM := HM.call hL; clear hL)) | ((with_reducible refine g_bin ?_); refine a_cmpz .eql (z) (1) f (.inl rfl) ((by rw [if_pos rfl]; exact h5.out)) (lz) (l1) ?_) | (first | ((with_reducible refine g_ld ?_); refine a_ld HM ?_) | ((with_reducible refine g_bx ?_); refine a_bx HM ?_; clear HM; intro bk w1 HM)))
     go_ret
     exact ⟨rfl, HM.low⟩
end Go.Proofs.YtmbjaaaeekacfaaGreatDoor
namespace Go.Proofs.YtmbjaaaeekacfaaGreatDoor
set_option maxRecDepth 8000
open Go.RowKit
theorem whole_iz (s : Bool) (M : Nat) (G x : Int) (hM : M < Bg.lim) (hG : G.natAbs < Bg.lim) (h0 : G ≠ 0) (hx : Hid (x = Bg.toZ s M / G)) (w : World) :
    Calls Tryz.prog 88 #[.agg (Bg.intA s M), .agg (Bg.zA G)] w fun r w' => r = .returned (.agg (Bg.zA x)) ∧ Below w.heap.size w w' := by
 rw [zA_int G]
 exact whole_n s _ M _ x hM hG (by omega) (Lib.hid (by rw [Bg.toZ_iv]; exact hx.out)) w
theorem fits_z (n d : Int) (f : Bool) (hn : n.natAbs < Bg.lim) (hd : d.natAbs < Bg.lim) (hf : Hid (f = Rt.short n.natAbs d.natAbs)) (w : World) :
    Calls Tryz.prog 89 #[.agg (Bg.rZ n d)] w fun r w' => r = .returned (.bool f) ∧ Below w.heap.size w w' := by
 rw [rZ_ratA]; exact fits_n _ _ _ _ f hn hd hf w
theorem ediv_lt {p G : Int} (hp : p.natAbs < Bg.lim) : (p / G).natAbs < Bg.lim := Nat.lt_of_le_of_lt (Int.natAbs_ediv_le_natAbs p G) hp
structure Rt.MkSt (p q G x1 x2 n d e : Int) (f : Bool) : Prop where
 eg : G = Rt.sg p q
 e1 : x1 = p / G
 e2 : x2 = q / G
 ef : f = Rt.short x1.natAbs x2.natAbs
 no : f = false → n = 0 ∧ d = 0 ∧ e = 10
 yes : f = true → n = x1 ∧ d = x2 ∧ e = 0
theorem Rt.mkSt {p q n d e : Int} (h0 : q ≠ 0) (hr : (n, d, e) = Rt.mk p q) : ∃ G x1 x2 f, Rt.MkSt p q G x1 x2 n d e f := by
 refine ⟨_, _, _, _, rfl, rfl, rfl, rfl, ?_, ?_⟩
 ·intro hf
  unfold Rt.mk at hr
  rw [if_neg h0, if_neg (by rw [hf]; simp)] at hr
  simpa using hr
 ·intro hf
  unfold Rt.mk at hr
  rw [if_neg h0, if_pos hf] at hr
  simpa using hr
set_option maxHeartbeats 4000000 in
theorem make_n (s : Bool) (M : Nat) (t : Bool) (N : Nat) (n d e : Int) (hM : M < Bg.lim) (hN : N < Bg.lim) (hr : Hid ((n, d, e) = Rt.mk (Bg.toZ s M) (Bg.toZ t N))) (w : World) :
    Calls Tryz.prog 45 #[.agg (Bg.intA s M), .agg (Bg.intA t N)] w fun r w' => r = .returned (.tuple #[.agg (Bg.rZ n d), .int .i64 e]) ∧ Below w.heap.size w w' := by
 have HM := Mem.start w
 obtain ⟨p, hp⟩ : ∃ p, Hid (p = Bg.toZ s M) := ⟨_, rfl⟩
 obtain ⟨q, hq⟩ : ∃ p, Hid (p = Bg.toZ t N) := ⟨_, rfl⟩
 obtain ⟨g, hg⟩ : ∃ g, Hid (g = (Bg.toZ t N).sign) := ⟨_, rfl⟩
 have hz0 := za_rat
 have hs1 := sa_rz 0 0 (rZ_size 0 0)
 by_cases h0 : N = 0
 ·have hq0 : Bg.toZ t N = 0 := by rw [h0]; cases t <;> rfl
  have hr2 := hr.out
  unfold Rt.mk at hr2
  rw [if_pos hq0] at hr2
  obtain ⟨rfl, rfl, rfl⟩ : n = 0 ∧ d = 0 ∧ e = 11 := by simpa using hr2
  obtain rfl : g = 0 := by rw [hg.out, hq0]; rfl
  clear hr2 hq0 h0
  go_enter Tryz.func45, Tryz.ntmps45
  go_wp2_with (first | ((with_reducible refine g_bld ?_); refine a_rbl ?_) | (go_at_call 85; ((with_reducible refine (sign_any t N hN 0 hg _).mono ?_); rintro e9 w2 ⟨rfl, hL⟩; replace HM := HM.call hL; clear hL)) | (first | ((with_reducible refine g_ld ?_); refine a_ld HM ?_) | ((with_reducible refine g_st ?_); refine a_st HM ?_; clear HM; intro w1 HM) | ((with_reducible refine g_al ?_); refine a_al HM ?_; clear HM; intro bk w1 HM) | ((with_reducible refine g_bx ?_); refine a_bx HM ?_; clear HM; intro bk w1 HM) | ((with_reducible refine g_bld ?_); refine a_bld ?_)))
  refine bodyPost_ret (r_ct rfl rfl (HM.get (by ((repeat (first | exact Look.here | refine Look.there ?_)); done))) (la_rz _ _)) rfl ⟨rfl, HM.low⟩
 ·have hq0 : q ≠ 0 := by
    intro h; have := Bg.toZ_abs t N; rw [← hq.out, h] at this; simp at this; omega
  rw [← hp.out, ← hq.out] at hr
  obtain ⟨G, x1, x2, f, HS⟩ := Rt.mkSt hq0 hr.out
  replace HS := Lib.hid HS
  obtain ⟨g0, hg0⟩ : ∃ z : Int, Hid (z = (Nat.gcd M N : Nat)) := ⟨_, rfl⟩
  have hgc : Nat.gcd p.natAbs q.natAbs = Nat.gcd M N := by rw [hp.out, hq.out, Bg.toZ_abs, Bg.toZ_abs]
  have lg0 : g0.natAbs < Bg.lim := by
   rw [hg0.out, Int.natAbs_natCast]
   exact Nat.lt_of_le_of_lt (Nat.gcd_le_right _ (by omega)) hN
  have hG0 : Hid (G ≠ 0) := Lib.hid (by rw [HS.out.eg]; exact Rt.sg_ne hq0)
  have hGv : (g = -1 ∧ Hid (G = -g0)) ∨ (g = 1 ∧ G = g0) := by
   have hgs : g = q.sign := by rw [hg.out, hq.out]
   rw [HS.out.eg, hg0.out, ← hgc]
   unfold Rt.sg
   rcases Int.lt_or_gt_of_ne hq0 with h | h
   ·exact .inl ⟨by rw [hgs]; exact Int.sign_eq_neg_one_of_neg h, Lib.hid (by rw [if_pos h])⟩
   ·exact .inr ⟨by rw [hgs]; exact Int.sign_eq_one_of_pos h, by rw [if_neg (by omega)]⟩
  have lG : G.natAbs < Bg.lim := by
   rcases hGv with ⟨_, h⟩ | ⟨_, h⟩
   ·rw [h.out, Int.natAbs_neg]; exact lg0
   ·rw [h]; exact lg0
  have hx1 : Hid (x1 = Bg.toZ s M / G) := Lib.hid (by rw [HS.out.e1, hp.out])
  have hx2 : Hid (x2 = Bg.toZ t N / G) := Lib.hid (by rw [HS.out.e2, hq.out])
  have l1 : x1.natAbs < Bg.lim := by rw [hx1.out]; exact ediv_lt (by rw [Bg.toZ_abs]; exact hM)
  have l2 : x2.natAbs < Bg.lim := by rw [hx2.out]; exact ediv_lt (by rw [Bg.toZ_abs]; exact hN)
  have hf : Hid (f = Rt.short x1.natAbs x2.natAbs) := Lib.hid HS.out.ef
  have hs2 := sa_rz x1 x2 (rZ_size 0 0)
  have k1 := la_rz x1 x2
  clear hgc h0 hq0
  go_enter Tryz.func45, Tryz.ntmps45
  rcases hGv with ⟨rfl, hGn⟩ | ⟨rfl, rfl⟩
  case' inl =>
   go_upto_region 6 with (first | (go_at_call 85; ((with_reducible refine (sign_any t N hN _ hg _).mono ?_); rintro e9 w2 ⟨rfl, hL⟩; replace HM := HM.call hL; clear hL)) | (go_at_call 86; ((with_reducible refine (gcd_r s t M N g0 hM hN hg0 _).mono ?_); rintro e9 w2 ⟨rfl, hL⟩; replace HM := HM.call hL; clear hL)) | (go_at_call 87; ((with_reducible refine (neg_z g0 G lg0 hGn _).mono ?_); rintro e9 w2 ⟨rfl, hL⟩; replace HM := HM.call hL; clear hL)) | (first | ((with_reducible refine g_ld ?_); refine a_ld HM ?_) | ((with_reducible refine g_st ?_); refine a_st HM ?_; clear HM; intro w1 HM) | ((with_reducible refine g_al ?_); refine a_al HM ?_; clear HM; intro bk w1 HM) | ((with_reducible refine g_bx ?_); refine a_bx HM ?_; clear HM; intro bk w1 HM) | ((with_reducible refine g_bld ?_); refine a_bld ?_)))
  case' inr =>
   go_upto_region 6 with (first | (go_at_call 85; ((with_reducible refine (sign_any t N hN _ hg _).mono ?_); rintro e9 w2 ⟨rfl, hL⟩; replace HM := HM.call hL; clear hL)) | (go_at_call 86; ((with_reducible refine (gcd_r s t M N G hM hN hg0 _).mono ?_); rintro e9 w2 ⟨rfl, hL⟩; replace HM := HM.call hL; clear hL)) | (first | ((with_reducible refine g_ld ?_); refine a_ld HM ?_) | ((with_reducible refine g_st ?_); refine a_st HM ?_; clear HM; intro w1 HM) | ((with_reducible refine g_al ?_); refine a_al HM ?_; clear HM; intro bk w1 HM) | ((with_reducible refine g_bx ?_); refine a_bx HM ?_; clear HM; intro bk w1 HM) | ((with_reducible refine g_bld ?_); refine a_bld ?_)))
  all_goals
   obtain ⟨b4, rfl⟩ := HM.nm1
   go_cut [7] (fun v wc => ∃ b7 : Nat, v = .pointer (some ⟨b7, 0, none⟩) ∧ Mem w [] [(b7, Bg.rZ x1 x2), (b4, Bg.rZ 0 0)] wc)
   case first =>
    refine start_M [8] HM (by kernel_rfl) (fun w0x H9 => ?_)
    replace HM := H9; clear H9
    refine k_ld 0 [2, 5, 6, 8] (heldE HM) ?_
    refine k_ld 1 [2, 5, 6, 8] (heldE HM) ?_
    refine k_ld 3 [5, 6, 8] (heldE HM) ?_
    refine k_ld 4 [5, 6, 8] (heldE HM) ?_
    refine j_two 2 7 ?_ ?_
    ·refine j_call2 (v := ?_) HM ?_ ?_; rotate_left 1; (focus (with_reducible (first | exact whole_iz s M G x1 hM lG hG0.out hx1 _ | exact whole_iz t N G x2 hN lG hG0.out hx2 _))); clear HM; intro w1 HM
     refine ⟨(heldE HM), ?_⟩
     refine j_two 5 7 ?_ ?_
     ·refine j_call2 (v := ?_) HM ?_ ?_; rotate_left 1; (focus (with_reducible (first | exact whole_iz s M G x1 hM lG hG0.out hx1 _ | exact whole_iz t N G x2 hN lG hG0.out hx2 _))); clear HM; intro w1 HM
      refine ⟨(heldE HM), ?_⟩
      refine t_pure (i := 6) (v := .agg (Bg.rZ x1 x2)) rfl rfl (by kernel_rfl) (fun _ _ _ h => h) (heldE HM) (by rfl) ?_ ?_; (focus (exact h_br (by rfl) (by rfl) (by rfl))); ((try simp only [List.setIfInBounds_toArray]); (try simp only [List.set_cons_succ]); (try simp only [List.set_cons_zero]))
      refine j_one 7 fun K9 hK9 => ?_
      refine j_al HM ?_; clear HM; intro bk w1 HM
      refine hK9 _ _ (heldE HM) ?_; clear hK9 K9
      refine j_one 8 fun K9 hK9 => ?_
      refine j_st HM ?_; clear HM; intro w1 HM
      refine hK9 _ _ heldN ?_; clear hK9 K9
      refine wpAnyL_done (by kernel_rfl) ?_ _
      (go_wp2_with fail; go_meet; (case rel => refine ⟨_, rfl, ?_⟩; refine HM.less ?_; (repeat (first | exact Sub.nil | refine Sub.keep ?_ | refine Sub.skip ?_))))
     ·refine j_al HM ?_; clear HM; intro bk w1 HM
      refine ⟨(heldE HM), ?_⟩
      refine j_one 5 fun K9 hK9 => ?_
      refine j_call2 (v := ?_) HM ?_ ?_; rotate_left 1; (focus (with_reducible (first | exact whole_iz s M G x1 hM lG hG0.out hx1 _ | exact whole_iz t N G x2 hN lG hG0.out hx2 _))); clear HM; intro w1 HM
      refine hK9 _ _ (heldE HM) ?_; clear hK9 K9
      refine t_pure (i := 6) (v := .agg (Bg.rZ x1 x2)) rfl rfl (by kernel_rfl) (fun _ _ _ h => h) (heldE HM) (by rfl) ?_ ?_; (focus (exact h_br (by rfl) (by rfl) (by rfl))); ((try simp only [List.setIfInBounds_toArray]); (try simp only [List.set_cons_succ]); (try simp only [List.set_cons_zero]))
      refine j_one 8 fun K9 hK9 => ?_
      refine j_st HM ?_; clear HM; intro w1 HM
      refine hK9 _ _ heldN ?_; clear hK9 K9
      refine wpAnyL_done (by kernel_rfl) ?_ _
      (go_wp2_with fail; go_meet; (case rel => refine ⟨_, rfl, ?_⟩; refine HM.less ?_; (repeat (first | exact Sub.nil | refine Sub.keep ?_ | refine Sub.skip ?_))))
    ·refine j_al HM ?_; clear HM; intro bk w1 HM
     refine ⟨(heldE HM), ?_⟩
     refine j_one 2 fun K9 hK9 => ?_
     refine j_call2 (v := ?_) HM ?_ ?_; rotate_left 1; (focus (with_reducible (first | exact whole_iz s M G x1 hM lG hG0.out hx1 _ | exact whole_iz t N G x2 hN lG hG0.out hx2 _))); clear HM; intro w1 HM
     refine hK9 _ _ (heldE HM) ?_; clear hK9 K9
     refine j_one 5 fun K9 hK9 => ?_
     refine j_call2 (v := ?_) HM ?_ ?_; rotate_left 1; (focus (with_reducible (first | exact whole_iz s M G x1 hM lG hG0.out hx1 _ | exact whole_iz t N G x2 hN lG hG0.out hx2 _))); clear HM; intro w1 HM
     refine hK9 _ _ (heldE HM) ?_; clear hK9 K9
     refine t_pure (i := 6) (v := .agg (Bg.rZ x1 x2)) rfl rfl (by kernel_rfl) (fun _ _ _ h => h) (heldE HM) (by rfl) ?_ ?_; (focus (exact h_br (by rfl) (by rfl) (by rfl))); ((try simp only [List.setIfInBounds_toArray]); (try simp only [List.set_cons_succ]); (try simp only [List.set_cons_zero]))
     refine j_one 8 fun K9 hK9 => ?_
     refine j_st HM ?_; clear HM; intro w1 HM
     refine hK9 _ _ heldN ?_; clear hK9 K9
     refine wpAnyL_done (by kernel_rfl) ?_ _
     (go_wp2_with fail; go_meet; (case rel => refine ⟨_, rfl, ?_⟩; refine HM.less ?_; (repeat (first | exact Sub.nil | refine Sub.keep ?_ | refine Sub.skip ?_))))
   case rest =>
    clear HM
    obtain ⟨b7, rfl, HM⟩ := hcut
    cases f with
    | false =>
     obtain ⟨rfl, rfl, rfl⟩ := HS.out.no rfl
     go_wp2_with (first | ((with_reducible refine g_bld ?_); refine a_rbl ?_) | (go_at_call 89; ((with_reducible refine (fits_z x1 x2 false l1 l2 hf _).mono ?_); rintro e9 w2 ⟨rfl, hL⟩; replace HM := HM.call hL; clear hL)) | (first | ((with_reducible refine g_ld ?_); refine a_ld HM ?_) | ((with_reducible refine g_st ?_); refine a_st HM ?_; clear HM; intro w1 HM) | ((with_reducible refine g_al ?_); refine a_al HM ?_; clear HM; intro bk w1 HM) | ((with_reducible refine g_bx ?_); refine a_bx HM ?_; clear HM; intro bk w1 HM) | ((with_reducible refine g_bld ?_); refine a_bld ?_)))
     refine bodyPost_ret (r_ct (b := b4) (k := 0) rfl rfl (HM.get (by ((repeat (first | exact Look.here | refine Look.there ?_)); done))) (la_rz _ _)) rfl ⟨rfl, HM.low⟩
    | true =>
     obtain ⟨rfl, rfl, rfl⟩ := HS.out.yes rfl
     go_wp2_with (first | ((with_reducible refine g_bld ?_); refine a_rbl ?_) | (go_at_call 89; ((with_reducible refine (fits_z n d true l1 l2 hf _).mono ?_); rintro e9 w2 ⟨rfl, hL⟩; replace HM := HM.call hL; clear hL)) | (first | ((with_reducible refine g_ld ?_); refine a_ld HM ?_) | ((with_reducible refine g_st ?_); refine a_st HM ?_; clear HM; intro w1 HM) | ((with_reducible refine g_al ?_); refine a_al HM ?_; clear HM; intro bk w1 HM) | ((with_reducible refine g_bx ?_); refine a_bx HM ?_; clear HM; intro bk w1 HM) | ((with_reducible refine g_bld ?_); refine a_bld ?_)))
     refine bodyPost_ret (r_ct (b := b4) (k := 0) rfl rfl (HM.get (by ((repeat (first | exact Look.here | refine Look.there ?_)); done))) (la_rz _ _)) rfl ⟨rfl, HM.low⟩
end Go.Proofs.YtmbjaaaeekacfaaGreatDoor
namespace Go.Proofs.YtmbjaaaeekacfaaGreatDoor
set_option maxRecDepth 8000
open Go.RowKit
set_option maxHeartbeats 4000000 in
theorem rvalid_n (s : Bool) (M : Nat) (t : Bool) (N : Nat) (f : Bool) (hM : M < Bg.lim) (hN : N < Bg.lim) (hf : Hid (f = Rt.ok s M t N)) (w : World) :
    Calls Tryz.prog 65 #[.agg (Bg.ratA s M t N)] w fun r w' => r = .returned (.bool f) ∧ Below w.heap.size w w' := by
 have HM := Mem.start w
 obtain ⟨g1, hg1⟩ : ∃ g, Hid (g = (Bg.toZ s M).sign) := ⟨_, rfl⟩
 obtain ⟨g, hg⟩ : ∃ g, Hid (g = (Bg.toZ t N).sign) := ⟨_, rfl⟩
 obtain ⟨m, hm⟩ : ∃ m : Int, Hid (m = (Bg.bl M : Int)) := ⟨_, rfl⟩
 obtain ⟨n, hn⟩ : ∃ m : Int, Hid (m = (Bg.bl N : Int)) := ⟨_, rfl⟩
 obtain ⟨z, hz⟩ : ∃ z : Int, Hid (z = (Nat.gcd M N : Nat)) := ⟨_, rfl⟩
 obtain ⟨f5, h5⟩ : ∃ b, Hid (b = decide (z = 1)) := ⟨_, rfl⟩
 have lz : z.natAbs < Bg.lim := by
  rw [hz.out, Int.natAbs_natCast]
  rcases Nat.eq_zero_or_pos M with h | h
  ·rw [h, Nat.gcd_zero_left]; exact hN
  ·exact Nat.lt_of_le_of_lt (Nat.gcd_le_left _ h) hM
 have l1 : ((1 : Int)).natAbs < Bg.lim := small_lim (by decide)
 have k1 := la_rnum s M t N
 have k2 := la_rden s M t N
 have k3 := la_rnneg s M t N
 have hgv : g = -1 ∨ g = 0 ∨ g = 1 := by rw [hg.out]; exact sign_v _
 have hgt : g = 1 → t = false ∧ N ≠ 0 := by
  intro h
  rw [hg.out] at h
  have := Int.sign_eq_one_iff_pos.1 h
  cases t
  ·exact ⟨rfl, by simp [Bg.toZ] at this; omega⟩
  ·simp [Bg.toZ] at this; omega
 by_cases hA : s = true ∧ M = 0
 ·obtain ⟨rfl, hM0⟩ := hA
  obtain rfl : f = false := by rw [hf.out]; unfold Rt.ok; simp [hM0]
  obtain rfl : g1 = 0 := by rw [hg1.out, hM0]; rfl
  clear hM0 hgt hgv
  go_enter Tryz.func65, Tryz.ntmps65
  go_wp2_with (first | (go_at_call 60; ((with_reducible refine (rsign_num true M 0 hM hg1 _).mono ?_); rintro e9 w2 ⟨rfl, hL⟩; replace HM := HM.call hL; clear hL)) | (first | ((with_reducible refine g_ld ?_); refine a_ld HM ?_) | ((with_reducible refine g_bx ?_); refine a_bx HM ?_; clear HM; intro bk w1 HM)))
  go_ret
  exact ⟨rfl, HM.low⟩
 ·have hc2 : (!s || decide (M ≠ 0)) = true := by cases s <;> simp_all
  have hbM : (m ≤ 480) = (Bg.bl M ≤ 480) := by rw [hm.out]; simp; omega
  have hbN : (n ≤ 480) = (Bg.bl N ≤ 480) := by rw [hn.out]; simp; omega
  have HBM := Lib.hid hbM
  have HBN := Lib.hid hbN
  clear hbM hbN
  have hs1 : s = true → g1 = -1 := by
   intro h
   rw [hg1.out, h]
   exact Int.sign_eq_neg_one_of_neg (by have : M ≠ 0 := fun h0 => hA ⟨h, h0⟩; simp [Bg.toZ]; omega)
  clear hA
  rcases hgv with rfl | rfl | rfl
  ·obtain rfl : f = false := by rw [hf.out]; unfold Rt.ok; rw [← hg.out]; simp
   clear hgt hf hc2
   cases s with
   | false =>
    go_enter Tryz.func65, Tryz.ntmps65
    go_wp2_with (first | (go_at_call 60; ((with_reducible refine (rsign_num _ M _ hM hg1 _).mono ?_); rintro e9 w2 ⟨rfl, hL⟩; replace HM := HM.call hL; clear hL)) | (go_at_call 60; ((with_reducible refine (rsign_num t N _ hN hg _).mono ?_); rintro e9 w2 ⟨rfl, hL⟩; replace HM := HM.call hL; clear hL)) | (go_at_call 101; ((with_reducible refine (rbits_any _ M m hM hm _).mono ?_); rintro e9 w2 ⟨rfl, hL⟩; replace HM := HM.call hL; clear hL)) | (go_at_call 101; ((with_reducible refine (rbits_any t N n hN hn _).mono ?_); rintro e9 w2 ⟨rfl, hL⟩; replace HM := HM.call hL; clear hL)) | (go_at_call 98; ((with_reducible refine (rgcd_any _ t M N z hM hN hz _).mono ?_); rintro e9 w2 ⟨rfl, hL⟩; replace HM := HM.call hL; clear hL)) | (go_at_call 67; ((with_reducible refine (rfromInt_z 1 (by decide) (by decide) _).mono ?_); rintro e9 w2 ⟨rfl, hL⟩; replace HM := HM.call hL; clear hL)) | ((with_reducible refine g_bin ?_); refine a_cmpz .eql (z) (1) f5 (.inl rfl) ((by rw [if_pos rfl]; exact h5.out)) (lz) (l1) ?_) | (first | ((with_reducible refine g_ld ?_); refine a_ld HM ?_) | ((with_reducible refine g_bx ?_); refine a_bx HM ?_; clear HM; intro bk w1 HM)))
    go_ret
    exact ⟨rfl, HM.low⟩
   | true =>
    obtain rfl := hs1 rfl
    go_enter Tryz.func65, Tryz.ntmps65
    go_wp2_with (first | (go_at_call 60; ((with_reducible refine (rsign_num _ M _ hM hg1 _).mono ?_); rintro e9 w2 ⟨rfl, hL⟩; replace HM := HM.call hL; clear hL)) | (go_at_call 60; ((with_reducible refine (rsign_num t N _ hN hg _).mono ?_); rintro e9 w2 ⟨rfl, hL⟩; replace HM := HM.call hL; clear hL)) | (go_at_call 101; ((with_reducible refine (rbits_any _ M m hM hm _).mono ?_); rintro e9 w2 ⟨rfl, hL⟩; replace HM := HM.call hL; clear hL)) | (go_at_call 101; ((with_reducible refine (rbits_any t N n hN hn _).mono ?_); rintro e9 w2 ⟨rfl, hL⟩; replace HM := HM.call hL; clear hL)) | (go_at_call 98; ((with_reducible refine (rgcd_any _ t M N z hM hN hz _).mono ?_); rintro e9 w2 ⟨rfl, hL⟩; replace HM := HM.call hL; clear hL)) | (go_at_call 67; ((with_reducible refine (rfromInt_z 1 (by decide) (by decide) _).mono ?_); rintro e9 w2 ⟨rfl, hL⟩; replace HM := HM.call hL; clear hL)) | ((with_reducible refine g_bin ?_); refine a_cmpz .eql (z) (1) f5 (.inl rfl) ((by rw [if_pos rfl]; exact h5.out)) (lz) (l1) ?_) | (first | ((with_reducible refine g_ld ?_); refine a_ld HM ?_) | ((with_reducible refine g_bx ?_); refine a_bx HM ?_; clear HM; intro bk w1 HM)))
    go_ret
    exact ⟨rfl, HM.low⟩
  ·obtain rfl : f = false := by rw [hf.out]; unfold Rt.ok; rw [← hg.out]; simp
   clear hgt hf hc2
   cases s with
   | false =>
    go_enter Tryz.func65, Tryz.ntmps65
    go_wp2_with (first | (go_at_call 60; ((with_reducible refine (rsign_num _ M _ hM hg1 _).mono ?_); rintro e9 w2 ⟨rfl, hL⟩; replace HM := HM.call hL; clear hL)) | (go_at_call 60; ((with_reducible refine (rsign_num t N _ hN hg _).mono ?_); rintro e9 w2 ⟨rfl, hL⟩; replace HM := HM.call hL; clear hL)) | (go_at_call 101; ((with_reducible refine (rbits_any _ M m hM hm _).mono ?_); rintro e9 w2 ⟨rfl, hL⟩; replace HM := HM.call hL; clear hL)) | (go_at_call 101; ((with_reducible refine (rbits_any t N n hN hn _).mono ?_); rintro e9 w2 ⟨rfl, hL⟩; replace HM := HM.call hL; clear hL)) | (go_at_call 98; ((with_reducible refine (rgcd_any _ t M N z hM hN hz _).mono ?_); rintro e9 w2 ⟨rfl, hL⟩; replace HM := HM.call hL; clear hL)) | (go_at_call 67; ((with_reducible refine (rfromInt_z 1 (by decide) (by decide) _).mono ?_); rintro e9 w2 ⟨rfl, hL⟩; replace HM := HM.call hL; clear hL)) | ((with_reducible refine g_bin ?_); refine a_cmpz .eql (z) (1) f5 (.inl rfl) ((by rw [if_pos rfl]; exact h5.out)) (lz) (l1) ?_) | (first | ((with_reducible refine g_ld ?_); refine a_ld HM ?_) | ((with_reducible refine g_bx ?_); refine a_bx HM ?_; clear HM; intro bk w1 HM)))
    go_ret
    exact ⟨rfl, HM.low⟩
   | true =>
    obtain rfl := hs1 rfl
    go_enter Tryz.func65, Tryz.ntmps65
    go_wp2_with (first | (go_at_call 60; ((with_reducible refine (rsign_num _ M _ hM hg1 _).mono ?_); rintro e9 w2 ⟨rfl, hL⟩; replace HM := HM.call hL; clear hL)) | (go_at_call 60; ((with_reducible refine (rsign_num t N _ hN hg _).mono ?_); rintro e9 w2 ⟨rfl, hL⟩; replace HM := HM.call hL; clear hL)) | (go_at_call 101; ((with_reducible refine (rbits_any _ M m hM hm _).mono ?_); rintro e9 w2 ⟨rfl, hL⟩; replace HM := HM.call hL; clear hL)) | (go_at_call 101; ((with_reducible refine (rbits_any t N n hN hn _).mono ?_); rintro e9 w2 ⟨rfl, hL⟩; replace HM := HM.call hL; clear hL)) | (go_at_call 98; ((with_reducible refine (rgcd_any _ t M N z hM hN hz _).mono ?_); rintro e9 w2 ⟨rfl, hL⟩; replace HM := HM.call hL; clear hL)) | (go_at_call 67; ((with_reducible refine (rfromInt_z 1 (by decide) (by decide) _).mono ?_); rintro e9 w2 ⟨rfl, hL⟩; replace HM := HM.call hL; clear hL)) | ((with_reducible refine g_bin ?_); refine a_cmpz .eql (z) (1) f5 (.inl rfl) ((by rw [if_pos rfl]; exact h5.out)) (lz) (l1) ?_) | (first | ((with_reducible refine g_ld ?_); refine a_ld HM ?_) | ((with_reducible refine g_bx ?_); refine a_bx HM ?_; clear HM; intro bk w1 HM)))
    go_ret
    exact ⟨rfl, HM.low⟩
  ·obtain ⟨ht, hN0⟩ := hgt rfl
   have hff : Hid (f = (Rt.short M N && f5)) := Lib.hid (by
    rw [hf.out, h5.out, hz.out]; unfold Rt.ok; rw [hc2, ← hg.out, ht]; simp)
   clear hgt hf hc2 ht hN0
   by_cases hb1 : m ≤ 480
   ·by_cases hb2 : n ≤ 480
    ·have hfe : Hid (f = f5) := Lib.hid (by rw [hff.out]; unfold Rt.short; simp [show Bg.bl M ≤ 480 from (by rw [← HBM.out]; exact hb1), show Bg.bl N ≤ 480 from (by rw [← HBN.out]; exact hb2)])
     cases s with
     | false =>
      go_enter Tryz.func65, Tryz.ntmps65
      go_wp2_with (first | (go_at_call 60; ((with_reducible refine (rsign_num _ M _ hM hg1 _).mono ?_); rintro e9 w2 ⟨rfl, hL⟩; replace HM := HM.call hL; clear hL)) | (go_at_call 60; ((with_reducible refine (rsign_num t N _ hN hg _).mono ?_); rintro e9 w2 ⟨rfl, hL⟩; replace HM := HM.call hL; clear hL)) | (go_at_call 101; ((with_reducible refine (rbits_any _ M m hM hm _).mono ?_); rintro e9 w2 ⟨rfl, hL⟩; replace HM := HM.call hL; clear hL)) | (go_at_call 101; ((with_reducible refine (rbits_any t N n hN hn _).mono ?_); rintro e9 w2 ⟨rfl, hL⟩; replace HM := HM.call hL; clear hL)) | (go_at_call 98; ((with_reducible refine (rgcd_any _ t M N z hM hN hz _).mono ?_); rintro e9 w2 ⟨rfl, hL⟩; replace HM := HM.call hL; clear hL)) | (go_at_call 67; ((with_reducible refine (rfromInt_z 1 (by decide) (by decide) _).mono ?_); rintro e9 w2 ⟨rfl, hL⟩; replace HM := HM.call hL; clear hL)) | ((with_reducible refine g_bin ?_); refine a_cmpz .eql (z) (1) f5 (.inl rfl) ((by rw [if_pos rfl]; exact h5.out)) (lz) (l1) ?_) | (first | ((with_reducible refine g_ld ?_); refine a_ld HM ?_) | ((with_reducible refine g_bx ?_); refine a_bx HM ?_; clear HM; intro bk w1 HM)))
      go_ret
      exact ⟨by rw [hfe.out]; rfl, HM.low⟩
     | true =>
      obtain rfl := hs1 rfl
      go_enter Tryz.func65, Tryz.ntmps65
      go_wp2_with (first | (go_at_call 60; ((with_reducible refine (rsign_num _ M _ hM hg1 _).mono ?_); rintro e9 w2 ⟨rfl, hL⟩; replace HM := HM.call hL; clear hL)) | (go_at_call 60; ((with_reducible refine (rsign_num t N _ hN hg _).mono ?_); rintro e9 w2 ⟨rfl, hL⟩; replace HM := HM.call hL; clear hL)) | (go_at_call 101; ((with_reducible refine (rbits_any _ M m hM hm _).mono ?_); rintro e9 w2 ⟨rfl, hL⟩; replace HM := HM.call hL; clear hL)) | (go_at_call 101; ((with_reducible refine (rbits_any t N n hN hn _).mono ?_); rintro e9 w2 ⟨rfl, hL⟩; replace HM := HM.call hL; clear hL)) | (go_at_call 98; ((with_reducible refine (rgcd_any _ t M N z hM hN hz _).mono ?_); rintro e9 w2 ⟨rfl, hL⟩; replace HM := HM.call hL; clear hL)) | (go_at_call 67; ((with_reducible refine (rfromInt_z 1 (by decide) (by decide) _).mono ?_); rintro e9 w2 ⟨rfl, hL⟩; replace HM := HM.call hL; clear hL)) | ((with_reducible refine g_bin ?_); refine a_cmpz .eql (z) (1) f5 (.inl rfl) ((by rw [if_pos rfl]; exact h5.out)) (lz) (l1) ?_) | (first | ((with_reducible refine g_ld ?_); refine a_ld HM ?_) | ((with_reducible refine g_bx ?_); refine a_bx HM ?_; clear HM; intro bk w1 HM)))
      go_ret
      exact ⟨by rw [hfe.out]; rfl, HM.low⟩
    ·have hb2' : decide (n ≤ 480) = false := by simpa using hb2
     obtain rfl : f = false := by rw [hff.out]; unfold Rt.short; simp [show ¬ Bg.bl N ≤ 480 from fun h => hb2 (by rw [HBN.out]; exact h)]
     clear hb2
     cases s with
     | false =>
      go_enter Tryz.func65, Tryz.ntmps65
      go_wp2_with (first | (go_at_call 60; ((with_reducible refine (rsign_num _ M _ hM hg1 _).mono ?_); rintro e9 w2 ⟨rfl, hL⟩; replace HM := HM.call hL; clear hL)) | (go_at_call 60; ((with_reducible refine (rsign_num t N _ hN hg _).mono ?_); rintro e9 w2 ⟨rfl, hL⟩; replace HM := HM.call hL; clear hL)) | (go_at_call 101; ((with_reducible refine (rbits_any _ M m hM hm _).mono ?_); rintro e9 w2 ⟨rfl, hL⟩; replace HM := HM.call hL; clear hL)) | (go_at_call 101; ((with_reducible refine (rbits_any t N n hN hn _).mono ?_); rintro e9 w2 ⟨rfl, hL⟩; replace HM := HM.call hL; clear hL)) | (go_at_call 98; ((with_reducible refine (rgcd_any _ t M N z hM hN hz _).mono ?_); rintro e9 w2 ⟨rfl, hL⟩; replace HM := HM.call hL; clear hL)) | (go_at_call 67; ((with_reducible refine (rfromInt_z 1 (by decide) (by decide) _).mono ?_); rintro e9 w2 ⟨rfl, hL⟩; replace HM := HM.call hL; clear hL)) | ((with_reducible refine g_bin ?_); refine a_cmpz .eql (z) (1) f5 (.inl rfl) ((by rw [if_pos rfl]; exact h5.out)) (lz) (l1) ?_) | (first | ((with_reducible refine g_ld ?_); refine a_ld HM ?_) | ((with_reducible refine g_bx ?_); refine a_bx HM ?_; clear HM; intro bk w1 HM)))
      go_ret
      exact ⟨rfl, HM.low⟩
     | true =>
      obtain rfl := hs1 rfl
      go_enter Tryz.func65, Tryz.ntmps65
      go_wp2_with (first | (go_at_call 60; ((with_reducible refine (rsign_num _ M _ hM hg1 _).mono ?_); rintro e9 w2 ⟨rfl, hL⟩; replace HM := HM.call hL; clear hL)) | (go_at_call 60; ((with_reducible refine (rsign_num t N _ hN hg _).mono ?_); rintro e9 w2 ⟨rfl, hL⟩; replace HM := HM.call hL; clear hL)) | (go_at_call 101; ((with_reducible refine (rbits_any _ M m hM hm _).mono ?_); rintro e9 w2 ⟨rfl, hL⟩; replace HM := HM.call hL; clear hL)) | (go_at_call 101; ((with_reducible refine (rbits_any t N n hN hn _).mono ?_); rintro e9 w2 ⟨rfl, hL⟩; replace HM := HM.call hL; clear hL)) | (go_at_call 98; ((with_reducible refine (rgcd_any _ t M N z hM hN hz _).mono ?_); rintro e9 w2 ⟨rfl, hL⟩; replace HM := HM.call hL; clear hL)) | (go_at_call 67; ((with_reducible refine (rfromInt_z 1 (by decide) (by decide) _).mono ?_); rintro e9 w2 ⟨rfl, hL⟩; replace HM := HM.call hL; clear hL)) | ((with_reducible refine g_bin ?_); refine a_cmpz .eql (z) (1) f5 (.inl rfl) ((by rw [if_pos rfl]; exact h5.out)) (lz) (l1) ?_) | (first | ((with_reducible refine g_ld ?_); refine a_ld HM ?_) | ((with_reducible refine g_bx ?_); refine a_bx HM ?_; clear HM; intro bk w1 HM)))
      go_ret
      exact ⟨rfl, HM.low⟩
   ·have hb1' : decide (m ≤ 480) = false := by simpa using hb1
    obtain rfl : f = false := by rw [hff.out]; unfold Rt.short; simp [show ¬ Bg.bl M ≤ 480 from fun h => hb1 (by rw [HBM.out]; exact h)]
    clear hb1
    cases s with
    | false =>
     go_enter Tryz.func65, Tryz.ntmps65
     go_wp2_with (first | (go_at_call 60; ((with_reducible refine (rsign_num _ M _ hM hg1 _).mono ?_); rintro e9 w2 ⟨rfl, hL⟩; replace HM := HM.call hL; clear hL)) | (go_at_call 60; ((with_reducible refine (rsign_num t N _ hN hg _).mono ?_); rintro e9 w2 ⟨rfl, hL⟩; replace HM := HM.call hL; clear hL)) | (go_at_call 101; ((with_reducible refine (rbits_any _ M m hM hm _).mono ?_); rintro e9 w2 ⟨rfl, hL⟩; replace HM := HM.call hL; clear hL)) | (go_at_call 101; ((with_reducible refine (rbits_any t N n hN hn _).mono ?_); rintro e9 w2 ⟨rfl, hL⟩; replace HM := HM.call hL; clear hL)) | (go_at_call 98; ((with_reducible refine (rgcd_any _ t M N z hM hN hz _).mono ?_); rintro e9 w2 ⟨rfl, hL⟩; replace HM := HM.call hL; clear hL)) | (go_at_call 67; ((with_reducible refine (rfromInt_z 1 (by decide) (by decide) _).mono ?_); rintro e9 w2 ⟨rfl, hL⟩; replace HM := HM.call hL; clear hL)) | ((with_reducible refine g_bin ?_); refine a_cmpz .eql (z) (1) f5 (.inl rfl) ((by rw [if_pos rfl]; exact h5.out)) (lz) (l1) ?_) | (first | ((with_reducible refine g_ld ?_); refine a_ld HM ?_) | ((with_reducible refine g_bx ?_); refine a_bx HM ?_; clear HM; intro bk w1 HM)))
     go_ret
     exact ⟨rfl, HM.low⟩
    | true =>
     obtain rfl := hs1 rfl
     go_enter Tryz.func65, Tryz.ntmps65
     go_wp2_with (first | (go_at_call 60; ((with_reducible refine (rsign_num _ M _ hM hg1 _).mono ?_); rintro e9 w2 ⟨rfl, hL⟩; replace HM := HM.call hL; clear hL)) | (go_at_call 60; ((with_reducible refine (rsign_num t N _ hN hg _).mono ?_); rintro e9 w2 ⟨rfl, hL⟩; replace HM := HM.call hL; clear hL)) | (go_at_call 101; ((with_reducible refine (rbits_any _ M m hM hm _).mono ?_); rintro e9 w2 ⟨rfl, hL⟩; replace HM := HM.call hL; clear hL)) | (go_at_call 101; ((with_reducible refine (rbits_any t N n hN hn _).mono ?_); rintro e9 w2 ⟨rfl, hL⟩; replace HM := HM.call hL; clear hL)) | (go_at_call 98; ((with_reducible refine (rgcd_any _ t M N z hM hN hz _).mono ?_); rintro e9 w2 ⟨rfl, hL⟩; replace HM := HM.call hL; clear hL)) | (go_at_call 67; ((with_reducible refine (rfromInt_z 1 (by decide) (by decide) _).mono ?_); rintro e9 w2 ⟨rfl, hL⟩; replace HM := HM.call hL; clear hL)) | ((with_reducible refine g_bin ?_); refine a_cmpz .eql (z) (1) f5 (.inl rfl) ((by rw [if_pos rfl]; exact h5.out)) (lz) (l1) ?_) | (first | ((with_reducible refine g_ld ?_); refine a_ld HM ?_) | ((with_reducible refine g_bx ?_); refine a_bx HM ?_; clear HM; intro bk w1 HM)))
     go_ret
     exact ⟨rfl, HM.low⟩
end Go.Proofs.YtmbjaaaeekacfaaGreatDoor
namespace Go.Proofs.YtmbjaaaeekacfaaGreatDoor
set_option maxRecDepth 8000
open Go.RowKit
theorem rdivMod_iz (s : Bool) (M : Nat) (G x y : Int) (hM : M < Bg.lim) (hG : G.natAbs < Bg.lim) (h0 : G ≠ 0) (hx : Hid (x = Bg.toZ s M / G)) (hy : Hid (y = Bg.toZ s M % G)) (w : World) :
    Calls Tryz.prog 99 #[.agg (Bg.intA s M), .agg (Bg.zA G)] w fun r w' => r = .returned (.tuple #[.agg (Bg.zA x), .agg (Bg.zA y), .int .i64 0]) ∧ Below w.heap.size w w' := by
 rw [zA_int G]
 exact rdivMod_any s _ M _ x y hM hG (by omega) (Lib.hid (by rw [Bg.toZ_iv]; exact hx.out)) (Lib.hid (by rw [Bg.toZ_iv]; exact hy.out)) w
theorem rsign_z (p g : Int) (hp : p.natAbs < Bg.lim) (hg : Hid (g = p.sign)) (w : World) :
    Calls Tryz.prog 60 #[.agg (Bg.zA p)] w fun e w' => e = .returned (.int .i64 g) ∧ Below w.heap.size w w' := by
 rw [zA_int p]; exact rsign_num _ _ g hp (Lib.hid (by rw [Bg.toZ_iv]; exact hg.out)) w
theorem rneg_z (p z : Int) (hp : p.natAbs < Bg.lim) (hz : Hid (z = -p)) (w : World) :
    Calls Tryz.prog 100 #[.agg (Bg.zA p)] w fun e w' => e = .returned (.agg (Bg.zA z)) ∧ Below w.heap.size w w' := by
 rw [zA_int p]; exact rneg_any _ _ z hp (Lib.hid (by rw [Bg.toZ_iv]; exact hz.out)) w
theorem rbits_z (p n : Int) (hp : p.natAbs < Bg.lim) (hn : Hid (n = (Bg.bl p.natAbs : Int))) (w : World) :
    Calls Tryz.prog 101 #[.agg (Bg.zA p)] w fun e w' => e = .returned (.int .i64 n) ∧ Below w.heap.size w w' := by
 rw [zA_int p]; exact rbits_any _ _ n hp hn w
theorem Rt.sg_turn {p q G x1 x2 y1 y2 g0 : Int} (h0 : q ≠ 0) (hg : g0 = (Nat.gcd p.natAbs q.natAbs : Nat)) (hG : G = Rt.sg p q) (h1 : x1 = p / G) (h2 : x2 = q / G) (h3 : y1 = p / g0) (h4 : y2 = q / g0) :
    g0 ≠ 0 ∧ ((y2.sign = -1 ∧ x1 = -y1 ∧ x2 = -y2) ∨ (y2.sign = 1 ∧ x1 = y1 ∧ x2 = y2)) := by
 have hpos : 0 < g0 := by rw [hg]; have := Rt.sg_pos (p := p) h0; omega
 have hd : q = g0 * y2 := by
  rw [h4, Int.mul_ediv_cancel']
  rw [hg]; exact Int.ofNat_dvd_left.2 (Nat.gcd_dvd_right _ _)
 refine ⟨by omega, ?_⟩
 rw [h1, h2, hG]
 unfold Rt.sg
 rw [← hg]
 rcases Int.lt_or_gt_of_ne h0 with h | h
 ·rw [if_pos h, Int.ediv_neg, Int.ediv_neg, ← h3, ← h4]
  refine .inl ⟨Int.sign_eq_neg_one_of_neg ?_, rfl, rfl⟩
  rcases Int.lt_or_le y2 0 with h5 | h5
  ·exact h5
  ·have := Int.mul_nonneg (Int.le_of_lt hpos) h5; omega
 ·rw [if_neg (by omega), ← h3, ← h4]
  refine .inr ⟨Int.sign_eq_one_of_pos ?_, rfl, rfl⟩
  rcases Int.lt_or_le 0 y2 with h5 | h5
  ·exact h5
  ·have := Int.mul_nonneg (Int.le_of_lt hpos) (show 0 ≤ -y2 by omega)
   rw [Int.mul_neg] at this; omega
set_option maxHeartbeats 8000000 in
theorem rmake_n (s : Bool) (M : Nat) (t : Bool) (N : Nat) (n d e : Int) (hM : M < Bg.lim) (hN : N < Bg.lim) (hr : Hid ((n, d, e) = Rt.mk (Bg.toZ s M) (Bg.toZ t N))) (w : World) :
    Calls Tryz.prog 61 #[.agg (Bg.intA s M), .agg (Bg.intA t N)] w fun r w' => r = .returned (.tuple #[.agg (Bg.rZ n d), .int .i64 e]) ∧ Below w.heap.size w w' := by
 have HM := Mem.start w
 obtain ⟨p, hp⟩ : ∃ p, Hid (p = Bg.toZ s M) := ⟨_, rfl⟩
 obtain ⟨q, hq⟩ : ∃ p, Hid (p = Bg.toZ t N) := ⟨_, rfl⟩
 obtain ⟨g, hg⟩ : ∃ g, Hid (g = (Bg.toZ t N).sign) := ⟨_, rfl⟩
 have hz0 := za_rat
 have hs1 := sa_rz 0 0 (rZ_size 0 0)
 by_cases h0 : N = 0
 ·have hq0 : Bg.toZ t N = 0 := by rw [h0]; cases t <;> rfl
  have hr2 := hr.out
  unfold Rt.mk at hr2
  rw [if_pos hq0] at hr2
  obtain ⟨rfl, rfl, rfl⟩ : n = 0 ∧ d = 0 ∧ e = 11 := by simpa using hr2
  obtain rfl : g = 0 := by rw [hg.out, hq0]; rfl
  clear hr2 hq0 h0
  go_enter Tryz.func61, Tryz.ntmps61
  go_wp2_with (first | ((with_reducible refine g_bld ?_); refine a_rbl ?_) | (go_at_call 60; ((with_reducible refine (rsign_num t N 0 hN hg _).mono ?_); rintro e9 w2 ⟨rfl, hL⟩; replace HM := HM.call hL; clear hL)) | (first | ((with_reducible refine g_ld ?_); refine a_ld HM ?_) | ((with_reducible refine g_st ?_); refine a_st HM ?_; clear HM; intro w1 HM) | ((with_reducible refine g_al ?_); refine a_al HM ?_; clear HM; intro bk w1 HM) | ((with_reducible refine g_bx ?_); refine a_bx HM ?_; clear HM; intro bk w1 HM) | ((with_reducible refine g_bld ?_); refine a_bld ?_)))
  refine bodyPost_ret (r_ct rfl rfl (HM.get (by ((repeat (first | exact Look.here | refine Look.there ?_)); done))) (la_rz _ _)) rfl ⟨rfl, HM.low⟩
 ·have hq0 : q ≠ 0 := by
    intro h; have := Bg.toZ_abs t N; rw [← hq.out, h] at this; simp at this; omega
  rw [← hp.out, ← hq.out] at hr
  obtain ⟨G, x1, x2, f, HS⟩ := Rt.mkSt hq0 hr.out
  replace HS := Lib.hid HS
  obtain ⟨g0, hg0⟩ : ∃ z : Int, Hid (z = (Nat.gcd M N : Nat)) := ⟨_, rfl⟩
  have hgc : Nat.gcd p.natAbs q.natAbs = Nat.gcd M N := by rw [hp.out, hq.out, Bg.toZ_abs, Bg.toZ_abs]
  have lg0 : g0.natAbs < Bg.lim := by
   rw [hg0.out, Int.natAbs_natCast]
   exact Nat.lt_of_le_of_lt (Nat.gcd_le_right _ (by omega)) hN
  obtain ⟨y1, hy1⟩ : ∃ z, Hid (z = Bg.toZ s M / g0) := ⟨_, rfl⟩
  obtain ⟨y2, hy2⟩ : ∃ z, Hid (z = Bg.toZ t N / g0) := ⟨_, rfl⟩
  obtain ⟨r1, hr1⟩ : ∃ z, Hid (z = Bg.toZ s M % g0) := ⟨_, rfl⟩
  obtain ⟨r2, hr2⟩ : ∃ z, Hid (z = Bg.toZ t N % g0) := ⟨_, rfl⟩
  obtain ⟨hg00, hturn⟩ := Rt.sg_turn (g0 := g0) (y1 := y1) (y2 := y2) hq0 (by rw [hgc]; exact hg0.out) HS.out.eg HS.out.e1 HS.out.e2 (by rw [hp.out]; exact hy1.out) (by rw [hq.out]; exact hy2.out)
  have hG0 := Lib.hid hg00
  have l1 : x1.natAbs < Bg.lim := by rw [HS.out.e1]; exact ediv_lt (by rw [hp.out, Bg.toZ_abs]; exact hM)
  have l2 : x2.natAbs < Bg.lim := by rw [HS.out.e2]; exact ediv_lt (by rw [hq.out, Bg.toZ_abs]; exact hN)
  have l3 : y1.natAbs < Bg.lim := by rw [hy1.out]; exact ediv_lt (by rw [Bg.toZ_abs]; exact hM)
  have l4 : y2.natAbs < Bg.lim := by rw [hy2.out]; exact ediv_lt (by rw [Bg.toZ_abs]; exact hN)
  obtain ⟨gy, hgy⟩ : ∃ z, Hid (z = y2.sign) := ⟨_, rfl⟩
  rw [← hgy.out] at hturn
  have hgv : g = -1 ∨ g = 1 := by
   rw [hg.out, ← hq.out]
   rcases Int.lt_or_gt_of_ne hq0 with h | h
   ·exact .inl (Int.sign_eq_neg_one_of_neg h)
   ·exact .inr (Int.sign_eq_one_of_pos h)
  obtain ⟨m1, hm1⟩ : ∃ m : Int, Hid (m = (Bg.bl x1.natAbs : Int)) := ⟨_, rfl⟩
  obtain ⟨m2, hm2⟩ : ∃ m : Int, Hid (m = (Bg.bl x2.natAbs : Int)) := ⟨_, rfl⟩
  have hfm : Hid (f = (decide (m1 ≤ 480) && decide (m2 ≤ 480))) := Lib.hid (by
   rw [HS.out.ef, hm1.out, hm2.out]; unfold Rt.short
   congr 1 <;> (apply decide_eq_decide.2; omega))
  have k1 := sa_rz x1 x2 (rZ_size 0 0)
  clear hgc h0 hq0 hg00
  go_enter Tryz.func61, Tryz.ntmps61
  rcases hgv with rfl | rfl
  all_goals
   go_upto_if 36 with (first | (go_at_call 60; ((with_reducible refine (rsign_num t N _ hN hg _).mono ?_); rintro e9 w2 ⟨rfl, hL⟩; replace HM := HM.call hL; clear hL)) | (go_at_call 60; ((with_reducible refine (rsign_z y2 gy l4 hgy _).mono ?_); rintro e9 w2 ⟨rfl, hL⟩; replace HM := HM.call hL; clear hL)) | (go_at_call 98; ((with_reducible refine (rgcd_any s t M N g0 hM hN hg0 _).mono ?_); rintro e9 w2 ⟨rfl, hL⟩; replace HM := HM.call hL; clear hL)) | (go_at_call 99; ((with_reducible refine (rdivMod_iz s M g0 y1 r1 hM lg0 hG0.out hy1 hr1 _).mono ?_); rintro e9 w2 ⟨rfl, hL⟩; replace HM := HM.call hL; clear hL)) | (go_at_call 99; ((with_reducible refine (rdivMod_iz t N g0 y2 r2 hN lg0 hG0.out hy2 hr2 _).mono ?_); rintro e9 w2 ⟨rfl, hL⟩; replace HM := HM.call hL; clear hL)) | (first | ((with_reducible refine g_ld ?_); refine a_ld HM ?_) | ((with_reducible refine g_st ?_); refine a_st HM ?_; clear HM; intro w1 HM) | ((with_reducible refine g_al ?_); refine a_al HM ?_; clear HM; intro bk w1 HM) | ((with_reducible refine g_bx ?_); refine a_bx HM ?_; clear HM; intro bk w1 HM) | ((with_reducible refine g_bld ?_); refine a_bld ?_)))
   obtain ⟨b10, rfl⟩ := HM.nm1
   obtain ⟨b7, rfl⟩ := HM.nm3
   obtain ⟨b4, rfl⟩ := HM.nm5
   go_cut [] (fun wc => Mem w [] [(b10, Bg.zA x2), (b7, Bg.zA x1), (b4, Bg.rZ 0 0)] wc)
   case first =>
    rcases hturn with ⟨rfl, h1, h2⟩ | ⟨rfl, rfl, rfl⟩
    ·have h1 := Lib.hid h1
     have h2 := Lib.hid h2
     go_upto_region 7 with fail
     refine start_M [4, 5] HM (by kernel_rfl) (fun w0x H9 => ?_)
     replace HM := H9; clear H9
     refine k_ld 0 [1, 3, 4, 5] (heldE HM) ?_
     refine k_ld 2 [3, 4, 5] (heldE HM) ?_
     refine j_one 1 fun K9 hK9 => ?_
     refine j_call1 (v := ?_) HM ?_ ?_; rotate_left 1; (focus (with_reducible (first | exact rneg_z y1 x1 l3 h1 _ | exact rneg_z y2 x2 l4 h2 _))); clear HM; intro w1 HM
     refine hK9 _ _ (heldE HM) ?_; clear hK9 K9
     refine j_one 3 fun K9 hK9 => ?_
     refine j_call1 (v := ?_) HM ?_ ?_; rotate_left 1; (focus (with_reducible (first | exact rneg_z y1 x1 l3 h1 _ | exact rneg_z y2 x2 l4 h2 _))); clear HM; intro w1 HM
     refine hK9 _ _ (heldE HM) ?_; clear hK9 K9
     refine j_one 4 fun K9 hK9 => ?_
     refine j_st HM ?_; clear HM; intro w1 HM
     refine hK9 _ _ heldN ?_; clear hK9 K9
     refine j_one 5 fun K9 hK9 => ?_
     refine j_st HM ?_; clear HM; intro w1 HM
     refine hK9 _ _ heldN ?_; clear hK9 K9
     refine wpAnyL_done (by kernel_rfl) ?_ _
     go_wp2_with fail
     go_meet
     case rel => refine HM.less ?_; (repeat (first | exact Sub.nil | refine Sub.keep ?_ | refine Sub.skip ?_))
    ·go_wp2_with fail
     go_meet
     case rel => refine HM.less ?_; (repeat (first | exact Sub.nil | refine Sub.keep ?_ | refine Sub.skip ?_))
   case rest =>
    clear HM
    have HM := hcut
    clear hcut
    by_cases hb1 : m1 ≤ 480
    ·have hb1' : decide (480 < m1) = false := by simp; omega
     by_cases hb2 : m2 ≤ 480
     ·have hb2' : ¬ 480 < m2 := by omega
      obtain ⟨rfl, rfl, rfl⟩ := HS.out.yes (by rw [hfm.out]; simp [hb1, hb2])
      clear hb1 hb2
      go_wp2_with (first | ((with_reducible refine g_bld ?_); refine a_rbl ?_) | (go_at_call 101; ((with_reducible refine (rbits_z n m1 l1 hm1 _).mono ?_); rintro e9 w2 ⟨rfl, hL⟩; replace HM := HM.call hL; clear hL)) | (go_at_call 101; ((with_reducible refine (rbits_z d m2 l2 hm2 _).mono ?_); rintro e9 w2 ⟨rfl, hL⟩; replace HM := HM.call hL; clear hL)) | (first | ((with_reducible refine g_ld ?_); refine a_ld HM ?_) | ((with_reducible refine g_st ?_); refine a_st HM ?_; clear HM; intro w1 HM) | ((with_reducible refine g_al ?_); refine a_al HM ?_; clear HM; intro bk w1 HM) | ((with_reducible refine g_bx ?_); refine a_bx HM ?_; clear HM; intro bk w1 HM) | ((with_reducible refine g_bld ?_); refine a_bld ?_)))
      refine bodyPost_ret (r_ct (b := b4) (k := 0) rfl rfl (HM.get (by ((repeat (first | exact Look.here | refine Look.there ?_)); done))) (la_rz _ _)) rfl ⟨rfl, HM.low⟩
     ·have hb2' : 480 < m2 := by omega
      obtain ⟨rfl, rfl, rfl⟩ := HS.out.no (by rw [hfm.out]; simp [hb2])
      clear hb1 hb2
      go_wp2_with (first | ((with_reducible refine g_bld ?_); refine a_rbl ?_) | (go_at_call 101; ((with_reducible refine (rbits_z x1 m1 l1 hm1 _).mono ?_); rintro e9 w2 ⟨rfl, hL⟩; replace HM := HM.call hL; clear hL)) | (go_at_call 101; ((with_reducible refine (rbits_z x2 m2 l2 hm2 _).mono ?_); rintro e9 w2 ⟨rfl, hL⟩; replace HM := HM.call hL; clear hL)) | (first | ((with_reducible refine g_ld ?_); refine a_ld HM ?_) | ((with_reducible refine g_st ?_); refine a_st HM ?_; clear HM; intro w1 HM) | ((with_reducible refine g_al ?_); refine a_al HM ?_; clear HM; intro bk w1 HM) | ((with_reducible refine g_bx ?_); refine a_bx HM ?_; clear HM; intro bk w1 HM) | ((with_reducible refine g_bld ?_); refine a_bld ?_)))
      refine bodyPost_ret (r_ct (b := b4) (k := 0) rfl rfl (HM.get (by ((repeat (first | exact Look.here | refine Look.there ?_)); done))) (la_rz _ _)) rfl ⟨rfl, HM.low⟩
    ·have hb1' : 480 < m1 := by omega
     obtain ⟨rfl, rfl, rfl⟩ := HS.out.no (by rw [hfm.out]; simp [hb1])
     clear hb1
     go_wp2_with (first | ((with_reducible refine g_bld ?_); refine a_rbl ?_) | (go_at_call 101; ((with_reducible refine (rbits_z x1 m1 l1 hm1 _).mono ?_); rintro e9 w2 ⟨rfl, hL⟩; replace HM := HM.call hL; clear hL)) | (first | ((with_reducible refine g_ld ?_); refine a_ld HM ?_) | ((with_reducible refine g_st ?_); refine a_st HM ?_; clear HM; intro w1 HM) | ((with_reducible refine g_al ?_); refine a_al HM ?_; clear HM; intro bk w1 HM) | ((with_reducible refine g_bx ?_); refine a_bx HM ?_; clear HM; intro bk w1 HM) | ((with_reducible refine g_bld ?_); refine a_bld ?_)))
     refine bodyPost_ret (r_ct (b := b4) (k := 0) rfl rfl (HM.get (by ((repeat (first | exact Look.here | refine Look.there ?_)); done))) (la_rz _ _)) rfl ⟨rfl, HM.low⟩
theorem make_z (p q n d e : Int) (hp : p.natAbs < Bg.lim) (hq : q.natAbs < Bg.lim) (hr : Hid ((n, d, e) = Rt.mk p q)) (w : World) :
    Calls Tryz.prog 45 #[.agg (Bg.zA p), .agg (Bg.zA q)] w fun r w' => r = .returned (.tuple #[.agg (Bg.rZ n d), .int .i64 e]) ∧ Below w.heap.size w w' := by
 rw [zA_int p, zA_int q]; exact make_n _ _ _ _ n d e hp hq (Lib.hid (by rw [Bg.toZ_iv, Bg.toZ_iv]; exact hr.out)) w
theorem rmake_z (p q n d e : Int) (hp : p.natAbs < Bg.lim) (hq : q.natAbs < Bg.lim) (hr : Hid ((n, d, e) = Rt.mk p q)) (w : World) :
    Calls Tryz.prog 61 #[.agg (Bg.zA p), .agg (Bg.zA q)] w fun r w' => r = .returned (.tuple #[.agg (Bg.rZ n d), .int .i64 e]) ∧ Below w.heap.size w w' := by
 rw [zA_int p, zA_int q]; exact rmake_n _ _ _ _ n d e hp hq (Lib.hid (by rw [Bg.toZ_iv, Bg.toZ_iv]; exact hr.out)) w
theorem i64_lim {n : Int} (h1 : -9223372036854775808 ≤ n) (h2 : n < 9223372036854775808) : n.natAbs < Bg.lim := small_lim (by omega)
theorem of_n (n d x y e : Int) (hn1 : -9223372036854775808 ≤ n) (hn2 : n < 9223372036854775808) (hd1 : -9223372036854775808 ≤ d) (hd2 : d < 9223372036854775808) (hr : Hid ((x, y, e) = Rt.mk n d)) (w : World) :
    Calls Tryz.prog 84 #[.int .i64 n, .int .i64 d] w fun r w' => r = .returned (.tuple #[.agg (Bg.rZ x y), .int .i64 e]) ∧ Below w.heap.size w w' := by
 have HM := Mem.start w
 have ln := i64_lim hn1 hn2
 have ld := i64_lim hd1 hd2
 have hz0 := za_rat
 have hs1 := sa_rz x y (rZ_size 0 0)
 go_enter Tryz.func84, Tryz.ntmps84
 go_wp2_with (first | (go_at_call 47; ((with_reducible refine (fromInt_z n hn1 hn2 _).mono ?_); rintro e9 w2 ⟨rfl, hL⟩; replace HM := HM.call hL; clear hL)) | (go_at_call 47; ((with_reducible refine (fromInt_z d hd1 hd2 _).mono ?_); rintro e9 w2 ⟨rfl, hL⟩; replace HM := HM.call hL; clear hL)) | (go_at_call 45; ((with_reducible refine (make_z n d x y e ln ld hr _).mono ?_); rintro e9 w2 ⟨rfl, hL⟩; replace HM := HM.call hL; clear hL)) | (first | ((with_reducible refine g_st ?_); refine a_st HM ?_; clear HM; intro w1 HM) | ((with_reducible refine g_al ?_); refine a_al HM ?_; clear HM; intro bk w1 HM)))
 refine bodyPost_ret (r_ct rfl rfl (HM.get (by ((repeat (first | exact Look.here | refine Look.there ?_)); done))) (la_rz _ _)) rfl ⟨rfl, HM.low⟩
theorem rof_n (n d x y e : Int) (hn1 : -9223372036854775808 ≤ n) (hn2 : n < 9223372036854775808) (hd1 : -9223372036854775808 ≤ d) (hd2 : d < 9223372036854775808) (hr : Hid ((x, y, e) = Rt.mk n d)) (w : World) :
    Calls Tryz.prog 57 #[.int .i64 n, .int .i64 d] w fun r w' => r = .returned (.tuple #[.agg (Bg.rZ x y), .int .i64 e]) ∧ Below w.heap.size w w' := by
 have HM := Mem.start w
 have ln := i64_lim hn1 hn2
 have ld := i64_lim hd1 hd2
 have hz0 := za_rat
 have hs1 := sa_rz x y (rZ_size 0 0)
 go_enter Tryz.func57, Tryz.ntmps57
 go_wp2_with (first | (go_at_call 67; ((with_reducible refine (rfromInt_z n hn1 hn2 _).mono ?_); rintro e9 w2 ⟨rfl, hL⟩; replace HM := HM.call hL; clear hL)) | (go_at_call 67; ((with_reducible refine (rfromInt_z d hd1 hd2 _).mono ?_); rintro e9 w2 ⟨rfl, hL⟩; replace HM := HM.call hL; clear hL)) | (go_at_call 61; ((with_reducible refine (rmake_z n d x y e ln ld hr _).mono ?_); rintro e9 w2 ⟨rfl, hL⟩; replace HM := HM.call hL; clear hL)) | (first | ((with_reducible refine g_st ?_); refine a_st HM ?_; clear HM; intro w1 HM) | ((with_reducible refine g_al ?_); refine a_al HM ?_; clear HM; intro bk w1 HM)))
 refine bodyPost_ret (r_ct rfl rfl (HM.get (by ((repeat (first | exact Look.here | refine Look.there ?_)); done))) (la_rz _ _)) rfl ⟨rfl, HM.low⟩
theorem whole_w (n : Int) (hn1 : -9223372036854775808 ≤ n) (hn2 : n < 9223372036854775808) (w : World) :
    Calls Tryz.prog 41 #[.int .i64 n] w fun r w' => r = .returned (.agg (Bg.rZ n 1)) ∧ Below w.heap.size w w' := by
 have HM := Mem.start w
 have hz0 := za_rat
 have hs1 := sa_rz n 1 (rZ_size 0 0)
 go_enter Tryz.func41, Tryz.ntmps41
 go_wp2_with (first | ((with_reducible refine g_bld ?_); refine a_rbl ?_) | (go_at_call 47; ((with_reducible refine (fromInt_z n hn1 hn2 _).mono ?_); rintro e9 w2 ⟨rfl, hL⟩; replace HM := HM.call hL; clear hL)) | (go_at_call 47; ((with_reducible refine (fromInt_z 1 (by decide) (by decide) _).mono ?_); rintro e9 w2 ⟨rfl, hL⟩; replace HM := HM.call hL; clear hL)) | (first | ((with_reducible refine g_st ?_); refine a_st HM ?_; clear HM; intro w1 HM) | ((with_reducible refine g_al ?_); refine a_al HM ?_; clear HM; intro bk w1 HM) | ((with_reducible refine g_bld ?_); refine a_bld ?_)))
 refine bodyPost_ret (r_c rfl rfl (HM.get (by ((repeat (first | exact Look.here | refine Look.there ?_)); done))) (la_rz _ _)) rfl ⟨rfl, HM.low⟩
theorem rwhole_w (n : Int) (hn1 : -9223372036854775808 ≤ n) (hn2 : n < 9223372036854775808) (w : World) :
    Calls Tryz.prog 33 #[.int .i64 n] w fun r w' => r = .returned (.agg (Bg.rZ n 1)) ∧ Below w.heap.size w w' := by
 have HM := Mem.start w
 have hz0 := za_rat
 have hs1 := sa_rz n 1 (rZ_size 0 0)
 go_enter Tryz.func33, Tryz.ntmps33
 go_wp2_with (first | ((with_reducible refine g_bld ?_); refine a_rbl ?_) | (go_at_call 67; ((with_reducible refine (rfromInt_z n hn1 hn2 _).mono ?_); rintro e9 w2 ⟨rfl, hL⟩; replace HM := HM.call hL; clear hL)) | (go_at_call 67; ((with_reducible refine (rfromInt_z 1 (by decide) (by decide) _).mono ?_); rintro e9 w2 ⟨rfl, hL⟩; replace HM := HM.call hL; clear hL)) | (first | ((with_reducible refine g_st ?_); refine a_st HM ?_; clear HM; intro w1 HM) | ((with_reducible refine g_al ?_); refine a_al HM ?_; clear HM; intro bk w1 HM) | ((with_reducible refine g_bld ?_); refine a_bld ?_)))
 refine bodyPost_ret (r_c rfl rfl (HM.get (by ((repeat (first | exact Look.here | refine Look.there ?_)); done))) (la_rz _ _)) rfl ⟨rfl, HM.low⟩
end Go.Proofs.YtmbjaaaeekacfaaGreatDoor
