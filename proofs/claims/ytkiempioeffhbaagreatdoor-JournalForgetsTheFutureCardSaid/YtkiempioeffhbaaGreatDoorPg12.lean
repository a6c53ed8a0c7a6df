/- Walks. -/
import Derived.Test.YtkiempioeffhbaaGreatDoorPg11
namespace Go.Proofs.YtkiempioeffhbaaGreatDoor
set_option maxHeartbeats 16000000
open Go.RowKit
set_option maxRecDepth 8000
section
theorem z9_38 {P : Prop} (h : P := by
 obtain rfl : f = false := hff.out
 go_wp2_with (first | ((first | (go_at_call 195; with_reducible refine (fits_n s M t N true hM hN h1 _).mono ?_) | (go_at_call 196; with_reducible refine (canonical_n s M true hM h2 _).mono ?_) | (go_at_call 196; with_reducible refine (canonical_n t N true hN h3 _).mono ?_) | (go_at_call 116; with_reducible refine (sign_any t N hN _ hg _).mono ?_)); rintro e9 w2 ⟨rfl, hL⟩; replace HM := HM.call hL; clear hL) | ((with_reducible refine g_ld ?_); refine a_ld HM ?_) | ((with_reducible refine g_bx ?_); refine a_bx HM ?_; clear HM; intro bk w1 HM))
 go_ret
 exact ⟨rfl, HM.low⟩) : P := h
theorem z9_39 {P : Prop} (h : P := by
 refine bodyPost_ret (r_ct rfl rfl (HM.get Zl) (la_rz _ _)) rfl ⟨rfl, HM.low⟩) : P := h
theorem z9_40 {P : Prop} (h : P := by
 go_wp2_with fail
 go_meet
 case rel => refine HM.less ?_; (repeat (first | exact Sub.nil | refine Sub.keep ?_ | refine Sub.skip ?_))) : P := h
theorem z9_41 {P : Prop} (h : P := by
 refine bodyPost_ret (r_ct (b := b4) (k := 0) rfl rfl (HM.get Zl) (la_rz _ _)) rfl ⟨rfl, HM.low⟩) : P := h
end
section
theorem mul_n (s t : Bool) (M N : Nat) (z v e : Int) (hM : M < Bg.lim) (hN : N < Bg.lim) (hzz : Hid (z = Bg.toZ s M * Bg.toZ t N)) (hv : Hid (v = Bg.resZ z)) (he : Hid (e = Bg.resE z)) (w : World) :
    Calls Tryz.prog 185 #[.agg (Bg.intA s M), .agg (Bg.intA t N)] w fun r w' => r = .returned (.tuple #[.agg (Bg.zA v), .int .i64 e]) ∧ Below w.heap.size w w' := by
 rw [hv.out, he.out, ← Bg.resV_eq]; exact mul_any0 s t M N hM hN z hzz w
theorem gcd_r (s t : Bool) (M N : Nat) (z : Int) (hM : M < Bg.lim) (hN : N < Bg.lim) (hz : Hid (z = (Nat.gcd M N : Nat))) (w : World) :
    Calls Tryz.prog 197 #[.agg (Bg.intA s M), .agg (Bg.intA t N)] w fun e w' => e = .returned (.agg (Bg.zA z)) ∧ Below w.heap.size w w' :=
 gcd_any0 s t M N hM hN (fun _ _ h0 hA hB => divOk_any h0 hA (Nat.lt_of_le_of_lt hB hN)) z hz w
theorem sign_v (g : Int) : g.sign = -1 ∨ g.sign = 0 ∨ g.sign = 1 := by
 rcases Int.lt_trichotomy g 0 with h | h | h
 ·exact .inl (Int.sign_eq_neg_one_of_neg h)
 ·right; left; rw [h]; rfl
 ·right; right; exact Int.sign_eq_one_of_pos h
def Rt.short (M N : Nat) : Bool := decide (Bg.bl M ≤ 480) && decide (Bg.bl N ≤ 480)
def Rt.ok (s : Bool) (M : Nat) (t : Bool) (N : Nat) : Bool := Rt.short M N && ((!s || decide (M ≠ 0)) && ((!t || decide (N ≠ 0)) && (decide (0 < (Bg.toZ t N).sign) && decide ((Nat.gcd M N : Int) = 1))))
def Rt.sg (p q : Int) : Int := if q < 0 then -(Nat.gcd p.natAbs q.natAbs : Int) else (Nat.gcd p.natAbs q.natAbs : Int)
def Rt.mk (p q : Int) : Int × Int × Int :=
 if q = 0 then (0, 0, 11) else if Rt.short (p / Rt.sg p q).natAbs (q / Rt.sg p q).natAbs then (p / Rt.sg p q, q / Rt.sg p q, 0) else (0, 0, 10)
theorem Rt.sg_pos {p q : Int} (h : q ≠ 0) : 0 < Nat.gcd p.natAbs q.natAbs := Nat.gcd_pos_of_pos_right _ Zo
end
section
theorem product_n (s t : Bool) (M N : Nat) (z v : Int) (hM : M < Bg.lim) (hN : N < Bg.lim) (hz : Hid (z = Bg.toZ s M * Bg.toZ t N)) (hv : Hid (v = Bg.resZ z)) (w : World) :
    Calls Tryz.prog 169 #[.agg (Bg.intA s M), .agg (Bg.intA t N)] w fun r w' => r = .returned (.agg (Bg.zA v)) ∧ Below w.heap.size w w' := by
 have HM := Mem.start w
 obtain ⟨e, he⟩ := Zh (Bg.resE z)
 go_enter Tryz.func169, Tryz.ntmps169
 go_wp2_with (first | (go_at_call 185; (with_reducible refine Zc HM (mul_n s t M N z v e hM hN hz hv he _) ?_; clear HM; intro w2 HM)) | ((with_reducible refine g_ld ?_); refine a_ld HM ?_) | ((with_reducible refine g_st ?_); refine a_st HM ?_; clear HM; intro w1 HM) | ((with_reducible refine g_al ?_); refine a_al HM ?_; clear HM; intro bk w1 HM) | ((with_reducible refine g_bx ?_); refine a_bx HM ?_; clear HM; intro bk w1 HM))
 exact z9_19
theorem canonical_n (s : Bool) (M : Nat) (f : Bool) (hM : M < Bg.lim) (hf : Hid (f = (!s || decide (M ≠ 0)))) (w : World) :
    Calls Tryz.prog 196 #[.agg (Bg.intA s M)] w fun r w' => r = .returned (.bool f) ∧ Below w.heap.size w w' := by
 have HM := Mem.start w
 cases s with
 | false =>
  obtain rfl : f = true := by rw [hf.out]; rfl
  go_enter Tryz.func196, Tryz.ntmps196
  go_wp2_with (first | ((with_reducible refine g_ld ?_); refine a_ld HM ?_) | ((with_reducible refine g_bx ?_); refine a_bx HM ?_; clear HM; intro bk w1 HM))
  go_ret
  exact ⟨rfl, HM.low⟩
 | true =>
  obtain ⟨g, hg⟩ := Zh ((Bg.toZ true M).sign)
  by_cases h0 : M = 0
  ·obtain rfl : f = false := by rw [hf.out]; simp [h0]
   obtain rfl : g = 0 := by rw [hg.out, h0]; rfl
   clear h0
   go_enter Tryz.func196, Tryz.ntmps196
   go_wp2_with (first | (go_at_call 116; (with_reducible refine Zc HM (sign_any true M hM 0 hg _) ?_; clear HM; intro w2 HM)) | ((with_reducible refine g_ld ?_); refine a_ld HM ?_) | ((with_reducible refine g_bx ?_); refine a_bx HM ?_; clear HM; intro bk w1 HM))
   go_ret
   exact ⟨rfl, HM.low⟩
  ·obtain rfl : f = true := by rw [hf.out]; simp [h0]
   obtain rfl : g = -1 := by rw [hg.out]; exact Int.sign_eq_neg_one_of_neg (by simp [Bg.toZ]; omega)
   clear h0
   go_enter Tryz.func196, Tryz.ntmps196
   go_wp2_with (first | (go_at_call 116; (with_reducible refine Zc HM (sign_any true M hM (-1) hg _) ?_; clear HM; intro w2 HM)) | ((with_reducible refine g_ld ?_); refine a_ld HM ?_) | ((with_reducible refine g_bx ?_); refine a_bx HM ?_; clear HM; intro bk w1 HM))
   go_ret
   exact ⟨rfl, HM.low⟩
theorem fits_n (s : Bool) (M : Nat) (t : Bool) (N : Nat) (f : Bool) (hM : M < Bg.lim) (hN : N < Bg.lim) (hf : Hid (f = Rt.short M N)) (w : World) :
    Calls Tryz.prog 195 #[.agg (Bg.ratA s M t N)] w fun r w' => r = .returned (.bool f) ∧ Below w.heap.size w w' := by
 have HM := Mem.start w
 obtain ⟨m, hm⟩ : ∃ m : Int, Hid (m = (Bg.bl M : Int)) := ⟨_, rfl⟩
 obtain ⟨n, hn⟩ : ∃ m : Int, Hid (m = (Bg.bl N : Int)) := ⟨_, rfl⟩
 have l1 := la_rnum s M t N
 have l2 := la_rden s M t N
 by_cases h1 : Bg.bl M ≤ 480
 ·have h1' : m ≤ 480 := by rw [hm.out]; omega
  have hf2 : Hid (f = decide (n ≤ 480)) := Zi (by rw [hf.out, hn.out]; unfold Rt.short; simp [h1]; omega)
  clear h1
  go_enter Tryz.func195, Tryz.ntmps195
  go_wp2_with (first | ((first | (go_at_call 231; with_reducible refine (bits_num s M m hM hm _).mono ?_) | (go_at_call 231; with_reducible refine (bits_num t N n hN hn _).mono ?_)); rintro e9 w2 ⟨rfl, hL⟩; replace HM := HM.call hL; clear hL) | ((with_reducible refine g_ld ?_); refine a_ld HM ?_) | ((with_reducible refine g_bx ?_); refine a_bx HM ?_; clear HM; intro bk w1 HM))
  go_ret
  exact ⟨by rw [hf2.out]; rfl, HM.low⟩
 ·have h1' : decide (m ≤ 480) = false := by rw [hm.out]; simp; omega
  obtain rfl : f = false := by rw [hf.out]; unfold Rt.short; simp [h1]
  clear h1
  go_enter Tryz.func195, Tryz.ntmps195
  go_wp2_with (first | (go_at_call 231; (with_reducible refine Zc HM (bits_num s M m hM hm _) ?_; clear HM; intro w2 HM)) | ((with_reducible refine g_ld ?_); refine a_ld HM ?_) | ((with_reducible refine g_bx ?_); refine a_bx HM ?_; clear HM; intro bk w1 HM))
  go_ret
  exact ⟨rfl, HM.low⟩
theorem valid_n (s : Bool) (M : Nat) (t : Bool) (N : Nat) (f : Bool) (hM : M < Bg.lim) (hN : N < Bg.lim) (hf : Hid (f = Rt.ok s M t N)) (w : World) :
    Calls Tryz.prog 167 #[.agg (Bg.ratA s M t N)] w fun r w' => r = .returned (.bool f) ∧ Below w.heap.size w w' := by
 have HM := Mem.start w
 obtain ⟨f1, h1⟩ := Zh (Rt.short M N)
 obtain ⟨f2, h2⟩ := Zh ((!s || decide (M ≠ 0)))
 obtain ⟨f3, h3⟩ := Zh ((!t || decide (N ≠ 0)))
 obtain ⟨g, hg⟩ := Zh ((Bg.toZ t N).sign)
 obtain ⟨z, hz⟩ : ∃ z : Int, Hid (z = (Nat.gcd M N : Nat)) := ⟨_, rfl⟩
 obtain ⟨f5, h5⟩ := Zh (decide (z = 1))
 have hff : Hid (f = (f1 && (f2 && (f3 && (decide (0 < g) && f5))))) := Zi (by rw [hf.out, h1.out, h2.out, h3.out, hg.out, h5.out, hz.out]; rfl)
 have hgv : g = -1 ∨ g = 0 ∨ g = 1 := by rw [hg.out]; exact sign_v _
 have lz : z.natAbs < Bg.lim := by
  rw [hz.out, Int.natAbs_natCast]
  rcases Nat.eq_zero_or_pos M with h | h
  ·rw [h, Nat.gcd_zero_left]; exact hN
  ·exact Nat.lt_of_le_of_lt (Nat.gcd_le_left _ h) hM
 have l1 : ((1 : Int)).natAbs < Bg.lim := small_lim Zd
 have k1 := la_rnum s M t N
 have k2 := la_rden s M t N
 have k3 := la_rat s M t N
 clear hf
 go_enter Tryz.func167, Tryz.ntmps167
 cases f1 with
 | false =>
  obtain rfl : f = false := hff.out
  go_wp2_with (first | (go_at_call 195; (with_reducible refine Zc HM (fits_n s M t N false hM hN h1 _) ?_; clear HM; intro w2 HM)) | ((with_reducible refine g_ld ?_); refine a_ld HM ?_) | ((with_reducible refine g_bx ?_); refine a_bx HM ?_; clear HM; intro bk w1 HM))
  go_ret
  exact ⟨rfl, HM.low⟩
 | true =>
  cases f2 with
  | false =>
   obtain rfl : f = false := hff.out
   go_wp2_with (first | ((first | (go_at_call 195; with_reducible refine (fits_n s M t N true hM hN h1 _).mono ?_) | (go_at_call 196; with_reducible refine (canonical_n s M false hM h2 _).mono ?_)); rintro e9 w2 ⟨rfl, hL⟩; replace HM := HM.call hL; clear hL) | ((with_reducible refine g_ld ?_); refine a_ld HM ?_) | ((with_reducible refine g_bx ?_); refine a_bx HM ?_; clear HM; intro bk w1 HM))
   go_ret
   exact ⟨rfl, HM.low⟩
  | true =>
   cases f3 with
   | false =>
    obtain rfl : f = false := hff.out
    go_wp2_with (first | ((first | (go_at_call 195; with_reducible refine (fits_n s M t N true hM hN h1 _).mono ?_) | (go_at_call 196; with_reducible refine (canonical_n s M true hM h2 _).mono ?_) | (go_at_call 196; with_reducible refine (canonical_n t N false hN h3 _).mono ?_)); rintro e9 w2 ⟨rfl, hL⟩; replace HM := HM.call hL; clear hL) | ((with_reducible refine g_ld ?_); refine a_ld HM ?_) | ((with_reducible refine g_bx ?_); refine a_bx HM ?_; clear HM; intro bk w1 HM))
    go_ret
    exact ⟨rfl, HM.low⟩
   | true =>
    rcases hgv with rfl | rfl | rfl
    ·exact z9_38
    ·exact z9_38
    ·obtain rfl : f = f5 := hff.out
     go_wp2_with (first | ((first | (go_at_call 195; with_reducible refine (fits_n s M t N true hM hN h1 _).mono ?_) | (go_at_call 196; with_reducible refine (canonical_n s M true hM h2 _).mono ?_) | (go_at_call 196; with_reducible refine (canonical_n t N true hN h3 _).mono ?_) | (go_at_call 116; with_reducible refine (sign_any t N hN _ hg _).mono ?_) | (go_at_call 197; with_reducible refine (gcd_r s t M N z hM hN hz _).mono ?_) | (go_at_call 170; with_reducible refine (fromInt_z 1 Zd Zd _).mono ?_)); rintro e9 w2 ⟨rfl, hL⟩; replace HM := HM.call hL; clear hL) | ((with_reducible refine g_bin ?_); refine a_cmpz .eql (z) (1) f (.inl rfl) ((by rw [if_pos rfl]; exact h5.out)) (lz) (l1) ?_) | ((with_reducible refine g_ld ?_); refine a_ld HM ?_) | ((with_reducible refine g_bx ?_); refine a_bx HM ?_; clear HM; intro bk w1 HM))
     go_ret
     exact ⟨rfl, HM.low⟩
end
section
theorem ediv_lt {p G : Int} (hp : p.natAbs < Bg.lim) : (p / G).natAbs < Bg.lim := Nat.lt_of_le_of_lt (Int.natAbs_ediv_le_natAbs p G) hp
structure Rt.MkSt (p q G x1 x2 n d e : Int) (f : Bool) : Prop where
 eg : G = Rt.sg p q
 e1 : x1 = p / G
 e2 : x2 = q / G
 ef : f = Rt.short x1.natAbs x2.natAbs
 no : f = false → n = 0 ∧ d = 0 ∧ e = 10
 yes : f = true → n = x1 ∧ d = x2 ∧ e = 0
theorem Rt.mkSt {p q n d e : Int} (h0 : q ≠ 0) (hr : (n, d, e) = Rt.mk p q) : ∃ G x1 x2 f, Rt.MkSt p q G x1 x2 n d e f := by
 refine ⟨_, _, _, _, rfl, rfl, rfl, rfl, ?_, ?_⟩
 ·intro hf
  unfold Rt.mk at hr
  rw [if_neg h0, if_neg (by rw [hf]; simp)] at hr
  simpa using hr
 ·intro hf
  unfold Rt.mk at hr
  rw [if_neg h0, if_pos hf] at hr
  simpa using hr
end
section
theorem rdivMod_iz (s : Bool) (M : Nat) (G x y : Int) (hM : M < Bg.lim) (hG : G.natAbs < Bg.lim) (h0 : G ≠ 0) (hx : Hid (x = Bg.toZ s M / G)) (hy : Hid (y = Bg.toZ s M % G)) (w : World) :
    Calls Tryz.prog 125 #[.agg (Bg.intA s M), .agg (Bg.zA G)] w fun r w' => r = .returned (.tuple #[.agg (Bg.zA x), .agg (Bg.zA y), .int .i64 0]) ∧ Below w.heap.size w w' := by
 rw [zA_int G]
 exact rdivMod_any s _ M _ x y hM hG Zo (Zi (by rw [Bg.toZ_iv]; exact hx.out)) (Zi (by rw [Bg.toZ_iv]; exact hy.out)) w
theorem rsign_z (p g : Int) (hp : p.natAbs < Bg.lim) (hg : Hid (g = p.sign)) (w : World) :
    Calls Tryz.prog 123 #[.agg (Bg.zA p)] w fun e w' => e = .returned (.int .i64 g) ∧ Below w.heap.size w w' := by
 rw [zA_int p]; exact rsign_num _ _ g hp (Zi (by rw [Bg.toZ_iv]; exact hg.out)) w
theorem rneg_z (p z : Int) (hp : p.natAbs < Bg.lim) (hz : Hid (z = -p)) (w : World) :
    Calls Tryz.prog 126 #[.agg (Bg.zA p)] w fun e w' => e = .returned (.agg (Bg.zA z)) ∧ Below w.heap.size w w' := by
 rw [zA_int p]; exact rneg_any _ _ z hp (Zi (by rw [Bg.toZ_iv]; exact hz.out)) w
theorem rbits_z (p n : Int) (hp : p.natAbs < Bg.lim) (hn : Hid (n = (Bg.bl p.natAbs : Int))) (w : World) :
    Calls Tryz.prog 127 #[.agg (Bg.zA p)] w fun e w' => e = .returned (.int .i64 n) ∧ Below w.heap.size w w' := by
 rw [zA_int p]; exact rbits_any _ _ n hp hn w
theorem Rt.sg_turn {p q G x1 x2 y1 y2 g0 : Int} (h0 : q ≠ 0) (hg : g0 = (Nat.gcd p.natAbs q.natAbs : Nat)) (hG : G = Rt.sg p q) (h1 : x1 = p / G) (h2 : x2 = q / G) (h3 : y1 = p / g0) (h4 : y2 = q / g0) :
    g0 ≠ 0 ∧ ((y2.sign = -1 ∧ x1 = -y1 ∧ x2 = -y2) ∨ (y2.sign = 1 ∧ x1 = y1 ∧ x2 = y2)) := by
 have hpos : 0 < g0 := by rw [hg]; have := Rt.sg_pos (p := p) h0; omega
 have hd : q = g0 * y2 := by
  rw [h4, Int.mul_ediv_cancel']
  rw [hg]; exact Int.ofNat_dvd_left.2 (Nat.gcd_dvd_right _ _)
 refine ⟨by omega, ?_⟩
 rw [h1, h2, hG]
 unfold Rt.sg
 rw [← hg]
 rcases Int.lt_or_gt_of_ne h0 with h | h
 ·rw [if_pos h, Int.ediv_neg, Int.ediv_neg, ← h3, ← h4]
  refine .inl ⟨Int.sign_eq_neg_one_of_neg ?_, rfl, rfl⟩
  rcases Int.lt_or_le y2 0 with h5 | h5
  ·exact h5
  ·have := Int.mul_nonneg (Int.le_of_lt hpos) h5; omega
 ·rw [if_neg Zo, ← h3, ← h4]
  refine .inr ⟨Int.sign_eq_one_of_pos ?_, rfl, rfl⟩
  rcases Int.lt_or_le 0 y2 with h5 | h5
  ·exact h5
  ·have := Int.mul_nonneg (Int.le_of_lt hpos) (show 0 ≤ -y2 by omega)
   rw [Int.mul_neg] at this; omega
theorem rmake_n (s : Bool) (M : Nat) (t : Bool) (N : Nat) (n d e : Int) (hM : M < Bg.lim) (hN : N < Bg.lim) (hr : Hid ((n, d, e) = Rt.mk (Bg.toZ s M) (Bg.toZ t N))) (w : World) :
    Calls Tryz.prog 96 #[.agg (Bg.intA s M), .agg (Bg.intA t N)] w fun r w' => r = .returned (.tuple #[.agg (Bg.rZ n d), .int .i64 e]) ∧ Below w.heap.size w w' := by
 have HM := Mem.start w
 obtain ⟨p, hp⟩ := Zh (Bg.toZ s M)
 obtain ⟨q, hq⟩ := Zh (Bg.toZ t N)
 obtain ⟨g, hg⟩ := Zh ((Bg.toZ t N).sign)
 have hz0 := za_rat
 have hs1 := sa_rz 0 0 (rZ_size 0 0)
 by_cases h0 : N = 0
 ·have hq0 : Bg.toZ t N = 0 := by rw [h0]; cases t <;> rfl
  have hr2 := hr.out
  unfold Rt.mk at hr2
  rw [if_pos hq0] at hr2
  obtain ⟨rfl, rfl, rfl⟩ : n = 0 ∧ d = 0 ∧ e = 11 := by simpa using hr2
  obtain rfl : g = 0 := by rw [hg.out, hq0]; rfl
  clear hr2 hq0 h0
  go_enter Tryz.func96, Tryz.ntmps96
  go_wp2_with (first | ((with_reducible refine g_bld ?_); refine a_rbl ?_) | (go_at_call 123; (with_reducible refine Zc HM (rsign_num t N 0 hN hg _) ?_; clear HM; intro w2 HM)) | ((with_reducible refine g_ld ?_); refine a_ld HM ?_) | ((with_reducible refine g_st ?_); refine a_st HM ?_; clear HM; intro w1 HM) | ((with_reducible refine g_al ?_); refine a_al HM ?_; clear HM; intro bk w1 HM) | ((with_reducible refine g_bx ?_); refine a_bx HM ?_; clear HM; intro bk w1 HM))
  exact z9_39
 ·have hq0 : q ≠ 0 := by
    intro h; have := Bg.toZ_abs t N; rw [← hq.out, h] at this; simp at this; omega
  rw [← hp.out, ← hq.out] at hr
  obtain ⟨G, x1, x2, f, HS⟩ := Rt.mkSt hq0 hr.out
  replace HS := Zi HS
  obtain ⟨g0, hg0⟩ : ∃ z : Int, Hid (z = (Nat.gcd M N : Nat)) := ⟨_, rfl⟩
  have hgc : Nat.gcd p.natAbs q.natAbs = Nat.gcd M N := by rw [hp.out, hq.out, Bg.toZ_abs, Bg.toZ_abs]
  have lg0 : g0.natAbs < Bg.lim := by
   rw [hg0.out, Int.natAbs_natCast]
   exact Nat.lt_of_le_of_lt (Nat.gcd_le_right _ Zo) hN
  obtain ⟨y1, hy1⟩ := Zh (Bg.toZ s M / g0)
  obtain ⟨y2, hy2⟩ := Zh (Bg.toZ t N / g0)
  obtain ⟨r1, hr1⟩ := Zh (Bg.toZ s M % g0)
  obtain ⟨r2, hr2⟩ := Zh (Bg.toZ t N % g0)
  obtain ⟨hg00, hturn⟩ := Rt.sg_turn (g0 := g0) (y1 := y1) (y2 := y2) hq0 (by rw [hgc]; exact hg0.out) HS.out.eg HS.out.e1 HS.out.e2 (by rw [hp.out]; exact hy1.out) (by rw [hq.out]; exact hy2.out)
  have hG0 := Zi hg00
  have l1 : x1.natAbs < Bg.lim := by rw [HS.out.e1]; exact ediv_lt (by rw [hp.out, Bg.toZ_abs]; exact hM)
  have l2 : x2.natAbs < Bg.lim := by rw [HS.out.e2]; exact ediv_lt (by rw [hq.out, Bg.toZ_abs]; exact hN)
  have l3 : y1.natAbs < Bg.lim := by rw [hy1.out]; exact ediv_lt (by rw [Bg.toZ_abs]; exact hM)
  have l4 : y2.natAbs < Bg.lim := by rw [hy2.out]; exact ediv_lt (by rw [Bg.toZ_abs]; exact hN)
  obtain ⟨gy, hgy⟩ := Zh (y2.sign)
  rw [← hgy.out] at hturn
  have hgv : g = -1 ∨ g = 1 := by
   rw [hg.out, ← hq.out]
   rcases Int.lt_or_gt_of_ne hq0 with h | h
   ·exact .inl (Int.sign_eq_neg_one_of_neg h)
   ·exact .inr (Int.sign_eq_one_of_pos h)
  obtain ⟨m1, hm1⟩ : ∃ m : Int, Hid (m = (Bg.bl x1.natAbs : Int)) := ⟨_, rfl⟩
  obtain ⟨m2, hm2⟩ : ∃ m : Int, Hid (m = (Bg.bl x2.natAbs : Int)) := ⟨_, rfl⟩
  have hfm : Hid (f = (decide (m1 ≤ 480) && decide (m2 ≤ 480))) := Zi (by
   rw [HS.out.ef, hm1.out, hm2.out]; unfold Rt.short
   congr 1 <;> (apply decide_eq_decide.2; omega))
  have k1 := sa_rz x1 x2 (rZ_size 0 0)
  clear hgc h0 hq0 hg00
  go_enter Tryz.func96, Tryz.ntmps96
  rcases hgv with rfl | rfl
  all_goals
   go_upto_if 36 with (first | (go_at_call 123; (with_reducible refine Zc HM (rsign_num t N _ hN hg _) ?_; clear HM; intro w2 HM)) | (go_at_call 123; (with_reducible refine Zc HM (rsign_z y2 gy l4 hgy _) ?_; clear HM; intro w2 HM)) | (go_at_call 124; (with_reducible refine Zc HM (rgcd_any s t M N g0 hM hN hg0 _) ?_; clear HM; intro w2 HM)) | (go_at_call 125; (with_reducible refine Zc HM (rdivMod_iz s M g0 y1 r1 hM lg0 hG0.out hy1 hr1 _) ?_; clear HM; intro w2 HM)) | (go_at_call 125; (with_reducible refine Zc HM (rdivMod_iz t N g0 y2 r2 hN lg0 hG0.out hy2 hr2 _) ?_; clear HM; intro w2 HM)) | (first | ((with_reducible refine g_ld ?_); refine a_ld HM ?_) | ((with_reducible refine g_st ?_); refine a_st HM ?_; clear HM; intro w1 HM) | ((with_reducible refine g_al ?_); refine a_al HM ?_; clear HM; intro bk w1 HM) | ((with_reducible refine g_bx ?_); refine a_bx HM ?_; clear HM; intro bk w1 HM) | ((with_reducible refine g_bld ?_); refine a_bld ?_)))
   obtain ⟨b10, rfl⟩ := HM.nm1
   obtain ⟨b7, rfl⟩ := HM.nm3
   obtain ⟨b4, rfl⟩ := HM.nm5
   go_cut [] (fun wc => Mem w [] [(b10, Bg.zA x2), (b7, Bg.zA x1), (b4, Bg.rZ 0 0)] wc)
   case first =>
    rcases hturn with ⟨rfl, h1, h2⟩ | ⟨rfl, rfl, rfl⟩
    ·have h1 := Zi h1
     have h2 := Zi h2
     go_upto_region 7 with fail
     refine start_M [4, 5] HM Zk (fun w0x H9 => ?_)
     replace HM := H9; clear H9
     refine k_ld 0 [1, 3, 4, 5] (heldE HM) ?_
     refine k_ld 2 [3, 4, 5] (heldE HM) ?_
     refine j_one 1 fun K9 hK9 => ?_
     refine j_call1 (v := ?_) HM ?_ ?_; rotate_left 1; (focus (with_reducible (first | exact rneg_z y1 x1 l3 h1 _ | exact rneg_z y2 x2 l4 h2 _))); clear HM; intro w1 HM
     refine hK9 _ _ (heldE HM) ?_; clear hK9 K9
     refine j_one 3 fun K9 hK9 => ?_
     refine j_call1 (v := ?_) HM ?_ ?_; rotate_left 1; (focus (with_reducible (first | exact rneg_z y1 x1 l3 h1 _ | exact rneg_z y2 x2 l4 h2 _))); clear HM; intro w1 HM
     refine hK9 _ _ (heldE HM) ?_; clear hK9 K9
     refine j_one 4 fun K9 hK9 => ?_
     refine j_st HM ?_; clear HM; intro w1 HM
     refine hK9 _ _ heldN ?_; clear hK9 K9
     refine j_one 5 fun K9 hK9 => ?_
     refine j_st HM ?_; clear HM; intro w1 HM
     refine hK9 _ _ heldN ?_; clear hK9 K9
     refine wpAnyL_done Zk ?_ _
     exact z9_40
    ·exact z9_40
   case rest =>
    clear HM
    have HM := hcut
    clear hcut
    by_cases hb1 : m1 ≤ 480
    ·have hb1' : decide (480 < m1) = false := by simp; omega
     by_cases hb2 : m2 ≤ 480
     ·have hb2' : ¬ 480 < m2 := by omega
      obtain ⟨rfl, rfl, rfl⟩ := HS.out.yes (by rw [hfm.out]; simp [hb1, hb2])
      clear hb1 hb2
      go_wp2_with (first | ((with_reducible refine g_bld ?_); refine a_rbl ?_) | ((first | (go_at_call 127; with_reducible refine (rbits_z n m1 l1 hm1 _).mono ?_) | (go_at_call 127; with_reducible refine (rbits_z d m2 l2 hm2 _).mono ?_)); rintro e9 w2 ⟨rfl, hL⟩; replace HM := HM.call hL; clear hL) | ((with_reducible refine g_ld ?_); refine a_ld HM ?_) | ((with_reducible refine g_st ?_); refine a_st HM ?_; clear HM; intro w1 HM))
      exact z9_41
     ·have hb2' : 480 < m2 := by omega
      obtain ⟨rfl, rfl, rfl⟩ := HS.out.no (by rw [hfm.out]; simp [hb2])
      clear hb1 hb2
      go_wp2_with (first | ((with_reducible refine g_bld ?_); refine a_rbl ?_) | ((first | (go_at_call 127; with_reducible refine (rbits_z x1 m1 l1 hm1 _).mono ?_) | (go_at_call 127; with_reducible refine (rbits_z x2 m2 l2 hm2 _).mono ?_)); rintro e9 w2 ⟨rfl, hL⟩; replace HM := HM.call hL; clear hL) | ((with_reducible refine g_ld ?_); refine a_ld HM ?_) | ((with_reducible refine g_st ?_); refine a_st HM ?_; clear HM; intro w1 HM))
      exact z9_41
    ·have hb1' : 480 < m1 := by omega
     obtain ⟨rfl, rfl, rfl⟩ := HS.out.no (by rw [hfm.out]; simp [hb1])
     clear hb1
     go_wp2_with (first | ((with_reducible refine g_bld ?_); refine a_rbl ?_) | (go_at_call 127; (with_reducible refine Zc HM (rbits_z x1 m1 l1 hm1 _) ?_; clear HM; intro w2 HM)) | ((with_reducible refine g_ld ?_); refine a_ld HM ?_) | ((with_reducible refine g_st ?_); refine a_st HM ?_; clear HM; intro w1 HM))
     exact z9_41
theorem rmake_z (p q n d e : Int) (hp : p.natAbs < Bg.lim) (hq : q.natAbs < Bg.lim) (hr : Hid ((n, d, e) = Rt.mk p q)) (w : World) :
    Calls Tryz.prog 96 #[.agg (Bg.zA p), .agg (Bg.zA q)] w fun r w' => r = .returned (.tuple #[.agg (Bg.rZ n d), .int .i64 e]) ∧ Below w.heap.size w w' := by
 rw [zA_int p, zA_int q]; exact rmake_n _ _ _ _ n d e hp hq (Zi (by rw [Bg.toZ_iv, Bg.toZ_iv]; exact hr.out)) w
theorem i64_lim {n : Int} (h1 : -9223372036854775808 ≤ n) (h2 : n < 9223372036854775808) : n.natAbs < Bg.lim := small_lim Zo
theorem rof_n (n d x y e : Int) (hn1 : -9223372036854775808 ≤ n) (hn2 : n < 9223372036854775808) (hd1 : -9223372036854775808 ≤ d) (hd2 : d < 9223372036854775808) (hr : Hid ((x, y, e) = Rt.mk n d)) (w : World) :
    Calls Tryz.prog 74 #[.int .i64 n, .int .i64 d] w fun r w' => r = .returned (.tuple #[.agg (Bg.rZ x y), .int .i64 e]) ∧ Below w.heap.size w w' := by
 have HM := Mem.start w
 have ln := i64_lim hn1 hn2
 have ld := i64_lim hd1 hd2
 have hz0 := za_rat
 have hs1 := sa_rz x y (rZ_size 0 0)
 go_enter Tryz.func74, Tryz.ntmps74
 go_wp2_with (first | ((first | (go_at_call 97; with_reducible refine (rfromInt_z n hn1 hn2 _).mono ?_) | (go_at_call 97; with_reducible refine (rfromInt_z d hd1 hd2 _).mono ?_) | (go_at_call 96; with_reducible refine (rmake_z n d x y e ln ld hr _).mono ?_)); rintro e9 w2 ⟨rfl, hL⟩; replace HM := HM.call hL; clear hL) | ((with_reducible refine g_st ?_); refine a_st HM ?_; clear HM; intro w1 HM) | ((with_reducible refine g_al ?_); refine a_al HM ?_; clear HM; intro bk w1 HM))
 exact z9_39
theorem whole_w (n : Int) (hn1 : -9223372036854775808 ≤ n) (hn2 : n < 9223372036854775808) (w : World) :
    Calls Tryz.prog 144 #[.int .i64 n] w fun r w' => r = .returned (.agg (Bg.rZ n 1)) ∧ Below w.heap.size w w' := by
 have HM := Mem.start w
 have hz0 := za_rat
 have hs1 := sa_rz n 1 (rZ_size 0 0)
 go_enter Tryz.func144, Tryz.ntmps144
 go_wp2_with (first | ((with_reducible refine g_bld ?_); refine a_rbl ?_) | ((first | (go_at_call 170; with_reducible refine (fromInt_z n hn1 hn2 _).mono ?_) | (go_at_call 170; with_reducible refine (fromInt_z 1 Zd Zd _).mono ?_)); rintro e9 w2 ⟨rfl, hL⟩; replace HM := HM.call hL; clear hL) | ((with_reducible refine g_st ?_); refine a_st HM ?_; clear HM; intro w1 HM) | ((with_reducible refine g_al ?_); refine a_al HM ?_; clear HM; intro bk w1 HM))
 refine bodyPost_ret (r_c rfl rfl (HM.get Zl) (la_rz _ _)) rfl ⟨rfl, HM.low⟩
end
section
theorem product_f (p d z : Int) (hp : p.natAbs < Bg.lim) (hd : d.natAbs < Bg.lim) (hz : Hid (z = p * d)) (hl : z.natAbs < Bg.lim) (w : World) :
    Calls Tryz.prog 169 #[.agg (Bg.zA p), .agg (Bg.zA d)] w fun r w' => r = .returned (.agg (Bg.zA z)) ∧ Below w.heap.size w w' := by
 rw [zA_int p, zA_int d]
 exact product_n _ _ _ _ z z hp hd (Zi (by rw [Bg.toZ_iv, Bg.toZ_iv]; exact hz.out)) (Zi (by unfold Bg.resZ; rw [if_pos hl])) w
def Rt.okz (p q : Int) : Bool := Rt.ok (decide (p < 0)) p.natAbs (decide (q < 0)) q.natAbs
theorem valid_z (p q : Int) (f : Bool) (hp : p.natAbs < Bg.lim) (hq : q.natAbs < Bg.lim) (hf : Hid (f = Rt.okz p q)) (w : World) :
    Calls Tryz.prog 167 #[.agg (Bg.rZ p q)] w fun r w' => r = .returned (.bool f) ∧ Below w.heap.size w w' := by
 rw [rZ_ratA]; exact valid_n _ _ _ _ f hp hq hf w
end
section
theorem Rt.ok_parts {s t : Bool} {M N : Nat} (h : Rt.ok s M t N = true) : t = false ∧ N ≠ 0 ∧ Bg.bl M ≤ 480 ∧ Bg.bl N ≤ 480 ∧ (s = true → M ≠ 0) ∧ Nat.gcd M N = 1 := by
 unfold Rt.ok Rt.short at h
 simp only [Bool.and_eq_true, decide_eq_true_eq] at h
 obtain ⟨⟨h1, h2⟩, h3, h4, h5, h6⟩ := h
 have h7 := Int.sign_eq_one_iff_pos.1 (show (Bg.toZ t N).sign = 1 by rcases sign_v (Bg.toZ t N) with h | h | h <;> omega)
 have ht : t = false ∧ N ≠ 0 := by
  cases t
  ·exact ⟨rfl, by simp [Bg.toZ] at h7; omega⟩
  ·simp [Bg.toZ] at h7; omega
 refine ⟨ht.1, ht.2, h1, h2, ?_, by omega⟩
 intro hs
 subst hs
 simpa using h3
theorem Rt.ok_z {s t : Bool} {M N : Nat} (h : Rt.ok s M t N = true) : Bg.ratA s M t N = Bg.rZ (Bg.toZ s M) (Bg.toZ t N) ∧ Rt.okz (Bg.toZ s M) (Bg.toZ t N) = true := by
 obtain ⟨ht, hN, h1, h2, h3, h4⟩ := Rt.ok_parts h
 have e1 : decide (Bg.toZ s M < 0) = s := by
  cases s
  ·simp [Bg.toZ]
  ·have := h3 rfl; simp [Bg.toZ]; omega
 have e2 : decide (Bg.toZ t N < 0) = t := by rw [ht]; simp [Bg.toZ]
 constructor
 ·rw [rZ_ratA, e1, e2, Bg.toZ_abs, Bg.toZ_abs]
 ·unfold Rt.okz; rw [e1, e2, Bg.toZ_abs, Bg.toZ_abs]; exact h
theorem p2_480 {N : Nat} (hN : N < Bg.lim) (h : Bg.bl N ≤ 480) : N < Bg.p2 480 := Nat.lt_of_lt_of_le (Bg.bl_bounds hN).1 (Bg.p2_mono h)
structure Rt.Good (p q : Int) : Prop where
 bp : p.natAbs < Bg.p2 480
 bq : q.natAbs < Bg.p2 480
 pos : 0 < q
 one : Nat.gcd p.natAbs q.natAbs = 1
theorem Rt.good {p q : Int} (hp : p.natAbs < Bg.lim) (hq : q.natAbs < Bg.lim) (h : Rt.okz p q = true) : Rt.Good p q := by
 unfold Rt.okz at h
 obtain ⟨ht, hN, h1, h2, h3, h4⟩ := Rt.ok_parts h
 refine ⟨p2_480 hp h1, p2_480 hq h2, ?_, h4⟩
 have : ¬ q < 0 := by simpa using ht
 omega
theorem Rt.Good.lp {p q : Int} (h : Rt.Good p q) : p.natAbs < Bg.lim := Nat.lt_of_lt_of_le h.bp (by have := Bg.p2_mono (show 480 ≤ 1024 by decide); rwa [Bg.p2_lim] at this)
theorem Rt.Good.lq {p q : Int} (h : Rt.Good p q) : q.natAbs < Bg.lim := Nat.lt_of_lt_of_le h.bq (by have := Bg.p2_mono (show 480 ≤ 1024 by decide); rwa [Bg.p2_lim] at this)
theorem mul_480 {a b : Int} (ha : a.natAbs < Bg.p2 480) (hb : b.natAbs < Bg.p2 480) : (a * b).natAbs < Bg.p2 960 := by
 rw [Int.natAbs_mul, show 960 = 480 + 480 from rfl, Bg.p2_add]
 exact Nat.mul_lt_mul'' ha hb
theorem lim_960 {a : Int} (h : a.natAbs < Bg.p2 960) : a.natAbs < Bg.lim := Nat.lt_of_lt_of_le h (by have := Bg.p2_mono (show 960 ≤ 1024 by decide); rwa [Bg.p2_lim] at this)
theorem Rt.okz_of {n d : Int} (h1 : Rt.short n.natAbs d.natAbs = true) (h2 : 0 < d) (h3 : Nat.gcd n.natAbs d.natAbs = 1) : Rt.okz n d = true := by
 unfold Rt.okz Rt.ok
 have e1 : decide (d < 0) = false := by simp; omega
 have e2 : Bg.toZ false d.natAbs = d := by simp [Bg.toZ]; omega
 rw [h1, e1, e2, h3, Int.sign_eq_one_of_pos h2]
 by_cases hn : n < 0
 ·have : n.natAbs ≠ 0 := by omega
  simp [hn, this]
 ·simp [hn]
def Rt.bin (k : Bool) (x y : Int) : Int × Int × Int := if k then Rt.mk x y else (0, 0, 20)
end
section
def Rt.num (b : Bool) (p q r u : Int) : Int := p * u + (if b then -(r * q) else r * q)
end
section
theorem Cmp_bad (s : Bool) (M : Nat) (t : Bool) (N : Nat) (s2 : Bool) (M2 : Nat) (t2 : Bool) (N2 : Nat) (hM : M < Bg.lim) (hN : N < Bg.lim) (hM2 : M2 < Bg.lim) (hN2 : N2 < Bg.lim) (hbad : (Rt.ok s M t N && Rt.ok s2 M2 t2 N2) = false) (w : World) :
    Calls Tryz.prog 143 #[.agg (Bg.ratA s M t N), .agg (Bg.ratA s2 M2 t2 N2)] w fun r w' => r = .returned (.tuple #[.int .i64 0, .int .i64 20]) ∧ Below w.heap.size w w' := by
 have HM := Mem.start w
 obtain ⟨f1, h1⟩ := Zh (Rt.ok s M t N)
 obtain ⟨f2, h2⟩ := Zh (Rt.ok s2 M2 t2 N2)
 rw [← h1.out, ← h2.out] at hbad
 have k1 := la_rat s M t N
 have k2 := la_rat s2 M2 t2 N2
 go_enter Tryz.func143, Tryz.ntmps143
 cases f1 with
 | false =>
  clear hbad
  go_wp2_with (first | (go_at_call 167; (with_reducible refine Zc HM (valid_n s M t N false hM hN h1 _) ?_; clear HM; intro w2 HM)) | ((with_reducible refine g_ld ?_); refine a_ld HM ?_) | ((with_reducible refine g_bx ?_); refine a_bx HM ?_; clear HM; intro bk w1 HM))
  go_ret2
  exact ⟨rfl, HM.low⟩
 | true =>
  obtain rfl : f2 = false := by simpa using hbad
  clear hbad
  go_wp2_with (first | ((first | (go_at_call 167; with_reducible refine (valid_n s M t N true hM hN h1 _).mono ?_) | (go_at_call 167; with_reducible refine (valid_n s2 M2 t2 N2 false hM2 hN2 h2 _).mono ?_)); rintro e9 w2 ⟨rfl, hL⟩; replace HM := HM.call hL; clear hL) | ((with_reducible refine g_ld ?_); refine a_ld HM ?_) | ((with_reducible refine g_bx ?_); refine a_bx HM ?_; clear HM; intro bk w1 HM))
  go_ret2
  exact ⟨rfl, HM.low⟩
theorem Cmp_zz (p q r u x y g : Int) (hp : p.natAbs < Bg.lim) (hq : q.natAbs < Bg.lim) (hr : r.natAbs < Bg.lim) (hu : u.natAbs < Bg.lim) (h1 : Hid (true = Rt.okz p q)) (h2 : Hid (true = Rt.okz r u)) (hx : Hid (x = p * u)) (hy : Hid (y = r * q)) (hg : Hid (g = (x - y).sign)) (lx : x.natAbs < Bg.lim) (ly : y.natAbs < Bg.lim) (w : World) :
    Calls Tryz.prog 143 #[.agg (Bg.rZ p q), .agg (Bg.rZ r u)] w fun r w' => r = .returned (.tuple #[.int .i64 g, .int .i64 0]) ∧ Below w.heap.size w w' := by
 have HM := Mem.start w
 have k1 := la_rz p q
 have k2 := la_rz r u
 have k3 := la_rznum p q
 have k4 := la_rzden p q
 have k5 := la_rznum r u
 have k6 := la_rzden r u
 go_enter Tryz.func143, Tryz.ntmps143
 go_upto_region 3 with (first | ((first | (go_at_call 167; with_reducible refine (valid_z p q true hp hq h1 _).mono ?_) | (go_at_call 167; with_reducible refine (valid_z r u true hr hu h2 _).mono ?_)); rintro e9 w2 ⟨rfl, hL⟩; replace HM := HM.call hL; clear hL) | ((with_reducible refine g_ld ?_); refine a_ld HM ?_) | ((with_reducible refine g_bx ?_); refine a_bx HM ?_; clear HM; intro bk w1 HM))
 refine start_M [] HM Zk (fun w0x H9 => ?_)
 replace HM := H9; clear H9
 refine k_fa 0 (heldE HM) ?_
 refine k_ld 1 [] (heldE HM) ?_
 refine k_fa 2 (heldE HM) ?_
 refine k_ld 3 [] (heldE HM) ?_
 refine k_fa 5 (heldE HM) ?_
 refine k_ld 6 [] (heldE HM) ?_
 refine k_fa 7 (heldE HM) ?_
 refine k_ld 8 [] (heldE HM) ?_
 refine j_one 4 fun K9 hK9 => ?_
 refine j_call2 (v := ?_) HM ?_ ?_; rotate_left 1; (focus (with_reducible (first | exact product_f p u x hp hu hx lx _ | exact product_f r q y hr hq hy ly _ | exact cmp_z x y g lx ly hg _))); clear HM; intro w1 HM
 refine hK9 _ _ (heldE HM) ?_; clear hK9 K9
 refine j_one 9 fun K9 hK9 => ?_
 refine j_call2 (v := ?_) HM ?_ ?_; rotate_left 1; (focus (with_reducible (first | exact product_f p u x hp hu hx lx _ | exact product_f r q y hr hq hy ly _ | exact cmp_z x y g lx ly hg _))); clear HM; intro w1 HM
 refine hK9 _ _ (heldE HM) ?_; clear hK9 K9
 refine j_one 10 fun K9 hK9 => ?_
 refine j_call2 (v := ?_) HM ?_ ?_; rotate_left 1; (focus (with_reducible (first | exact product_f p u x hp hu hx lx _ | exact product_f r q y hr hq hy ly _ | exact cmp_z x y g lx ly hg _))); clear HM; intro w1 HM
 refine hK9 _ _ (heldE HM) ?_; clear hK9 K9
 refine k_mv 11 (heldE HM) ?_
 refine k_mv 12 (heldE HM) ?_
 refine wpAnyL_done Zk ?_ _
 (go_wp2_with fail; go_ret2; exact ⟨rfl, HM.low⟩)
theorem Cmp_g (s : Bool) (M : Nat) (t : Bool) (N : Nat) (s2 : Bool) (M2 : Nat) (t2 : Bool) (N2 : Nat) (g e : Int) (hr : Hid ((g, e) = if (Rt.ok s M t N && Rt.ok s2 M2 t2 N2) then ((Bg.toZ s M * Bg.toZ t2 N2 - Bg.toZ s2 M2 * Bg.toZ t N).sign, 0) else (0, 20))) (hM : M < Bg.lim) (hN : N < Bg.lim) (hM2 : M2 < Bg.lim) (hN2 : N2 < Bg.lim) (w : World) :
    Calls Tryz.prog 143 #[.agg (Bg.ratA s M t N), .agg (Bg.ratA s2 M2 t2 N2)] w fun r w' => r = .returned (.tuple #[.int .i64 g, .int .i64 e]) ∧ Below w.heap.size w w' := by
 have hr2 := hr.out
 cases hk : (Rt.ok s M t N && Rt.ok s2 M2 t2 N2) with
 | false =>
  rw [hk] at hr2
  obtain ⟨rfl, rfl⟩ : g = 0 ∧ e = 20 := by simpa using hr2
  exact Cmp_bad s M t N s2 M2 t2 N2 hM hN hM2 hN2 hk w
 | true =>
  rw [hk] at hr2
  obtain ⟨rfl, rfl⟩ : g = (Bg.toZ s M * Bg.toZ t2 N2 - Bg.toZ s2 M2 * Bg.toZ t N).sign ∧ e = 0 := by simpa using hr2
  obtain ⟨k1, k2⟩ : Rt.ok s M t N = true ∧ Rt.ok s2 M2 t2 N2 = true := by simpa using hk
  obtain ⟨e1, z1⟩ := Rt.ok_z k1
  obtain ⟨e2, z2⟩ := Rt.ok_z k2
  have g1 := Rt.good (by rw [Bg.toZ_abs]; exact hM) (by rw [Bg.toZ_abs]; exact hN) z1
  have g2 := Rt.good (by rw [Bg.toZ_abs]; exact hM2) (by rw [Bg.toZ_abs]; exact hN2) z2
  rw [e1, e2]
  exact Cmp_zz _ _ _ _ _ _ _ g1.lp g1.lq g2.lp g2.lq z1.symm z2.symm rfl rfl rfl (lim_960 (mul_480 g1.bp g2.bq)) (lim_960 (mul_480 g2.bp g1.bq)) w
end
section
theorem small_480 {z : Int} (h : z.natAbs < 18446744073709551616) : z.natAbs < Bg.p2 480 := Nat.lt_of_lt_of_le h (by have := Bg.p2_mono (show 64 ≤ 480 by decide); unfold Bg.p2 at *; omega)
end
section
theorem Sign_bad (s : Bool) (M : Nat) (t : Bool) (N : Nat) (hM : M < Bg.lim) (hN : N < Bg.lim) (h1 : Hid (false = Rt.ok s M t N)) (w : World) :
    Calls Tryz.prog 142 #[.agg (Bg.ratA s M t N)] w fun r w' => r = .returned (.tuple #[.int .i64 0, .int .i64 20]) ∧ Below w.heap.size w w' := by
 have HM := Mem.start w
 have hz0 := za_rat
 have hs1 := sa_rz 0 0 (rZ_size 0 0)
 have k1 := la_rat s M t N
 go_enter Tryz.func142, Tryz.ntmps142
 go_wp2_with (first | (go_at_call 167; (with_reducible refine Zc HM (valid_n s M t N false hM hN h1 _) ?_; clear HM; intro w2 HM)) | ((with_reducible refine g_ld ?_); refine a_ld HM ?_) | ((with_reducible refine g_bx ?_); refine a_bx HM ?_; clear HM; intro bk w1 HM))
 go_ret2
 exact ⟨rfl, HM.low⟩
theorem sign_zr (p g : Int) (hp : p.natAbs < Bg.lim) (hg : Hid (g = p.sign)) (w : World) :
    Calls Tryz.prog 116 #[.agg (Bg.zA p)] w fun e w' => e = .returned (.int .i64 g) ∧ Below w.heap.size w w' := by
 rw [zA_int p]; exact sign_any _ _ hp g (Zi (by rw [Bg.toZ_iv]; exact hg.out)) w
theorem Sign_zz (p q g : Int) (hp : p.natAbs < Bg.lim) (hq : q.natAbs < Bg.lim) (h1 : Hid (true = Rt.okz p q)) (hg : Hid (g = p.sign)) (w : World) :
    Calls Tryz.prog 142 #[.agg (Bg.rZ p q)] w fun r w' => r = .returned (.tuple #[.int .i64 g, .int .i64 0]) ∧ Below w.heap.size w w' := by
 have HM := Mem.start w
 have hz0 := za_rat
 have k1 := la_rz p q
 have k3 := la_rznum p q
 have k4 := la_rzden p q
 go_enter Tryz.func142, Tryz.ntmps142
 go_wp2_with (first | ((first | (go_at_call 167; with_reducible refine (valid_z p q true hp hq h1 _).mono ?_) | (go_at_call 116; with_reducible refine (sign_zr p g hp hg _).mono ?_)); rintro e9 w2 ⟨rfl, hL⟩; replace HM := HM.call hL; clear hL) | ((with_reducible refine g_ld ?_); refine a_ld HM ?_) | ((with_reducible refine g_bx ?_); refine a_bx HM ?_; clear HM; intro bk w1 HM))
 go_ret2
 exact ⟨rfl, HM.low⟩
theorem Sign_g (s : Bool) (M : Nat) (t : Bool) (N : Nat) (n e : Int) (hr : Hid ((n, e) = if Rt.ok s M t N then ((Bg.toZ s M).sign, 0) else (0, 20))) (hM : M < Bg.lim) (hN : N < Bg.lim) (w : World) :
    Calls Tryz.prog 142 #[.agg (Bg.ratA s M t N)] w fun r w' => r = .returned (.tuple #[.int .i64 n, .int .i64 e]) ∧ Below w.heap.size w w' := by
 have hr2 := hr.out
 cases hk : Rt.ok s M t N with
 | false =>
  rw [hk] at hr2
  obtain ⟨rfl, rfl⟩ : n = 0 ∧ e = 20 := by simpa using hr2
  exact Sign_bad s M t N hM hN hk.symm w
 | true =>
  rw [hk] at hr2
  obtain ⟨rfl, rfl⟩ : n = (Bg.toZ s M).sign ∧ e = 0 := by simpa using hr2
  obtain ⟨e1, z1⟩ := Rt.ok_z hk
  have g := Rt.good (by rw [Bg.toZ_abs]; exact hM) (by rw [Bg.toZ_abs]; exact hN) z1
  rw [e1]
  exact Sign_zz _ _ _ g.lp g.lq z1.symm rfl w
end
section
def Rt.Fit (x : Rat) : Prop := x.num.natAbs < Bg.p2 480 ∧ x.den < Bg.p2 480
@[irreducible] def Rt.qA (x : Rat) : Array Value := Bg.rZ x.num x.den
theorem qA_rZ (x : Rat) : Rt.qA x = Bg.rZ x.num x.den := by unfold Rt.qA; rfl
theorem qA_size (x : Rat) : (Rt.qA x).size = 66 := by rw [qA_rZ]; exact rZ_size _ _
theorem la_q (x : Rat) : LA 43 (Rt.qA x) 0 (.agg (Rt.qA x)) := by rw [qA_rZ]; exact la_rz _ _
theorem sa_q (x : Rat) {c : Array Value} (h : c.size = 66) : SA 43 c 0 (.agg (Rt.qA x)) (Rt.qA x) := by rw [qA_rZ]; exact sa_rz _ _ h
theorem la_qnum (x : Rat) : LA 41 (Rt.qA x) 0 (.agg (Bg.zA x.num)) := by rw [qA_rZ]; exact la_rznum _ _
theorem la_qden (x : Rat) : LA 41 (Rt.qA x) 33 (.agg (Bg.zA x.den)) := by rw [qA_rZ]; exact la_rzden _ _
theorem lt480_lim {n : Nat} (h : n < Bg.p2 480) : n < Bg.lim := Nat.lt_of_lt_of_le h (by have := Bg.p2_mono (show 480 ≤ 1024 by decide); rwa [Bg.p2_lim] at this)
theorem Rt.Fit.ln {x : Rat} (h : Rt.Fit x) : x.num.natAbs < Bg.lim := lt480_lim h.1
theorem Rt.Fit.ld {x : Rat} (h : Rt.Fit x) : ((x.den : Nat) : Int).natAbs < Bg.lim := by rw [Int.natAbs_natCast]; exact lt480_lim h.2
theorem Rt.short_iff {M N : Nat} (hM : M < Bg.lim) (hN : N < Bg.lim) : Rt.short M N = true ↔ M < Bg.p2 480 ∧ N < Bg.p2 480 := by
 unfold Rt.short
 rw [Bool.and_eq_true, decide_eq_true_iff, decide_eq_true_iff]
 exact ⟨fun h => ⟨p2_480 hM h.1, p2_480 hN h.2⟩, fun h => ⟨Bg.bl_le Zo h.1, Bg.bl_le Zo h.2⟩⟩
theorem Rt.Fit.okz {x : Rat} (h : Rt.Fit x) : Rt.okz x.num x.den = true :=
 Rt.okz_of (by rw [Int.natAbs_natCast]; exact (Rt.short_iff h.ln (lt480_lim h.2)).2 h) (by have := x.den_pos; omega) (by rw [Int.natAbs_natCast]; exact x.reduced)
theorem Rt.okz_rat {p q : Int} (hp : p.natAbs < Bg.lim) (hq : q.natAbs < Bg.lim) (h : Rt.okz p q = true) : ∃ x : Rat, Rt.Fit x ∧ p = x.num ∧ q = x.den := by
 have g := Rt.good hp hq h
 have h1 := g.pos
 refine ⟨⟨p, q.natAbs, by omega, g.one⟩, ⟨g.bp, g.bq⟩, rfl, ?_⟩
 show q = ((q.natAbs : Nat) : Int)
 omega
theorem Rt.ok_rat {s t : Bool} {M N : Nat} (hM : M < Bg.lim) (hN : N < Bg.lim) (h : Rt.ok s M t N = true) : ∃ x : Rat, Rt.Fit x ∧ Bg.ratA s M t N = Rt.qA x ∧ Bg.toZ s M = x.num ∧ Bg.toZ t N = x.den := by
 obtain ⟨e1, e2⟩ := Rt.ok_z h
 obtain ⟨x, h1, h2, h3⟩ := Rt.okz_rat (by rw [Bg.toZ_abs]; exact hM) (by rw [Bg.toZ_abs]; exact hN) e2
 exact ⟨x, h1, by rw [e1, h2, h3, qA_rZ], h2, h3⟩
theorem Rt.sg_parts {p q : Int} (h0 : q ≠ 0) : p / Rt.sg p q = (Rat.divInt p q).num ∧ q / Rt.sg p q = (Rat.divInt p q).den := by
 rw [Rat.num_divInt, Rat.den_divInt, if_neg h0]
 have hg : (q.gcd p : Int) = (Nat.gcd p.natAbs q.natAbs : Nat) := by rw [Int.gcd, Nat.gcd_comm]
 have hg' : q.gcd p = Nat.gcd p.natAbs q.natAbs := by rw [Int.gcd, Nat.gcd_comm]
 have d1 : ((Nat.gcd p.natAbs q.natAbs : Nat) : Int) ∣ p := Int.ofNat_dvd_left.2 (Nat.gcd_dvd_left _ _)
 have d2 : ((Nat.gcd p.natAbs q.natAbs : Nat) : Int) ∣ q := Int.ofNat_dvd_left.2 (Nat.gcd_dvd_right _ _)
 rw [hg, hg']
 unfold Rt.sg
 rcases Int.lt_or_gt_of_ne h0 with hq | hq
 ·rw [if_pos hq, Int.sign_eq_neg_one_of_neg hq, Int.ediv_neg, Int.ediv_neg]
  constructor
  ·rw [← Int.neg_ediv_of_dvd d1]; congr 1; omega
  ·rw [← Int.neg_ediv_of_dvd d2, Int.natCast_ediv]; congr 1; omega
 ·rw [if_neg Zo, Int.sign_eq_one_of_pos hq]
  constructor
  ·congr 1; omega
  ·rw [Int.natCast_ediv]; congr 1; omega
theorem Rt.divInt_le {p q : Int} (h0 : q ≠ 0) : (Rat.divInt p q).num.natAbs ≤ p.natAbs ∧ (Rat.divInt p q).den ≤ q.natAbs := by
 obtain ⟨h1, h2⟩ := Rt.sg_parts (p := p) h0
 constructor
 ·rw [← h1]; exact Int.natAbs_ediv_le_natAbs _ _
 ·have := Int.natAbs_ediv_le_natAbs q (Rt.sg p q)
  rw [h2] at this
  simpa using this
noncomputable def Rt.res (z : Rat) : Array Value × Int := open Classical in if Rt.Fit z then (Rt.qA z, 0) else (Bg.rZ 0 0, 10)
theorem Rt.mk_fit {p q n d e : Int} (h0 : q ≠ 0) {z : Rat} (hz : z = Rat.divInt p q) (hf : Rt.Fit z) (h : (n, d, e) = Rt.mk p q) : n = z.num ∧ d = z.den ∧ e = 0 := by
 obtain ⟨h1, h2⟩ := Rt.sg_parts (p := p) h0
 unfold Rt.mk at h
 rw [if_neg h0, h1, h2, ← hz, if_pos (by rw [Int.natAbs_natCast]; exact (Rt.short_iff hf.ln (lt480_lim hf.2)).2 hf)] at h
 simpa using h
theorem Rt.add_div (x y : Rat) : x + y = Rat.divInt (Rt.num false x.num x.den y.num y.den) (x.den * y.den) := by
 have h1 : (x.den : Int) ≠ 0 := by have := x.den_pos; omega
 have h2 : (y.den : Int) ≠ 0 := by have := y.den_pos; omega
 conv => lhs; rw [← Rat.num_divInt_den x, ← Rat.num_divInt_den y]
 rw [Rat.divInt_add_divInt _ _ h1 h2]
 rfl
theorem Rt.den_ne (x : Rat) : (x.den : Int) ≠ 0 := by have := x.den_pos; omega
theorem Rt.fit_zero : Rt.Fit 0 := ⟨by simp [Bg.p2_pos], by have := Bg.p2_mono (show 1 ≤ 480 by decide); have h : Bg.p2 1 = 2 := (by unfold Bg.p2; rfl); show 1 < _; omega⟩
def Rt.cmp (x y : Rat) : Int := (x.num * y.den - y.num * x.den).sign
theorem Rt.cmp_lt {x y : Rat} : Rt.cmp x y = -1 ↔ x < y := by
 unfold Rt.cmp; rw [Int.sign_eq_neg_one_iff_neg, Rat.lt_iff]; omega
theorem Rt.cmp_gt {x y : Rat} : Rt.cmp x y = 1 ↔ y < x := by
 unfold Rt.cmp; rw [Int.sign_eq_one_iff_pos, Rat.lt_iff]; omega
theorem Rt.cmp_eq {x y : Rat} : Rt.cmp x y = 0 ↔ x = y := by
 unfold Rt.cmp
 rw [Int.sign_eq_zero_iff_zero]
 constructor
 ·intro h
  have h1 : x.num * y.den = y.num * x.den := by omega
  conv => lhs; rw [← Rat.num_divInt_den x]
  conv => rhs; rw [← Rat.num_divInt_den y]
  rwa [Rat.divInt_eq_divInt_iff (Rt.den_ne x) (Rt.den_ne y)]
 ·rintro rfl; omega
theorem Rt.cmp_cases (x y : Rat) : (Rt.cmp x y = -1 ∧ x < y) ∨ (Rt.cmp x y = 0 ∧ x = y) ∨ (Rt.cmp x y = 1 ∧ y < x) := by
 rcases sign_v (x.num * y.den - y.num * x.den) with h | h | h
 ·exact .inl ⟨h, Rt.cmp_lt.1 h⟩
 ·exact .inr (.inl ⟨h, Rt.cmp_eq.1 h⟩)
 ·exact .inr (.inr ⟨h, Rt.cmp_gt.1 h⟩)
theorem cmp_q (x y : Rat) (g : Int) (hx : Rt.Fit x) (hy : Rt.Fit y) (hg : Hid (g = Rt.cmp x y)) (w : World) :
    Calls Tryz.prog 143 #[.agg (Rt.qA x), .agg (Rt.qA y)] w fun r w' => r = .returned (.tuple #[.int .i64 g, .int .i64 0]) ∧ Below w.heap.size w w' := by
 rw [qA_rZ, qA_rZ, rZ_ratA x.num, rZ_ratA y.num]
 exact Cmp_g _ _ _ _ _ _ _ _ g 0 (Zi (by rw [Bg.toZ_iv, Bg.toZ_iv, Bg.toZ_iv, Bg.toZ_iv, show Rt.ok _ _ _ _ = true from hx.okz, show Rt.ok _ _ _ _ = true from hy.okz, hg.out]; rfl)) hx.ln hx.ld hy.ln hy.ld w
end
section
theorem Rt.fit_le {x : Rat} {p q : Int} (h0 : q ≠ 0) (hp : p.natAbs < Bg.p2 480) (hq : q.natAbs < Bg.p2 480) (hx : x = Rat.divInt p q) : Rt.Fit x := by
 obtain ⟨l1, l2⟩ := Rt.divInt_le (p := p) h0
 rw [hx]
 exact ⟨by omega, by omega⟩
theorem Rt.mk_q {x : Rat} {p q : Int} (h0 : q ≠ 0) (hp : p.natAbs < Bg.p2 480) (hq : q.natAbs < Bg.p2 480) (hx : x = Rat.divInt p q) : Hid ((x.num, (x.den : Int), (0 : Int)) = Rt.mk p q) := by
 obtain ⟨n, d, e, h⟩ : ∃ n d e, (n, d, e) = Rt.mk p q := ⟨_, _, _, rfl⟩
 obtain ⟨rfl, rfl, rfl⟩ := Rt.mk_fit h0 hx (Rt.fit_le h0 hp hq hx) h
 exact Zi h
def RatPost (W : World) (tb m k : Nat) (w : World) (e : Ending) (w' : World) : Prop :=
 ∃ x : Rat, e = .returned (.agg (Rt.qA x)) ∧ x.num.natAbs < Bg.p2 k ∧ x.den < Bg.p2 k ∧ Tp W tb (m + 1000) w' ∧ w.grownBy w' (some tb)
end
section
theorem sign_q (x : Rat) (n : Int) (hx : Rt.Fit x) (hn : Hid (n = x.num.sign)) (w : World) :
    Calls Tryz.prog 142 #[.agg (Rt.qA x)] w fun r w' => r = .returned (.tuple #[.int .i64 n, .int .i64 0]) ∧ Below w.heap.size w w' := by
 rw [qA_rZ, rZ_ratA]
 exact Sign_g _ _ _ _ n 0 (Zi (by rw [Bg.toZ_iv, show Rt.ok _ _ _ _ = true from hx.okz, hn.out]; rfl)) hx.ln hx.ld w
def Rt.abs (x : Rat) : Rat := ⟨x.num.natAbs, x.den, x.den_nz, by simpa using x.reduced⟩
theorem valid_q (x : Rat) (hx : Rt.Fit x) (w : World) :
    Calls Tryz.prog 167 #[.agg (Rt.qA x)] w fun r w' => r = .returned (.bool true) ∧ Below w.heap.size w w' := by
 rw [qA_rZ]; exact valid_z _ _ true hx.ln hx.ld (Zi hx.okz.symm) w
theorem whole_q (n : Int) (x : Rat) (hn1 : -9223372036854775808 ≤ n) (hn2 : n < 9223372036854775808) (hx : Hid (x = (n : Rat))) (w : World) :
    Calls Tryz.prog 144 #[.int .i64 n] w fun r w' => r = .returned (.agg (Rt.qA x)) ∧ Below w.heap.size w w' := by
 rw [hx.out, qA_rZ, Rat.num_intCast, Rat.den_intCast]
 exact whole_w n hn1 hn2 w
end
section
structure Rt.Bd (x : Rat) (i j : Nat) : Prop where
 n : x.num.natAbs < Bg.p2 i
 d : x.den < Bg.p2 j
theorem Rt.Bd.fit {x : Rat} {i j : Nat} (h : Rt.Bd x i j) (hi : i ≤ 480 := by decide) (hj : j ≤ 480 := by decide) : Rt.Fit x :=
 ⟨Nat.lt_of_lt_of_le h.n (Bg.p2_mono hi), Nat.lt_of_lt_of_le h.d (Bg.p2_mono hj)⟩
theorem Rt.Bd.divInt {p q : Int} {i j : Nat} (h0 : q ≠ 0) (hp : p.natAbs < Bg.p2 i) (hq : q.natAbs < Bg.p2 j) : Rt.Bd (Rat.divInt p q) i j := by
 obtain ⟨l1, l2⟩ := Rt.divInt_le (p := p) h0
 exact ⟨by omega, by omega⟩
end
section
namespace Ac
def fl (x : Rat) : Int := x.num / x.den
def rm (x : Rat) : Int := x.num % x.den
def rhe (x : Rat) : Int := if 2 * rm x < x.den then fl x else if (x.den : Int) < 2 * rm x then fl x + 1 else if fl x % 2 = 1 then fl x + 1 else fl x
theorem den_pos (x : Rat) : (0 : Int) < x.den := by have := x.den_pos; omega
end Ac
end
section
theorem qA_one (x : Rat) : (Rt.qA x).all (·.oneCell') = true := by rw [qA_rZ, rZ_ratA]; exact ratA_one _ _ _ _
def FieldC (j : Nat) (cs : Array Value) : Prop := ∃ l : List Rat, l.length = j ∧ (∀ x ∈ l, Rt.Bd x 30 20) ∧ cs = rowsOf (l.map Rt.qA ++ List.replicate (3 - j) (Bg.rZ 0 0))
end
section
def Rt.Vc : Option Rat → Array Value → Prop
 | some x, c => Rt.Fit x ∧ c = Rt.qA x
 | none, c => ∃ s M t N, M < Bg.lim ∧ N < Bg.lim ∧ Rt.ok s M t N = false ∧ c = Bg.ratA s M t N
theorem la_c {c : Array Value} (h : c.size = 66) : LA 43 c 0 (.agg c) := LA.whole Zk (by rw [h]; exact sT_rat)
theorem sa_c {c d : Array Value} (h : d.size = 66) (h1 : d.all (·.oneCell') = true) (hc : c.size = 66) : SA 43 c 0 (.agg d) d := SA.whole (by rw [h]; exact sT_rat) h1 (by rw [h, hc])
theorem Rt.vc_any {s t : Bool} {M N : Nat} (hM : M < Bg.lim) (hN : N < Bg.lim) : ∃ o, Rt.Vc o (Bg.ratA s M t N) := by
 cases h : Rt.ok s M t N with
 | true =>
  obtain ⟨x, hx, e, _⟩ := Rt.ok_rat hM hN h
  exact ⟨some x, hx, e⟩
 | false => exact ⟨none, s, M, t, N, hM, hN, h, rfl⟩
noncomputable def Rt.addV (acc : Rat) : Option Rat → Array Value × Int
 | some x => Rt.res (acc + x)
 | none => (Bg.rZ 0 0, 20)
noncomputable def Rt.sumV (acc : Rat) : List (Option Rat) → Option Rat × Int
 | [] => (some acc, 0)
 | none :: _ => (none, 20)
 | some x :: l => open Classical in if Rt.Fit (acc + x) then Rt.sumV (acc + x) l else (none, 10)
def Rt.outV : Option Rat → Array Value
 | some x => Rt.qA x
 | none => Bg.rZ 0 0
inductive Rt.Vcs : List (Option Rat) → List (Array Value) → Prop
 | nil : Rt.Vcs [] []
 | cons {o : Option Rat} {c : Array Value} {os : List (Option Rat)} {cs : List (Array Value)} (h : Rt.Vc o c) (t : Rt.Vcs os cs) : Rt.Vcs (o :: os) (c :: cs)
end
section
theorem z9_108 {P : Prop} (h : P := by
 have h3 : (-v).tmod n < n := Int.tmod_lt_of_pos (-v) Zo
 rw [Int.neg_tmod] at h3
 omega) : P := h
end
section
def Sc.md (v n : Int) : Int := if v.tmod n < 0 then v.tmod n + n else v.tmod n
theorem Sc.md_in {v n : Int} (h0 : 1 ≤ n) : 0 ≤ Sc.md v n ∧ Sc.md v n < n := by
 have h1 : v.tmod n < n := by
  have := Int.tmod_lt_of_pos v (show 0 < n by omega); exact this
 have h2 : -n < v.tmod n := by
  exact z9_108
 unfold Sc.md
 split <;> omega
theorem smod_any (v n z : Int) (w : World) (h0 : 1 ≤ n) (h1 : n ≤ 4611686018427387904) (hz : Hid (z = Sc.md v n)) :
    Calls Tryz.prog 10 #[.int .i64 v, .int .i64 n] w fun e w' => e = .returned (.int .i64 z) ∧ w' = w := by
 have h1 : v.tmod n < n := by
  have := Int.tmod_lt_of_pos v (show 0 < n by omega); exact this
 have h2 : -n < v.tmod n := by
  exact z9_108
 obtain ⟨q, hq⟩ : ∃ q, q = v.tmod n := ⟨_, rfl⟩
 have hz2 : z = if q < 0 then q + n else q := by rw [hz.out, Sc.md, hq]
 rw [← hq] at h1 h2
 have hb : v.tmod n = q := hq.symm
 have hn0 : ¬ n < 1 := by omega
 have hn1 : ¬ n = 0 := by omega
 clear hq hz
 by_cases hneg : q < 0
 ·rw [if_pos hneg] at hz2
  subst hz2
  go_enter Tryz.func10, Tryz.ntmps10
  go_wp2
  go_ret
  exact ⟨rfl, rfl⟩
 ·rw [if_neg hneg] at hz2
  subst hz2
  go_enter Tryz.func10, Tryz.ntmps10
  go_wp2
  go_ret
  exact ⟨rfl, rfl⟩
theorem smod_q {v n z : Int} {w : World} {k : Nat} (h0 : 1 ≤ n) (h1 : n ≤ 4611686018427387904) (hz : Hid (z = Sc.md v n)) :
    Calls Tryz.prog 10 #[.int .i64 v, .int .i64 n] (w.drewN k) fun e w'' => e = .returned (.int .i64 z) ∧ ∃ m, w'' = w.drewN m :=
 Calls.quiet_of_same (n := k) (smod_any v n z (w.drewN k) h0 h1 hz)
theorem snext_inf (W : World) (tb m : Nat) (n : Int) (w : World) (hT : Tp W tb m w) (h0 : 1 ≤ n) (h1 : n ≤ 4611686018427387904) :
    Calls Tryz.prog 20 #[.pointer (some ⟨tb, 0, none⟩), .int .i64 n] w (NextPost W tb m n w) := by
 have HT0 := Zi hT
 obtain ⟨_, hbl, ⟨L, xs, c, at_, rfl, ha0, ham, hI, hxl⟩, hb, hle⟩ := hT
 have hc0 : w.cell? ⟨tb, 0, none⟩ = some (.slice L xs.length c) := hbl.cell 0
 have hc1 : w.cell? ⟨tb, 1, none⟩ = some (.int .i64 at_) := hbl.cell 1
 have hf1 : w.frozen? ⟨tb, 1, none⟩ = false := hbl.free 1
 have HI := Zi hI
 have HK := Zi hb
 have HS := Zi (next_step hb hle hbl ha0 ham hI hxl)
 have HB : Hid (∀ N, Blk ((w.drewN N).setCell ⟨tb, 1, none⟩ (.int .i64 (at_ + 1))) tb #[.slice L xs.length c, .int .i64 (at_ + 1)]) := Zi (fun N => (hbl.drewN N).set 1 (.int .i64 (at_ + 1)))
 clear hb hbl hI
 by_cases hlt : at_ < xs.length
 ·have ham' : at_ + 1 ≤ 9223372036854775807 := by omega
  obtain ⟨b, off, rfl, hbW, hcell⟩ := HI.out.at_ (j := at_.toNat) Zo
  have hcx := (((HI.out.below HK.out).at_ (j := at_.toNat) Zo))
  obtain ⟨b2, off2, e2, hbb, hcell2⟩ := hcx
  injection e2 with e2
  injection e2 with e2 e3
  subst e2 e3
  have hcx := hcell2 at_.toNat Zo
  have hne : b ≠ tb := by omega
  clear hcell hcell2
  obtain ⟨x, hx⟩ : ∃ x, x = xs.getD at_.toNat 0 := ⟨_, rfl⟩
  rw [← hx] at hcx
  clear hx
  obtain ⟨z, hz⟩ := Zh (Sc.md x n)
  obtain ⟨z0, z1⟩ := Sc.md_in (v := x) h0
  rw [← hz.out] at z0 z1
  go_enter Tryz.func20, Tryz.ntmps20
  go_wp2
  go_quiet (fail)
  go_wp2
  obtain ⟨hT9, hg9⟩ := HS.out nq
  have hcx9 := ((turn_cell hg9).1 b (off + at_.toNat) hbb hne).trans hcx
  have hb9 := HB.out nq
  obtain ⟨w9, hw9⟩ : ∃ w9, w9 = (w.drewN nq).setCell ⟨tb, 1, none⟩ (.int .i64 (at_ + 1)) := ⟨_, rfl⟩
  rw [← hw9] at hT9 hg9 hcx9 hb9 ⊢
  have hc9 : w9.cell? ⟨tb, 0, none⟩ = some (.slice (some ⟨b, off, none⟩) xs.length c) := hb9.cell 0
  have hd9 : w9.cell? ⟨tb, 1, none⟩ = some (.int .i64 (at_ + 1)) := hb9.cell 1
  have HT9 := Zi hT9
  have HG9 := Zi hg9
  have e9 : at_ + 1 - 1 = at_ := by omega
  clear hw9 hc0 hc1 hcx hf1 hT9 hg9 hb9
  go_quiet (with_reducible exact smod_q h0 h1 hz)
  go_wp2
  go_ret
  exact ⟨z, rfl, z0, z1, HT9.out.after (below_drewN (Below.refl _ _) _), turn_trans HG9.out (turn_below (below_drewN (Below.refl _ _) _))⟩
 ·go_enter Tryz.func20, Tryz.ntmps20
  go_wp2
  go_quiet (fail)
  go_wp2
  go_ret
  exact ⟨0, rfl, by omega, by omega, (HT0.out.mono Zo).after (below_drewN (Below.refl _ _) _), turn_below (below_drewN (Below.refl _ _) _)⟩
theorem spick_inf (W : World) (tb m : Nat) (A : Option Addr) (ds : List Int) (c : Nat) (w : World) (hT : Tp W tb m w) (hA : IntsAt w A ds) (hne : ∀ b o, A = some ⟨b, o, none⟩ → b ≠ tb) (hd : 0 < ds.length) (hd2 : ds.length ≤ 1000) :
    Calls Tryz.prog 26 #[.pointer (some ⟨tb, 0, none⟩), .slice A ds.length c] w (PickPost W tb m ds w) := by
 have HT := Zi hT
 have HA := Zi hA
 have HNE := Zi hne
 clear hT hA hne
 go_enter Tryz.func26, Tryz.ntmps26
 go_wp2_with fail
 refine (snext_inf W tb m ds.length _ HT.out Zo Zo).mono ?_
 rintro e w' ⟨v, rfl, v0, v1, hT, hg⟩
 obtain ⟨b, off, rfl, hbl, hcell⟩ := (HA.out.turn hg HNE.out).at_ (j := v.toNat) Zo
 have hcv := hcell v.toNat Zo
 have hmem : ds.getD v.toNat 0 ∈ ds := by
  have : v.toNat < ds.length := by omega
  simp only [List.getD, List.getElem?_eq_getElem this, Option.getD_some]
  exact List.getElem_mem this
 have HM := Zi hmem
 have HT2 := Zi hT
 have HG := Zi hg
 clear hcell hmem hT hg
 obtain ⟨x, hx⟩ : ∃ x, x = ds.getD v.toNat 0 := ⟨_, rfl⟩
 rw [← hx] at hcv HM
 clear hx
 go_wp2
 go_ret
 exact ⟨x, rfl, HM.out, HT2.out, HG.out⟩
theorem spick_newi {W w0 w : World} {X : List Nat} {L : List (Nat × Array Value)} {tb m : Nat} {cs : Array Value} (HM : Mem w0 X L w) (hl : Look L tb cs) (hc : TapeC W m cs) (h0 : Below W.heap.size W w0) (hX : ∀ b ∈ X, W.heap.size ≤ b) (ds : List Int) (T : TypeId) (hd : 0 < ds.length) (hd2 : ds.length ≤ 1000) :
    Calls Tryz.prog 26 #[.pointer (some ⟨tb, 0, none⟩), .slice (some ⟨w.heap.size, 0, none⟩) ds.length ds.length] (w.alloc (.cells (ds.map (Value.int .i64)).toArray T)) fun e w' =>
     ∃ (v : Int) (c' : Array Value), e = .returned (.int .i64 v) ∧ v ∈ ds ∧ TapeC W (m + 1) c' ∧ Blk w' tb c' ∧ Only [tb] w w' := by
 have hlt := (HM.get hl).lt
 refine (spick_inf W tb m _ ds _ _ ((HM.new _ T).tp (.there hl) hc h0 hX) (ints_new w ds T) (fun b o e => by cases e; omega) hd hd2).mono ?_
 rintro e w' ⟨v, rfl, hv, ⟨c', h1, h2, _⟩, hg⟩
 exact ⟨v, c', rfl, hv, h2, h1, ((Only.of (below_new w _) [tb]).trans (Only.of_grown hg))⟩
def Sc.names : List ByteArray := [{ data := #[97] }, { data := #[98] }, { data := #[97, 108, 112, 104, 97] }, { data := #[98, 101, 116, 97] }, { data := #[107, 49] }, { data := #[122, 57] }]
end
end Go.Proofs.YtkiempioeffhbaaGreatDoor
