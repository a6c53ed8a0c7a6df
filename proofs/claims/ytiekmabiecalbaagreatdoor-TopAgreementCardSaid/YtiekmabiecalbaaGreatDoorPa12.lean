/- Walks. -/
import Derived.Test.YtiekmabiecalbaaGreatDoorPa11
namespace Go.Proofs.YtiekmabiecalbaaGreatDoor
set_option maxHeartbeats 16000000
open Go.RowKit
set_option maxRecDepth 8000
section
theorem z9_47 {P : Prop} (h : P := by
 obtain rfl : f = false := hff.out
 go_wp2_with (first | (go_at_call 149; (with_reducible refine Zc HM (fits_n s M t N true hM hN h1 _) ?_; clear HM; intro w2 HM)) | (go_at_call 152; (with_reducible refine Zc HM (canonical_n s M true hM h2 _) ?_; clear HM; intro w2 HM)) | (go_at_call 152; (with_reducible refine Zc HM (canonical_n t N true hN h3 _) ?_; clear HM; intro w2 HM)) | (go_at_call 78; (with_reducible refine Zc HM (sign_any t N hN _ hg _) ?_; clear HM; intro w2 HM)) | (first | ((with_reducible refine g_ld ?_); refine a_ld HM ?_) | ((with_reducible refine g_bx ?_); refine a_bx HM ?_; clear HM; intro bk w1 HM)))
 go_ret
 exact ⟨rfl, HM.low⟩) : P := h
theorem z9_48 {P : Prop} (h : P := by
 refine bodyPost_ret (r_ct rfl rfl (HM.get Zl) (la_rz _ _)) rfl ⟨rfl, HM.low⟩) : P := h
theorem z9_49 {P : Prop} (h : P := by
 rw [hg0.out, Int.natAbs_natCast]
 exact Nat.lt_of_le_of_lt (Nat.gcd_le_right _ Zo) hN) : P := h
theorem z9_50 {P : Prop} (h : P := by
 refine j_one 8 fun K9 hK9 => ?_
 refine j_st HM ?_; clear HM; intro w1 HM
 refine hK9 _ _ heldN ?_; clear hK9 K9
 refine wpAnyL_done Zk ?_ _
 (go_wp2_with fail; go_meet; (case rel => refine ⟨_, rfl, ?_⟩; refine HM.less ?_; (repeat (first | exact Sub.nil | refine Sub.keep ?_ | refine Sub.skip ?_))))) : P := h
theorem z9_51 {P : Prop} (h : P := by
 refine j_one 5 fun K9 hK9 => ?_
 refine j_call2 (v := ?_) HM ?_ ?_; rotate_left 1; (focus (with_reducible (first | exact whole_iz s M G x1 hM lG hG0.out hx1 _ | exact whole_iz t N G x2 hN lG hG0.out hx2 _))); clear HM; intro w1 HM
 refine hK9 _ _ (heldE HM) ?_; clear hK9 K9
 refine t_pure (i := 6) (v := .agg (Bg.rZ x1 x2)) rfl rfl Zk (fun _ _ _ h => h) (heldE HM) Zv ?_ ?_; (focus (exact h_br Zv Zv Zv)); ((try simp only [Za]); (try simp only [Zx]); (try simp only [Zy]))
 refine j_one 8 fun K9 hK9 => ?_
 refine j_st HM ?_; clear HM; intro w1 HM
 refine hK9 _ _ heldN ?_; clear hK9 K9
 refine wpAnyL_done Zk ?_ _
 (go_wp2_with fail; go_meet; (case rel => refine ⟨_, rfl, ?_⟩; refine HM.less ?_; (repeat (first | exact Sub.nil | refine Sub.keep ?_ | refine Sub.skip ?_))))) : P := h
theorem z9_52 {P : Prop} (h : P := by
 go_wp2_with fail
 go_meet
 case rel => refine HM.less ?_; (repeat (first | exact Sub.nil | refine Sub.keep ?_ | refine Sub.skip ?_))) : P := h
theorem z9_53 {P : Prop} (h : P := by
 refine bodyPost_ret (r_ct (b := b4) (k := 0) rfl rfl (HM.get Zl) (la_rz _ _)) rfl ⟨rfl, HM.low⟩) : P := h
theorem z9_54 {P : Prop} (h : P := by
 refine bodyPost_ret (r_c rfl rfl (HM.get Zl) (la_rz _ _)) rfl ⟨rfl, HM.low⟩) : P := h
end
section
theorem mul_n (s t : Bool) (M N : Nat) (z v e : Int) (hM : M < Bg.lim) (hN : N < Bg.lim) (hzz : Hid (z = Bg.toZ s M * Bg.toZ t N)) (hv : Hid (v = Bg.resZ z)) (he : Hid (e = Bg.resE z)) (w : World) :
    Calls Tryz.prog 118 #[.agg (Bg.intA s M), .agg (Bg.intA t N)] w fun r w' => r = .returned (.tuple #[.agg (Bg.zA v), .int .i64 e]) ∧ Below w.heap.size w w' := by
 rw [hv.out, he.out, ← Bg.resV_eq]; exact mul_any0 s t M N hM hN z hzz w
theorem divMod_r (s t : Bool) (M N : Nat) (x y : Int) (hM : M < Bg.lim) (hN : N < Bg.lim) (h0 : 0 < N) (hx : Hid (x = Bg.toZ s M / Bg.toZ t N)) (hy : Hid (y = Bg.toZ s M % Bg.toZ t N)) (w : World) :
    Calls Tryz.prog 119 #[.agg (Bg.intA s M), .agg (Bg.intA t N)] w fun e w' => e = .returned (.tuple #[.agg (Bg.zA x), .agg (Bg.zA y), .int .i64 0]) ∧ Below w.heap.size w w' :=
 divMod_any0 s t M N hM hN h0 (divOk_any h0 hM hN) x y hx hy w
theorem gcd_r (s t : Bool) (M N : Nat) (z : Int) (hM : M < Bg.lim) (hN : N < Bg.lim) (hz : Hid (z = (Nat.gcd M N : Nat))) (w : World) :
    Calls Tryz.prog 147 #[.agg (Bg.intA s M), .agg (Bg.intA t N)] w fun e w' => e = .returned (.agg (Bg.zA z)) ∧ Below w.heap.size w w' :=
 gcd_any0 s t M N hM hN (fun _ _ h0 hA hB => divOk_any h0 hA (Nat.lt_of_le_of_lt hB hN)) z hz w
theorem sign_v (g : Int) : g.sign = -1 ∨ g.sign = 0 ∨ g.sign = 1 := by
 rcases Int.lt_trichotomy g 0 with h | h | h
 ·exact .inl (Int.sign_eq_neg_one_of_neg h)
 ·right; left; rw [h]; rfl
 ·right; right; exact Int.sign_eq_one_of_pos h
def Rt.short (M N : Nat) : Bool := decide (Bg.bl M ≤ 480) && decide (Bg.bl N ≤ 480)
def Rt.ok (s : Bool) (M : Nat) (t : Bool) (N : Nat) : Bool := Rt.short M N && ((!s || decide (M ≠ 0)) && ((!t || decide (N ≠ 0)) && (decide (0 < (Bg.toZ t N).sign) && decide ((Nat.gcd M N : Int) = 1))))
def Rt.sg (p q : Int) : Int := if q < 0 then -(Nat.gcd p.natAbs q.natAbs : Int) else (Nat.gcd p.natAbs q.natAbs : Int)
def Rt.mk (p q : Int) : Int × Int × Int :=
 if q = 0 then (0, 0, 11) else if Rt.short (p / Rt.sg p q).natAbs (q / Rt.sg p q).natAbs then (p / Rt.sg p q, q / Rt.sg p q, 0) else (0, 0, 10)
theorem Rt.sg_pos {p q : Int} (h : q ≠ 0) : 0 < Nat.gcd p.natAbs q.natAbs := Nat.gcd_pos_of_pos_right _ Zo
theorem Rt.sg_ne {p q : Int} (h : q ≠ 0) : Rt.sg p q ≠ 0 := by
 have := Rt.sg_pos (p := p) h
 unfold Rt.sg; split <;> omega
end
section
theorem product_n (s t : Bool) (M N : Nat) (z v : Int) (hM : M < Bg.lim) (hN : N < Bg.lim) (hz : Hid (z = Bg.toZ s M * Bg.toZ t N)) (hv : Hid (v = Bg.resZ z)) (w : World) :
    Calls Tryz.prog 115 #[.agg (Bg.intA s M), .agg (Bg.intA t N)] w fun r w' => r = .returned (.agg (Bg.zA v)) ∧ Below w.heap.size w w' := by
 have HM := Mem.start w
 obtain ⟨e, he⟩ := Zh (Bg.resE z)
 go_enter Tryz.func115, Tryz.ntmps115
 go_wp2_with (first | (go_at_call 118; (with_reducible refine Zc HM (mul_n s t M N z v e hM hN hz hv he _) ?_; clear HM; intro w2 HM)) | (first | ((with_reducible refine g_ld ?_); refine a_ld HM ?_) | ((with_reducible refine g_st ?_); refine a_st HM ?_; clear HM; intro w1 HM) | ((with_reducible refine g_al ?_); refine a_al HM ?_; clear HM; intro bk w1 HM) | ((with_reducible refine g_bx ?_); refine a_bx HM ?_; clear HM; intro bk w1 HM)))
 exact z9_27
theorem whole_n (s t : Bool) (M N : Nat) (x : Int) (hM : M < Bg.lim) (hN : N < Bg.lim) (h0 : 0 < N) (hx : Hid (x = Bg.toZ s M / Bg.toZ t N)) (w : World) :
    Calls Tryz.prog 148 #[.agg (Bg.intA s M), .agg (Bg.intA t N)] w fun r w' => r = .returned (.agg (Bg.zA x)) ∧ Below w.heap.size w w' := by
 have HM := Mem.start w
 obtain ⟨y, hy⟩ := Zh (Bg.toZ s M % Bg.toZ t N)
 go_enter Tryz.func148, Tryz.ntmps148
 go_wp2_with (first | (go_at_call 119; (with_reducible refine Zc HM (divMod_r s t M N x y hM hN h0 hx hy _) ?_; clear HM; intro w2 HM)) | (first | ((with_reducible refine g_ld ?_); refine a_ld HM ?_) | ((with_reducible refine g_st ?_); refine a_st HM ?_; clear HM; intro w1 HM) | ((with_reducible refine g_al ?_); refine a_al HM ?_; clear HM; intro bk w1 HM) | ((with_reducible refine g_bx ?_); refine a_bx HM ?_; clear HM; intro bk w1 HM)))
 exact z9_27
theorem canonical_n (s : Bool) (M : Nat) (f : Bool) (hM : M < Bg.lim) (hf : Hid (f = (!s || decide (M ≠ 0)))) (w : World) :
    Calls Tryz.prog 152 #[.agg (Bg.intA s M)] w fun r w' => r = .returned (.bool f) ∧ Below w.heap.size w w' := by
 have HM := Mem.start w
 cases s with
 | false =>
  obtain rfl : f = true := by rw [hf.out]; rfl
  go_enter Tryz.func152, Tryz.ntmps152
  go_wp2_with (first | ((with_reducible refine g_ld ?_); refine a_ld HM ?_) | ((with_reducible refine g_bx ?_); refine a_bx HM ?_; clear HM; intro bk w1 HM))
  go_ret
  exact ⟨rfl, HM.low⟩
 | true =>
  obtain ⟨g, hg⟩ := Zh ((Bg.toZ true M).sign)
  by_cases h0 : M = 0
  ·obtain rfl : f = false := by rw [hf.out]; simp [h0]
   obtain rfl : g = 0 := by rw [hg.out, h0]; rfl
   clear h0
   go_enter Tryz.func152, Tryz.ntmps152
   go_wp2_with (first | (go_at_call 78; (with_reducible refine Zc HM (sign_any true M hM 0 hg _) ?_; clear HM; intro w2 HM)) | (first | ((with_reducible refine g_ld ?_); refine a_ld HM ?_) | ((with_reducible refine g_bx ?_); refine a_bx HM ?_; clear HM; intro bk w1 HM)))
   go_ret
   exact ⟨rfl, HM.low⟩
  ·obtain rfl : f = true := by rw [hf.out]; simp [h0]
   obtain rfl : g = -1 := by rw [hg.out]; exact Int.sign_eq_neg_one_of_neg (by simp [Bg.toZ]; omega)
   clear h0
   go_enter Tryz.func152, Tryz.ntmps152
   go_wp2_with (first | (go_at_call 78; (with_reducible refine Zc HM (sign_any true M hM (-1) hg _) ?_; clear HM; intro w2 HM)) | (first | ((with_reducible refine g_ld ?_); refine a_ld HM ?_) | ((with_reducible refine g_bx ?_); refine a_bx HM ?_; clear HM; intro bk w1 HM)))
   go_ret
   exact ⟨rfl, HM.low⟩
theorem fits_n (s : Bool) (M : Nat) (t : Bool) (N : Nat) (f : Bool) (hM : M < Bg.lim) (hN : N < Bg.lim) (hf : Hid (f = Rt.short M N)) (w : World) :
    Calls Tryz.prog 149 #[.agg (Bg.ratA s M t N)] w fun r w' => r = .returned (.bool f) ∧ Below w.heap.size w w' := by
 have HM := Mem.start w
 obtain ⟨m, hm⟩ : ∃ m : Int, Hid (m = (Bg.bl M : Int)) := ⟨_, rfl⟩
 obtain ⟨n, hn⟩ : ∃ m : Int, Hid (m = (Bg.bl N : Int)) := ⟨_, rfl⟩
 have l1 := la_rnum s M t N
 have l2 := la_rden s M t N
 by_cases h1 : Bg.bl M ≤ 480
 ·have h1' : m ≤ 480 := by rw [hm.out]; omega
  have hf2 : Hid (f = decide (n ≤ 480)) := Zi (by rw [hf.out, hn.out]; unfold Rt.short; simp [h1]; omega)
  clear h1
  go_enter Tryz.func149, Tryz.ntmps149
  go_wp2_with (first | (go_at_call 196; (with_reducible refine Zc HM (bits_num s M m hM hm _) ?_; clear HM; intro w2 HM)) | (go_at_call 196; (with_reducible refine Zc HM (bits_num t N n hN hn _) ?_; clear HM; intro w2 HM)) | (first | ((with_reducible refine g_ld ?_); refine a_ld HM ?_) | ((with_reducible refine g_bx ?_); refine a_bx HM ?_; clear HM; intro bk w1 HM)))
  go_ret
  exact ⟨by rw [hf2.out]; rfl, HM.low⟩
 ·have h1' : decide (m ≤ 480) = false := by rw [hm.out]; simp; omega
  obtain rfl : f = false := by rw [hf.out]; unfold Rt.short; simp [h1]
  clear h1
  go_enter Tryz.func149, Tryz.ntmps149
  go_wp2_with (first | (go_at_call 196; (with_reducible refine Zc HM (bits_num s M m hM hm _) ?_; clear HM; intro w2 HM)) | (first | ((with_reducible refine g_ld ?_); refine a_ld HM ?_) | ((with_reducible refine g_bx ?_); refine a_bx HM ?_; clear HM; intro bk w1 HM)))
  go_ret
  exact ⟨rfl, HM.low⟩
theorem valid_n (s : Bool) (M : Nat) (t : Bool) (N : Nat) (f : Bool) (hM : M < Bg.lim) (hN : N < Bg.lim) (hf : Hid (f = Rt.ok s M t N)) (w : World) :
    Calls Tryz.prog 106 #[.agg (Bg.ratA s M t N)] w fun r w' => r = .returned (.bool f) ∧ Below w.heap.size w w' := by
 have HM := Mem.start w
 obtain ⟨f1, h1⟩ := Zh (Rt.short M N)
 obtain ⟨f2, h2⟩ := Zh ((!s || decide (M ≠ 0)))
 obtain ⟨f3, h3⟩ := Zh ((!t || decide (N ≠ 0)))
 obtain ⟨g, hg⟩ := Zh ((Bg.toZ t N).sign)
 obtain ⟨z, hz⟩ : ∃ z : Int, Hid (z = (Nat.gcd M N : Nat)) := ⟨_, rfl⟩
 obtain ⟨f5, h5⟩ := Zh (decide (z = 1))
 have hff : Hid (f = (f1 && (f2 && (f3 && (decide (0 < g) && f5))))) := Zi (by rw [hf.out, h1.out, h2.out, h3.out, hg.out, h5.out, hz.out]; rfl)
 have hgv : g = -1 ∨ g = 0 ∨ g = 1 := by rw [hg.out]; exact sign_v _
 have lz : z.natAbs < Bg.lim := by
  rw [hz.out, Int.natAbs_natCast]
  rcases Nat.eq_zero_or_pos M with h | h
  ·rw [h, Nat.gcd_zero_left]; exact hN
  ·exact Nat.lt_of_le_of_lt (Nat.gcd_le_left _ h) hM
 have l1 : ((1 : Int)).natAbs < Bg.lim := small_lim Zd
 have k1 := la_rnum s M t N
 have k2 := la_rden s M t N
 have k3 := la_rat s M t N
 clear hf
 go_enter Tryz.func106, Tryz.ntmps106
 cases f1 with
 | false =>
  obtain rfl : f = false := hff.out
  go_wp2_with (first | (go_at_call 149; (with_reducible refine Zc HM (fits_n s M t N false hM hN h1 _) ?_; clear HM; intro w2 HM)) | (first | ((with_reducible refine g_ld ?_); refine a_ld HM ?_) | ((with_reducible refine g_bx ?_); refine a_bx HM ?_; clear HM; intro bk w1 HM)))
  go_ret
  exact ⟨rfl, HM.low⟩
 | true =>
  cases f2 with
  | false =>
   obtain rfl : f = false := hff.out
   go_wp2_with (first | (go_at_call 149; (with_reducible refine Zc HM (fits_n s M t N true hM hN h1 _) ?_; clear HM; intro w2 HM)) | (go_at_call 152; (with_reducible refine Zc HM (canonical_n s M false hM h2 _) ?_; clear HM; intro w2 HM)) | (first | ((with_reducible refine g_ld ?_); refine a_ld HM ?_) | ((with_reducible refine g_bx ?_); refine a_bx HM ?_; clear HM; intro bk w1 HM)))
   go_ret
   exact ⟨rfl, HM.low⟩
  | true =>
   cases f3 with
   | false =>
    obtain rfl : f = false := hff.out
    go_wp2_with (first | (go_at_call 149; (with_reducible refine Zc HM (fits_n s M t N true hM hN h1 _) ?_; clear HM; intro w2 HM)) | (go_at_call 152; (with_reducible refine Zc HM (canonical_n s M true hM h2 _) ?_; clear HM; intro w2 HM)) | (go_at_call 152; (with_reducible refine Zc HM (canonical_n t N false hN h3 _) ?_; clear HM; intro w2 HM)) | (first | ((with_reducible refine g_ld ?_); refine a_ld HM ?_) | ((with_reducible refine g_bx ?_); refine a_bx HM ?_; clear HM; intro bk w1 HM)))
    go_ret
    exact ⟨rfl, HM.low⟩
   | true =>
    rcases hgv with rfl | rfl | rfl
    ·exact z9_47
    ·exact z9_47
    ·obtain rfl : f = f5 := hff.out
     go_wp2_with (first | (go_at_call 149; (with_reducible refine Zc HM (fits_n s M t N true hM hN h1 _) ?_; clear HM; intro w2 HM)) | (go_at_call 152; (with_reducible refine Zc HM (canonical_n s M true hM h2 _) ?_; clear HM; intro w2 HM)) | (go_at_call 152; (with_reducible refine Zc HM (canonical_n t N true hN h3 _) ?_; clear HM; intro w2 HM)) | (go_at_call 78; (with_reducible refine Zc HM (sign_any t N hN _ hg _) ?_; clear HM; intro w2 HM)) | (go_at_call 147; (with_reducible refine Zc HM (gcd_r s t M N z hM hN hz _) ?_; clear HM; intro w2 HM)) | (go_at_call 93; (with_reducible refine Zc HM (fromInt_z 1 Zd Zd _) ?_; clear HM; intro w2 HM)) | ((with_reducible refine g_bin ?_); refine a_cmpz .eql (z) (1) f (.inl rfl) ((by rw [if_pos rfl]; exact h5.out)) (lz) (l1) ?_) | (first | ((with_reducible refine g_ld ?_); refine a_ld HM ?_) | ((with_reducible refine g_bx ?_); refine a_bx HM ?_; clear HM; intro bk w1 HM)))
     go_ret
     exact ⟨rfl, HM.low⟩
end
section
theorem whole_iz (s : Bool) (M : Nat) (G x : Int) (hM : M < Bg.lim) (hG : G.natAbs < Bg.lim) (h0 : G ≠ 0) (hx : Hid (x = Bg.toZ s M / G)) (w : World) :
    Calls Tryz.prog 148 #[.agg (Bg.intA s M), .agg (Bg.zA G)] w fun r w' => r = .returned (.agg (Bg.zA x)) ∧ Below w.heap.size w w' := by
 rw [zA_int G]
 exact whole_n s _ M _ x hM hG Zo (Zi (by rw [Bg.toZ_iv]; exact hx.out)) w
theorem fits_z (n d : Int) (f : Bool) (hn : n.natAbs < Bg.lim) (hd : d.natAbs < Bg.lim) (hf : Hid (f = Rt.short n.natAbs d.natAbs)) (w : World) :
    Calls Tryz.prog 149 #[.agg (Bg.rZ n d)] w fun r w' => r = .returned (.bool f) ∧ Below w.heap.size w w' := by
 rw [rZ_ratA]; exact fits_n _ _ _ _ f hn hd hf w
theorem ediv_lt {p G : Int} (hp : p.natAbs < Bg.lim) : (p / G).natAbs < Bg.lim := Nat.lt_of_le_of_lt (Int.natAbs_ediv_le_natAbs p G) hp
structure Rt.MkSt (p q G x1 x2 n d e : Int) (f : Bool) : Prop where
 eg : G = Rt.sg p q
 e1 : x1 = p / G
 e2 : x2 = q / G
 ef : f = Rt.short x1.natAbs x2.natAbs
 no : f = false → n = 0 ∧ d = 0 ∧ e = 10
 yes : f = true → n = x1 ∧ d = x2 ∧ e = 0
theorem Rt.mkSt {p q n d e : Int} (h0 : q ≠ 0) (hr : (n, d, e) = Rt.mk p q) : ∃ G x1 x2 f, Rt.MkSt p q G x1 x2 n d e f := by
 refine ⟨_, _, _, _, rfl, rfl, rfl, rfl, ?_, ?_⟩
 ·intro hf
  unfold Rt.mk at hr
  rw [if_neg h0, if_neg (by rw [hf]; simp)] at hr
  simpa using hr
 ·intro hf
  unfold Rt.mk at hr
  rw [if_neg h0, if_pos hf] at hr
  simpa using hr
theorem make_n (s : Bool) (M : Nat) (t : Bool) (N : Nat) (n d e : Int) (hM : M < Bg.lim) (hN : N < Bg.lim) (hr : Hid ((n, d, e) = Rt.mk (Bg.toZ s M) (Bg.toZ t N))) (w : World) :
    Calls Tryz.prog 103 #[.agg (Bg.intA s M), .agg (Bg.intA t N)] w fun r w' => r = .returned (.tuple #[.agg (Bg.rZ n d), .int .i64 e]) ∧ Below w.heap.size w w' := by
 have HM := Mem.start w
 obtain ⟨p, hp⟩ := Zh (Bg.toZ s M)
 obtain ⟨q, hq⟩ := Zh (Bg.toZ t N)
 obtain ⟨g, hg⟩ := Zh ((Bg.toZ t N).sign)
 have hz0 := za_rat
 have hs1 := sa_rz 0 0 (rZ_size 0 0)
 by_cases h0 : N = 0
 ·have hq0 : Bg.toZ t N = 0 := by rw [h0]; cases t <;> rfl
  have hr2 := hr.out
  unfold Rt.mk at hr2
  rw [if_pos hq0] at hr2
  obtain ⟨rfl, rfl, rfl⟩ : n = 0 ∧ d = 0 ∧ e = 11 := by simpa using hr2
  obtain rfl : g = 0 := by rw [hg.out, hq0]; rfl
  clear hr2 hq0 h0
  go_enter Tryz.func103, Tryz.ntmps103
  go_wp2_with (first | ((with_reducible refine g_bld ?_); refine a_rbl ?_) | (go_at_call 78; (with_reducible refine Zc HM (sign_any t N hN 0 hg _) ?_; clear HM; intro w2 HM)) | (first | ((with_reducible refine g_ld ?_); refine a_ld HM ?_) | ((with_reducible refine g_st ?_); refine a_st HM ?_; clear HM; intro w1 HM) | ((with_reducible refine g_al ?_); refine a_al HM ?_; clear HM; intro bk w1 HM) | ((with_reducible refine g_bx ?_); refine a_bx HM ?_; clear HM; intro bk w1 HM) | ((with_reducible refine g_bld ?_); refine a_bld ?_)))
  exact z9_48
 ·have hq0 : q ≠ 0 := by
    intro h; have := Bg.toZ_abs t N; rw [← hq.out, h] at this; simp at this; omega
  rw [← hp.out, ← hq.out] at hr
  obtain ⟨G, x1, x2, f, HS⟩ := Rt.mkSt hq0 hr.out
  replace HS := Zi HS
  obtain ⟨g0, hg0⟩ : ∃ z : Int, Hid (z = (Nat.gcd M N : Nat)) := ⟨_, rfl⟩
  have hgc : Nat.gcd p.natAbs q.natAbs = Nat.gcd M N := by rw [hp.out, hq.out, Bg.toZ_abs, Bg.toZ_abs]
  have lg0 : g0.natAbs < Bg.lim := by
   exact z9_49
  have hG0 : Hid (G ≠ 0) := Zi (by rw [HS.out.eg]; exact Rt.sg_ne hq0)
  have hGv : (g = -1 ∧ Hid (G = -g0)) ∨ (g = 1 ∧ G = g0) := by
   have hgs : g = q.sign := by rw [hg.out, hq.out]
   rw [HS.out.eg, hg0.out, ← hgc]
   unfold Rt.sg
   rcases Int.lt_or_gt_of_ne hq0 with h | h
   ·exact .inl ⟨by rw [hgs]; exact Int.sign_eq_neg_one_of_neg h, Zi (by rw [if_pos h])⟩
   ·exact .inr ⟨by rw [hgs]; exact Int.sign_eq_one_of_pos h, by rw [if_neg Zo]⟩
  have lG : G.natAbs < Bg.lim := by
   rcases hGv with ⟨_, h⟩ | ⟨_, h⟩
   ·rw [h.out, Int.natAbs_neg]; exact lg0
   ·rw [h]; exact lg0
  have hx1 : Hid (x1 = Bg.toZ s M / G) := Zi (by rw [HS.out.e1, hp.out])
  have hx2 : Hid (x2 = Bg.toZ t N / G) := Zi (by rw [HS.out.e2, hq.out])
  have l1 : x1.natAbs < Bg.lim := by rw [hx1.out]; exact ediv_lt (by rw [Bg.toZ_abs]; exact hM)
  have l2 : x2.natAbs < Bg.lim := by rw [hx2.out]; exact ediv_lt (by rw [Bg.toZ_abs]; exact hN)
  have hf : Hid (f = Rt.short x1.natAbs x2.natAbs) := Zi HS.out.ef
  have hs2 := sa_rz x1 x2 (rZ_size 0 0)
  have k1 := la_rz x1 x2
  clear hgc h0 hq0
  go_enter Tryz.func103, Tryz.ntmps103
  rcases hGv with ⟨rfl, hGn⟩ | ⟨rfl, rfl⟩
  case' inl =>
   go_upto_region 6 with (first | (go_at_call 78; (with_reducible refine Zc HM (sign_any t N hN _ hg _) ?_; clear HM; intro w2 HM)) | (go_at_call 147; (with_reducible refine Zc HM (gcd_r s t M N g0 hM hN hg0 _) ?_; clear HM; intro w2 HM)) | (go_at_call 107; (with_reducible refine Zc HM (neg_z g0 G lg0 hGn _) ?_; clear HM; intro w2 HM)) | (first | ((with_reducible refine g_ld ?_); refine a_ld HM ?_) | ((with_reducible refine g_st ?_); refine a_st HM ?_; clear HM; intro w1 HM) | ((with_reducible refine g_al ?_); refine a_al HM ?_; clear HM; intro bk w1 HM) | ((with_reducible refine g_bx ?_); refine a_bx HM ?_; clear HM; intro bk w1 HM) | ((with_reducible refine g_bld ?_); refine a_bld ?_)))
  case' inr =>
   go_upto_region 6 with (first | (go_at_call 78; (with_reducible refine Zc HM (sign_any t N hN _ hg _) ?_; clear HM; intro w2 HM)) | (go_at_call 147; (with_reducible refine Zc HM (gcd_r s t M N G hM hN hg0 _) ?_; clear HM; intro w2 HM)) | (first | ((with_reducible refine g_ld ?_); refine a_ld HM ?_) | ((with_reducible refine g_st ?_); refine a_st HM ?_; clear HM; intro w1 HM) | ((with_reducible refine g_al ?_); refine a_al HM ?_; clear HM; intro bk w1 HM) | ((with_reducible refine g_bx ?_); refine a_bx HM ?_; clear HM; intro bk w1 HM) | ((with_reducible refine g_bld ?_); refine a_bld ?_)))
  all_goals
   obtain ⟨b4, rfl⟩ := HM.nm1
   go_cut [7] (fun v wc => ∃ b7 : Nat, v = .pointer (some ⟨b7, 0, none⟩) ∧ Mem w [] [(b7, Bg.rZ x1 x2), (b4, Bg.rZ 0 0)] wc)
   case first =>
    refine start_M [8] HM Zk (fun w0x H9 => ?_)
    replace HM := H9; clear H9
    refine k_ld 0 [2, 5, 6, 8] (heldE HM) ?_
    refine k_ld 1 [2, 5, 6, 8] (heldE HM) ?_
    refine k_ld 3 [5, 6, 8] (heldE HM) ?_
    refine k_ld 4 [5, 6, 8] (heldE HM) ?_
    refine j_two 2 7 ?_ ?_
    ·refine j_call2 (v := ?_) HM ?_ ?_; rotate_left 1; (focus (with_reducible (first | exact whole_iz s M G x1 hM lG hG0.out hx1 _ | exact whole_iz t N G x2 hN lG hG0.out hx2 _))); clear HM; intro w1 HM
     refine ⟨(heldE HM), ?_⟩
     refine j_two 5 7 ?_ ?_
     ·refine j_call2 (v := ?_) HM ?_ ?_; rotate_left 1; (focus (with_reducible (first | exact whole_iz s M G x1 hM lG hG0.out hx1 _ | exact whole_iz t N G x2 hN lG hG0.out hx2 _))); clear HM; intro w1 HM
      refine ⟨(heldE HM), ?_⟩
      refine t_pure (i := 6) (v := .agg (Bg.rZ x1 x2)) rfl rfl Zk (fun _ _ _ h => h) (heldE HM) Zv ?_ ?_; (focus (exact h_br Zv Zv Zv)); ((try simp only [Za]); (try simp only [Zx]); (try simp only [Zy]))
      refine j_one 7 fun K9 hK9 => ?_
      refine j_al HM ?_; clear HM; intro bk w1 HM
      refine hK9 _ _ (heldE HM) ?_; clear hK9 K9
      exact z9_50
     ·refine j_al HM ?_; clear HM; intro bk w1 HM
      refine ⟨(heldE HM), ?_⟩
      exact z9_51
    ·refine j_al HM ?_; clear HM; intro bk w1 HM
     refine ⟨(heldE HM), ?_⟩
     refine j_one 2 fun K9 hK9 => ?_
     refine j_call2 (v := ?_) HM ?_ ?_; rotate_left 1; (focus (with_reducible (first | exact whole_iz s M G x1 hM lG hG0.out hx1 _ | exact whole_iz t N G x2 hN lG hG0.out hx2 _))); clear HM; intro w1 HM
     refine hK9 _ _ (heldE HM) ?_; clear hK9 K9
     exact z9_51
   case rest =>
    clear HM
    obtain ⟨b7, rfl, HM⟩ := hcut
    cases f with
    | false =>
     obtain ⟨rfl, rfl, rfl⟩ := HS.out.no rfl
     go_wp2_with (first | ((with_reducible refine g_bld ?_); refine a_rbl ?_) | (go_at_call 149; (with_reducible refine Zc HM (fits_z x1 x2 false l1 l2 hf _) ?_; clear HM; intro w2 HM)) | (first | ((with_reducible refine g_ld ?_); refine a_ld HM ?_) | ((with_reducible refine g_st ?_); refine a_st HM ?_; clear HM; intro w1 HM) | ((with_reducible refine g_al ?_); refine a_al HM ?_; clear HM; intro bk w1 HM) | ((with_reducible refine g_bx ?_); refine a_bx HM ?_; clear HM; intro bk w1 HM) | ((with_reducible refine g_bld ?_); refine a_bld ?_)))
     refine bodyPost_ret (r_ct (b := b4) (k := 0) rfl rfl (HM.get Zl) (la_rz _ _)) rfl ⟨rfl, HM.low⟩
    | true =>
     obtain ⟨rfl, rfl, rfl⟩ := HS.out.yes rfl
     go_wp2_with (first | ((with_reducible refine g_bld ?_); refine a_rbl ?_) | (go_at_call 149; (with_reducible refine Zc HM (fits_z n d true l1 l2 hf _) ?_; clear HM; intro w2 HM)) | (first | ((with_reducible refine g_ld ?_); refine a_ld HM ?_) | ((with_reducible refine g_st ?_); refine a_st HM ?_; clear HM; intro w1 HM) | ((with_reducible refine g_al ?_); refine a_al HM ?_; clear HM; intro bk w1 HM) | ((with_reducible refine g_bx ?_); refine a_bx HM ?_; clear HM; intro bk w1 HM) | ((with_reducible refine g_bld ?_); refine a_bld ?_)))
     refine bodyPost_ret (r_ct (b := b4) (k := 0) rfl rfl (HM.get Zl) (la_rz _ _)) rfl ⟨rfl, HM.low⟩
end
section
theorem rdivMod_iz (s : Bool) (M : Nat) (G x y : Int) (hM : M < Bg.lim) (hG : G.natAbs < Bg.lim) (h0 : G ≠ 0) (hx : Hid (x = Bg.toZ s M / G)) (hy : Hid (y = Bg.toZ s M % G)) (w : World) :
    Calls Tryz.prog 131 #[.agg (Bg.intA s M), .agg (Bg.zA G)] w fun r w' => r = .returned (.tuple #[.agg (Bg.zA x), .agg (Bg.zA y), .int .i64 0]) ∧ Below w.heap.size w w' := by
 rw [zA_int G]
 exact rdivMod_any s _ M _ x y hM hG Zo (Zi (by rw [Bg.toZ_iv]; exact hx.out)) (Zi (by rw [Bg.toZ_iv]; exact hy.out)) w
theorem rsign_z (p g : Int) (hp : p.natAbs < Bg.lim) (hg : Hid (g = p.sign)) (w : World) :
    Calls Tryz.prog 129 #[.agg (Bg.zA p)] w fun e w' => e = .returned (.int .i64 g) ∧ Below w.heap.size w w' := by
 rw [zA_int p]; exact rsign_num _ _ g hp (Zi (by rw [Bg.toZ_iv]; exact hg.out)) w
theorem rneg_z (p z : Int) (hp : p.natAbs < Bg.lim) (hz : Hid (z = -p)) (w : World) :
    Calls Tryz.prog 132 #[.agg (Bg.zA p)] w fun e w' => e = .returned (.agg (Bg.zA z)) ∧ Below w.heap.size w w' := by
 rw [zA_int p]; exact rneg_any _ _ z hp (Zi (by rw [Bg.toZ_iv]; exact hz.out)) w
theorem rbits_z (p n : Int) (hp : p.natAbs < Bg.lim) (hn : Hid (n = (Bg.bl p.natAbs : Int))) (w : World) :
    Calls Tryz.prog 133 #[.agg (Bg.zA p)] w fun e w' => e = .returned (.int .i64 n) ∧ Below w.heap.size w w' := by
 rw [zA_int p]; exact rbits_any _ _ n hp hn w
theorem Rt.sg_turn {p q G x1 x2 y1 y2 g0 : Int} (h0 : q ≠ 0) (hg : g0 = (Nat.gcd p.natAbs q.natAbs : Nat)) (hG : G = Rt.sg p q) (h1 : x1 = p / G) (h2 : x2 = q / G) (h3 : y1 = p / g0) (h4 : y2 = q / g0) :
    g0 ≠ 0 ∧ ((y2.sign = -1 ∧ x1 = -y1 ∧ x2 = -y2) ∨ (y2.sign = 1 ∧ x1 = y1 ∧ x2 = y2)) := by
 have hpos : 0 < g0 := by rw [hg]; have := Rt.sg_pos (p := p) h0; omega
 have hd : q = g0 * y2 := by
  rw [h4, Int.mul_ediv_cancel']
  rw [hg]; exact Int.ofNat_dvd_left.2 (Nat.gcd_dvd_right _ _)
 refine ⟨by omega, ?_⟩
 rw [h1, h2, hG]
 unfold Rt.sg
 rw [← hg]
 rcases Int.lt_or_gt_of_ne h0 with h | h
 ·rw [if_pos h, Int.ediv_neg, Int.ediv_neg, ← h3, ← h4]
  refine .inl ⟨Int.sign_eq_neg_one_of_neg ?_, rfl, rfl⟩
  rcases Int.lt_or_le y2 0 with h5 | h5
  ·exact h5
  ·have := Int.mul_nonneg (Int.le_of_lt hpos) h5; omega
 ·rw [if_neg Zo, ← h3, ← h4]
  refine .inr ⟨Int.sign_eq_one_of_pos ?_, rfl, rfl⟩
  rcases Int.lt_or_le 0 y2 with h5 | h5
  ·exact h5
  ·have := Int.mul_nonneg (Int.le_of_lt hpos) (show 0 ≤ -y2 by omega)
   rw [Int.mul_neg] at this; omega
theorem rmake_n (s : Bool) (M : Nat) (t : Bool) (N : Nat) (n d e : Int) (hM : M < Bg.lim) (hN : N < Bg.lim) (hr : Hid ((n, d, e) = Rt.mk (Bg.toZ s M) (Bg.toZ t N))) (w : World) :
    Calls Tryz.prog 86 #[.agg (Bg.intA s M), .agg (Bg.intA t N)] w fun r w' => r = .returned (.tuple #[.agg (Bg.rZ n d), .int .i64 e]) ∧ Below w.heap.size w w' := by
 have HM := Mem.start w
 obtain ⟨p, hp⟩ := Zh (Bg.toZ s M)
 obtain ⟨q, hq⟩ := Zh (Bg.toZ t N)
 obtain ⟨g, hg⟩ := Zh ((Bg.toZ t N).sign)
 have hz0 := za_rat
 have hs1 := sa_rz 0 0 (rZ_size 0 0)
 by_cases h0 : N = 0
 ·have hq0 : Bg.toZ t N = 0 := by rw [h0]; cases t <;> rfl
  have hr2 := hr.out
  unfold Rt.mk at hr2
  rw [if_pos hq0] at hr2
  obtain ⟨rfl, rfl, rfl⟩ : n = 0 ∧ d = 0 ∧ e = 11 := by simpa using hr2
  obtain rfl : g = 0 := by rw [hg.out, hq0]; rfl
  clear hr2 hq0 h0
  go_enter Tryz.func86, Tryz.ntmps86
  go_wp2_with (first | ((with_reducible refine g_bld ?_); refine a_rbl ?_) | (go_at_call 129; (with_reducible refine Zc HM (rsign_num t N 0 hN hg _) ?_; clear HM; intro w2 HM)) | (first | ((with_reducible refine g_ld ?_); refine a_ld HM ?_) | ((with_reducible refine g_st ?_); refine a_st HM ?_; clear HM; intro w1 HM) | ((with_reducible refine g_al ?_); refine a_al HM ?_; clear HM; intro bk w1 HM) | ((with_reducible refine g_bx ?_); refine a_bx HM ?_; clear HM; intro bk w1 HM) | ((with_reducible refine g_bld ?_); refine a_bld ?_)))
  exact z9_48
 ·have hq0 : q ≠ 0 := by
    intro h; have := Bg.toZ_abs t N; rw [← hq.out, h] at this; simp at this; omega
  rw [← hp.out, ← hq.out] at hr
  obtain ⟨G, x1, x2, f, HS⟩ := Rt.mkSt hq0 hr.out
  replace HS := Zi HS
  obtain ⟨g0, hg0⟩ : ∃ z : Int, Hid (z = (Nat.gcd M N : Nat)) := ⟨_, rfl⟩
  have hgc : Nat.gcd p.natAbs q.natAbs = Nat.gcd M N := by rw [hp.out, hq.out, Bg.toZ_abs, Bg.toZ_abs]
  have lg0 : g0.natAbs < Bg.lim := by
   exact z9_49
  obtain ⟨y1, hy1⟩ := Zh (Bg.toZ s M / g0)
  obtain ⟨y2, hy2⟩ := Zh (Bg.toZ t N / g0)
  obtain ⟨r1, hr1⟩ := Zh (Bg.toZ s M % g0)
  obtain ⟨r2, hr2⟩ := Zh (Bg.toZ t N % g0)
  obtain ⟨hg00, hturn⟩ := Rt.sg_turn (g0 := g0) (y1 := y1) (y2 := y2) hq0 (by rw [hgc]; exact hg0.out) HS.out.eg HS.out.e1 HS.out.e2 (by rw [hp.out]; exact hy1.out) (by rw [hq.out]; exact hy2.out)
  have hG0 := Zi hg00
  have l1 : x1.natAbs < Bg.lim := by rw [HS.out.e1]; exact ediv_lt (by rw [hp.out, Bg.toZ_abs]; exact hM)
  have l2 : x2.natAbs < Bg.lim := by rw [HS.out.e2]; exact ediv_lt (by rw [hq.out, Bg.toZ_abs]; exact hN)
  have l3 : y1.natAbs < Bg.lim := by rw [hy1.out]; exact ediv_lt (by rw [Bg.toZ_abs]; exact hM)
  have l4 : y2.natAbs < Bg.lim := by rw [hy2.out]; exact ediv_lt (by rw [Bg.toZ_abs]; exact hN)
  obtain ⟨gy, hgy⟩ := Zh (y2.sign)
  rw [← hgy.out] at hturn
  have hgv : g = -1 ∨ g = 1 := by
   rw [hg.out, ← hq.out]
   rcases Int.lt_or_gt_of_ne hq0 with h | h
   ·exact .inl (Int.sign_eq_neg_one_of_neg h)
   ·exact .inr (Int.sign_eq_one_of_pos h)
  obtain ⟨m1, hm1⟩ : ∃ m : Int, Hid (m = (Bg.bl x1.natAbs : Int)) := ⟨_, rfl⟩
  obtain ⟨m2, hm2⟩ : ∃ m : Int, Hid (m = (Bg.bl x2.natAbs : Int)) := ⟨_, rfl⟩
  have hfm : Hid (f = (decide (m1 ≤ 480) && decide (m2 ≤ 480))) := Zi (by
   rw [HS.out.ef, hm1.out, hm2.out]; unfold Rt.short
   congr 1 <;> (apply decide_eq_decide.2; omega))
  have k1 := sa_rz x1 x2 (rZ_size 0 0)
  clear hgc h0 hq0 hg00
  go_enter Tryz.func86, Tryz.ntmps86
  rcases hgv with rfl | rfl
  all_goals
   go_upto_if 36 with (first | (go_at_call 129; (with_reducible refine Zc HM (rsign_num t N _ hN hg _) ?_; clear HM; intro w2 HM)) | (go_at_call 129; (with_reducible refine Zc HM (rsign_z y2 gy l4 hgy _) ?_; clear HM; intro w2 HM)) | (go_at_call 130; (with_reducible refine Zc HM (rgcd_any s t M N g0 hM hN hg0 _) ?_; clear HM; intro w2 HM)) | (go_at_call 131; (with_reducible refine Zc HM (rdivMod_iz s M g0 y1 r1 hM lg0 hG0.out hy1 hr1 _) ?_; clear HM; intro w2 HM)) | (go_at_call 131; (with_reducible refine Zc HM (rdivMod_iz t N g0 y2 r2 hN lg0 hG0.out hy2 hr2 _) ?_; clear HM; intro w2 HM)) | (first | ((with_reducible refine g_ld ?_); refine a_ld HM ?_) | ((with_reducible refine g_st ?_); refine a_st HM ?_; clear HM; intro w1 HM) | ((with_reducible refine g_al ?_); refine a_al HM ?_; clear HM; intro bk w1 HM) | ((with_reducible refine g_bx ?_); refine a_bx HM ?_; clear HM; intro bk w1 HM) | ((with_reducible refine g_bld ?_); refine a_bld ?_)))
   obtain ⟨b10, rfl⟩ := HM.nm1
   obtain ⟨b7, rfl⟩ := HM.nm3
   obtain ⟨b4, rfl⟩ := HM.nm5
   go_cut [] (fun wc => Mem w [] [(b10, Bg.zA x2), (b7, Bg.zA x1), (b4, Bg.rZ 0 0)] wc)
   case first =>
    rcases hturn with ⟨rfl, h1, h2⟩ | ⟨rfl, rfl, rfl⟩
    ·have h1 := Zi h1
     have h2 := Zi h2
     go_upto_region 7 with fail
     refine start_M [4, 5] HM Zk (fun w0x H9 => ?_)
     replace HM := H9; clear H9
     refine k_ld 0 [1, 3, 4, 5] (heldE HM) ?_
     refine k_ld 2 [3, 4, 5] (heldE HM) ?_
     refine j_one 1 fun K9 hK9 => ?_
     refine j_call1 (v := ?_) HM ?_ ?_; rotate_left 1; (focus (with_reducible (first | exact rneg_z y1 x1 l3 h1 _ | exact rneg_z y2 x2 l4 h2 _))); clear HM; intro w1 HM
     refine hK9 _ _ (heldE HM) ?_; clear hK9 K9
     refine j_one 3 fun K9 hK9 => ?_
     refine j_call1 (v := ?_) HM ?_ ?_; rotate_left 1; (focus (with_reducible (first | exact rneg_z y1 x1 l3 h1 _ | exact rneg_z y2 x2 l4 h2 _))); clear HM; intro w1 HM
     refine hK9 _ _ (heldE HM) ?_; clear hK9 K9
     refine j_one 4 fun K9 hK9 => ?_
     refine j_st HM ?_; clear HM; intro w1 HM
     refine hK9 _ _ heldN ?_; clear hK9 K9
     refine j_one 5 fun K9 hK9 => ?_
     refine j_st HM ?_; clear HM; intro w1 HM
     refine hK9 _ _ heldN ?_; clear hK9 K9
     refine wpAnyL_done Zk ?_ _
     exact z9_52
    ·exact z9_52
   case rest =>
    clear HM
    have HM := hcut
    clear hcut
    by_cases hb1 : m1 ≤ 480
    ·have hb1' : decide (480 < m1) = false := by simp; omega
     by_cases hb2 : m2 ≤ 480
     ·have hb2' : ¬ 480 < m2 := by omega
      obtain ⟨rfl, rfl, rfl⟩ := HS.out.yes (by rw [hfm.out]; simp [hb1, hb2])
      clear hb1 hb2
      go_wp2_with (first | ((with_reducible refine g_bld ?_); refine a_rbl ?_) | (go_at_call 133; (with_reducible refine Zc HM (rbits_z n m1 l1 hm1 _) ?_; clear HM; intro w2 HM)) | (go_at_call 133; (with_reducible refine Zc HM (rbits_z d m2 l2 hm2 _) ?_; clear HM; intro w2 HM)) | (first | ((with_reducible refine g_ld ?_); refine a_ld HM ?_) | ((with_reducible refine g_st ?_); refine a_st HM ?_; clear HM; intro w1 HM) | ((with_reducible refine g_al ?_); refine a_al HM ?_; clear HM; intro bk w1 HM) | ((with_reducible refine g_bx ?_); refine a_bx HM ?_; clear HM; intro bk w1 HM) | ((with_reducible refine g_bld ?_); refine a_bld ?_)))
      exact z9_53
     ·have hb2' : 480 < m2 := by omega
      obtain ⟨rfl, rfl, rfl⟩ := HS.out.no (by rw [hfm.out]; simp [hb2])
      clear hb1 hb2
      go_wp2_with (first | ((with_reducible refine g_bld ?_); refine a_rbl ?_) | (go_at_call 133; (with_reducible refine Zc HM (rbits_z x1 m1 l1 hm1 _) ?_; clear HM; intro w2 HM)) | (go_at_call 133; (with_reducible refine Zc HM (rbits_z x2 m2 l2 hm2 _) ?_; clear HM; intro w2 HM)) | (first | ((with_reducible refine g_ld ?_); refine a_ld HM ?_) | ((with_reducible refine g_st ?_); refine a_st HM ?_; clear HM; intro w1 HM) | ((with_reducible refine g_al ?_); refine a_al HM ?_; clear HM; intro bk w1 HM) | ((with_reducible refine g_bx ?_); refine a_bx HM ?_; clear HM; intro bk w1 HM) | ((with_reducible refine g_bld ?_); refine a_bld ?_)))
      exact z9_53
    ·have hb1' : 480 < m1 := by omega
     obtain ⟨rfl, rfl, rfl⟩ := HS.out.no (by rw [hfm.out]; simp [hb1])
     clear hb1
     go_wp2_with (first | ((with_reducible refine g_bld ?_); refine a_rbl ?_) | (go_at_call 133; (with_reducible refine Zc HM (rbits_z x1 m1 l1 hm1 _) ?_; clear HM; intro w2 HM)) | (first | ((with_reducible refine g_ld ?_); refine a_ld HM ?_) | ((with_reducible refine g_st ?_); refine a_st HM ?_; clear HM; intro w1 HM) | ((with_reducible refine g_al ?_); refine a_al HM ?_; clear HM; intro bk w1 HM) | ((with_reducible refine g_bx ?_); refine a_bx HM ?_; clear HM; intro bk w1 HM) | ((with_reducible refine g_bld ?_); refine a_bld ?_)))
     exact z9_53
theorem make_z (p q n d e : Int) (hp : p.natAbs < Bg.lim) (hq : q.natAbs < Bg.lim) (hr : Hid ((n, d, e) = Rt.mk p q)) (w : World) :
    Calls Tryz.prog 103 #[.agg (Bg.zA p), .agg (Bg.zA q)] w fun r w' => r = .returned (.tuple #[.agg (Bg.rZ n d), .int .i64 e]) ∧ Below w.heap.size w w' := by
 rw [zA_int p, zA_int q]; exact make_n _ _ _ _ n d e hp hq (Zi (by rw [Bg.toZ_iv, Bg.toZ_iv]; exact hr.out)) w
theorem rmake_z (p q n d e : Int) (hp : p.natAbs < Bg.lim) (hq : q.natAbs < Bg.lim) (hr : Hid ((n, d, e) = Rt.mk p q)) (w : World) :
    Calls Tryz.prog 86 #[.agg (Bg.zA p), .agg (Bg.zA q)] w fun r w' => r = .returned (.tuple #[.agg (Bg.rZ n d), .int .i64 e]) ∧ Below w.heap.size w w' := by
 rw [zA_int p, zA_int q]; exact rmake_n _ _ _ _ n d e hp hq (Zi (by rw [Bg.toZ_iv, Bg.toZ_iv]; exact hr.out)) w
theorem i64_lim {n : Int} (h1 : -9223372036854775808 ≤ n) (h2 : n < 9223372036854775808) : n.natAbs < Bg.lim := small_lim Zo
theorem of_n (n d x y e : Int) (hn1 : -9223372036854775808 ≤ n) (hn2 : n < 9223372036854775808) (hd1 : -9223372036854775808 ≤ d) (hd2 : d < 9223372036854775808) (hr : Hid ((x, y, e) = Rt.mk n d)) (w : World) :
    Calls Tryz.prog 60 #[.int .i64 n, .int .i64 d] w fun r w' => r = .returned (.tuple #[.agg (Bg.rZ x y), .int .i64 e]) ∧ Below w.heap.size w w' := by
 have HM := Mem.start w
 have ln := i64_lim hn1 hn2
 have ld := i64_lim hd1 hd2
 have hz0 := za_rat
 have hs1 := sa_rz x y (rZ_size 0 0)
 go_enter Tryz.func60, Tryz.ntmps60
 go_wp2_with (first | (go_at_call 93; (with_reducible refine Zc HM (fromInt_z n hn1 hn2 _) ?_; clear HM; intro w2 HM)) | (go_at_call 93; (with_reducible refine Zc HM (fromInt_z d hd1 hd2 _) ?_; clear HM; intro w2 HM)) | (go_at_call 103; (with_reducible refine Zc HM (make_z n d x y e ln ld hr _) ?_; clear HM; intro w2 HM)) | (first | ((with_reducible refine g_st ?_); refine a_st HM ?_; clear HM; intro w1 HM) | ((with_reducible refine g_al ?_); refine a_al HM ?_; clear HM; intro bk w1 HM)))
 exact z9_48
theorem rof_n (n d x y e : Int) (hn1 : -9223372036854775808 ≤ n) (hn2 : n < 9223372036854775808) (hd1 : -9223372036854775808 ≤ d) (hd2 : d < 9223372036854775808) (hr : Hid ((x, y, e) = Rt.mk n d)) (w : World) :
    Calls Tryz.prog 44 #[.int .i64 n, .int .i64 d] w fun r w' => r = .returned (.tuple #[.agg (Bg.rZ x y), .int .i64 e]) ∧ Below w.heap.size w w' := by
 have HM := Mem.start w
 have ln := i64_lim hn1 hn2
 have ld := i64_lim hd1 hd2
 have hz0 := za_rat
 have hs1 := sa_rz x y (rZ_size 0 0)
 go_enter Tryz.func44, Tryz.ntmps44
 go_wp2_with (first | (go_at_call 87; (with_reducible refine Zc HM (rfromInt_z n hn1 hn2 _) ?_; clear HM; intro w2 HM)) | (go_at_call 87; (with_reducible refine Zc HM (rfromInt_z d hd1 hd2 _) ?_; clear HM; intro w2 HM)) | (go_at_call 86; (with_reducible refine Zc HM (rmake_z n d x y e ln ld hr _) ?_; clear HM; intro w2 HM)) | (first | ((with_reducible refine g_st ?_); refine a_st HM ?_; clear HM; intro w1 HM) | ((with_reducible refine g_al ?_); refine a_al HM ?_; clear HM; intro bk w1 HM)))
 exact z9_48
theorem whole_w (n : Int) (hn1 : -9223372036854775808 ≤ n) (hn2 : n < 9223372036854775808) (w : World) :
    Calls Tryz.prog 50 #[.int .i64 n] w fun r w' => r = .returned (.agg (Bg.rZ n 1)) ∧ Below w.heap.size w w' := by
 have HM := Mem.start w
 have hz0 := za_rat
 have hs1 := sa_rz n 1 (rZ_size 0 0)
 go_enter Tryz.func50, Tryz.ntmps50
 go_wp2_with (first | ((with_reducible refine g_bld ?_); refine a_rbl ?_) | (go_at_call 93; (with_reducible refine Zc HM (fromInt_z n hn1 hn2 _) ?_; clear HM; intro w2 HM)) | (go_at_call 93; (with_reducible refine Zc HM (fromInt_z 1 Zd Zd _) ?_; clear HM; intro w2 HM)) | (first | ((with_reducible refine g_st ?_); refine a_st HM ?_; clear HM; intro w1 HM) | ((with_reducible refine g_al ?_); refine a_al HM ?_; clear HM; intro bk w1 HM) | ((with_reducible refine g_bld ?_); refine a_bld ?_)))
 exact z9_54
end
section
theorem Mem.joinT {w0 w w' : World} {X : List Nat} {L L' B : List (Nat × Array Value)} {tb : Nat} {c c' : Array Value} (h : Mem w0 X L w) (ha : At L tb c c' L') (k : Mem w [tb] ((tb, c') :: B) w') : Mem w0 X (B ++ L') w' := by
 have h1 := h.put ha (k.blk _ List.mem_cons_self) k.only
 have hn := List.nodup_cons.1 k.nod
 have hB : ∀ p ∈ B, w.heap.size ≤ p.1 := fun p hp => (k.own p (List.mem_cons_of_mem _ hp)).resolve_right (fun e => hn.1 (List.mem_map.2 ⟨p, hp, List.mem_singleton.1 e⟩))
 refine ⟨h1.only, fun p hp => ?_, fun p hp => ?_, ?_⟩
 ·rcases List.mem_append.1 hp with hp | hp
  ·exact k.blk p (List.mem_cons_of_mem _ hp)
  ·exact h1.blk p hp
 ·rcases List.mem_append.1 hp with hp | hp
  ·exact .inl (Nat.le_trans h.only.size (hB p hp))
  ·exact h1.own p hp
 ·rw [List.map_append]
  refine List.nodup_append.2 ⟨hn.2, h1.nod, fun a ha1 b hb e => ?_⟩
  obtain ⟨p, hp, rfl⟩ := List.mem_map.1 ha1
  rw [ha.keys] at hb
  obtain ⟨q, hq, rfl⟩ := List.mem_map.1 hb
  have h2 := hB p hp
  have h3 := (h.blk q hq).lt
  omega
end
end Go.Proofs.YtiekmabiecalbaaGreatDoor
