/- Walks, and plain facts for them. -/
import Derived.Test.YtckhdiljihhdmaaGreatPb22
import Derived.Test.YtckhdiljihhdmaaGreatPb03
import Derived.Test.YtckhdiljihhdmaaGreatPb13
namespace Go.Proofs.YtckhdiljihhdmaaGreat
set_option maxRecDepth 8000
open Go.RowKit
theorem product_f (p d z : Int) (hp : p.natAbs < Bg.lim) (hd : d.natAbs < Bg.lim) (hz : Hid (z = p * d)) (hl : z.natAbs < Bg.lim) (w : World) :
    Calls Tryz.prog 58 #[.agg (Bg.zA p), .agg (Bg.zA d)] w fun r w' => r = .returned (.agg (Bg.zA z)) ∧ Below w.heap.size w w' := by
 rw [zA_int p, zA_int d]
 exact product_n _ _ _ _ z z hp hd (Lib.hid (by rw [Bg.toZ_iv, Bg.toZ_iv]; exact hz.out)) (Lib.hid (by unfold Bg.resZ; rw [if_pos hl])) w
theorem rproduct_f (p d z : Int) (hp : p.natAbs < Bg.lim) (hd : d.natAbs < Bg.lim) (hz : Hid (z = p * d)) (hl : z.natAbs < Bg.lim) (w : World) :
    Calls Tryz.prog 72 #[.agg (Bg.zA p), .agg (Bg.zA d)] w fun r w' => r = .returned (.agg (Bg.zA z)) ∧ Below w.heap.size w w' := by
 rw [zA_int p, zA_int d]
 exact rproduct_n _ _ _ _ z z hp hd (Lib.hid (by rw [Bg.toZ_iv, Bg.toZ_iv]; exact hz.out)) (Lib.hid (by unfold Bg.resZ; rw [if_pos hl])) w
set_option maxHeartbeats 2000000 in
theorem mulfn_any (p q r u x y : Int) (hp : p.natAbs < Bg.lim) (hq : q.natAbs < Bg.lim) (hr : r.natAbs < Bg.lim) (hu : u.natAbs < Bg.lim) (hx : Hid (x = p * r)) (hy : Hid (y = q * u)) (lx : x.natAbs < Bg.lim) (ly : y.natAbs < Bg.lim) (w : World) :
    Calls Tryz.prog 57 #[.agg (Bg.rZ p q), .agg (Bg.rZ r u)] w fun e w' => e = .returned (.tuple #[.agg (Bg.zA x), .agg (Bg.zA y)]) ∧ Below w.heap.size w w' := by
 have HM := Mem.start w
 have k1 := la_rznum p q
 have k2 := la_rzden p q
 have k3 := la_rznum r u
 have k4 := la_rzden r u
 go_enter Tryz.func57, Tryz.ntmps57
 go_upto_region 1 with (first | ((with_reducible refine g_ld ?_); refine a_ld HM ?_) | ((with_reducible refine g_st ?_); refine a_st HM ?_; clear HM; intro w1 HM) | ((with_reducible refine g_al ?_); refine a_al HM ?_; clear HM; intro bk w1 HM) | ((with_reducible refine g_bx ?_); refine a_bx HM ?_; clear HM; intro bk w1 HM))
 obtain ⟨b5, rfl⟩ := HM.nm0
 obtain ⟨b4, rfl⟩ := HM.nm1
 refine start_M [10, 11] HM (by kernel_rfl) (fun w0x H9 => ?_)
 replace HM := H9; clear H9
 refine k_fa 0 (heldE HM) ?_
 refine k_ld 1 [4, 9, 10, 11] (heldE HM) ?_
 refine k_fa 2 (heldE HM) ?_
 refine k_ld 3 [4, 9, 10, 11] (heldE HM) ?_
 refine k_fa 5 (heldE HM) ?_
 refine k_ld 6 [9, 10, 11] (heldE HM) ?_
 refine k_fa 7 (heldE HM) ?_
 refine k_ld 8 [9, 10, 11] (heldE HM) ?_
 refine j_one 4 fun K9 hK9 => ?_
 refine j_call2 (v := ?_) HM ?_ ?_; rotate_left 1; (focus (with_reducible (first | exact product_f p r x hp hr hx lx _ | exact product_f q u y hq hu hy ly _))); clear HM; intro w1 HM
 refine hK9 _ _ (heldE HM) ?_; clear hK9 K9
 refine j_one 9 fun K9 hK9 => ?_
 refine j_call2 (v := ?_) HM ?_ ?_; rotate_left 1; (focus (with_reducible (first | exact product_f p r x hp hr hx lx _ | exact product_f q u y hq hu hy ly _))); clear HM; intro w1 HM
 refine hK9 _ _ (heldE HM) ?_; clear hK9 K9
 refine j_one 10 fun K9 hK9 => ?_
 refine j_st HM ?_; clear HM; intro w1 HM
 refine hK9 _ _ heldN ?_; clear hK9 K9
 refine j_one 11 fun K9 hK9 => ?_
 refine j_st HM ?_; clear HM; intro w1 HM
 refine hK9 _ _ heldN ?_; clear hK9 K9
 refine wpAnyL_done (by kernel_rfl) ?_ _
 (go_wp2_with fail; refine bodyPost_ret (r_cc (b := b4) (k := 0) (b2 := b5) (k2 := 0) rfl rfl rfl (HM.get (by ((repeat (first | exact Look.here | refine Look.there ?_)); done))) (la_z _) (HM.get (by ((repeat (first | exact Look.here | refine Look.there ?_)); done))) (la_z _)) rfl ⟨rfl, HM.low⟩)
def Rt.okz (p q : Int) : Bool := Rt.ok (decide (p < 0)) p.natAbs (decide (q < 0)) q.natAbs
theorem valid_z (p q : Int) (f : Bool) (hp : p.natAbs < Bg.lim) (hq : q.natAbs < Bg.lim) (hf : Hid (f = Rt.okz p q)) (w : World) :
    Calls Tryz.prog 81 #[.agg (Bg.rZ p q)] w fun r w' => r = .returned (.bool f) ∧ Below w.heap.size w w' := by
 rw [rZ_ratA]; exact valid_n _ _ _ _ f hp hq hf w
set_option maxHeartbeats 4000000 in
theorem calc_bad (s : Bool) (M : Nat) (t : Bool) (N : Nat) (s2 : Bool) (M2 : Nat) (t2 : Bool) (N2 : Nat) (fv : Value) (hM : M < Bg.lim) (hN : N < Bg.lim) (hM2 : M2 < Bg.lim) (hN2 : N2 < Bg.lim) (hbad : (Rt.ok s M t N && Rt.ok s2 M2 t2 N2) = false) (w : World) :
    Calls Tryz.prog 56 #[.agg (Bg.ratA s M t N), .agg (Bg.ratA s2 M2 t2 N2), fv] w fun r w' => r = .returned (.tuple #[.agg (Bg.rZ 0 0), .int .i64 20]) ∧ Below w.heap.size w w' := by
 have HM := Mem.start w
 obtain ⟨f1, h1⟩ : ∃ f, Hid (f = Rt.ok s M t N) := ⟨_, rfl⟩
 obtain ⟨f2, h2⟩ : ∃ f, Hid (f = Rt.ok s2 M2 t2 N2) := ⟨_, rfl⟩
 rw [← h1.out, ← h2.out] at hbad
 have hz0 := za_rat
 have hs1 := sa_rz 0 0 (rZ_size 0 0)
 have k1 := la_rat s M t N
 have k2 := la_rat s2 M2 t2 N2
 go_enter Tryz.func56, Tryz.ntmps56
 cases f1 with
 | false =>
  clear hbad
  go_wp2_with (first | ((with_reducible refine g_bld ?_); refine a_rbl ?_) | (go_at_call 81; ((with_reducible refine (valid_n s M t N false hM hN h1 _).mono ?_); rintro e9 w2 ⟨rfl, hL⟩; replace HM := HM.call hL; clear hL)) | (first | ((with_reducible refine g_ld ?_); refine a_ld HM ?_) | ((with_reducible refine g_st ?_); refine a_st HM ?_; clear HM; intro w1 HM) | ((with_reducible refine g_al ?_); refine a_al HM ?_; clear HM; intro bk w1 HM) | ((with_reducible refine g_bx ?_); refine a_bx HM ?_; clear HM; intro bk w1 HM) | ((with_reducible refine g_bld ?_); refine a_bld ?_)))
  refine bodyPost_ret (r_ct rfl rfl (HM.get (by ((repeat (first | exact Look.here | refine Look.there ?_)); done))) (la_rz _ _)) rfl ⟨rfl, HM.low⟩
 | true =>
  obtain rfl : f2 = false := by simpa using hbad
  clear hbad
  go_wp2_with (first | ((with_reducible refine g_bld ?_); refine a_rbl ?_) | (go_at_call 81; ((with_reducible refine (valid_n s M t N true hM hN h1 _).mono ?_); rintro e9 w2 ⟨rfl, hL⟩; replace HM := HM.call hL; clear hL)) | (go_at_call 81; ((with_reducible refine (valid_n s2 M2 t2 N2 false hM2 hN2 h2 _).mono ?_); rintro e9 w2 ⟨rfl, hL⟩; replace HM := HM.call hL; clear hL)) | (first | ((with_reducible refine g_ld ?_); refine a_ld HM ?_) | ((with_reducible refine g_st ?_); refine a_st HM ?_; clear HM; intro w1 HM) | ((with_reducible refine g_al ?_); refine a_al HM ?_; clear HM; intro bk w1 HM) | ((with_reducible refine g_bx ?_); refine a_bx HM ?_; clear HM; intro bk w1 HM) | ((with_reducible refine g_bld ?_); refine a_bld ?_)))
  refine bodyPost_ret (r_ct rfl rfl (HM.get (by ((repeat (first | exact Look.here | refine Look.there ?_)); done))) (la_rz _ _)) rfl ⟨rfl, HM.low⟩
set_option maxHeartbeats 4000000 in
theorem calc_mul (p q r u x y n d e : Int) (hp : p.natAbs < Bg.lim) (hq : q.natAbs < Bg.lim) (hr : r.natAbs < Bg.lim) (hu : u.natAbs < Bg.lim) (h1 : Hid (true = Rt.okz p q)) (h2 : Hid (true = Rt.okz r u)) (hx : Hid (x = p * r)) (hy : Hid (y = q * u)) (lx : x.natAbs < Bg.lim) (ly : y.natAbs < Bg.lim) (hm : Hid ((n, d, e) = Rt.mk x y)) (w : World) :
    Calls Tryz.prog 56 #[.agg (Bg.rZ p q), .agg (Bg.rZ r u), .func (.func 57) #[] #[]] w fun r w' => r = .returned (.tuple #[.agg (Bg.rZ n d), .int .i64 e]) ∧ Below w.heap.size w w' := by
 have HM := Mem.start w
 have hz0 := za_rat
 have hs1 := sa_rz n d (rZ_size 0 0)
 have k1 := la_rz p q
 have k2 := la_rz r u
 go_enter Tryz.func56, Tryz.ntmps56
 go_wp2_with (first | (go_at_call 81; ((with_reducible refine (valid_z p q true hp hq h1 _).mono ?_); rintro e9 w2 ⟨rfl, hL⟩; replace HM := HM.call hL; clear hL)) | (go_at_call 81; ((with_reducible refine (valid_z r u true hr hu h2 _).mono ?_); rintro e9 w2 ⟨rfl, hL⟩; replace HM := HM.call hL; clear hL)) | (go_at_call 57; ((with_reducible refine (mulfn_any p q r u x y hp hq hr hu hx hy lx ly _).mono ?_); rintro e9 w2 ⟨rfl, hL⟩; replace HM := HM.call hL; clear hL)) | (go_at_call 82; ((with_reducible refine (make_z x y n d e lx ly hm _).mono ?_); rintro e9 w2 ⟨rfl, hL⟩; replace HM := HM.call hL; clear hL)) | (first | ((with_reducible refine g_ld ?_); refine a_ld HM ?_) | ((with_reducible refine g_st ?_); refine a_st HM ?_; clear HM; intro w1 HM) | ((with_reducible refine g_al ?_); refine a_al HM ?_; clear HM; intro bk w1 HM) | ((with_reducible refine g_bx ?_); refine a_bx HM ?_; clear HM; intro bk w1 HM) | ((with_reducible refine g_bld ?_); refine a_bld ?_)))
 refine bodyPost_ret (r_ct rfl rfl (HM.get (by ((repeat (first | exact Look.here | refine Look.there ?_)); done))) (la_rz _ _)) rfl ⟨rfl, HM.low⟩
end Go.Proofs.YtckhdiljihhdmaaGreat
namespace Go.Proofs.YtckhdiljihhdmaaGreat
set_option maxRecDepth 8000
open Go.RowKit
theorem Rt.ok_parts {s t : Bool} {M N : Nat} (h : Rt.ok s M t N = true) : t = false ∧ N ≠ 0 ∧ Bg.bl M ≤ 480 ∧ Bg.bl N ≤ 480 ∧ (s = true → M ≠ 0) ∧ Nat.gcd M N = 1 := by
 unfold Rt.ok Rt.short at h
 simp only [Bool.and_eq_true, decide_eq_true_eq] at h
 obtain ⟨⟨h1, h2⟩, h3, h4, h5, h6⟩ := h
 have h7 := Int.sign_eq_one_iff_pos.1 (show (Bg.toZ t N).sign = 1 by rcases sign_v (Bg.toZ t N) with h | h | h <;> omega)
 have ht : t = false ∧ N ≠ 0 := by
  cases t
  ·exact ⟨rfl, by simp [Bg.toZ] at h7; omega⟩
  ·simp [Bg.toZ] at h7; omega
 refine ⟨ht.1, ht.2, h1, h2, ?_, by omega⟩
 intro hs
 subst hs
 simpa using h3
theorem Rt.ok_z {s t : Bool} {M N : Nat} (h : Rt.ok s M t N = true) : Bg.ratA s M t N = Bg.rZ (Bg.toZ s M) (Bg.toZ t N) ∧ Rt.okz (Bg.toZ s M) (Bg.toZ t N) = true := by
 obtain ⟨ht, hN, h1, h2, h3, h4⟩ := Rt.ok_parts h
 have e1 : decide (Bg.toZ s M < 0) = s := by
  cases s
  ·simp [Bg.toZ]
  ·have := h3 rfl; simp [Bg.toZ]; omega
 have e2 : decide (Bg.toZ t N < 0) = t := by rw [ht]; simp [Bg.toZ]
 constructor
 ·rw [rZ_ratA, e1, e2, Bg.toZ_abs, Bg.toZ_abs]
 ·unfold Rt.okz; rw [e1, e2, Bg.toZ_abs, Bg.toZ_abs]; exact h
theorem p2_480 {N : Nat} (hN : N < Bg.lim) (h : Bg.bl N ≤ 480) : N < Bg.p2 480 := Nat.lt_of_lt_of_le (Bg.bl_bounds hN).1 (Bg.p2_mono h)
structure Rt.Good (p q : Int) : Prop where
 bp : p.natAbs < Bg.p2 480
 bq : q.natAbs < Bg.p2 480
 pos : 0 < q
 one : Nat.gcd p.natAbs q.natAbs = 1
theorem Rt.good {p q : Int} (hp : p.natAbs < Bg.lim) (hq : q.natAbs < Bg.lim) (h : Rt.okz p q = true) : Rt.Good p q := by
 unfold Rt.okz at h
 obtain ⟨ht, hN, h1, h2, h3, h4⟩ := Rt.ok_parts h
 refine ⟨p2_480 hp h1, p2_480 hq h2, ?_, h4⟩
 have : ¬ q < 0 := by simpa using ht
 omega
theorem Rt.Good.lp {p q : Int} (h : Rt.Good p q) : p.natAbs < Bg.lim := Nat.lt_of_lt_of_le h.bp (by have := Bg.p2_mono (show 480 ≤ 1024 by decide); rwa [Bg.p2_lim] at this)
theorem Rt.Good.lq {p q : Int} (h : Rt.Good p q) : q.natAbs < Bg.lim := Nat.lt_of_lt_of_le h.bq (by have := Bg.p2_mono (show 480 ≤ 1024 by decide); rwa [Bg.p2_lim] at this)
theorem mul_480 {a b : Int} (ha : a.natAbs < Bg.p2 480) (hb : b.natAbs < Bg.p2 480) : (a * b).natAbs < Bg.p2 960 := by
 rw [Int.natAbs_mul, show 960 = 480 + 480 from rfl, Bg.p2_add]
 exact Nat.mul_lt_mul'' ha hb
theorem lim_960 {a : Int} (h : a.natAbs < Bg.p2 960) : a.natAbs < Bg.lim := Nat.lt_of_lt_of_le h (by have := Bg.p2_mono (show 960 ≤ 1024 by decide); rwa [Bg.p2_lim] at this)
theorem Rt.okz_of {n d : Int} (h1 : Rt.short n.natAbs d.natAbs = true) (h2 : 0 < d) (h3 : Nat.gcd n.natAbs d.natAbs = 1) : Rt.okz n d = true := by
 unfold Rt.okz Rt.ok
 have e1 : decide (d < 0) = false := by simp; omega
 have e2 : Bg.toZ false d.natAbs = d := by simp [Bg.toZ]; omega
 rw [h1, e1, e2, h3, Int.sign_eq_one_of_pos h2]
 by_cases hn : n < 0
 ·have : n.natAbs ≠ 0 := by omega
  simp [hn, this]
 ·simp [hn]
def Rt.bin (k : Bool) (x y : Int) : Int × Int × Int := if k then Rt.mk x y else (0, 0, 20)
theorem Rt.bin_mk {x y n d e : Int} {k : Bool} (h : (n, d, e) = Rt.bin k x y) (hk : k = true) : (n, d, e) = Rt.mk x y := by rw [h, hk]; rfl
theorem Rt.bin_no {x y n d e : Int} {k : Bool} (h : (n, d, e) = Rt.bin k x y) (hk : k = false) : n = 0 ∧ d = 0 ∧ e = 20 := by
 rw [hk] at h; unfold Rt.bin at h; simpa using h
end Go.Proofs.YtckhdiljihhdmaaGreat
namespace Go.Proofs.YtckhdiljihhdmaaGreat
set_option maxRecDepth 8000
open Go.RowKit
theorem calc_mul_g (s : Bool) (M : Nat) (t : Bool) (N : Nat) (s2 : Bool) (M2 : Nat) (t2 : Bool) (N2 : Nat) (n d e : Int) (hM : M < Bg.lim) (hN : N < Bg.lim) (hM2 : M2 < Bg.lim) (hN2 : N2 < Bg.lim) (hr : Hid ((n, d, e) = Rt.bin (Rt.ok s M t N && Rt.ok s2 M2 t2 N2) (Bg.toZ s M * Bg.toZ s2 M2) (Bg.toZ t N * Bg.toZ t2 N2))) (w : World) :
    Calls Tryz.prog 56 #[.agg (Bg.ratA s M t N), .agg (Bg.ratA s2 M2 t2 N2), .func (.func 57) #[] #[]] w fun r w' => r = .returned (.tuple #[.agg (Bg.rZ n d), .int .i64 e]) ∧ Below w.heap.size w w' := by
 cases hk : (Rt.ok s M t N && Rt.ok s2 M2 t2 N2) with
 | false =>
  obtain ⟨rfl, rfl, rfl⟩ := Rt.bin_no hr.out hk
  exact calc_bad s M t N s2 M2 t2 N2 _ hM hN hM2 hN2 hk w
 | true =>
  have hm := Rt.bin_mk hr.out hk
  obtain ⟨k1, k2⟩ : Rt.ok s M t N = true ∧ Rt.ok s2 M2 t2 N2 = true := by simpa using hk
  obtain ⟨e1, z1⟩ := Rt.ok_z k1
  obtain ⟨e2, z2⟩ := Rt.ok_z k2
  have g1 := Rt.good (by rw [Bg.toZ_abs]; exact hM) (by rw [Bg.toZ_abs]; exact hN) z1
  have g2 := Rt.good (by rw [Bg.toZ_abs]; exact hM2) (by rw [Bg.toZ_abs]; exact hN2) z2
  rw [e1, e2]
  exact calc_mul _ _ _ _ _ _ n d e g1.lp g1.lq g2.lp g2.lq z1.symm z2.symm rfl rfl (lim_960 (mul_480 g1.bp g2.bp)) (lim_960 (mul_480 g1.bq g2.bq)) hm w
set_option maxHeartbeats 2000000 in
theorem mul_g (s : Bool) (M : Nat) (t : Bool) (N : Nat) (s2 : Bool) (M2 : Nat) (t2 : Bool) (N2 : Nat) (n d e : Int) (hM : M < Bg.lim) (hN : N < Bg.lim) (hM2 : M2 < Bg.lim) (hN2 : N2 < Bg.lim) (hr : Hid ((n, d, e) = Rt.bin (Rt.ok s M t N && Rt.ok s2 M2 t2 N2) (Bg.toZ s M * Bg.toZ s2 M2) (Bg.toZ t N * Bg.toZ t2 N2))) (w : World) :
    Calls Tryz.prog 30 #[.agg (Bg.ratA s M t N), .agg (Bg.ratA s2 M2 t2 N2)] w fun r w' => r = .returned (.tuple #[.agg (Bg.rZ n d), .int .i64 e]) ∧ Below w.heap.size w w' := by
 have HM := Mem.start w
 have hz0 := za_rat
 have hs1 := sa_rz n d (rZ_size 0 0)
 have k1 := la_rat s M t N
 have k2 := la_rat s2 M2 t2 N2
 go_enter Tryz.func30, Tryz.ntmps30
 go_wp2_with (first | (go_at_call 56; ((with_reducible refine (calc_mul_g s M t N s2 M2 t2 N2 n d e hM hN hM2 hN2 hr _).mono ?_); rintro e9 w2 ⟨rfl, hL⟩; replace HM := HM.call hL; clear hL)) | (first | ((with_reducible refine g_ld ?_); refine a_ld HM ?_) | ((with_reducible refine g_st ?_); refine a_st HM ?_; clear HM; intro w1 HM) | ((with_reducible refine g_al ?_); refine a_al HM ?_; clear HM; intro bk w1 HM) | ((with_reducible refine g_bx ?_); refine a_bx HM ?_; clear HM; intro bk w1 HM)))
 refine bodyPost_ret (r_ct rfl rfl (HM.get (by ((repeat (first | exact Look.here | refine Look.there ?_)); done))) (la_rz _ _)) rfl ⟨rfl, HM.low⟩
def Rt.num (b : Bool) (p q r u : Int) : Int := p * u + (if b then -(r * q) else r * q)
end Go.Proofs.YtckhdiljihhdmaaGreat
namespace Go.Proofs.YtckhdiljihhdmaaGreat
set_option maxRecDepth 8000
open Go.RowKit
theorem rvalid_z (p q : Int) (f : Bool) (hp : p.natAbs < Bg.lim) (hq : q.natAbs < Bg.lim) (hf : Hid (f = Rt.okz p q)) (w : World) :
    Calls Tryz.prog 70 #[.agg (Bg.rZ p q)] w fun r w' => r = .returned (.bool f) ∧ Below w.heap.size w w' := by
 rw [rZ_ratA]; exact rvalid_n _ _ _ _ f hp hq hf w
end Go.Proofs.YtckhdiljihhdmaaGreat
namespace Go.Proofs.YtckhdiljihhdmaaGreat
set_option maxRecDepth 8000
open Go.RowKit
set_option maxHeartbeats 4000000 in
theorem rMul_bad (s : Bool) (M : Nat) (t : Bool) (N : Nat) (s2 : Bool) (M2 : Nat) (t2 : Bool) (N2 : Nat) (hM : M < Bg.lim) (hN : N < Bg.lim) (hM2 : M2 < Bg.lim) (hN2 : N2 < Bg.lim) (hbad : (Rt.ok s M t N && Rt.ok s2 M2 t2 N2) = false) (w : World) :
    Calls Tryz.prog 63 #[.agg (Bg.ratA s M t N), .agg (Bg.ratA s2 M2 t2 N2)] w fun r w' => r = .returned (.tuple #[.agg (Bg.rZ 0 0), .int .i64 20]) ∧ Below w.heap.size w w' := by
 have HM := Mem.start w
 obtain ⟨f1, h1⟩ : ∃ f, Hid (f = Rt.ok s M t N) := ⟨_, rfl⟩
 obtain ⟨f2, h2⟩ : ∃ f, Hid (f = Rt.ok s2 M2 t2 N2) := ⟨_, rfl⟩
 rw [← h1.out, ← h2.out] at hbad
 have hz0 := za_rat
 have hs1 := sa_rz 0 0 (rZ_size 0 0)
 have k1 := la_rat s M t N
 have k2 := la_rat s2 M2 t2 N2
 go_enter Tryz.func63, Tryz.ntmps63
 cases f1 with
 | false =>
  clear hbad
  go_wp2_with (first | ((with_reducible refine g_bld ?_); refine a_rbl ?_) | (go_at_call 70; ((with_reducible refine (rvalid_n s M t N false hM hN h1 _).mono ?_); rintro e9 w2 ⟨rfl, hL⟩; replace HM := HM.call hL; clear hL)) | (first | ((with_reducible refine g_ld ?_); refine a_ld HM ?_) | ((with_reducible refine g_st ?_); refine a_st HM ?_; clear HM; intro w1 HM) | ((with_reducible refine g_al ?_); refine a_al HM ?_; clear HM; intro bk w1 HM) | ((with_reducible refine g_bx ?_); refine a_bx HM ?_; clear HM; intro bk w1 HM) | ((with_reducible refine g_bld ?_); refine a_bld ?_)))
  refine bodyPost_ret (r_ct rfl rfl (HM.get (by ((repeat (first | exact Look.here | refine Look.there ?_)); done))) (la_rz _ _)) rfl ⟨rfl, HM.low⟩
 | true =>
  obtain rfl : f2 = false := by simpa using hbad
  clear hbad
  go_wp2_with (first | ((with_reducible refine g_bld ?_); refine a_rbl ?_) | (go_at_call 70; ((with_reducible refine (rvalid_n s M t N true hM hN h1 _).mono ?_); rintro e9 w2 ⟨rfl, hL⟩; replace HM := HM.call hL; clear hL)) | (go_at_call 70; ((with_reducible refine (rvalid_n s2 M2 t2 N2 false hM2 hN2 h2 _).mono ?_); rintro e9 w2 ⟨rfl, hL⟩; replace HM := HM.call hL; clear hL)) | (first | ((with_reducible refine g_ld ?_); refine a_ld HM ?_) | ((with_reducible refine g_st ?_); refine a_st HM ?_; clear HM; intro w1 HM) | ((with_reducible refine g_al ?_); refine a_al HM ?_; clear HM; intro bk w1 HM) | ((with_reducible refine g_bx ?_); refine a_bx HM ?_; clear HM; intro bk w1 HM) | ((with_reducible refine g_bld ?_); refine a_bld ?_)))
  refine bodyPost_ret (r_ct rfl rfl (HM.get (by ((repeat (first | exact Look.here | refine Look.there ?_)); done))) (la_rz _ _)) rfl ⟨rfl, HM.low⟩
set_option maxHeartbeats 4000000 in
theorem rMul_zz (p q r u x y n d e : Int) (hp : p.natAbs < Bg.lim) (hq : q.natAbs < Bg.lim) (hr : r.natAbs < Bg.lim) (hu : u.natAbs < Bg.lim) (h1 : Hid (true = Rt.okz p q)) (h2 : Hid (true = Rt.okz r u)) (hx : Hid (x = p * r)) (hy : Hid (y = q * u)) (lx : x.natAbs < Bg.lim) (ly : y.natAbs < Bg.lim) (hm : Hid ((n, d, e) = Rt.mk x y)) (w : World) :
    Calls Tryz.prog 63 #[.agg (Bg.rZ p q), .agg (Bg.rZ r u)] w fun r w' => r = .returned (.tuple #[.agg (Bg.rZ n d), .int .i64 e]) ∧ Below w.heap.size w w' := by
 have HM := Mem.start w
 have hz0 := za_rat
 have hs1 := sa_rz n d (rZ_size 0 0)
 have k1 := la_rz p q
 have k2 := la_rz r u
 have k3 := la_rznum p q
 have k4 := la_rzden p q
 have k5 := la_rznum r u
 have k6 := la_rzden r u
 go_enter Tryz.func63, Tryz.ntmps63
 go_upto_region 3 with (first | (go_at_call 70; ((with_reducible refine (rvalid_z p q true hp hq h1 _).mono ?_); rintro e9 w2 ⟨rfl, hL⟩; replace HM := HM.call hL; clear hL)) | (go_at_call 70; ((with_reducible refine (rvalid_z r u true hr hu h2 _).mono ?_); rintro e9 w2 ⟨rfl, hL⟩; replace HM := HM.call hL; clear hL)) | (first | ((with_reducible refine g_ld ?_); refine a_ld HM ?_) | ((with_reducible refine g_st ?_); refine a_st HM ?_; clear HM; intro w1 HM) | ((with_reducible refine g_al ?_); refine a_al HM ?_; clear HM; intro bk w1 HM) | ((with_reducible refine g_bx ?_); refine a_bx HM ?_; clear HM; intro bk w1 HM) | ((with_reducible refine g_bld ?_); refine a_bld ?_)))
 obtain ⟨b4, rfl⟩ := HM.nm0
 refine start_M [13] HM (by kernel_rfl) (fun w0x H9 => ?_)
 replace HM := H9; clear H9
 refine k_fa 0 (heldE HM) ?_
 refine k_ld 1 [4, 9, 10, 11, 12, 13, 14] (heldE HM) ?_
 refine k_fa 2 (heldE HM) ?_
 refine k_ld 3 [4, 9, 10, 11, 12, 13, 14] (heldE HM) ?_
 refine k_fa 5 (heldE HM) ?_
 refine k_ld 6 [9, 10, 11, 12, 13, 14] (heldE HM) ?_
 refine k_fa 7 (heldE HM) ?_
 refine k_ld 8 [9, 10, 11, 12, 13, 14] (heldE HM) ?_
 refine j_one 4 fun K9 hK9 => ?_
 refine j_call2 (v := ?_) HM ?_ ?_; rotate_left 1; (focus (with_reducible (first | exact rproduct_f p r x hp hr hx lx _ | exact rproduct_f q u y hq hu hy ly _ | exact rmake_z x y n d e lx ly hm _))); clear HM; intro w1 HM
 refine hK9 _ _ (heldE HM) ?_; clear hK9 K9
 refine j_one 9 fun K9 hK9 => ?_
 refine j_call2 (v := ?_) HM ?_ ?_; rotate_left 1; (focus (with_reducible (first | exact rproduct_f p r x hp hr hx lx _ | exact rproduct_f q u y hq hu hy ly _ | exact rmake_z x y n d e lx ly hm _))); clear HM; intro w1 HM
 refine hK9 _ _ (heldE HM) ?_; clear hK9 K9
 refine j_one 10 fun K9 hK9 => ?_
 refine j_call2 (v := ?_) HM ?_ ?_; rotate_left 1; (focus (with_reducible (first | exact rproduct_f p r x hp hr hx lx _ | exact rproduct_f q u y hq hu hy ly _ | exact rmake_z x y n d e lx ly hm _))); clear HM; intro w1 HM
 refine hK9 _ _ (heldE HM) ?_; clear hK9 K9
 refine k_ext 11 (heldE HM) ?_
 refine k_ext 12 (heldE HM) ?_
 refine j_one 13 fun K9 hK9 => ?_
 refine j_st HM ?_; clear HM; intro w1 HM
 refine hK9 _ _ heldN ?_; clear hK9 K9
 refine k_mv 14 heldN ?_
 refine wpAnyL_done (by kernel_rfl) ?_ _
 (go_wp2_with fail; refine bodyPost_ret (r_ct (b := b4) (k := 0) rfl rfl (HM.get (by ((repeat (first | exact Look.here | refine Look.there ?_)); done))) (la_rz _ _)) rfl ⟨rfl, HM.low⟩)
theorem rMul_g (s : Bool) (M : Nat) (t : Bool) (N : Nat) (s2 : Bool) (M2 : Nat) (t2 : Bool) (N2 : Nat) (n d e : Int) (hM : M < Bg.lim) (hN : N < Bg.lim) (hM2 : M2 < Bg.lim) (hN2 : N2 < Bg.lim) (hr : Hid ((n, d, e) = Rt.bin (Rt.ok s M t N && Rt.ok s2 M2 t2 N2) (Bg.toZ s M * Bg.toZ s2 M2) (Bg.toZ t N * Bg.toZ t2 N2))) (w : World) :
    Calls Tryz.prog 63 #[.agg (Bg.ratA s M t N), .agg (Bg.ratA s2 M2 t2 N2)] w fun r w' => r = .returned (.tuple #[.agg (Bg.rZ n d), .int .i64 e]) ∧ Below w.heap.size w w' := by
 cases hk : (Rt.ok s M t N && Rt.ok s2 M2 t2 N2) with
 | false =>
  obtain ⟨rfl, rfl, rfl⟩ := Rt.bin_no hr.out hk
  exact rMul_bad s M t N s2 M2 t2 N2 hM hN hM2 hN2 hk w
 | true =>
  have hm := Rt.bin_mk hr.out hk
  obtain ⟨k1, k2⟩ : Rt.ok s M t N = true ∧ Rt.ok s2 M2 t2 N2 = true := by simpa using hk
  obtain ⟨e1, z1⟩ := Rt.ok_z k1
  obtain ⟨e2, z2⟩ := Rt.ok_z k2
  have g1 := Rt.good (by rw [Bg.toZ_abs]; exact hM) (by rw [Bg.toZ_abs]; exact hN) z1
  have g2 := Rt.good (by rw [Bg.toZ_abs]; exact hM2) (by rw [Bg.toZ_abs]; exact hN2) z2
  rw [e1, e2]
  exact rMul_zz _ _ _ _ _ _ n d e g1.lp g1.lq g2.lp g2.lq z1.symm z2.symm rfl rfl (lim_960 (mul_480 g1.bp g2.bp)) (lim_960 (mul_480 g1.bq g2.bq)) hm w
end Go.Proofs.YtckhdiljihhdmaaGreat
namespace Go.Proofs.YtckhdiljihhdmaaGreat
set_option maxRecDepth 8000
open Go.RowKit
end Go.Proofs.YtckhdiljihhdmaaGreat
namespace Go.Proofs.YtckhdiljihhdmaaGreat
set_option maxRecDepth 8000
open Go.RowKit
theorem small_480 {z : Int} (h : z.natAbs < 18446744073709551616) : z.natAbs < Bg.p2 480 := Nat.lt_of_lt_of_le h (by have := Bg.p2_mono (show 64 ≤ 480 by decide); unfold Bg.p2 at *; omega)
end Go.Proofs.YtckhdiljihhdmaaGreat
namespace Go.Proofs.YtckhdiljihhdmaaGreat
set_option maxRecDepth 8000
open Go.RowKit
set_option maxHeartbeats 2000000 in
theorem rSign_bad (s : Bool) (M : Nat) (t : Bool) (N : Nat) (hM : M < Bg.lim) (hN : N < Bg.lim) (h1 : Hid (false = Rt.ok s M t N)) (w : World) :
    Calls Tryz.prog 64 #[.agg (Bg.ratA s M t N)] w fun r w' => r = .returned (.tuple #[.int .i64 0, .int .i64 20]) ∧ Below w.heap.size w w' := by
 have HM := Mem.start w
 have hz0 := za_rat
 have hs1 := sa_rz 0 0 (rZ_size 0 0)
 have k1 := la_rat s M t N
 go_enter Tryz.func64, Tryz.ntmps64
 go_wp2_with (first | ((with_reducible refine g_bld ?_); refine a_rbl ?_) | (go_at_call 70; ((with_reducible refine (rvalid_n s M t N false hM hN h1 _).mono ?_); rintro e9 w2 ⟨rfl, hL⟩; replace HM := HM.call hL; clear hL)) | (first | ((with_reducible refine g_ld ?_); refine a_ld HM ?_) | ((with_reducible refine g_bx ?_); refine a_bx HM ?_; clear HM; intro bk w1 HM)))
 go_ret2
 exact ⟨rfl, HM.low⟩
set_option maxHeartbeats 4000000 in
theorem rSign_zz (p q g : Int) (hp : p.natAbs < Bg.lim) (hq : q.natAbs < Bg.lim) (h1 : Hid (true = Rt.okz p q)) (hg : Hid (g = p.sign)) (w : World) :
    Calls Tryz.prog 64 #[.agg (Bg.rZ p q)] w fun r w' => r = .returned (.tuple #[.int .i64 g, .int .i64 0]) ∧ Below w.heap.size w w' := by
 have HM := Mem.start w
 have hz0 := za_rat
 have k1 := la_rz p q
 have k3 := la_rznum p q
 have k4 := la_rzden p q
 go_enter Tryz.func64, Tryz.ntmps64
 go_wp2_with (first | (go_at_call 70; ((with_reducible refine (rvalid_z p q true hp hq h1 _).mono ?_); rintro e9 w2 ⟨rfl, hL⟩; replace HM := HM.call hL; clear hL)) | (go_at_call 88; ((with_reducible refine (rsign_z p g hp hg _).mono ?_); rintro e9 w2 ⟨rfl, hL⟩; replace HM := HM.call hL; clear hL)) | (first | ((with_reducible refine g_ld ?_); refine a_ld HM ?_) | ((with_reducible refine g_bx ?_); refine a_bx HM ?_; clear HM; intro bk w1 HM)))
 go_ret2
 exact ⟨rfl, HM.low⟩
theorem rdivMod_zz (p q x y : Int) (hp : p.natAbs < Bg.lim) (hq : q.natAbs < Bg.lim) (h0 : q ≠ 0) (hx : Hid (x = p / q)) (hy : Hid (y = p % q)) (w : World) :
    Calls Tryz.prog 104 #[.agg (Bg.zA p), .agg (Bg.zA q)] w fun r w' => r = .returned (.tuple #[.agg (Bg.zA x), .agg (Bg.zA y), .int .i64 0]) ∧ Below w.heap.size w w' := by
 rw [zA_int p]; exact rdivMod_iz _ _ q x y hp hq h0 (Lib.hid (by rw [Bg.toZ_iv]; exact hx.out)) (Lib.hid (by rw [Bg.toZ_iv]; exact hy.out)) w
theorem rSign_g (s : Bool) (M : Nat) (t : Bool) (N : Nat) (n e : Int) (hr : Hid ((n, e) = if Rt.ok s M t N then ((Bg.toZ s M).sign, 0) else (0, 20))) (hM : M < Bg.lim) (hN : N < Bg.lim) (w : World) :
    Calls Tryz.prog 64 #[.agg (Bg.ratA s M t N)] w fun r w' => r = .returned (.tuple #[.int .i64 n, .int .i64 e]) ∧ Below w.heap.size w w' := by
 have hr2 := hr.out
 cases hk : Rt.ok s M t N with
 | false =>
  rw [hk] at hr2
  obtain ⟨rfl, rfl⟩ : n = 0 ∧ e = 20 := by simpa using hr2
  exact rSign_bad s M t N hM hN hk.symm w
 | true =>
  rw [hk] at hr2
  obtain ⟨rfl, rfl⟩ : n = (Bg.toZ s M).sign ∧ e = 0 := by simpa using hr2
  obtain ⟨e1, z1⟩ := Rt.ok_z hk
  have g := Rt.good (by rw [Bg.toZ_abs]; exact hM) (by rw [Bg.toZ_abs]; exact hN) z1
  rw [e1]
  exact rSign_zz _ _ _ g.lp g.lq z1.symm rfl w
end Go.Proofs.YtckhdiljihhdmaaGreat
namespace Go.Proofs.YtckhdiljihhdmaaGreat
set_option maxRecDepth 8000
open Go.RowKit
def Rt.Fit (x : Rat) : Prop := x.num.natAbs < Bg.p2 480 ∧ x.den < Bg.p2 480
@[irreducible] def Rt.qA (x : Rat) : Array Value := Bg.rZ x.num x.den
theorem qA_rZ (x : Rat) : Rt.qA x = Bg.rZ x.num x.den := by unfold Rt.qA; rfl
theorem qA_size (x : Rat) : (Rt.qA x).size = 66 := by rw [qA_rZ]; exact rZ_size _ _
theorem la_q (x : Rat) : LA 50 (Rt.qA x) 0 (.agg (Rt.qA x)) := by rw [qA_rZ]; exact la_rz _ _
theorem sa_q (x : Rat) {c : Array Value} (h : c.size = 66) : SA 50 c 0 (.agg (Rt.qA x)) (Rt.qA x) := by rw [qA_rZ]; exact sa_rz _ _ h
theorem lt480_lim {n : Nat} (h : n < Bg.p2 480) : n < Bg.lim := Nat.lt_of_lt_of_le h (by have := Bg.p2_mono (show 480 ≤ 1024 by decide); rwa [Bg.p2_lim] at this)
theorem Rt.Fit.ln {x : Rat} (h : Rt.Fit x) : x.num.natAbs < Bg.lim := lt480_lim h.1
theorem Rt.Fit.ld {x : Rat} (h : Rt.Fit x) : ((x.den : Nat) : Int).natAbs < Bg.lim := by rw [Int.natAbs_natCast]; exact lt480_lim h.2
theorem Rt.short_iff {M N : Nat} (hM : M < Bg.lim) (hN : N < Bg.lim) : Rt.short M N = true ↔ M < Bg.p2 480 ∧ N < Bg.p2 480 := by
 unfold Rt.short
 rw [Bool.and_eq_true, decide_eq_true_iff, decide_eq_true_iff]
 exact ⟨fun h => ⟨p2_480 hM h.1, p2_480 hN h.2⟩, fun h => ⟨Bg.bl_le (by omega) h.1, Bg.bl_le (by omega) h.2⟩⟩
theorem Rt.Fit.okz {x : Rat} (h : Rt.Fit x) : Rt.okz x.num x.den = true :=
 Rt.okz_of (by rw [Int.natAbs_natCast]; exact (Rt.short_iff h.ln (lt480_lim h.2)).2 h) (by have := x.den_pos; omega) (by rw [Int.natAbs_natCast]; exact x.reduced)
theorem Rt.okz_rat {p q : Int} (hp : p.natAbs < Bg.lim) (hq : q.natAbs < Bg.lim) (h : Rt.okz p q = true) : ∃ x : Rat, Rt.Fit x ∧ p = x.num ∧ q = x.den := by
 have g := Rt.good hp hq h
 have h1 := g.pos
 refine ⟨⟨p, q.natAbs, by omega, g.one⟩, ⟨g.bp, g.bq⟩, rfl, ?_⟩
 show q = ((q.natAbs : Nat) : Int)
 omega
theorem Rt.sg_parts {p q : Int} (h0 : q ≠ 0) : p / Rt.sg p q = (Rat.divInt p q).num ∧ q / Rt.sg p q = (Rat.divInt p q).den := by
 rw [Rat.num_divInt, Rat.den_divInt, if_neg h0]
 have hg : (q.gcd p : Int) = (Nat.gcd p.natAbs q.natAbs : Nat) := by rw [Int.gcd, Nat.gcd_comm]
 have hg' : q.gcd p = Nat.gcd p.natAbs q.natAbs := by rw [Int.gcd, Nat.gcd_comm]
 have d1 : ((Nat.gcd p.natAbs q.natAbs : Nat) : Int) ∣ p := Int.ofNat_dvd_left.2 (Nat.gcd_dvd_left _ _)
 have d2 : ((Nat.gcd p.natAbs q.natAbs : Nat) : Int) ∣ q := Int.ofNat_dvd_left.2 (Nat.gcd_dvd_right _ _)
 rw [hg, hg']
 unfold Rt.sg
 rcases Int.lt_or_gt_of_ne h0 with hq | hq
 ·rw [if_pos hq, Int.sign_eq_neg_one_of_neg hq, Int.ediv_neg, Int.ediv_neg]
  constructor
  ·rw [← Int.neg_ediv_of_dvd d1]; congr 1; omega
  ·rw [← Int.neg_ediv_of_dvd d2, Int.natCast_ediv]; congr 1; omega
 ·rw [if_neg (by omega), Int.sign_eq_one_of_pos hq]
  constructor
  ·congr 1; omega
  ·rw [Int.natCast_ediv]; congr 1; omega
theorem Rt.divInt_le {p q : Int} (h0 : q ≠ 0) : (Rat.divInt p q).num.natAbs ≤ p.natAbs ∧ (Rat.divInt p q).den ≤ q.natAbs := by
 obtain ⟨h1, h2⟩ := Rt.sg_parts (p := p) h0
 constructor
 ·rw [← h1]; exact Int.natAbs_ediv_le_natAbs _ _
 ·have := Int.natAbs_ediv_le_natAbs q (Rt.sg p q)
  rw [h2] at this
  simpa using this
noncomputable def Rt.res (z : Rat) : Array Value × Int := open Classical in if Rt.Fit z then (Rt.qA z, 0) else (Bg.rZ 0 0, 10)
theorem Rt.res_fit {z : Rat} (h : Rt.Fit z) : (Rt.qA z, (0 : Int)) = Rt.res z := by unfold Rt.res; rw [if_pos h]
theorem Rt.mk_fit {p q n d e : Int} (h0 : q ≠ 0) {z : Rat} (hz : z = Rat.divInt p q) (hf : Rt.Fit z) (h : (n, d, e) = Rt.mk p q) : n = z.num ∧ d = z.den ∧ e = 0 := by
 obtain ⟨h1, h2⟩ := Rt.sg_parts (p := p) h0
 unfold Rt.mk at h
 rw [if_neg h0, h1, h2, ← hz, if_pos (by rw [Int.natAbs_natCast]; exact (Rt.short_iff hf.ln (lt480_lim hf.2)).2 hf)] at h
 simpa using h
theorem Rt.mk_res {p q n d e : Int} (hp : p.natAbs < Bg.lim) (hq : q.natAbs < Bg.lim) (h0 : q ≠ 0) (h : (n, d, e) = Rt.mk p q) : (Bg.rZ n d, e) = Rt.res (Rat.divInt p q) := by
 by_cases hf : Rt.Fit (Rat.divInt p q)
 ·obtain ⟨rfl, rfl, rfl⟩ := Rt.mk_fit h0 rfl hf h
  rw [← Rt.res_fit hf, qA_rZ]
 ·obtain ⟨h1, h2⟩ := Rt.sg_parts (p := p) h0
  obtain ⟨l1, l2⟩ := Rt.divInt_le (p := p) h0
  unfold Rt.mk at h
  rw [if_neg h0, h1, h2, if_neg (by rw [Int.natAbs_natCast, Rt.short_iff (by omega) (by omega)]; exact hf)] at h
  obtain ⟨rfl, rfl, rfl⟩ : n = 0 ∧ d = 0 ∧ e = 10 := by simpa using h
  unfold Rt.res
  rw [if_neg hf]
theorem Rt.add_div (x y : Rat) : x + y = Rat.divInt (Rt.num false x.num x.den y.num y.den) (x.den * y.den) := by
 have h1 : (x.den : Int) ≠ 0 := by have := x.den_pos; omega
 have h2 : (y.den : Int) ≠ 0 := by have := y.den_pos; omega
 conv => lhs; rw [← Rat.num_divInt_den x, ← Rat.num_divInt_den y]
 rw [Rat.divInt_add_divInt _ _ h1 h2]
 rfl
theorem Rt.mul_div (x y : Rat) : x * y = Rat.divInt (x.num * y.num) (x.den * y.den) := by
 conv => lhs; rw [← Rat.num_divInt_den x, ← Rat.num_divInt_den y]
 rw [Rat.divInt_mul_divInt]
theorem Rt.den_ne (x : Rat) : (x.den : Int) ≠ 0 := by have := x.den_pos; omega
theorem Rt.den2_ne (x y : Rat) : (x.den * y.den : Int) ≠ 0 := Int.mul_ne_zero (Rt.den_ne x) (Rt.den_ne y)
theorem Rt.Fit.b480 {x : Rat} (h : Rt.Fit x) : ((x.den : Nat) : Int).natAbs < Bg.p2 480 := by rw [Int.natAbs_natCast]; exact h.2
theorem Rt.fit_zero : Rt.Fit 0 := ⟨by simp [Bg.p2_pos], by have := Bg.p2_mono (show 1 ≤ 480 by decide); have h : Bg.p2 1 = 2 := (by unfold Bg.p2; rfl); show 1 < _; omega⟩
def Rt.cmp (x y : Rat) : Int := (x.num * y.den - y.num * x.den).sign
theorem Rt.qA_eq {x y : Rat} : (x.num = y.num ∧ (x.den : Int) = y.den) ↔ x = y := by
 constructor
 ·rintro ⟨h1, h2⟩; exact Rat.ext h1 (by omega)
 ·rintro rfl; exact ⟨rfl, rfl⟩
theorem mul_r (x y : Rat) (c : Array Value) (e : Int) (hx : Rt.Fit x) (hy : Rt.Fit y) (hr : Hid ((c, e) = Rt.res (x * y))) (w : World) :
    Calls Tryz.prog 30 #[.agg (Rt.qA x), .agg (Rt.qA y)] w fun r w' => r = .returned (.tuple #[.agg c, .int .i64 e]) ∧ Below w.heap.size w w' := by
 obtain ⟨n, d, e2, hm⟩ : ∃ n d e2 : Int, Hid ((n, d, e2) = Rt.mk (x.num * y.num) ((x.den * y.den : Int))) := ⟨_, _, _, rfl⟩
 have hq := hr.out
 rw [Rt.mul_div x y, ← Rt.mk_res (lim_960 (mul_480 hx.1 hy.1)) (lim_960 (mul_480 hx.b480 hy.b480)) (Rt.den2_ne x y) hm.out] at hq
 obtain ⟨rfl, rfl⟩ : c = Bg.rZ n d ∧ e = e2 := by simpa using hq
 rw [qA_rZ, qA_rZ, rZ_ratA x.num, rZ_ratA y.num]
 exact mul_g _ _ _ _ _ _ _ _ n d e hx.ln hx.ld hy.ln hy.ld (Lib.hid (by rw [Bg.toZ_iv, Bg.toZ_iv, Bg.toZ_iv, Bg.toZ_iv, show Rt.ok _ _ _ _ = true from hx.okz, show Rt.ok _ _ _ _ = true from hy.okz]; exact hm.out)) w
theorem mul_q (x y z : Rat) (hx : Rt.Fit x) (hy : Rt.Fit y) (hz : Hid (z = x * y)) (hf : Rt.Fit z) (w : World) :
    Calls Tryz.prog 30 #[.agg (Rt.qA x), .agg (Rt.qA y)] w fun r w' => r = .returned (.tuple #[.agg (Rt.qA z), .int .i64 0]) ∧ Below w.heap.size w w' :=
 mul_r x y _ _ hx hy (Lib.hid (hz.out ▸ Rt.res_fit hf)) w
theorem rmul_r (x y : Rat) (c : Array Value) (e : Int) (hx : Rt.Fit x) (hy : Rt.Fit y) (hr : Hid ((c, e) = Rt.res (x * y))) (w : World) :
    Calls Tryz.prog 63 #[.agg (Rt.qA x), .agg (Rt.qA y)] w fun r w' => r = .returned (.tuple #[.agg c, .int .i64 e]) ∧ Below w.heap.size w w' := by
 obtain ⟨n, d, e2, hm⟩ : ∃ n d e2 : Int, Hid ((n, d, e2) = Rt.mk (x.num * y.num) ((x.den * y.den : Int))) := ⟨_, _, _, rfl⟩
 have hq := hr.out
 rw [Rt.mul_div x y, ← Rt.mk_res (lim_960 (mul_480 hx.1 hy.1)) (lim_960 (mul_480 hx.b480 hy.b480)) (Rt.den2_ne x y) hm.out] at hq
 obtain ⟨rfl, rfl⟩ : c = Bg.rZ n d ∧ e = e2 := by simpa using hq
 rw [qA_rZ, qA_rZ, rZ_ratA x.num, rZ_ratA y.num]
 exact rMul_g _ _ _ _ _ _ _ _ n d e hx.ln hx.ld hy.ln hy.ld (Lib.hid (by rw [Bg.toZ_iv, Bg.toZ_iv, Bg.toZ_iv, Bg.toZ_iv, show Rt.ok _ _ _ _ = true from hx.okz, show Rt.ok _ _ _ _ = true from hy.okz]; exact hm.out)) w
end Go.Proofs.YtckhdiljihhdmaaGreat
namespace Go.Proofs.YtckhdiljihhdmaaGreat
set_option maxRecDepth 8000
open Go.RowKit
theorem Rt.fit_le {x : Rat} {p q : Int} (h0 : q ≠ 0) (hp : p.natAbs < Bg.p2 480) (hq : q.natAbs < Bg.p2 480) (hx : x = Rat.divInt p q) : Rt.Fit x := by
 obtain ⟨l1, l2⟩ := Rt.divInt_le (p := p) h0
 rw [hx]
 exact ⟨by omega, by omega⟩
theorem Rt.mk_q {x : Rat} {p q : Int} (h0 : q ≠ 0) (hp : p.natAbs < Bg.p2 480) (hq : q.natAbs < Bg.p2 480) (hx : x = Rat.divInt p q) : Hid ((x.num, (x.den : Int), (0 : Int)) = Rt.mk p q) := by
 obtain ⟨n, d, e, h⟩ : ∃ n d e, (n, d, e) = Rt.mk p q := ⟨_, _, _, rfl⟩
 obtain ⟨rfl, rfl, rfl⟩ := Rt.mk_fit h0 hx (Rt.fit_le h0 hp hq hx) h
 exact Lib.hid h
def RatPost (W : World) (tb m k : Nat) (w : World) (e : Ending) (w' : World) : Prop :=
 ∃ x : Rat, e = .returned (.agg (Rt.qA x)) ∧ x.num.natAbs < Bg.p2 k ∧ x.den < Bg.p2 k ∧ Tp W tb (m + 1000) w' ∧ w.grownBy w' (some tb)
end Go.Proofs.YtckhdiljihhdmaaGreat
namespace Go.Proofs.YtckhdiljihhdmaaGreat
set_option maxRecDepth 8000
open Go.RowKit
theorem rsign_q (x : Rat) (n : Int) (hx : Rt.Fit x) (hn : Hid (n = x.num.sign)) (w : World) :
    Calls Tryz.prog 64 #[.agg (Rt.qA x)] w fun r w' => r = .returned (.tuple #[.int .i64 n, .int .i64 0]) ∧ Below w.heap.size w w' := by
 rw [qA_rZ, rZ_ratA]
 exact rSign_g _ _ _ _ n 0 (Lib.hid (by rw [Bg.toZ_iv, show Rt.ok _ _ _ _ = true from hx.okz, hn.out]; rfl)) hx.ln hx.ld w
def Rt.abs (x : Rat) : Rat := ⟨x.num.natAbs, x.den, x.den_nz, by simpa using x.reduced⟩
theorem make_q (p q : Int) (x : Rat) (h0 : q ≠ 0) (hp : p.natAbs < Bg.p2 480) (hq : q.natAbs < Bg.p2 480) (hx : Hid (x = Rat.divInt p q)) (w : World) :
    Calls Tryz.prog 82 #[.agg (Bg.zA p), .agg (Bg.zA q)] w fun r w' => r = .returned (.tuple #[.agg (Rt.qA x), .int .i64 0]) ∧ Below w.heap.size w w' := by
 rw [qA_rZ]
 exact make_z p q _ _ 0 (lt480_lim hp) (lt480_lim hq) (Rt.mk_q h0 hp hq hx.out) w
theorem Rt.int_divInt (n : Int) : (n : Rat) = Rat.divInt n 1 := by
 apply Rat.ext
 ·rw [Rat.num_intCast, Rat.num_divInt]; simp
 ·rw [Rat.den_intCast, Rat.den_divInt]; simp
theorem whole_q (n : Int) (x : Rat) (hn1 : -9223372036854775808 ≤ n) (hn2 : n < 9223372036854775808) (hx : Hid (x = (n : Rat))) (w : World) :
    Calls Tryz.prog 31 #[.int .i64 n] w fun r w' => r = .returned (.agg (Rt.qA x)) ∧ Below w.heap.size w w' := by
 rw [hx.out, qA_rZ, Rat.num_intCast, Rat.den_intCast]
 exact whole_w n hn1 hn2 w
theorem rwhole_q (n : Int) (x : Rat) (hn1 : -9223372036854775808 ≤ n) (hn2 : n < 9223372036854775808) (hx : Hid (x = (n : Rat))) (w : World) :
    Calls Tryz.prog 47 #[.int .i64 n] w fun r w' => r = .returned (.agg (Rt.qA x)) ∧ Below w.heap.size w w' := by
 rw [hx.out, qA_rZ, Rat.num_intCast, Rat.den_intCast]
 exact rwhole_w n hn1 hn2 w
section
variable {ops : Array Oper} {rest : List Oper} {a a2 : Act} {w : World} {Q : Exit → Act → World → Prop} {d : Option Tmp} {ty T t : TypeId} {ps : String} {af : Array Edge} {g : Option (Nat × Bool)} {x y : Operand} {v : Value} {xs : Array (Nat × Operand)} {bop : BinOp}
theorem Rt.dec_eq (x y : Rat) : decide (x.num = y.num ∧ (x.den : Int) = y.den) = decide (x = y) := decide_eq_decide.2 Rt.qA_eq
theorem y_cmpq (op : BinOp) (x1 y1 : Rat) (v : Bool) (he : op = .eql ∨ op = .neq) (hv : v = if op = .eql then decide (x1 = y1) else !decide (x1 = y1)) (h1 : Rt.Fit x1) (h2 : Rt.Fit y1) {S : World → Prop} {o : Oper} (hw : Region.wanted o (yielded ops a.tmps) = true := by rfl) (ho : o.op = .binOp op 50 x y t := by rfl) (hx : a.eval x = .agg (Rt.qA x1) := by (conv => lhs; whnf) <;> rfl) (hy : a.eval y = .agg (Rt.qA y1) := by (conv => lhs; whnf) <;> rfl) :
    YieldsIf Tryz.prog ops S o (.bool v) a := by
 rw [qA_rZ] at hx hy
 exact y_cmpr op _ _ _ _ v he (by rw [hv, Rt.dec_eq]) h1.ln h1.ld h2.ln h2.ld hw ho hx hy
end
end Go.Proofs.YtckhdiljihhdmaaGreat
namespace Go.Proofs.YtckhdiljihhdmaaGreat
set_option maxRecDepth 8000
open Go.RowKit
structure Rt.Bd (x : Rat) (i j : Nat) : Prop where
 n : x.num.natAbs < Bg.p2 i
 d : x.den < Bg.p2 j
theorem Rt.Bd.fit {x : Rat} {i j : Nat} (h : Rt.Bd x i j) (hi : i ≤ 480 := by decide) (hj : j ≤ 480 := by decide) : Rt.Fit x :=
 ⟨Nat.lt_of_lt_of_le h.n (Bg.p2_mono hi), Nat.lt_of_lt_of_le h.d (Bg.p2_mono hj)⟩
theorem Rt.Bd.divInt {p q : Int} {i j : Nat} (h0 : q ≠ 0) (hp : p.natAbs < Bg.p2 i) (hq : q.natAbs < Bg.p2 j) : Rt.Bd (Rat.divInt p q) i j := by
 obtain ⟨l1, l2⟩ := Rt.divInt_le (p := p) h0
 exact ⟨by omega, by omega⟩
end Go.Proofs.YtckhdiljihhdmaaGreat
namespace Go.Proofs.YtckhdiljihhdmaaGreat
set_option maxRecDepth 8000
open Go.RowKit
theorem qA_one (x : Rat) : (Rt.qA x).all (·.oneCell') = true := by rw [qA_rZ, rZ_ratA]; exact ratA_one _ _ _ _
def FieldC (j : Nat) (cs : Array Value) : Prop := ∃ l : List Rat, l.length = j ∧ (∀ x ∈ l, Rt.Bd x 30 20) ∧ cs = rowsOf (l.map Rt.qA ++ List.replicate (3 - j) (Bg.rZ 0 0))
theorem rZ_one (n d : Int) : (Bg.rZ n d).all (·.oneCell') = true := by rw [rZ_ratA]; exact ratA_one _ _ _ _
end Go.Proofs.YtckhdiljihhdmaaGreat
namespace Go.Proofs.YtckhdiljihhdmaaGreat
set_option maxRecDepth 8000
open Go.RowKit
def Sc.md (v n : Int) : Int := if v.tmod n < 0 then v.tmod n + n else v.tmod n
theorem Sc.md_in {v n : Int} (h0 : 1 ≤ n) : 0 ≤ Sc.md v n ∧ Sc.md v n < n := by
 have h1 : v.tmod n < n := by
  have := Int.tmod_lt_of_pos v (show 0 < n by omega); exact this
 have h2 : -n < v.tmod n := by
  have h3 : (-v).tmod n < n := Int.tmod_lt_of_pos (-v) (by omega)
  rw [Int.neg_tmod] at h3
  omega
 unfold Sc.md
 split <;> omega
theorem smod_any (v n z : Int) (w : World) (h0 : 1 ≤ n) (h1 : n ≤ 4611686018427387904) (hz : Hid (z = Sc.md v n)) :
    Calls Tryz.prog 19 #[.int .i64 v, .int .i64 n] w fun e w' => e = .returned (.int .i64 z) ∧ w' = w := by
 have h1 : v.tmod n < n := by
  have := Int.tmod_lt_of_pos v (show 0 < n by omega); exact this
 have h2 : -n < v.tmod n := by
  have h3 : (-v).tmod n < n := Int.tmod_lt_of_pos (-v) (by omega)
  rw [Int.neg_tmod] at h3
  omega
 obtain ⟨q, hq⟩ : ∃ q, q = v.tmod n := ⟨_, rfl⟩
 have hz2 : z = if q < 0 then q + n else q := by rw [hz.out, Sc.md, hq]
 rw [← hq] at h1 h2
 have hb : v.tmod n = q := hq.symm
 have hn0 : ¬ n < 1 := by omega
 have hn1 : ¬ n = 0 := by omega
 clear hq hz
 by_cases hneg : q < 0
 ·rw [if_pos hneg] at hz2
  subst hz2
  go_enter Tryz.func19, Tryz.ntmps19
  go_wp2
  go_ret
  exact ⟨rfl, rfl⟩
 ·rw [if_neg hneg] at hz2
  subst hz2
  go_enter Tryz.func19, Tryz.ntmps19
  go_wp2
  go_ret
  exact ⟨rfl, rfl⟩
theorem smod_q {v n z : Int} {w : World} {k : Nat} (h0 : 1 ≤ n) (h1 : n ≤ 4611686018427387904) (hz : Hid (z = Sc.md v n)) :
    Calls Tryz.prog 19 #[.int .i64 v, .int .i64 n] (w.drewN k) fun e w'' => e = .returned (.int .i64 z) ∧ ∃ m, w'' = w.drewN m :=
 Calls.quiet_of_same (n := k) (smod_any v n z (w.drewN k) h0 h1 hz)
set_option maxHeartbeats 1000000 in
theorem snext_any (W : World) (tb m : Nat) (n : Int) (w : World) (hT : Tp W tb m w) (hm : m ≤ 1000000000000) (h0 : 1 ≤ n) (h1 : n ≤ 4611686018427387904) :
    Calls Tryz.prog 43 #[.pointer (some ⟨tb, 0, none⟩), .int .i64 n] w (NextPost W tb m n w) := by
 have HT0 := Lib.hid hT
 obtain ⟨_, hbl, ⟨L, xs, c, at_, rfl, ha0, ham, hI, hxl⟩, hb, hle⟩ := hT
 have hc0 : w.cell? ⟨tb, 0, none⟩ = some (.slice L xs.length c) := hbl.cell 0
 have hc1 : w.cell? ⟨tb, 1, none⟩ = some (.int .i64 at_) := hbl.cell 1
 have hf1 : w.frozen? ⟨tb, 1, none⟩ = false := hbl.free 1
 have HI := Lib.hid hI
 have HK := Lib.hid hb
 have HS := Lib.hid (next_step hb hle hbl ha0 ham hI hxl)
 have HB : Hid (∀ N, Blk ((w.drewN N).setCell ⟨tb, 1, none⟩ (.int .i64 (at_ + 1))) tb #[.slice L xs.length c, .int .i64 (at_ + 1)]) := Lib.hid (fun N => (hbl.drewN N).set 1 (.int .i64 (at_ + 1)))
 clear hb hbl hI
 have ham' : at_ ≤ 1000000000000 := by omega
 by_cases hlt : at_ < xs.length
 ·obtain ⟨b, off, rfl, hbW, hcell⟩ := HI.out.at_ (j := at_.toNat) (by omega)
  have hcx := (((HI.out.below HK.out).at_ (j := at_.toNat) (by omega)))
  obtain ⟨b2, off2, e2, hbb, hcell2⟩ := hcx
  injection e2 with e2
  injection e2 with e2 e3
  subst e2 e3
  have hcx := hcell2 at_.toNat (by omega)
  have hne : b ≠ tb := by omega
  clear hcell hcell2
  obtain ⟨x, hx⟩ : ∃ x, x = xs.getD at_.toNat 0 := ⟨_, rfl⟩
  rw [← hx] at hcx
  clear hx
  obtain ⟨z, hz⟩ : ∃ z, Hid (z = Sc.md x n) := ⟨_, Lib.hid rfl⟩
  obtain ⟨z0, z1⟩ := Sc.md_in (v := x) h0
  rw [← hz.out] at z0 z1
  go_enter Tryz.func43, Tryz.ntmps43
  go_wp2
  go_quiet (fail)
  go_wp2
  obtain ⟨hT9, hg9⟩ := HS.out nq
  have hcx9 := ((turn_cell hg9).1 b (off + at_.toNat) hbb hne).trans hcx
  have hb9 := HB.out nq
  obtain ⟨w9, hw9⟩ : ∃ w9, w9 = (w.drewN nq).setCell ⟨tb, 1, none⟩ (.int .i64 (at_ + 1)) := ⟨_, rfl⟩
  rw [← hw9] at hT9 hg9 hcx9 hb9 ⊢
  have hc9 : w9.cell? ⟨tb, 0, none⟩ = some (.slice (some ⟨b, off, none⟩) xs.length c) := hb9.cell 0
  have hd9 : w9.cell? ⟨tb, 1, none⟩ = some (.int .i64 (at_ + 1)) := hb9.cell 1
  have HT9 := Lib.hid hT9
  have HG9 := Lib.hid hg9
  have e9 : at_ + 1 - 1 = at_ := by omega
  clear hw9 hc0 hc1 hcx hf1 hT9 hg9 hb9
  go_quiet (with_reducible exact smod_q h0 h1 hz)
  go_wp2
  go_ret
  exact ⟨z, rfl, z0, z1, HT9.out.after (below_drewN (Below.refl _ _) _), turn_trans HG9.out (turn_below (below_drewN (Below.refl _ _) _))⟩
 ·go_enter Tryz.func43, Tryz.ntmps43
  go_wp2
  go_quiet (fail)
  go_wp2
  go_ret
  exact ⟨0, rfl, by omega, by omega, (HT0.out.mono (by omega)).after (below_drewN (Below.refl _ _) _), turn_below (below_drewN (Below.refl _ _) _)⟩
theorem spick_any (W : World) (tb m : Nat) (A : Option Addr) (ds : List Int) (c : Nat) (w : World) (hT : Tp W tb m w) (hm : m ≤ 1000000000000) (hA : IntsAt w A ds) (hne : ∀ b o, A = some ⟨b, o, none⟩ → b ≠ tb) (hd : 0 < ds.length) (hd2 : ds.length ≤ 1000) :
    Calls Tryz.prog 44 #[.pointer (some ⟨tb, 0, none⟩), .slice A ds.length c] w (PickPost W tb m ds w) := by
 have HT := Lib.hid hT
 have HA := Lib.hid hA
 have HNE := Lib.hid hne
 clear hT hA hne
 go_enter Tryz.func44, Tryz.ntmps44
 go_wp2_with fail
 refine (snext_any W tb m ds.length _ HT.out hm (by omega) (by omega)).mono ?_
 rintro e w' ⟨v, rfl, v0, v1, hT, hg⟩
 obtain ⟨b, off, rfl, hbl, hcell⟩ := (HA.out.turn hg HNE.out).at_ (j := v.toNat) (by omega)
 have hcv := hcell v.toNat (by omega)
 have hmem : ds.getD v.toNat 0 ∈ ds := by
  have : v.toNat < ds.length := by omega
  simp only [List.getD, List.getElem?_eq_getElem this, Option.getD_some]
  exact List.getElem_mem this
 have HM := Lib.hid hmem
 have HT2 := Lib.hid hT
 have HG := Lib.hid hg
 clear hcell hmem hT hg
 obtain ⟨x, hx⟩ : ∃ x, x = ds.getD v.toNat 0 := ⟨_, rfl⟩
 rw [← hx] at hcv HM
 clear hx
 go_wp2
 go_ret
 exact ⟨x, rfl, HM.out, HT2.out, HG.out⟩
theorem spick_new {W w0 w : World} {X : List Nat} {L : List (Nat × Array Value)} {tb m : Nat} {cs : Array Value} (HM : Mem w0 X L w) (hl : Look L tb cs) (hc : TapeC W m cs) (h0 : Below W.heap.size W w0) (hX : ∀ b ∈ X, W.heap.size ≤ b) (ds : List Int) (T : TypeId) (hm : m ≤ 1000000000000) (hd : 0 < ds.length) (hd2 : ds.length ≤ 1000) :
    Calls Tryz.prog 44 #[.pointer (some ⟨tb, 0, none⟩), .slice (some ⟨w.heap.size, 0, none⟩) ds.length ds.length] (w.alloc (.cells (ds.map (Value.int .i64)).toArray T)) fun e w' =>
     ∃ (v : Int) (c' : Array Value), e = .returned (.int .i64 v) ∧ v ∈ ds ∧ TapeC W (m + 1) c' ∧ Blk w' tb c' ∧ Only [tb] w w' := by
 have hlt := (HM.get hl).lt
 refine (spick_any W tb m _ ds _ _ ((HM.new _ T).tp (.there hl) hc h0 hX) hm (ints_new w ds T) (fun b o e => by cases e; omega) hd hd2).mono ?_
 rintro e w' ⟨v, rfl, hv, ⟨c', h1, h2, _⟩, hg⟩
 exact ⟨v, c', rfl, hv, h2, h1, ((Only.of (below_new w _) [tb]).trans (Only.of_grown hg))⟩
def Sc.names : List ByteArray := [{ data := #[97] }, { data := #[98] }, { data := #[97, 108, 112, 104, 97] }, { data := #[98, 101, 116, 97] }, { data := #[107, 49] }, { data := #[122, 57] }]
end Go.Proofs.YtckhdiljihhdmaaGreat
namespace Go.Proofs.YtckhdiljihhdmaaGreat
set_option maxRecDepth 8000
open Go.RowKit
def Rt.Vc : Option Rat → Array Value → Prop
 | some x, c => Rt.Fit x ∧ c = Rt.qA x
 | none, c => ∃ s M t N, M < Bg.lim ∧ N < Bg.lim ∧ Rt.ok s M t N = false ∧ c = Bg.ratA s M t N
noncomputable def Rt.addV (acc : Rat) : Option Rat → Array Value × Int
 | some x => Rt.res (acc + x)
 | none => (Bg.rZ 0 0, 20)
noncomputable def Rt.sumV (acc : Rat) : List (Option Rat) → Option Rat × Int
 | [] => (some acc, 0)
 | none :: _ => (none, 20)
 | some x :: l => open Classical in if Rt.Fit (acc + x) then Rt.sumV (acc + x) l else (none, 10)
def Rt.outV : Option Rat → Array Value
 | some x => Rt.qA x
 | none => Bg.rZ 0 0
inductive Rt.Vcs : List (Option Rat) → List (Array Value) → Prop
 | nil : Rt.Vcs [] []
 | cons {o : Option Rat} {c : Array Value} {os : List (Option Rat)} {cs : List (Array Value)} (h : Rt.Vc o c) (t : Rt.Vcs os cs) : Rt.Vcs (o :: os) (c :: cs)
end Go.Proofs.YtckhdiljihhdmaaGreat
