/- The law RatioOrder, walked: Cmp is a total order, agrees with the difference, is kept by sums and by positive factors. -/
import Derived.Test.YtekfabhmopkapaaRatB
namespace Go.Proofs.Ytekfabhmopkapaa
set_option maxRecDepth 8000
open Go.RowKit
theorem Bd7 {v d : Int} {x : Rat} (h1 : -90 ≤ v) (h2 : v ≤ 90) (h3 : 0 ≤ d) (h4 : d < 90) (hx : x = Rat.divInt v (1 + d)) : Rt.Bd x 7 7 := by
  rw [hx]
  exact .divInt (by omega) (Bg.p2_small 7 128 (by unfold Bg.p2; rfl) (by omega)) (Bg.p2_small 7 128 (by unfold Bg.p2; rfl) (by omega))
theorem Rt.ord3 {a b c : Rat} {k m n : Int} (hk : k = Rt.cmp a b) (hm : m = Rt.cmp b c) (hn : n = Rt.cmp a c) : (k = -1 ∨ k = 0 ∨ k = 1) ∧ (m = -1 ∨ m = 0 ∨ m = 1) ∧ (n = -1 ∨ n = 0 ∨ n = 1) ∧ ¬(k ≤ 0 ∧ m ≤ 0 ∧ 0 < n) ∧ decide (a = b) = decide (k = 0) := by
  have e : decide (a = b) = decide (k = 0) := decide_eq_decide.2 (by rw [hk]; exact Rt.cmp_eq.symm)
  refine ⟨?_, ?_, ?_, ?_, e⟩
  · rw [hk]; exact sign_v _
  · rw [hm]; exact sign_v _
  · rw [hn]; exact sign_v _
  · rintro ⟨h1, h2, h3⟩
    rcases Rt.cmp_cases a b with ⟨e1, f1⟩ | ⟨e1, f1⟩ | ⟨e1, f1⟩ <;> rcases Rt.cmp_cases b c with ⟨e2, f2⟩ | ⟨e2, f2⟩ | ⟨e2, f2⟩ <;> rcases Rt.cmp_cases a c with ⟨e3, f3⟩ | ⟨e3, f3⟩ | ⟨e3, f3⟩ <;> first | omega | grind
set_option maxRecDepth 100000 in
set_option maxHeartbeats 8000000 in
theorem rorder_any (A : Option Addr) (xs : List Int) (c0 : Nat) (W : World) (hI : IntsAt W A xs) (hxl : xs.length ≤ 9223372036854775807) :
    Calls Try.prog 9 #[.slice A xs.length c0] W fun e w' => e = .returned (.bool true) ∧ Below W.heap.size W w' := by
  have HM := Mem.start W
  have HI := Lib.hid hI
  have hz0 := za_rat
  clear hI
  go_enter Try.func9, Try.ntmps9
  go_upto_region 2 with (first | fail | (first | ((with_reducible refine g_ld ?_); refine a_ld HM ?_) | ((with_reducible refine g_st ?_); refine a_st HM ?_; clear HM; intro w1 HM) | ((with_reducible refine g_al ?_); refine a_al HM ?_; clear HM; intro bk w1 HM) | ((with_reducible refine g_bx ?_); refine a_bx HM ?_; clear HM; intro bk w1 HM) | ((with_reducible refine g_bld ?_); refine a_bld ?_)))
  obtain ⟨tb, rfl⟩ := HM.nm0
  have HC : Hid (TapeC W 0 #[.slice A xs.length c0, .int .i64 0]) := ⟨A, xs, c0, 0, rfl, by omega, by omega, HI.out, hxl⟩
  have H0 : Hid (Below W.heap.size W W) := Below.refl _ _
  have hle : ∀ b ∈ ([] : List Nat), W.heap.size ≤ b := by simp
  go_wp2_with fail
  ((refine (range_any W tb _ (-90) (90) _ (HM.tp (by ((repeat (first | exact Look.here | refine Look.there ?_)); done)) HC.out H0.out hle) (by omega) (by omega) (by omega) (by omega)).mono ?_; rintro e9 w2 ⟨va, rfl, h1v, h2v, ⟨c1, hb1, hc1, -, -⟩, hg⟩; replace HM := HM.put (c' := c1) (by (repeat (first | exact At.here | apply At.there))) hb1 (Only.of_grown hg); clear hg hb1; replace HC := Lib.hid hc1; clear hc1); go_wp2_with fail; (refine (next_any W tb _ _ _ (HM.tp (by ((repeat (first | exact Look.here | refine Look.there ?_)); done)) HC.out H0.out hle) (by omega) (by omega) (by omega)).mono ?_; rintro e9 w2 ⟨ua, rfl, h1u, h2u, ⟨c1, hb1, hc1, -, -⟩, hg⟩; replace HM := HM.put (c' := c1) (by (repeat (first | exact At.here | apply At.there))) hb1 (Only.of_grown hg); clear hg hb1; replace HC := Lib.hid hc1; clear hc1); (obtain ⟨a, Ha⟩ : ∃ x : Rat, Hid (x = Rat.divInt va (1 + ua)) := ⟨_, rfl⟩); (have Ba : Rt.Bd a 7 7 := Bd7 h1v h2v h1u h2u Ha.out); (have sa := sa_q a (rZ_size 0 0)); (have ka := la_q a); go_wp2_with (first | (go_at_call 19; ((with_reducible refine (mkof_q va (1 + ua) a (by omega) (by omega) (by omega) (by omega) (by omega) Ha _).mono ?_); rintro e9 w2 ⟨rfl, hL⟩; replace HM := HM.call hL; clear hL)) | (first | ((with_reducible refine g_ld ?_); refine a_ld HM ?_) | ((with_reducible refine g_st ?_); refine a_st HM ?_; clear HM; intro w1 HM) | ((with_reducible refine g_al ?_); refine a_al HM ?_; clear HM; intro bk w1 HM) | ((with_reducible refine g_bx ?_); refine a_bx HM ?_; clear HM; intro bk w1 HM) | ((with_reducible refine g_bld ?_); refine a_bld ?_))); clear h1v h2v h1u h2u)
  ((refine (range_any W tb _ (-90) (90) _ (HM.tp (by ((repeat (first | exact Look.here | refine Look.there ?_)); done)) HC.out H0.out hle) (by omega) (by omega) (by omega) (by omega)).mono ?_; rintro e9 w2 ⟨vb, rfl, h1v, h2v, ⟨c1, hb1, hc1, -, -⟩, hg⟩; replace HM := HM.put (c' := c1) (by (repeat (first | exact At.here | apply At.there))) hb1 (Only.of_grown hg); clear hg hb1; replace HC := Lib.hid hc1; clear hc1); go_wp2_with fail; (refine (next_any W tb _ _ _ (HM.tp (by ((repeat (first | exact Look.here | refine Look.there ?_)); done)) HC.out H0.out hle) (by omega) (by omega) (by omega)).mono ?_; rintro e9 w2 ⟨ub, rfl, h1u, h2u, ⟨c1, hb1, hc1, -, -⟩, hg⟩; replace HM := HM.put (c' := c1) (by (repeat (first | exact At.here | apply At.there))) hb1 (Only.of_grown hg); clear hg hb1; replace HC := Lib.hid hc1; clear hc1); (obtain ⟨b, Hb⟩ : ∃ x : Rat, Hid (x = Rat.divInt vb (1 + ub)) := ⟨_, rfl⟩); (have Bb : Rt.Bd b 7 7 := Bd7 h1v h2v h1u h2u Hb.out); (have sb := sa_q b (rZ_size 0 0)); (have kb := la_q b); go_wp2_with (first | (go_at_call 19; ((with_reducible refine (mkof_q vb (1 + ub) b (by omega) (by omega) (by omega) (by omega) (by omega) Hb _).mono ?_); rintro e9 w2 ⟨rfl, hL⟩; replace HM := HM.call hL; clear hL)) | (first | ((with_reducible refine g_ld ?_); refine a_ld HM ?_) | ((with_reducible refine g_st ?_); refine a_st HM ?_; clear HM; intro w1 HM) | ((with_reducible refine g_al ?_); refine a_al HM ?_; clear HM; intro bk w1 HM) | ((with_reducible refine g_bx ?_); refine a_bx HM ?_; clear HM; intro bk w1 HM) | ((with_reducible refine g_bld ?_); refine a_bld ?_))); clear h1v h2v h1u h2u)
  ((refine (range_any W tb _ (-90) (90) _ (HM.tp (by ((repeat (first | exact Look.here | refine Look.there ?_)); done)) HC.out H0.out hle) (by omega) (by omega) (by omega) (by omega)).mono ?_; rintro e9 w2 ⟨vc, rfl, h1v, h2v, ⟨c1, hb1, hc1, -, -⟩, hg⟩; replace HM := HM.put (c' := c1) (by (repeat (first | exact At.here | apply At.there))) hb1 (Only.of_grown hg); clear hg hb1; replace HC := Lib.hid hc1; clear hc1); go_wp2_with fail; (refine (next_any W tb _ _ _ (HM.tp (by ((repeat (first | exact Look.here | refine Look.there ?_)); done)) HC.out H0.out hle) (by omega) (by omega) (by omega)).mono ?_; rintro e9 w2 ⟨uc, rfl, h1u, h2u, ⟨c1, hb1, hc1, -, -⟩, hg⟩; replace HM := HM.put (c' := c1) (by (repeat (first | exact At.here | apply At.there))) hb1 (Only.of_grown hg); clear hg hb1; replace HC := Lib.hid hc1; clear hc1); (obtain ⟨c, Hc⟩ : ∃ x : Rat, Hid (x = Rat.divInt vc (1 + uc)) := ⟨_, rfl⟩); (have Bc : Rt.Bd c 7 7 := Bd7 h1v h2v h1u h2u Hc.out); (have sc := sa_q c (rZ_size 0 0)); (have kc := la_q c); go_wp2_with (first | (go_at_call 19; ((with_reducible refine (mkof_q vc (1 + uc) c (by omega) (by omega) (by omega) (by omega) (by omega) Hc _).mono ?_); rintro e9 w2 ⟨rfl, hL⟩; replace HM := HM.call hL; clear hL)) | (first | ((with_reducible refine g_ld ?_); refine a_ld HM ?_) | ((with_reducible refine g_st ?_); refine a_st HM ?_; clear HM; intro w1 HM) | ((with_reducible refine g_al ?_); refine a_al HM ?_; clear HM; intro bk w1 HM) | ((with_reducible refine g_bx ?_); refine a_bx HM ?_; clear HM; intro bk w1 HM) | ((with_reducible refine g_bld ?_); refine a_bld ?_))); clear h1v h2v h1u h2u)
  obtain ⟨k, hk⟩ : ∃ k, Hid (k = Rt.cmp a b) := ⟨_, rfl⟩
  obtain ⟨m, hm⟩ : ∃ m, Hid (m = Rt.cmp b c) := ⟨_, rfl⟩
  obtain ⟨n, hn⟩ : ∃ n, Hid (n = Rt.cmp a c) := ⟨_, rfl⟩
  have fa := Ba.fit
  have fb := Bb.fit
  have fc := Bc.fit
  obtain ⟨d, hd⟩ : ∃ d, Hid (d = a - b) := ⟨_, rfl⟩
  obtain ⟨x, hx⟩ : ∃ x, Hid (x = a + c) := ⟨_, rfl⟩
  obtain ⟨y, hy⟩ : ∃ y, Hid (y = b + c) := ⟨_, rfl⟩
  have fd : Rt.Fit d := by rw [hd.out]; exact (Ba.sub Bb).fit
  have fx : Rt.Fit x := by rw [hx.out]; exact (Ba.add Bc).fit
  have fy : Rt.Fit y := by rw [hy.out]; exact (Bb.add Bc).fit
  have hkd : Hid (k = d.num.sign) := Lib.hid (by rw [hd.out, Rt.cmp_sub]; exact hk.out)
  have hkx : Hid (k = Rt.cmp x y) := Lib.hid (by rw [hx.out, hy.out, Rt.cmp_add]; exact hk.out)
  have sd := sa_q d (rZ_size 0 0)
  have sx := sa_q x (rZ_size 0 0)
  have sy := sa_q y (rZ_size 0 0)
  have kd := la_q d
  have kx := la_q x
  have ky := la_q y
  obtain ⟨b6, rfl⟩ := HM.nm0
  obtain ⟨b5, rfl⟩ := HM.nm1
  obtain ⟨b4, rfl⟩ := HM.nm2
  go_upto_region 6 with (first | first | (go_at_call 36; ((with_reducible refine (cmp_q a b k fa fb hk _).mono ?_); rintro e9 w2 ⟨rfl, hL⟩; replace HM := HM.call hL; clear hL)) | (go_at_call 36; ((with_reducible refine (cmp_q b c m fb fc hm _).mono ?_); rintro e9 w2 ⟨rfl, hL⟩; replace HM := HM.call hL; clear hL)) | (go_at_call 36; ((with_reducible refine (cmp_q a c n fa fc hn _).mono ?_); rintro e9 w2 ⟨rfl, hL⟩; replace HM := HM.call hL; clear hL)) | (first | ((with_reducible refine g_ld ?_); refine a_ld HM ?_) | ((with_reducible refine g_st ?_); refine a_st HM ?_; clear HM; intro w1 HM) | ((with_reducible refine g_al ?_); refine a_al HM ?_; clear HM; intro bk w1 HM) | ((with_reducible refine g_bx ?_); refine a_bx HM ?_; clear HM; intro bk w1 HM) | ((with_reducible refine g_bld ?_); refine a_bld ?_)))
  go_cut [86] (fun v wc => v = .bool false ∧ Mem W [] [(b6, Rt.qA c), (b5, Rt.qA b), (b4, Rt.qA a), (tb, c1)] wc)
  case first =>
    clear hkd hkx
    obtain ⟨ok, om, on, ho, he⟩ := Rt.ord3 hk.out hm.out hn.out
    have HE := Lib.hid he
    clear he hk hm hn
    rcases ok with rfl | rfl | rfl <;> rcases om with rfl | rfl | rfl <;> rcases on with rfl | rfl | rfl <;> first
      | (exfalso; omega)
      | (clear ho
         go_wp2_with (first | first | ((with_reducible refine g_bin ?_); refine a_cmpq .eql (a) (b) true (.inl rfl) (by simpa using HE.out.symm) (fa) (fb) ?_) | ((with_reducible refine g_bin ?_); refine a_cmpq .eql (a) (b) false (.inl rfl) (by simpa using HE.out.symm) (fa) (fb) ?_) | (first | ((with_reducible refine g_ld ?_); refine a_ld HM ?_) | ((with_reducible refine g_st ?_); refine a_st HM ?_; clear HM; intro w1 HM) | ((with_reducible refine g_al ?_); refine a_al HM ?_; clear HM; intro bk w1 HM) | ((with_reducible refine g_bx ?_); refine a_bx HM ?_; clear HM; intro bk w1 HM) | ((with_reducible refine g_bld ?_); refine a_bld ?_)))
         go_meet
         case rel => exact ⟨rfl, HM⟩)
  case rest =>
    clear HM
    obtain ⟨rfl, HM⟩ := hcut
    go_step
    go_upto_region 13 with (first | first | (go_at_call 24; ((with_reducible refine (sub_q a b d fa fb hd fd _).mono ?_); rintro e9 w2 ⟨rfl, hL⟩; replace HM := HM.call hL; clear hL)) | (go_at_call 45; ((with_reducible refine (sign_q d k fd hkd _).mono ?_); rintro e9 w2 ⟨rfl, hL⟩; replace HM := HM.call hL; clear hL)) | (go_at_call 22; ((with_reducible refine (add_q a c x fa fc hx fx _).mono ?_); rintro e9 w2 ⟨rfl, hL⟩; replace HM := HM.call hL; clear hL)) | (go_at_call 22; ((with_reducible refine (add_q b c y fb fc hy fy _).mono ?_); rintro e9 w2 ⟨rfl, hL⟩; replace HM := HM.call hL; clear hL)) | (go_at_call 36; ((with_reducible refine (cmp_q x y k fx fy hkx _).mono ?_); rintro e9 w2 ⟨rfl, hL⟩; replace HM := HM.call hL; clear hL)) | (first | ((with_reducible refine g_ld ?_); refine a_ld HM ?_) | ((with_reducible refine g_st ?_); refine a_st HM ?_; clear HM; intro w1 HM) | ((with_reducible refine g_al ?_); refine a_al HM ?_; clear HM; intro bk w1 HM) | ((with_reducible refine g_bx ?_); refine a_bx HM ?_; clear HM; intro bk w1 HM) | ((with_reducible refine g_bld ?_); refine a_bld ?_)))
    clear fd hd kd sd Hc
    go_wp2_with fail
    (refine (next_any W tb _ _ _ (HM.tp (by ((repeat (first | exact Look.here | refine Look.there ?_)); done)) HC.out H0.out hle) (by omega) (by omega) (by omega)).mono ?_; rintro e9 w2 ⟨p, rfl, h1p, h2p, ⟨c1, hb1, hc1, -, -⟩, hg⟩; replace HM := HM.put (c' := c1) (by (repeat (first | exact At.here | apply At.there))) hb1 (Only.of_grown hg); clear hg hb1; replace HC := Lib.hid hc1; clear hc1)
    go_wp2_with fail
    (refine (next_any W tb _ _ _ (HM.tp (by ((repeat (first | exact Look.here | refine Look.there ?_)); done)) HC.out H0.out hle) (by omega) (by omega) (by omega)).mono ?_; rintro e9 w2 ⟨q, rfl, h1q, h2q, ⟨c1, hb1, hc1, -, -⟩, hg⟩; replace HM := HM.put (c' := c1) (by (repeat (first | exact At.here | apply At.there))) hb1 (Only.of_grown hg); clear hg hb1; replace HC := Lib.hid hc1; clear hc1)
    obtain ⟨r, hr⟩ : ∃ r : Rat, Hid (r = Rat.divInt (1 + p) (1 + q)) := ⟨_, rfl⟩
    have Br : Rt.Bd r 7 7 := by rw [hr.out]; exact .divInt (by omega) (Bg.p2_small 7 128 (by unfold Bg.p2; rfl) (by omega)) (Bg.p2_small 7 128 (by unfold Bg.p2; rfl) (by omega))
    have r0 : 0 < r := by rw [hr.out]; exact Rt.divInt_pos (by omega) (by omega)
    obtain ⟨z, hz⟩ : ∃ z, Hid (z = a * r) := ⟨_, rfl⟩
    obtain ⟨v, hv⟩ : ∃ v, Hid (v = b * r) := ⟨_, rfl⟩
    have fr := Br.fit
    have fz : Rt.Fit z := by rw [hz.out]; exact (Ba.mul Br).fit
    have fv : Rt.Fit v := by rw [hv.out]; exact (Bb.mul Br).fit
    have hkz : Hid (k = Rt.cmp z v) := Lib.hid (by rw [hz.out, hv.out, Rt.cmp_mul _ _ _ r0]; exact hk.out)
    have sr := sa_q r (rZ_size 0 0)
    have sz := sa_q z (qA_size x)
    have sv := sa_q v (qA_size y)
    have kr := la_q r
    have kz := la_q z
    have kv := la_q v
    clear r0
    go_wp2_with (first | first | (go_at_call 19; ((with_reducible refine (mkof_q (1 + p) (1 + q) r (by omega) (by omega) (by omega) (by omega) (by omega) hr _).mono ?_); rintro e9 w2 ⟨rfl, hL⟩; replace HM := HM.call hL; clear hL)) | (go_at_call 23; ((with_reducible refine (mul_q a r z fa fr hz fz _).mono ?_); rintro e9 w2 ⟨rfl, hL⟩; replace HM := HM.call hL; clear hL)) | (go_at_call 23; ((with_reducible refine (mul_q b r v fb fr hv fv _).mono ?_); rintro e9 w2 ⟨rfl, hL⟩; replace HM := HM.call hL; clear hL)) | (go_at_call 36; ((with_reducible refine (cmp_q z v k fz fv hkz _).mono ?_); rintro e9 w2 ⟨rfl, hL⟩; replace HM := HM.call hL; clear hL)) | (go_at_call 16; ((with_reducible refine (rknown_any _).mono ?_); rintro e9 w2 ⟨rfl, hL⟩; replace HM := HM.call hL; clear hL)) | (first | ((with_reducible refine g_ld ?_); refine a_ld HM ?_) | ((with_reducible refine g_st ?_); refine a_st HM ?_; clear HM; intro w1 HM) | ((with_reducible refine g_al ?_); refine a_al HM ?_; clear HM; intro bk w1 HM) | ((with_reducible refine g_bx ?_); refine a_bx HM ?_; clear HM; intro bk w1 HM) | ((with_reducible refine g_bld ?_); refine a_bld ?_)))
    go_ret
    exact ⟨rfl, HM.low⟩
end Go.Proofs.Ytekfabhmopkapaa
