/- Walks, and plain facts for them. -/
import Derived.Test.YtmbjaaaeekacfaaGreatDoorPb41
namespace Go.Proofs.YtmbjaaaeekacfaaGreatDoor
set_option maxRecDepth 8000
open Go.RowKit
theorem Ac.custody : Nm.usableB { data := #[99, 117, 115, 116, 111, 100, 121] } = true := by decide +kernel
theorem Ac.zero_le2 : (0 : Rat) ≤ (((0 : Nat) : Int) * 1000000000000 : Int) := by decide
theorem Ac.p31 {p : Int} (h : p ∈ [1, 1, 3, 31]) : 1 ≤ p ∧ p ≤ 31 := by
 simp only [List.mem_cons, List.not_mem_nil, or_false] at h
 omega
theorem rfrac_q {b f t : Int} (hk : Dy.Ok b f t) {x : Rat} (h : Hid (x = Dy.frac b f t)) (w : World) : Calls Tryz.prog 31 #[.int .i64 b, .int .i64 f, .int .i64 t] w fun r w' => r = .returned (.tuple #[.agg (Rt.qA x), .int .i64 0]) ∧ Below w.heap.size w w' := by
 have h1 := rfraction_any b f t w
 rwa [Dy.fc_ok hk, Dy.err_zero.2 hk, ← h.out] at h1
set_option maxRecDepth 100000 in
set_option maxHeartbeats 8000000 in
theorem adrift_any (A : Option Addr) (xs : List Int) (c0 : Nat) (W : World) (hI : IntsAt W A xs) (hxl : xs.length ≤ 9223372036854775807) :
    Calls Tryz.prog 7 #[.slice A xs.length c0] W fun e w' => e = .returned (.bool true) ∧ Below W.heap.size W w' := by
 have HM := Mem.start W
 have HI := Lib.hid hI
 have zz := Ag.za_z
 have zf := Fe.za
 have zr := za_rat
 have eli : elemB 42 3 1 8 = true := by kernel_rfl
 have KN := fun w => aknown_any w
 obtain ⟨nm, hnm⟩ : ∃ nm : ByteArray, nm = { data := #[99, 117, 115, 116, 111, 100, 121] } := ⟨_, rfl⟩
 have hns : nm.size ≤ 9223372036854775807 := by rw [hnm]; decide
 have hnu : Nm.usableB nm = true := by rw [hnm]; exact Ac.custody
 clear hI
 go_enter Tryz.func7, Tryz.ntmps7
 go_upto_region 2 with (first | ((with_reducible refine g_ld ?_); refine a_ld HM ?_) | ((with_reducible refine g_st ?_); refine a_st HM ?_; clear HM; intro w1 HM) | ((with_reducible refine g_al ?_); refine a_al HM ?_; clear HM; intro bk w1 HM) | ((with_reducible refine g_bx ?_); refine a_bx HM ?_; clear HM; intro bk w1 HM) | ((with_reducible refine g_bld ?_); refine a_bld ?_))
 obtain ⟨tb, rfl⟩ := HM.nm0
 have HC : Hid (TapeC W 0 #[.slice A xs.length c0, .int .i64 0]) := ⟨A, xs, c0, 0, rfl, by omega, by omega, HI.out, hxl⟩
 have H0 : Hid (Below W.heap.size W W) := Below.refl _ _
 have hle : ∀ b ∈ ([] : List Nat), W.heap.size ≤ b := by simp
 go_wp2_with fail
 go_at_call 24
 refine (fee_any W tb _ _ _ (HM.tp (by ((repeat (first | exact Look.here | refine Look.there ?_)); done)) HC.out H0.out hle) (by omega)).mono ?_
 rintro e9 w2 ⟨r, bs, rfl, hr, hb1, hb2, ⟨c1, hbk, hc1, -, -⟩, hg9⟩
 replace HM := HM.put (c' := c1) (by (repeat (first | exact At.here | apply At.there))) hbk (Only.of_grown hg9)
 clear hg9 hbk
 replace HC := Lib.hid hc1
 clear hc1
 have sf := Fe.sa nm bs (qA_size r) (qA_one r) (z := Fe.raw { data := #[] } (Bg.rZ 0 0) 0) (Fe.raw_size (rZ_size 0 0))
 have lf := Fe.la nm bs (qA_size r)
 have f1 := (Fe.frc nm bs (qA_size r)).la
 have f2 := (Fe.fbs nm bs (qA_size r)).la
 have hv : Rt.Vc (some r) (Rt.qA r) := ⟨Ac.pr_fit hr, rfl⟩
 have ht : Ac.tm nm (some r) bs = true := by
  obtain ⟨q, q0, q1, hq⟩ := hr
  rw [hq]; exact Ac.fee_ok hnu q0 q1 hb1 hb2
 have hd0 := isDay_yes (n := 9497) (by omega) (by omega)
 have O0 := Ac.new_ok (day := 9497) hv ht hd0
 have NW := fun w => Ac.new_c hns hv ht (day := 9497) hd0 w
 obtain ⟨a, ha⟩ : ∃ a, a = Ag.new nm (Rt.qA r) (some r) bs 9497 hv := ⟨_, rfl⟩
 rw [← ha] at O0 NW
 have habs : a.bs = bs := by rw [ha]; rfl
 have haun : a.un = 9497 := by rw [ha]; rfl
 have hapd : a.pd = 0 := by rw [ha]; rfl
 have han : a.nm.size ≤ 9223372036854775807 := by rw [ha]; exact hns
 have sa := Ag.sa_c a Ag.z_size
 have HO := Lib.hid O0
 have HB := Lib.hid (And.intro hb1 hb2)
 have s0 := sa_q 0 (c := Bg.rZ 0 0) (rZ_size 0 0)
 have hfr := hv.1
 clear ha hr hnu hns O0 ht hb1 hb2 hd0
 subst hnm
 generalize Fe.raw { data := #[99, 117, 115, 116, 111, 100, 121] } (Rt.qA r) bs = F9 at *
 go_wp2_with (first | (go_at_call 9; ((with_reducible refine (NW _).mono ?_); rintro e9 w2 ⟨rfl, hL⟩; replace HM := HM.call hL; clear hL)) | (go_at_call 30; ((with_reducible refine (rzero_d _).mono ?_); rintro e9 w2 ⟨rfl, hL⟩; replace HM := HM.call hL; clear hL)) | (first | ((with_reducible refine g_ld ?_); refine a_ld HM ?_) | ((with_reducible refine g_st ?_); refine a_st HM ?_; clear HM; intro w1 HM) | ((with_reducible refine g_al ?_); refine a_al HM ?_; clear HM; intro bk w1 HM) | ((with_reducible refine g_bx ?_); refine a_bx HM ?_; clear HM; intro bk w1 HM) | ((with_reducible refine g_bld ?_); refine a_bld ?_)))
 obtain ⟨b7, rfl⟩ := HM.nm0
 obtain ⟨b5, rfl⟩ := HM.nm1
 obtain ⟨b4, rfl⟩ := HM.nm2
 go_loopw [8, 9] (fun pv iv wr => ∃ (k : Nat) (b : Ag) (x : Rat) (c : Array Value), iv = .int .i64 (k : Nat) ∧ k ≤ 8 ∧ pv = .int .i64 b.pd ∧ Hid (Ac.Ok b r x) ∧ Hid (b.bs = bs) ∧ b.nm.size ≤ 9223372036854775807 ∧ Hid (Rt.Bd x (59 + 48 * k) (1 + 47 * k)) ∧ Hid (x ≤ (((k : Int) * 1000000000000 : Int) : Rat)) ∧ 9497 ≤ b.un ∧ b.un ≤ 9497 + 31 * k ∧ Hid (TapeC W (3000 + 30 * k) c) ∧ Mem W [] [(b7, Rt.qA x), (b5, b.c), (b4, F9), (tb, c)] wr) (fun _ iv _ => (8 - intOf iv).toNat)
 case atStart => exact ⟨0, a, 0, _, rfl, by omega, by rw [hapd], HO, Lib.hid habs, han, Lib.hid Ac.bd_zero, Lib.hid Ac.zero_le2, by omega, by omega, Lib.hid (HC.out.mono (by omega)), HM⟩
 case round =>
  clear HM HC
  obtain ⟨k, b, x, c, rfl, hk8, rfl, HKB, HBS, hbn, HBD, HLE, u0, u1, HC, HM⟩ := hrel
  clear haun hapd habs HO sa NW
  by_cases hlt : k < 8
  ·have fun_ : LA 3 b.c 135 (.int .i64 b.un) := (Ag.fun_ b.hr.size b.he.size).la
   go_step
   go_upto_region 10 with fail
   go_cut [10, 11] (fun bv tv wc => ∃ (base p : Int) (c : Array Value), bv = .int .i64 base ∧ 0 ≤ base ∧ base < 1000000000 ∧ tv = .int .i64 (b.un + p) ∧ 1 ≤ p ∧ p ≤ 31 ∧ Hid (TapeC W (3000 + 30 * k + 10) c) ∧ Mem W [] [(b7, Rt.qA x), (b5, b.c), (b4, F9), (tb, c)] wc)
   case first =>
    refine start_M2 [] HM ((Sub.keep (Sub.keep (Sub.keep Sub.nil)))) (by kernel_rfl) (fun w0x H9 => ?_)
    replace HM := H9; clear H9
    refine k_mv 0 (heldE HM) ?_
    refine k_fa 2 (heldE HM) ?_
    refine k_ld 3 [] (heldE HM) ?_
    refine k_mv 4 (heldE HM) ?_
    refine j_two 1 5 ?_ ?_
    ·refine o_callg (next_any W tb _ 1000000000 _ (HM.tp (by ((repeat (first | exact Look.here | refine Look.there ?_)); done)) HC.out H0.out hle) (by omega) (by omega) (by omega)) rfl ?_ ?_; (focus (refine h_call2 (ts := ?_) (x1 := ?_) (x2 := ?_) ?_ (by kernel_rfl) ?_ ?_; rotate_left 3; (focus rfl); (focus rfl); rfl)); rintro e9 w1 ⟨base, rfl, base0, base1, ⟨c1, hb1, hc1, -, -⟩, hg9⟩; replace HM := HM.put (c' := c1) (by (repeat (first | exact At.here | apply At.there))) hb1 (Only.of_grown hg9); clear hg9 hb1; replace HC := Lib.hid hc1; clear hc1; refine ⟨_, rfl, ?_⟩
     refine ⟨(heldE HM), ?_⟩; ((try simp only [List.setIfInBounds_toArray]); (try simp only [List.set_cons_succ]); (try simp only [List.set_cons_zero]))
     refine j_one 5 fun K9 hK9 => ?_
     refine acj_bs4 HM ?_; clear HM; intro bl w1 HM
     refine hK9 _ _ (heldE HM) ?_; clear hK9 K9; ((try simp only [List.setIfInBounds_toArray]); (try simp only [List.set_cons_succ]); (try simp only [List.set_cons_zero]))
     refine j_one 6 fun K9 hK9 => ?_
     have hne := Ac.ne HM (b' := tb) (c' := c1) (by ((repeat (first | exact Look.here | refine Look.there ?_)); done)); refine o_callg (pick_any W tb _ (some ⟨bl, 0, none⟩) [1, 1, 3, 31] 4 _ (HM.tp (by ((repeat (first | exact Look.here | refine Look.there ?_)); done)) HC.out H0.out hle) (by omega) (ac_ints_own (HM.get (by ((repeat (first | exact Look.here | refine Look.there ?_)); done)))) (fun b o e => by cases e; exact hne) (by simp) (by simp)) rfl ?_ ?_; (focus (refine h_call2 (ts := ?_) (x1 := ?_) (x2 := ?_) ?_ (by kernel_rfl) ?_ ?_; rotate_left 3; (focus rfl); (focus rfl); rfl)); rintro e9 w1 ⟨p, rfl, hp, ⟨c1, hb1, hc1, -, -⟩, hg9⟩; replace HM := HM.put (c' := c1) (by (repeat (first | exact At.here | apply At.there))) hb1 (Only.of_grown hg9); clear hg9 hb1; replace HC := Lib.hid hc1; clear hc1; obtain ⟨p0, p1⟩ := Ac.p31 hp; clear hp; refine ⟨_, rfl, ?_⟩
     refine hK9 _ _ (heldE HM) ?_; clear hK9 K9; ((try simp only [List.setIfInBounds_toArray]); (try simp only [List.set_cons_succ]); (try simp only [List.set_cons_zero]))
     refine k_add 7 (heldE HM) ?_
     refine k_mv 8 (heldE HM) ?_
     refine k_mv 9 (heldE HM) ?_
     refine wpAnyL_done (by kernel_rfl) ?_ _
     (go_wp2_with fail; go_meet; (case rel => exact ⟨_, _, _, rfl, base0, base1, rfl, p0, p1, Lib.hid (HC.out.mono (by omega)), HM.pick⟩))
    ·refine acj_bs4 HM ?_; clear HM; intro bl w1 HM
     refine ⟨(heldE HM), ?_⟩; ((try simp only [List.setIfInBounds_toArray]); (try simp only [List.set_cons_succ]); (try simp only [List.set_cons_zero]))
     refine j_one 1 fun K9 hK9 => ?_
     refine o_callg (next_any W tb _ 1000000000 _ (HM.tp (by ((repeat (first | exact Look.here | refine Look.there ?_)); done)) HC.out H0.out hle) (by omega) (by omega) (by omega)) rfl ?_ ?_; (focus (refine h_call2 (ts := ?_) (x1 := ?_) (x2 := ?_) ?_ (by kernel_rfl) ?_ ?_; rotate_left 3; (focus rfl); (focus rfl); rfl)); rintro e9 w1 ⟨base, rfl, base0, base1, ⟨c1, hb1, hc1, -, -⟩, hg9⟩; replace HM := HM.put (c' := c1) (by (repeat (first | exact At.here | apply At.there))) hb1 (Only.of_grown hg9); clear hg9 hb1; replace HC := Lib.hid hc1; clear hc1; refine ⟨_, rfl, ?_⟩
     refine hK9 _ _ (heldE HM) ?_; clear hK9 K9; ((try simp only [List.setIfInBounds_toArray]); (try simp only [List.set_cons_succ]); (try simp only [List.set_cons_zero]))
     refine j_one 6 fun K9 hK9 => ?_
     have hne := Ac.ne HM (b' := tb) (c' := c1) (by ((repeat (first | exact Look.here | refine Look.there ?_)); done)); refine o_callg (pick_any W tb _ (some ⟨bl, 0, none⟩) [1, 1, 3, 31] 4 _ (HM.tp (by ((repeat (first | exact Look.here | refine Look.there ?_)); done)) HC.out H0.out hle) (by omega) (ac_ints_own (HM.get (by ((repeat (first | exact Look.here | refine Look.there ?_)); done)))) (fun b o e => by cases e; exact hne) (by simp) (by simp)) rfl ?_ ?_; (focus (refine h_call2 (ts := ?_) (x1 := ?_) (x2 := ?_) ?_ (by kernel_rfl) ?_ ?_; rotate_left 3; (focus rfl); (focus rfl); rfl)); rintro e9 w1 ⟨p, rfl, hp, ⟨c1, hb1, hc1, -, -⟩, hg9⟩; replace HM := HM.put (c' := c1) (by (repeat (first | exact At.here | apply At.there))) hb1 (Only.of_grown hg9); clear hg9 hb1; replace HC := Lib.hid hc1; clear hc1; obtain ⟨p0, p1⟩ := Ac.p31 hp; clear hp; refine ⟨_, rfl, ?_⟩
     refine hK9 _ _ (heldE HM) ?_; clear hK9 K9; ((try simp only [List.setIfInBounds_toArray]); (try simp only [List.set_cons_succ]); (try simp only [List.set_cons_zero]))
     refine k_add 7 (heldE HM) ?_
     refine k_mv 8 (heldE HM) ?_
     refine k_mv 9 (heldE HM) ?_
     refine wpAnyL_done (by kernel_rfl) ?_ _
     (go_wp2_with fail; go_meet; (case rel => exact ⟨_, _, _, rfl, base0, base1, rfl, p0, p1, Lib.hid (HC.out.mono (by omega)), HM.pick⟩))
   case rest =>
    clear HM HC
    obtain ⟨base, p, c, rfl, base0, base1, rfl, p0, p1, HC, HM⟩ := hcut
    obtain ⟨te, hto⟩ : ∃ te, b.un + p = te := ⟨_, rfl⟩
    have t0 : b.un ≤ te := by omega
    have t1 : te ≤ b.un + 31 := by omega
    have hto9 : 9497 ≤ te ∧ te ≤ 9497 + 31 * (k + 1) := by omega
    obtain ⟨hto1, hto2⟩ := hto9
    have D1 : Dy.Ok b.bs b.un te := by rw [HBS.out]; exact ⟨HB.out.1, HB.out.2, isDay_yes (by omega) (by omega), isDay_yes (by omega) (by omega), t0⟩
    obtain ⟨f, hf⟩ : ∃ f, Hid (f = Dy.frac b.bs b.un te) := ⟨_, Lib.hid rfl⟩
    obtain ⟨y, hy⟩ : ∃ y, y = x + r * Dy.frac b.bs b.un te * ((base : Int) : Rat) := ⟨_, rfl⟩
    obtain ⟨fy, AY, OY, BY, LY, GY⟩ := Ac.one_ok HKB.out k hlt HBD.out HLE.out base0 (by omega) D1 hy
    obtain ⟨v, hvq⟩ : ∃ v : Rat, Hid (v = ((base : Int) : Rat)) := ⟨_, Lib.hid rfl⟩
    obtain ⟨s, hs⟩ : ∃ s : Rat, Hid (s = f * r) := ⟨_, Lib.hid rfl⟩
    obtain ⟨q, hq⟩ : ∃ q : Rat, Hid (q = s * v) := ⟨_, Lib.hid rfl⟩
    have bf : Rt.Bd f 27 18 := by rw [hf.out]; exact Dy.frac_bd D1
    have bv : Rt.Bd v 50 1 := by rw [hvq.out]; exact Ac.base_bd base0 (by omega)
    have bs9 : Rt.Bd s 55 46 := by rw [hs.out]; exact bf.mul HKB.out.bd
    have bq : Rt.Bd q 105 47 := by rw [hq.out]; exact bs9.mul bv
    have hyq : Hid (y = x + q) := Lib.hid (by rw [hy, hq.out, hs.out, hf.out, hvq.out]; grind)
    have fx := HKB.out.fit.1
    have HD1 := Lib.hid D1
    have FR := fun w => rfrac_q (b := bs) (f := b.un) (t := te) (by rw [← HBS.out]; exact HD1.out) (x := f) (by rw [← HBS.out]; exact hf) w
    have M1 := fun w => rmul_q f r s bf.fit hfr hs bs9.fit w
    have WH := fun w => rwhole_q base v (by omega) (by omega) hvq w
    have M2 := fun w => rmul_q s v q bs9.fit bv.fit hq bq.fit w
    have AD := fun w => radd_q x q y fx bq.fit hyq fy w
    have AC := fun w => accrue_any b hbn base te _ 0 (Lib.hid AY.symm) w
    have hp0 := OY.p0
    have hp1 := OY.p1
    have hlim := Ac.rhe_lim OY.x1
    obtain ⟨n, hn⟩ : ∃ n, Ac.rhe y = b.pd + n := ⟨Ac.rhe y - b.pd, by omega⟩
    replace hp0 : 0 ≤ b.pd := hp0
    replace hp1 : b.pd ≤ Ac.rhe y := hp1
    have n0 : 0 ≤ n := by omega
    have n1 : b.pd + n ≤ 1000000000000000 := by omega
    have n2 : n ≤ 1000000000000000 := by omega
    have pd0 := hp0
    have BK := fun w => booked_any (b.acc y fy te) hbn n 0 (Lib.hid (by rw [Ac.bk_ok OY, hn]; show (n, (0 : Int)) = (b.pd + n - b.pd, 0); rw [show b.pd + n - b.pd = n from by omega])) w
    have RI := fun w => rroundInt_any y fy OY.x0 OY.x1 (b.pd + n) (Lib.hid hn.symm) w
    have PY : ∀ m, 0 ≤ m → m ≤ n → Ac.py (b.acc y fy te) m = (((b.acc y fy te).paid m).c, 0) ∧ Ac.Ok ((b.acc y fy te).paid m) r y := fun m m0 m1 => Ac.py_ok OY m0 (by rw [hn]; show m ≤ b.pd + n - b.pd; omega)
    have HPY := Lib.hid PY
    have HBY := Lib.hid BY
    have HLY := Lib.hid LY
    have hB : LA 3 b.c 135 (.int .i64 b.un) := (Ag.fun_ b.hr.size b.he.size).la
    have lb := Ag.la_c b
    have sy := Ag.sa_c (b.acc y fy te) Ag.z_size
    have ly := Ag.la_c (b.acc y fy te)
    have qy : LA 27 (b.acc y fy te).c 68 (.agg (Rt.qA y)) := (Ag.fec b.hr.size (qA_size y)).la
    have sf1 := sa_q f (c := Bg.rZ 0 0) (rZ_size 0 0)
    have sf2 := sa_q s (c := Rt.qA f) (qA_size f)
    have sf3 := sa_q q (c := Rt.qA s) (qA_size s)
    have sf4 := sa_q y (c := Rt.qA x) (qA_size x)
    have lq1 := la_q f
    have lq2 := la_q s
    have lq3 := la_q q
    have lq4 := la_q x
    have lq5 := la_q y
    clear D1 hy AY OY BY LY GY PY hp0 hp1 hlim hn bf bv bs9 bq hyq
    go_step
    rw [hto]
    clear hto p0 p1
    go_upto_region 16 with (first | (go_at_call 11; ((with_reducible refine (AC _).mono ?_); rintro e9 w2 ⟨rfl, hL⟩; replace HM := HM.call hL; clear hL)) | (go_at_call 31; ((with_reducible refine (FR _).mono ?_); rintro e9 w2 ⟨rfl, hL⟩; replace HM := HM.call hL; clear hL)) | (go_at_call 32; ((with_reducible refine (M1 _).mono ?_); rintro e9 w2 ⟨rfl, hL⟩; replace HM := HM.call hL; clear hL)) | (first | ((with_reducible refine g_ld ?_); refine a_ld HM ?_) | ((with_reducible refine g_st ?_); refine a_st HM ?_; clear HM; intro w1 HM) | ((with_reducible refine g_al ?_); refine a_al HM ?_; clear HM; intro bk w1 HM) | ((with_reducible refine g_bx ?_); refine a_bx HM ?_; clear HM; intro bk w1 HM) | ((with_reducible refine g_bld ?_); refine a_bld ?_)))
    obtain ⟨b14, rfl⟩ := HM.nm0
    obtain ⟨b12, rfl⟩ := HM.nm1
    refine start_M2 [7] HM ((Sub.keep (Sub.keep (Sub.keep (Sub.keep (Sub.keep (Sub.keep Sub.nil))))))) (by kernel_rfl) (fun w0x H9 => ?_)
    replace HM := H9; clear H9
    refine k_ld 0 [3, 4, 5, 6, 7] (heldE HM) ?_
    refine k_mv 1 (heldE HM) ?_
    refine j_one 2 fun K9 hK9 => ?_
    refine j_call1 (v := ?_) HM ?_ ?_; rotate_left 1; (focus (with_reducible (first | exact WH _ | exact M2 _))); clear HM; intro w1 HM
    refine hK9 _ _ (heldE HM) ?_; clear hK9 K9
    refine j_one 3 fun K9 hK9 => ?_
    refine j_call2 (v := ?_) HM ?_ ?_; rotate_left 1; (focus (with_reducible (first | exact WH _ | exact M2 _))); clear HM; intro w1 HM
    refine hK9 _ _ (heldE HM) ?_; clear hK9 K9
    refine k_mv 4 (heldE HM) ?_
    refine k_ext 5 (heldE HM) ?_
    refine k_ext 6 (heldE HM) ?_
    refine j_one 7 fun K9 hK9 => ?_
    refine j_st HM ?_; clear HM; intro w1 HM
    refine hK9 _ _ heldN ?_; clear hK9 K9
    refine wpAnyL_done (by kernel_rfl) ?_ _
    go_upto_region 20 with (first | (go_at_call 34; ((with_reducible refine (AD _).mono ?_); rintro e9 w2 ⟨rfl, hL⟩; replace HM := HM.call hL; clear hL)) | (go_at_call 13; ((with_reducible refine (BK _).mono ?_); rintro e9 w2 ⟨rfl, hL⟩; replace HM := HM.call hL; clear hL)) | (go_at_call 35; ((with_reducible refine (RI _).mono ?_); rintro e9 w2 ⟨rfl, hL⟩; replace HM := HM.call hL; clear hL)) | (first | ((with_reducible refine g_ld ?_); refine a_ld HM ?_) | ((with_reducible refine g_st ?_); refine a_st HM ?_; clear HM; intro w1 HM) | ((with_reducible refine g_al ?_); refine a_al HM ?_; clear HM; intro bk w1 HM) | ((with_reducible refine g_bx ?_); refine a_bx HM ?_; clear HM; intro bk w1 HM) | ((with_reducible refine g_bld ?_); refine a_bld ?_)))
    have hn5 : decide (n < 0) = false := by simpa using n0
    have hn6 : (b.pd + n != b.pd + n) = false := by simp
    go_upto_region 22 with (first | ((with_reducible refine g_bin ?_); refine a_cmpq .neq (y) (y) false (.inr rfl) (by simp) (fy) (fy) ?_) | (first | ((with_reducible refine g_ld ?_); refine a_ld HM ?_) | ((with_reducible refine g_st ?_); refine a_st HM ?_; clear HM; intro w1 HM) | ((with_reducible refine g_al ?_); refine a_al HM ?_; clear HM; intro bk w1 HM) | ((with_reducible refine g_bx ?_); refine a_bx HM ?_; clear HM; intro bk w1 HM) | ((with_reducible refine g_bld ?_); refine a_bld ?_)))
    go_wp2_with fail
    (refine (next_any W tb _ _ _ (HM.tp (by ((repeat (first | exact Look.here | refine Look.there ?_)); done)) HC.out H0.out hle) (by omega) (by omega) (by omega)).mono ?_; rintro e9 w2 ⟨d, rfl, d0, d1, ⟨c1, hb1, hc1, -, -⟩, hg⟩; replace HM := HM.put (c' := c1) (by (repeat (first | exact At.here | apply At.there))) hb1 (Only.of_grown hg); clear hg hb1; replace HC := Lib.hid hc1; clear hc1)
    go_wp2_with fail
    (refine (pick_new (tb := tb) (W := W) HM (by ((repeat (first | exact Look.here | refine Look.there ?_)); done)) HC.out H0.out (by first | exact hle | simpa using hle) [0, n, d] _ (by omega) (by simp) (by simp)).mono ?_; rintro e9 w2 ⟨v1, c1, rfl, hv, hc1, hb1, hg⟩; replace HM := HM.put (c' := c1) (by (repeat (first | exact At.here | apply At.there))) hb1 hg; clear hg hb1; replace HC := Lib.hid hc1; clear hc1)
    have hvb : 0 ≤ v1 ∧ v1 ≤ n := by
     simp only [List.mem_cons, List.not_mem_nil, or_false] at hv
     omega
    obtain ⟨q0, q1⟩ := hvb
    obtain ⟨PQ, OP⟩ := HPY.out v1 q0 q1
    have PC := fun w => pay_any (b.acc y fy te) hbn v1 _ 0 (Lib.hid PQ.symm) w
    have HOP := Lib.hid OP
    have sp := Ag.sa_c ((b.acc y fy te).paid v1) (Ag.c_size b)
    clear hv PQ OP
    go_wp2_with (first | (go_at_call 15; ((with_reducible refine (PC _).mono ?_); rintro e9 w2 ⟨rfl, hL⟩; replace HM := HM.call hL; clear hL)) | (first | ((with_reducible refine g_ld ?_); refine a_ld HM ?_) | ((with_reducible refine g_st ?_); refine a_st HM ?_; clear HM; intro w1 HM) | ((with_reducible refine g_al ?_); refine a_al HM ?_; clear HM; intro bk w1 HM) | ((with_reducible refine g_bx ?_); refine a_bx HM ?_; clear HM; intro bk w1 HM) | ((with_reducible refine g_bld ?_); refine a_bld ?_)))
    go_roundw
    case rel => exact ⟨k + 1, (b.acc y fy te).paid v1, y, _, by go_num, by omega, rfl, HOP, HBS, hbn, HBY, HLY, hto1, by show te ≤ _; omega, Lib.hid (HC.out.mono (by omega)), HM.pick⟩
    case measure => simp [intOf]; omega
  ·go_wp2_with (first | (go_at_call 17; ((with_reducible refine (KN _).mono ?_); rintro e9 w2 ⟨rfl, hL⟩; replace HM := HM.call hL; clear hL)) | (first | ((with_reducible refine g_ld ?_); refine a_ld HM ?_) | ((with_reducible refine g_st ?_); refine a_st HM ?_; clear HM; intro w1 HM) | ((with_reducible refine g_al ?_); refine a_al HM ?_; clear HM; intro bk w1 HM) | ((with_reducible refine g_bx ?_); refine a_bx HM ?_; clear HM; intro bk w1 HM) | ((with_reducible refine g_bld ?_); refine a_bld ?_)))
   go_ret
   exact ⟨rfl, HM.low⟩
end Go.Proofs.YtmbjaaaeekacfaaGreatDoor
