/- Walks, and plain facts for them. -/
import Derived.Test.YtmbjaaaeekacfaaGreatDoorPb31
namespace Go.Proofs.YtmbjaaaeekacfaaGreatDoor
set_option maxRecDepth 8000
open Go.RowKit
theorem Ac.zero_le1 : (0 : Rat) ≤ (((0 : Nat) : Int) * 1000000000000 : Int) := by decide
set_option maxRecDepth 100000 in
set_option maxHeartbeats 8000000 in
theorem aadds_any (A : Option Addr) (xs : List Int) (c0 : Nat) (W : World) (hI : IntsAt W A xs) (hxl : xs.length ≤ 9223372036854775807) :
    Calls Tryz.prog 8 #[.slice A xs.length c0] W fun e w' => e = .returned (.bool true) ∧ Below W.heap.size W w' := by
 have HM := Mem.start W
 have HI := Lib.hid hI
 have zz := Ag.za_z
 have zf := Fe.za
 have zr := za_rat
 have KN := fun w => aknown_any w
 obtain ⟨nm, hnm⟩ : ∃ nm : ByteArray, nm = { data := #[97, 117, 100, 105, 116] } := ⟨_, rfl⟩
 have hns : nm.size ≤ 9223372036854775807 := by rw [hnm]; decide
 have hnu : Nm.usableB nm = true := by rw [hnm]; exact Ac.audit
 clear hI
 go_enter Tryz.func8, Tryz.ntmps8
 go_upto_region 2 with (first | ((with_reducible refine g_ld ?_); refine a_ld HM ?_) | ((with_reducible refine g_st ?_); refine a_st HM ?_; clear HM; intro w1 HM) | ((with_reducible refine g_al ?_); refine a_al HM ?_; clear HM; intro bk w1 HM) | ((with_reducible refine g_bx ?_); refine a_bx HM ?_; clear HM; intro bk w1 HM) | ((with_reducible refine g_bld ?_); refine a_bld ?_))
 obtain ⟨tb, rfl⟩ := HM.nm0
 have HC : Hid (TapeC W 0 #[.slice A xs.length c0, .int .i64 0]) := ⟨A, xs, c0, 0, rfl, by omega, by omega, HI.out, hxl⟩
 have H0 : Hid (Below W.heap.size W W) := Below.refl _ _
 have hle : ∀ b ∈ ([] : List Nat), W.heap.size ≤ b := by simp
 go_wp2_with fail
 go_at_call 24
 refine (fee_any W tb _ _ _ (HM.tp (by ((repeat (first | exact Look.here | refine Look.there ?_)); done)) HC.out H0.out hle) (by omega)).mono ?_
 rintro e9 w2 ⟨r, bs, rfl, hr, hb1, hb2, ⟨c1, hbk, hc1, -, -⟩, hg9⟩
 replace HM := HM.put (c' := c1) (by (repeat (first | exact At.here | apply At.there))) hbk (Only.of_grown hg9)
 clear hg9 hbk
 replace HC := Lib.hid hc1
 clear hc1
 have sf := Fe.sa nm bs (qA_size r) (qA_one r) (z := Fe.raw { data := #[] } (Bg.rZ 0 0) 0) (Fe.raw_size (rZ_size 0 0))
 have lf := Fe.la nm bs (qA_size r)
 have hv : Rt.Vc (some r) (Rt.qA r) := ⟨Ac.pr_fit hr, rfl⟩
 have ht : Ac.tm nm (some r) bs = true := by
  obtain ⟨q, q0, q1, hq⟩ := hr
  rw [hq]; exact Ac.fee_ok hnu q0 q1 hb1 hb2
 have hd0 := isDay_yes (n := 9497) (by omega) (by omega)
 have O0 := Ac.new_ok (day := 9497) hv ht hd0
 have NW := fun w => Ac.new_c hns hv ht (day := 9497) hd0 w
 obtain ⟨a, ha⟩ : ∃ a, a = Ag.new nm (Rt.qA r) (some r) bs 9497 hv := ⟨_, rfl⟩
 rw [← ha] at O0 NW
 have habs : a.bs = bs := by rw [ha]; rfl
 have haun : a.un = 9497 := by rw [ha]; rfl
 have han : a.nm.size ≤ 9223372036854775807 := by rw [ha]; exact hns
 have sa := Ag.sa_c a Ag.z_size
 have la := Ag.la_c a
 clear ha hr hnu hns
 subst hnm
 generalize Fe.raw { data := #[97, 117, 100, 105, 116] } (Rt.qA r) bs = F9 at *
 go_wp2_with (first | ((with_reducible refine g_ld ?_); refine a_ld HM ?_) | ((with_reducible refine g_st ?_); refine a_st HM ?_; clear HM; intro w1 HM) | ((with_reducible refine g_al ?_); refine a_al HM ?_; clear HM; intro bk w1 HM) | ((with_reducible refine g_bx ?_); refine a_bx HM ?_; clear HM; intro bk w1 HM) | ((with_reducible refine g_bld ?_); refine a_bld ?_))
 (refine (next_any W tb _ _ _ (HM.tp (by ((repeat (first | exact Look.here | refine Look.there ?_)); done)) HC.out H0.out hle) (by omega) (by omega) (by omega)).mono ?_; rintro e9 w2 ⟨n, rfl, n0, n1, ⟨c1, hb1, hc1, -, -⟩, hg⟩; replace HM := HM.put (c' := c1) (by (repeat (first | exact At.here | apply At.there))) hb1 (Only.of_grown hg); clear hg hb1; replace HC := Lib.hid hc1; clear hc1)
 go_wp2_with fail
 (refine (next_any W tb _ _ _ (HM.tp (by ((repeat (first | exact Look.here | refine Look.there ?_)); done)) HC.out H0.out hle) (by omega) (by omega) (by omega)).mono ?_; rintro e9 w2 ⟨m, rfl, m0, m1, ⟨c1, hb1, hc1, -, -⟩, hg⟩; replace HM := HM.put (c' := c1) (by (repeat (first | exact At.here | apply At.there))) hb1 (Only.of_grown hg); clear hg hb1; replace HC := Lib.hid hc1; clear hc1)
 go_upto_region 5 with (first | (go_at_call 9; ((with_reducible refine (NW _).mono ?_); rintro e9 w2 ⟨rfl, hL⟩; replace HM := HM.call hL; clear hL)) | (first | ((with_reducible refine g_ld ?_); refine a_ld HM ?_) | ((with_reducible refine g_st ?_); refine a_st HM ?_; clear HM; intro w1 HM) | ((with_reducible refine g_al ?_); refine a_al HM ?_; clear HM; intro bk w1 HM) | ((with_reducible refine g_bx ?_); refine a_bx HM ?_; clear HM; intro bk w1 HM) | ((with_reducible refine g_bld ?_); refine a_bld ?_)))
 go_wp2_with fail
 (refine (next_any W tb _ _ _ (HM.tp (by ((repeat (first | exact Look.here | refine Look.there ?_)); done)) HC.out H0.out hle) (by omega) (by omega) (by omega)).mono ?_; rintro e9 w2 ⟨d, rfl, d0, d1, ⟨c1, hb1, hc1, -, -⟩, hg⟩; replace HM := HM.put (c' := c1) (by (repeat (first | exact At.here | apply At.there))) hb1 (Only.of_grown hg); clear hg hb1; replace HC := Lib.hid hc1; clear hc1)
 obtain ⟨te, hto⟩ : ∃ te, 9497 + d = te := ⟨_, rfl⟩
 have t0 : 9497 ≤ te := by omega
 have t1 : te ≤ 9997 := by omega
 have D1 : Dy.Ok a.bs a.un te := by rw [habs, haun]; exact ⟨hb1, hb2, hd0, isDay_yes (by omega) (by omega), t0⟩
 obtain ⟨x, hx⟩ : ∃ x, x = 0 + r * Dy.frac a.bs a.un te * ((n : Int) : Rat) := ⟨_, rfl⟩
 obtain ⟨y, hy⟩ : ∃ x, x = 0 + r * Dy.frac a.bs a.un te * ((m : Int) : Rat) := ⟨_, rfl⟩
 obtain ⟨z, hz⟩ : ∃ x, x = 0 + r * Dy.frac a.bs a.un te * ((n + m : Int) : Rat) := ⟨_, rfl⟩
 have hzs : Hid (z = x + y) := Lib.hid (by rw [hx, hy, hz, Rat.intCast_add]; grind)
 obtain ⟨fx, AX, OX, BX, LX, GX⟩ := Ac.one_ok O0 0 (by decide) Ac.bd_zero Ac.zero_le1 n0 (by omega) D1 hx
 obtain ⟨fy, AY, OY, BY, LY, GY⟩ := Ac.one_ok O0 0 (by decide) Ac.bd_zero Ac.zero_le1 m0 (by omega) D1 hy
 obtain ⟨fz, AZ, OZ, BZ, LZ, GZ⟩ := Ac.one_ok O0 0 (by decide) Ac.bd_zero Ac.zero_le1 (base := n + m) (by omega) (by omega) D1 hz
 have hxz : x ≤ z := by rw [hzs.out]; grind
 have C1 := Rt.cmp_le hxz
 have AX' := fun w => accrue_any a han n te _ 0 (Lib.hid AX.symm) w
 have AY' := fun w => accrue_any a han m te _ 0 (Lib.hid AY.symm) w
 have AZ' := fun w => accrue_any a han (n + m) te _ 0 (Lib.hid AZ.symm) w
 have sx := Ag.sa_c (a.acc x fx te) Ag.z_size
 have sy := Ag.sa_c (a.acc y fy te) Ag.z_size
 have sz := Ag.sa_c (a.acc z fz te) Ag.z_size
 have lx := Ag.la_c (a.acc x fx te)
 have qx : LA 27 (a.acc x fx te).c 68 (.agg (Rt.qA x)) := (Ag.fec a.hr.size (qA_size x)).la
 have qy : LA 27 (a.acc y fy te).c 68 (.agg (Rt.qA y)) := (Ag.fec a.hr.size (qA_size y)).la
 have qz : LA 27 (a.acc z fz te).c 68 (.agg (Rt.qA z)) := (Ag.fec a.hr.size (qA_size z)).la
 have HOX := Lib.hid OX
 have HBX := Lib.hid BX
 have HLX := Lib.hid LX
 have HD1 := Lib.hid D1
 have ADD := fun w => radd_q x y z fx fy hzs fz w
 have ss := sa_q z (c := Bg.rZ 0 0) (rZ_size 0 0)
 have ls := la_q z
 have CM1 := fun w => ac_compare_q x z _ fx fz (Lib.hid rfl) w
 have HABS := Lib.hid habs
 have HB := Lib.hid (And.intro hb1 hb2)
 clear O0 AX AY AZ OX OY OZ BX BY BZ LX LY LZ GX GY GZ D1 hxz hx hy hz habs hb1 hb2 haun hd0 ht
 generalize Ag.c (a.acc y fy te) = Y at *
 generalize Ag.c (a.acc z fz te) = Z at *
 generalize Ag.c a = A9 at *
 go_upto_region 9 with (first | (go_at_call 11; ((with_reducible refine (AX' _).mono ?_); rintro e9 w2 ⟨rfl, hL⟩; replace HM := HM.call hL; clear hL)) | (go_at_call 11; ((with_reducible refine (AY' _).mono ?_); rintro e9 w2 ⟨rfl, hL⟩; replace HM := HM.call hL; clear hL)) | (go_at_call 11; ((with_reducible refine (AZ' _).mono ?_); rintro e9 w2 ⟨rfl, hL⟩; replace HM := HM.call hL; clear hL)) | (first | ((with_reducible refine g_ld ?_); refine a_ld HM ?_) | ((with_reducible refine g_st ?_); refine a_st HM ?_; clear HM; intro w1 HM) | ((with_reducible refine g_al ?_); refine a_al HM ?_; clear HM; intro bk w1 HM) | ((with_reducible refine g_bx ?_); refine a_bx HM ?_; clear HM; intro bk w1 HM) | ((with_reducible refine g_bld ?_); refine a_bld ?_)))
 clear hto d0 d1
 obtain ⟨b14, rfl⟩ := HM.nm0
 obtain ⟨b12, rfl⟩ := HM.nm1
 obtain ⟨b10, rfl⟩ := HM.nm2
 obtain ⟨b7, rfl⟩ := HM.nm3
 obtain ⟨b4, rfl⟩ := HM.nm4
 have ST : ∀ d9, 0 ≤ d9 → d9 < 9 → ∃ (l : Rat) (fl : Rt.Fit l), Hid (x ≤ l) ∧ (∀ w, Calls Tryz.prog 11 #[.agg (a.acc x fx te).c, .int .i64 n, .int .i64 (te + d9)] w fun r w' => r = .returned (.tuple #[.agg ((a.acc x fx te).acc l fl (te + d9)).c, .int .i64 0]) ∧ Below w.heap.size w w') := fun d9 p0 p1 => by
  have D2 : Dy.Ok (a.acc x fx te).bs (a.acc x fx te).un (te + d9) := ⟨HD1.out.b1, HD1.out.b2, HD1.out.ht, isDay_yes (by omega) (by omega), by show te ≤ te + d9; omega⟩
  obtain ⟨fl, AL, OL, BL, LL, GL⟩ := Ac.one_ok HOX.out 1 (by decide) HBX.out HLX.out n0 (by omega) D2 rfl
  exact ⟨_, fl, Lib.hid GL, fun w => accrue_any (a.acc x fx te) han n (te + d9) _ 0 (Lib.hid AL.symm) w⟩
 have HST := Lib.hid ST
 clear ST
 go_cut [16, 17] (fun u v wc => ∃ (b16 : Nat) (l : Rat) (fl : Rt.Fit l) (d9 : Int), u = .pointer (some ⟨b16, 0, none⟩) ∧ v = .int .i64 0 ∧ Hid (x ≤ l) ∧ Mem W [] [(b16, ((a.acc x fx te).acc l fl (te + d9)).c), (b14, Z), (b12, Y), (b10, (a.acc x fx te).c)] wc)
 case first =>
  refine start_M2 [11] HM ((Sub.keep (Sub.keep (Sub.keep (Sub.keep (Sub.keep Sub.nil)))))) (by kernel_rfl) (fun w0x H9 => ?_)
  replace HM := H9; clear H9
  refine k_ld 0 [6, 7, 8, 9, 11, 12] (heldE HM) ?_
  refine k_mv 1 (heldE HM) ?_
  refine k_mv 2 (heldE HM) ?_
  refine k_mv 3 (heldE HM) ?_
  refine j_two 4 10 ?_ ?_
  ·refine o_callg (next_any W tb _ 9 _ (HM.tp (by ((repeat (first | exact Look.here | refine Look.there ?_)); done)) HC.out H0.out hle) (by omega) (by omega) (by omega)) rfl ?_ ?_; (focus (refine h_call2 (ts := ?_) (x1 := ?_) (x2 := ?_) ?_ (by kernel_rfl) ?_ ?_; rotate_left 3; (focus rfl); (focus rfl); rfl)); rintro e9 w1 ⟨d9, rfl, d0, d1, ⟨c1, hb1, hc1, -, -⟩, hg9⟩; replace HM := HM.put (c' := c1) (by (repeat (first | exact At.here | apply At.there))) hb1 (Only.of_grown hg9); clear hg9 hb1; replace HC := Lib.hid hc1; clear hc1; obtain ⟨l, fl, hxl9, AL⟩ := HST.out d9 d0 d1; have sl := Ag.sa_c ((a.acc x fx te).acc l fl (te + d9)) Ag.z_size; refine ⟨_, rfl, ?_⟩
   refine ⟨(heldE HM), ?_⟩; ((try simp only [List.setIfInBounds_toArray]); (try simp only [List.set_cons_succ]); (try simp only [List.set_cons_zero]))
   refine k_add 5 (heldE HM) ?_
   refine j_two 6 10 ?_ ?_
   ·refine j_call3 (v := ?_) HM ?_ ?_; rotate_left 1; (focus (with_reducible (exact AL _))); clear HM; intro w1 HM
    refine ⟨(heldE HM), ?_⟩; ((try simp only [List.setIfInBounds_toArray]); (try simp only [List.set_cons_succ]); (try simp only [List.set_cons_zero]))
    refine k_mv 7 (heldE HM) ?_
    refine k_ext 8 (heldE HM) ?_
    refine k_ext 9 (heldE HM) ?_
    refine j_one 10 fun K9 hK9 => ?_
    refine j_al HM ?_; clear HM; intro bk w1 HM
    refine hK9 _ _ (heldE HM) ?_; clear hK9 K9
    refine j_one 11 fun K9 hK9 => ?_
    refine j_st HM ?_; clear HM; intro w1 HM
    refine hK9 _ _ heldN ?_; clear hK9 K9
    refine k_mv 12 heldN ?_
    refine wpAnyL_done (by kernel_rfl) ?_ _
    (go_wp2_with fail; go_meet; (case rel => exact ⟨_, l, fl, d9, rfl, rfl, hxl9, HM.pick⟩))
   ·refine j_al HM ?_; clear HM; intro bk w1 HM
    refine ⟨(heldE HM), ?_⟩
    refine j_one 6 fun K9 hK9 => ?_
    refine j_call3 (v := ?_) HM ?_ ?_; rotate_left 1; (focus (with_reducible (exact AL _))); clear HM; intro w1 HM
    refine hK9 _ _ (heldE HM) ?_; clear hK9 K9; ((try simp only [List.setIfInBounds_toArray]); (try simp only [List.set_cons_succ]); (try simp only [List.set_cons_zero]))
    refine k_mv 7 (heldE HM) ?_
    refine k_ext 8 (heldE HM) ?_
    refine k_ext 9 (heldE HM) ?_
    refine j_one 11 fun K9 hK9 => ?_
    refine j_st HM ?_; clear HM; intro w1 HM
    refine hK9 _ _ heldN ?_; clear hK9 K9
    refine k_mv 12 heldN ?_
    refine wpAnyL_done (by kernel_rfl) ?_ _
    (go_wp2_with fail; go_meet; (case rel => exact ⟨_, l, fl, d9, rfl, rfl, hxl9, HM.pick⟩))
  ·refine j_al HM ?_; clear HM; intro bk w1 HM
   refine ⟨(heldE HM), ?_⟩
   refine j_one 4 fun K9 hK9 => ?_
   refine o_callg (next_any W tb _ 9 _ (HM.tp (by ((repeat (first | exact Look.here | refine Look.there ?_)); done)) HC.out H0.out hle) (by omega) (by omega) (by omega)) rfl ?_ ?_; (focus (refine h_call2 (ts := ?_) (x1 := ?_) (x2 := ?_) ?_ (by kernel_rfl) ?_ ?_; rotate_left 3; (focus rfl); (focus rfl); rfl)); rintro e9 w1 ⟨d9, rfl, d0, d1, ⟨c1, hb1, hc1, -, -⟩, hg9⟩; replace HM := HM.put (c' := c1) (by (repeat (first | exact At.here | apply At.there))) hb1 (Only.of_grown hg9); clear hg9 hb1; replace HC := Lib.hid hc1; clear hc1; obtain ⟨l, fl, hxl9, AL⟩ := HST.out d9 d0 d1; have sl := Ag.sa_c ((a.acc x fx te).acc l fl (te + d9)) Ag.z_size; refine ⟨_, rfl, ?_⟩
   refine hK9 _ _ (heldE HM) ?_; clear hK9 K9; ((try simp only [List.setIfInBounds_toArray]); (try simp only [List.set_cons_succ]); (try simp only [List.set_cons_zero]))
   refine k_add 5 (heldE HM) ?_
   refine j_one 6 fun K9 hK9 => ?_
   refine j_call3 (v := ?_) HM ?_ ?_; rotate_left 1; (focus (with_reducible (exact AL _))); clear HM; intro w1 HM
   refine hK9 _ _ (heldE HM) ?_; clear hK9 K9; ((try simp only [List.setIfInBounds_toArray]); (try simp only [List.set_cons_succ]); (try simp only [List.set_cons_zero]))
   refine k_mv 7 (heldE HM) ?_
   refine k_ext 8 (heldE HM) ?_
   refine k_ext 9 (heldE HM) ?_
   refine j_one 11 fun K9 hK9 => ?_
   refine j_st HM ?_; clear HM; intro w1 HM
   refine hK9 _ _ heldN ?_; clear hK9 K9
   refine k_mv 12 heldN ?_
   refine wpAnyL_done (by kernel_rfl) ?_ _
   (go_wp2_with fail; go_meet; (case rel => exact ⟨_, l, fl, d9, rfl, rfl, hxl9, HM.pick⟩))
 case rest =>
  clear HM HC HST AX' AY' AZ' NW
  obtain ⟨b16, l, fl, d9, rfl, rfl, hxl9, HM⟩ := hcut
  have C2 := Rt.cmp_le hxl9.out
  have CM2 := fun w => ac_compare_q x l _ fx fl (Lib.hid rfl) w
  have ql : LA 27 ((a.acc x fx te).acc l fl (te + d9)).c 68 (.agg (Rt.qA l)) := (Ag.fec a.hr.size (qA_size l)).la
  generalize Ag.c ((a.acc x fx te).acc l fl (te + d9)) = L9 at *
  generalize Ag.c (a.acc x fx te) = X9 at *
  generalize Rt.cmp x z = g1 at *
  generalize Rt.cmp x l = g2 at *
  go_step
  go_wp2_with (first | (go_at_call 34; ((with_reducible refine (ADD _).mono ?_); rintro e9 w2 ⟨rfl, hL⟩; replace HM := HM.call hL; clear hL)) | (go_at_call 17; ((with_reducible refine (KN _).mono ?_); rintro e9 w2 ⟨rfl, hL⟩; replace HM := HM.call hL; clear hL)) | (go_at_call 36; ((with_reducible refine (CM1 _).mono ?_); rintro e9 w2 ⟨rfl, hL⟩; replace HM := HM.call hL; clear hL)) | (go_at_call 36; ((with_reducible refine (CM2 _).mono ?_); rintro e9 w2 ⟨rfl, hL⟩; replace HM := HM.call hL; clear hL)) | ((with_reducible refine g_bin ?_); refine a_cmpq .eql (z) (z) true (.inl rfl) (by simp) (fz) (fz) ?_) | (first | ((with_reducible refine g_ld ?_); refine a_ld HM ?_) | ((with_reducible refine g_st ?_); refine a_st HM ?_; clear HM; intro w1 HM) | ((with_reducible refine g_al ?_); refine a_al HM ?_; clear HM; intro bk w1 HM) | ((with_reducible refine g_bx ?_); refine a_bx HM ?_; clear HM; intro bk w1 HM) | ((with_reducible refine g_bld ?_); refine a_bld ?_)))
  go_ret
  exact ⟨rfl, HM.low⟩
end Go.Proofs.YtmbjaaaeekacfaaGreatDoor
