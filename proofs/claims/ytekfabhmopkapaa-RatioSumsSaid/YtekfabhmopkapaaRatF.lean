/- Cmp, Neg, Abs, Sign and Floor of ratios, of both. -/
import Derived.Test.YtekfabhmopkapaaRatH
namespace Go.Proofs.Ytekfabhmopkapaa
set_option maxRecDepth 8000
open Go.RowKit
set_option maxHeartbeats 2000000 in
theorem Neg_bad (s : Bool) (M : Nat) (t : Bool) (N : Nat) (hM : M < Bg.lim) (hN : N < Bg.lim) (h1 : Hid (false = Rt.ok s M t N)) (w : World) :
    Calls Try.prog 41 #[.agg (Bg.ratA s M t N)] w fun r w' => r = .returned (.tuple #[.agg (Bg.rZ 0 0), .int .i64 20]) ∧ Below w.heap.size w w' := by
  have HM := Mem.start w
  have hz0 := za_rat
  have hs1 := sa_rz 0 0 (rZ_size 0 0)
  have k1 := la_rat s M t N
  go_enter Try.func41, Try.ntmps41
  go_wp2_with (first | first | ((with_reducible refine g_bld ?_); refine a_rbl ?_) | (go_at_call 15; ((with_reducible refine (valid_n s M t N false hM hN h1 _).mono ?_); rintro e9 w2 ⟨rfl, hL⟩; replace HM := HM.call hL; clear hL)) | (first | ((with_reducible refine g_ld ?_); refine a_ld HM ?_) | ((with_reducible refine g_st ?_); refine a_st HM ?_; clear HM; intro w1 HM) | ((with_reducible refine g_al ?_); refine a_al HM ?_; clear HM; intro bk w1 HM) | ((with_reducible refine g_bx ?_); refine a_bx HM ?_; clear HM; intro bk w1 HM) | ((with_reducible refine g_bld ?_); refine a_bld ?_)))
  refine bodyPost_ret (r_ct rfl rfl (HM.get (by ((repeat (first | exact Look.here | refine Look.there ?_)); done))) (la_rz _ _)) rfl ⟨rfl, HM.low⟩
set_option maxHeartbeats 2000000 in
theorem Abs_bad (s : Bool) (M : Nat) (t : Bool) (N : Nat) (hM : M < Bg.lim) (hN : N < Bg.lim) (h1 : Hid (false = Rt.ok s M t N)) (w : World) :
    Calls Try.prog 43 #[.agg (Bg.ratA s M t N)] w fun r w' => r = .returned (.tuple #[.agg (Bg.rZ 0 0), .int .i64 20]) ∧ Below w.heap.size w w' := by
  have HM := Mem.start w
  have hz0 := za_rat
  have hs1 := sa_rz 0 0 (rZ_size 0 0)
  have k1 := la_rat s M t N
  go_enter Try.func43, Try.ntmps43
  go_wp2_with (first | first | ((with_reducible refine g_bld ?_); refine a_rbl ?_) | (go_at_call 15; ((with_reducible refine (valid_n s M t N false hM hN h1 _).mono ?_); rintro e9 w2 ⟨rfl, hL⟩; replace HM := HM.call hL; clear hL)) | (first | ((with_reducible refine g_ld ?_); refine a_ld HM ?_) | ((with_reducible refine g_st ?_); refine a_st HM ?_; clear HM; intro w1 HM) | ((with_reducible refine g_al ?_); refine a_al HM ?_; clear HM; intro bk w1 HM) | ((with_reducible refine g_bx ?_); refine a_bx HM ?_; clear HM; intro bk w1 HM) | ((with_reducible refine g_bld ?_); refine a_bld ?_)))
  refine bodyPost_ret (r_ct rfl rfl (HM.get (by ((repeat (first | exact Look.here | refine Look.there ?_)); done))) (la_rz _ _)) rfl ⟨rfl, HM.low⟩
set_option maxHeartbeats 2000000 in
theorem Sign_bad (s : Bool) (M : Nat) (t : Bool) (N : Nat) (hM : M < Bg.lim) (hN : N < Bg.lim) (h1 : Hid (false = Rt.ok s M t N)) (w : World) :
    Calls Try.prog 45 #[.agg (Bg.ratA s M t N)] w fun r w' => r = .returned (.tuple #[.int .i64 0, .int .i64 20]) ∧ Below w.heap.size w w' := by
  have HM := Mem.start w
  have hz0 := za_rat
  have hs1 := sa_rz 0 0 (rZ_size 0 0)
  have k1 := la_rat s M t N
  go_enter Try.func45, Try.ntmps45
  go_wp2_with (first | first | ((with_reducible refine g_bld ?_); refine a_rbl ?_) | (go_at_call 15; ((with_reducible refine (valid_n s M t N false hM hN h1 _).mono ?_); rintro e9 w2 ⟨rfl, hL⟩; replace HM := HM.call hL; clear hL)) | (first | ((with_reducible refine g_ld ?_); refine a_ld HM ?_) | ((with_reducible refine g_st ?_); refine a_st HM ?_; clear HM; intro w1 HM) | ((with_reducible refine g_al ?_); refine a_al HM ?_; clear HM; intro bk w1 HM) | ((with_reducible refine g_bx ?_); refine a_bx HM ?_; clear HM; intro bk w1 HM) | ((with_reducible refine g_bld ?_); refine a_bld ?_)))
  go_ret2
  exact ⟨rfl, HM.low⟩
set_option maxHeartbeats 2000000 in
theorem Floor_bad (s : Bool) (M : Nat) (t : Bool) (N : Nat) (hM : M < Bg.lim) (hN : N < Bg.lim) (h1 : Hid (false = Rt.ok s M t N)) (w : World) :
    Calls Try.prog 39 #[.agg (Bg.ratA s M t N)] w fun r w' => r = .returned (.tuple #[.agg (Bg.zA 0), .int .i64 20]) ∧ Below w.heap.size w w' := by
  have HM := Mem.start w
  have hz0 := za_rat
  have hs1 := sa_rz 0 0 (rZ_size 0 0)
  have k1 := la_rat s M t N
  go_enter Try.func39, Try.ntmps39
  go_wp2_with (first | first | ((with_reducible refine g_bld ?_); refine a_rbl ?_) | (go_at_call 15; ((with_reducible refine (valid_n s M t N false hM hN h1 _).mono ?_); rintro e9 w2 ⟨rfl, hL⟩; replace HM := HM.call hL; clear hL)) | (first | ((with_reducible refine g_ld ?_); refine a_ld HM ?_) | ((with_reducible refine g_st ?_); refine a_st HM ?_; clear HM; intro w1 HM) | ((with_reducible refine g_al ?_); refine a_al HM ?_; clear HM; intro bk w1 HM) | ((with_reducible refine g_bx ?_); refine a_bx HM ?_; clear HM; intro bk w1 HM) | ((with_reducible refine g_bld ?_); refine a_bld ?_)))
  refine bodyPost_ret (r_ct rfl rfl (HM.get (by ((repeat (first | exact Look.here | refine Look.there ?_)); done))) (la_z _)) rfl ⟨rfl, HM.low⟩
set_option maxHeartbeats 2000000 in
theorem rNeg_bad (s : Bool) (M : Nat) (t : Bool) (N : Nat) (hM : M < Bg.lim) (hN : N < Bg.lim) (h1 : Hid (false = Rt.ok s M t N)) (w : World) :
    Calls Try.prog 42 #[.agg (Bg.ratA s M t N)] w fun r w' => r = .returned (.tuple #[.agg (Bg.rZ 0 0), .int .i64 20]) ∧ Below w.heap.size w w' := by
  have HM := Mem.start w
  have hz0 := za_rat
  have hs1 := sa_rz 0 0 (rZ_size 0 0)
  have k1 := la_rat s M t N
  go_enter Try.func42, Try.ntmps42
  go_wp2_with (first | first | ((with_reducible refine g_bld ?_); refine a_rbl ?_) | (go_at_call 38; ((with_reducible refine (rvalid_n s M t N false hM hN h1 _).mono ?_); rintro e9 w2 ⟨rfl, hL⟩; replace HM := HM.call hL; clear hL)) | (first | ((with_reducible refine g_ld ?_); refine a_ld HM ?_) | ((with_reducible refine g_st ?_); refine a_st HM ?_; clear HM; intro w1 HM) | ((with_reducible refine g_al ?_); refine a_al HM ?_; clear HM; intro bk w1 HM) | ((with_reducible refine g_bx ?_); refine a_bx HM ?_; clear HM; intro bk w1 HM) | ((with_reducible refine g_bld ?_); refine a_bld ?_)))
  refine bodyPost_ret (r_ct rfl rfl (HM.get (by ((repeat (first | exact Look.here | refine Look.there ?_)); done))) (la_rz _ _)) rfl ⟨rfl, HM.low⟩
set_option maxHeartbeats 2000000 in
theorem rAbs_bad (s : Bool) (M : Nat) (t : Bool) (N : Nat) (hM : M < Bg.lim) (hN : N < Bg.lim) (h1 : Hid (false = Rt.ok s M t N)) (w : World) :
    Calls Try.prog 44 #[.agg (Bg.ratA s M t N)] w fun r w' => r = .returned (.tuple #[.agg (Bg.rZ 0 0), .int .i64 20]) ∧ Below w.heap.size w w' := by
  have HM := Mem.start w
  have hz0 := za_rat
  have hs1 := sa_rz 0 0 (rZ_size 0 0)
  have k1 := la_rat s M t N
  go_enter Try.func44, Try.ntmps44
  go_wp2_with (first | first | ((with_reducible refine g_bld ?_); refine a_rbl ?_) | (go_at_call 38; ((with_reducible refine (rvalid_n s M t N false hM hN h1 _).mono ?_); rintro e9 w2 ⟨rfl, hL⟩; replace HM := HM.call hL; clear hL)) | (first | ((with_reducible refine g_ld ?_); refine a_ld HM ?_) | ((with_reducible refine g_st ?_); refine a_st HM ?_; clear HM; intro w1 HM) | ((with_reducible refine g_al ?_); refine a_al HM ?_; clear HM; intro bk w1 HM) | ((with_reducible refine g_bx ?_); refine a_bx HM ?_; clear HM; intro bk w1 HM) | ((with_reducible refine g_bld ?_); refine a_bld ?_)))
  refine bodyPost_ret (r_ct rfl rfl (HM.get (by ((repeat (first | exact Look.here | refine Look.there ?_)); done))) (la_rz _ _)) rfl ⟨rfl, HM.low⟩
set_option maxHeartbeats 2000000 in
theorem rSign_bad (s : Bool) (M : Nat) (t : Bool) (N : Nat) (hM : M < Bg.lim) (hN : N < Bg.lim) (h1 : Hid (false = Rt.ok s M t N)) (w : World) :
    Calls Try.prog 46 #[.agg (Bg.ratA s M t N)] w fun r w' => r = .returned (.tuple #[.int .i64 0, .int .i64 20]) ∧ Below w.heap.size w w' := by
  have HM := Mem.start w
  have hz0 := za_rat
  have hs1 := sa_rz 0 0 (rZ_size 0 0)
  have k1 := la_rat s M t N
  go_enter Try.func46, Try.ntmps46
  go_wp2_with (first | first | ((with_reducible refine g_bld ?_); refine a_rbl ?_) | (go_at_call 38; ((with_reducible refine (rvalid_n s M t N false hM hN h1 _).mono ?_); rintro e9 w2 ⟨rfl, hL⟩; replace HM := HM.call hL; clear hL)) | (first | ((with_reducible refine g_ld ?_); refine a_ld HM ?_) | ((with_reducible refine g_st ?_); refine a_st HM ?_; clear HM; intro w1 HM) | ((with_reducible refine g_al ?_); refine a_al HM ?_; clear HM; intro bk w1 HM) | ((with_reducible refine g_bx ?_); refine a_bx HM ?_; clear HM; intro bk w1 HM) | ((with_reducible refine g_bld ?_); refine a_bld ?_)))
  go_ret2
  exact ⟨rfl, HM.low⟩
set_option maxHeartbeats 2000000 in
theorem rFloor_bad (s : Bool) (M : Nat) (t : Bool) (N : Nat) (hM : M < Bg.lim) (hN : N < Bg.lim) (h1 : Hid (false = Rt.ok s M t N)) (w : World) :
    Calls Try.prog 47 #[.agg (Bg.ratA s M t N)] w fun r w' => r = .returned (.tuple #[.agg (Bg.zA 0), .int .i64 20]) ∧ Below w.heap.size w w' := by
  have HM := Mem.start w
  have hz0 := za_rat
  have hs1 := sa_rz 0 0 (rZ_size 0 0)
  have k1 := la_rat s M t N
  go_enter Try.func47, Try.ntmps47
  go_wp2_with (first | first | ((with_reducible refine g_bld ?_); refine a_rbl ?_) | (go_at_call 38; ((with_reducible refine (rvalid_n s M t N false hM hN h1 _).mono ?_); rintro e9 w2 ⟨rfl, hL⟩; replace HM := HM.call hL; clear hL)) | (first | ((with_reducible refine g_ld ?_); refine a_ld HM ?_) | ((with_reducible refine g_st ?_); refine a_st HM ?_; clear HM; intro w1 HM) | ((with_reducible refine g_al ?_); refine a_al HM ?_; clear HM; intro bk w1 HM) | ((with_reducible refine g_bx ?_); refine a_bx HM ?_; clear HM; intro bk w1 HM) | ((with_reducible refine g_bld ?_); refine a_bld ?_)))
  refine bodyPost_ret (r_ct rfl rfl (HM.get (by ((repeat (first | exact Look.here | refine Look.there ?_)); done))) (la_z _)) rfl ⟨rfl, HM.low⟩
set_option maxHeartbeats 4000000 in
theorem Neg_zz (p q z : Int) (hp : p.natAbs < Bg.lim) (hq : q.natAbs < Bg.lim) (h1 : Hid (true = Rt.okz p q)) (hz : Hid (z = -p)) (w : World) :
    Calls Try.prog 41 #[.agg (Bg.rZ p q)] w fun r w' => r = .returned (.tuple #[.agg (Bg.rZ z q), .int .i64 0]) ∧ Below w.heap.size w w' := by
  have HM := Mem.start w
  have hz0 := za_rat
  have k1 := la_rz p q
  have k3 := la_rznum p q
  have k4 := la_rzden p q
  have hs1 := sa_rz z q (rZ_size 0 0)
  go_enter Try.func41, Try.ntmps41
  go_upto_region 3 with (first | (go_at_call 15; ((with_reducible refine (valid_z p q true hp hq h1 _).mono ?_); rintro e9 w2 ⟨rfl, hL⟩; replace HM := HM.call hL; clear hL)) | (first | ((with_reducible refine g_ld ?_); refine a_ld HM ?_) | ((with_reducible refine g_st ?_); refine a_st HM ?_; clear HM; intro w1 HM) | ((with_reducible refine g_al ?_); refine a_al HM ?_; clear HM; intro bk w1 HM) | ((with_reducible refine g_bx ?_); refine a_bx HM ?_; clear HM; intro bk w1 HM) | ((with_reducible refine g_bld ?_); refine a_bld ?_)))
  obtain ⟨b2, rfl⟩ := HM.nm0
  refine start_M [6] HM (by kernel_rfl) (fun w0x H9 => ?_)
  replace HM := H9; clear H9
  refine k_fa 0 (heldE HM) ?_
  refine k_ld 1 [2, 5, 6, 7] (heldE HM) ?_
  refine k_fa 3 (heldE HM) ?_
  refine k_ld 4 [5, 6, 7] (heldE HM) ?_
  refine j_one 2 fun K9 hK9 => ?_
  refine j_call1 (v := ?_) HM ?_ ?_; rotate_left 1; (focus (with_reducible (exact neg_f p z hp hz _))); clear HM; intro w1 HM
  refine hK9 _ _ (heldE HM) ?_; clear hK9 K9
  refine t_pure (i := 5) (v := .agg (Bg.rZ z q)) rfl rfl (by kernel_rfl) (fun _ _ _ h => h) (heldE HM) (by rfl) ?_ ?_; (focus (exact h_br (by rfl) (by rfl) (by rfl))); ((try simp only [List.setIfInBounds_toArray]); (try simp only [List.set_cons_succ]); (try simp only [List.set_cons_zero]))
  refine j_one 6 fun K9 hK9 => ?_
  refine j_st HM ?_; clear HM; intro w1 HM
  refine hK9 _ _ heldN ?_; clear hK9 K9
  refine k_mv 7 heldN ?_
  refine wpAnyL_done (by kernel_rfl) ?_ _
  (go_wp2_with fail; refine bodyPost_ret (r_ct (b := b2) (k := 0) rfl rfl (HM.get (by ((repeat (first | exact Look.here | refine Look.there ?_)); done))) (la_rz _ _)) rfl ⟨rfl, HM.low⟩)
set_option maxHeartbeats 4000000 in
theorem rNeg_zz (p q z : Int) (hp : p.natAbs < Bg.lim) (hq : q.natAbs < Bg.lim) (h1 : Hid (true = Rt.okz p q)) (hz : Hid (z = -p)) (w : World) :
    Calls Try.prog 42 #[.agg (Bg.rZ p q)] w fun r w' => r = .returned (.tuple #[.agg (Bg.rZ z q), .int .i64 0]) ∧ Below w.heap.size w w' := by
  have HM := Mem.start w
  have hz0 := za_rat
  have k1 := la_rz p q
  have k3 := la_rznum p q
  have k4 := la_rzden p q
  have hs1 := sa_rz z q (rZ_size 0 0)
  go_enter Try.func42, Try.ntmps42
  go_wp2_with (first | first | (go_at_call 38; ((with_reducible refine (rvalid_z p q true hp hq h1 _).mono ?_); rintro e9 w2 ⟨rfl, hL⟩; replace HM := HM.call hL; clear hL)) | (go_at_call 71; ((with_reducible refine (rnegative_z p q z hp hz _).mono ?_); rintro e9 w2 ⟨rfl, hL⟩; replace HM := HM.call hL; clear hL)) | (first | ((with_reducible refine g_ld ?_); refine a_ld HM ?_) | ((with_reducible refine g_st ?_); refine a_st HM ?_; clear HM; intro w1 HM) | ((with_reducible refine g_al ?_); refine a_al HM ?_; clear HM; intro bk w1 HM) | ((with_reducible refine g_bx ?_); refine a_bx HM ?_; clear HM; intro bk w1 HM) | ((with_reducible refine g_bld ?_); refine a_bld ?_)))
  refine bodyPost_ret (r_ct rfl rfl (HM.get (by ((repeat (first | exact Look.here | refine Look.there ?_)); done))) (la_rz _ _)) rfl ⟨rfl, HM.low⟩
set_option maxHeartbeats 4000000 in
theorem Abs_zz (p q z : Int) (hp : p.natAbs < Bg.lim) (hq : q.natAbs < Bg.lim) (h1 : Hid (true = Rt.okz p q)) (hz : Hid (z = (p.natAbs : Int))) (hq0 : 0 < q) (w : World) :
    Calls Try.prog 43 #[.agg (Bg.rZ p q)] w fun r w' => r = .returned (.tuple #[.agg (Bg.rZ z q), .int .i64 0]) ∧ Below w.heap.size w w' := by
  have HM := Mem.start w
  have hz0 := za_rat
  have k1 := la_rz p q
  have k3 := la_rznum p q
  have k4 := la_rzden p q
  have hs1 := sa_rz z q (rZ_size 0 0)
  have ez : Bg.rZ z q = Bg.ratA false p.natAbs (decide (q < 0)) q.natAbs := by rw [rZ_ratA, hz.out, Int.natAbs_natCast, decide_eq_false (show ¬ ((p.natAbs : Nat) : Int) < 0 by omega)]
  have hs2 : SA 4 (Bg.rZ p q) 0 (.bool false) (Bg.rZ z q) := by rw [ez, rZ_ratA p q]; exact sa_rnneg _ _ _ _ _
  have k5 := la_rz z q
  clear ez
  go_enter Try.func43, Try.ntmps43
  go_wp2_with (first | (go_at_call 15; ((with_reducible refine (valid_z p q true hp hq h1 _).mono ?_); rintro e9 w2 ⟨rfl, hL⟩; replace HM := HM.call hL; clear hL)) | (first | ((with_reducible refine g_ld ?_); refine a_ld HM ?_) | ((with_reducible refine g_st ?_); refine a_st HM ?_; clear HM; intro w1 HM) | ((with_reducible refine g_al ?_); refine a_al HM ?_; clear HM; intro bk w1 HM) | ((with_reducible refine g_bx ?_); refine a_bx HM ?_; clear HM; intro bk w1 HM) | ((with_reducible refine g_bld ?_); refine a_bld ?_)))
  refine bodyPost_ret (r_ct rfl rfl (HM.get (by ((repeat (first | exact Look.here | refine Look.there ?_)); done))) (la_rz _ _)) rfl ⟨rfl, HM.low⟩
theorem rabs_z (p z : Int) (hp : p.natAbs < Bg.lim) (hz : Hid (z = (p.natAbs : Int))) (w : World) :
    Calls Try.prog 67 #[.agg (Bg.zA p)] w fun e w' => e = .returned (.agg (Bg.zA z)) ∧ Below w.heap.size w w' := by
  rw [zA_int p]; exact rabs_any _ _ z hp hz w
set_option maxHeartbeats 4000000 in
theorem rAbs_zz (p q z : Int) (hp : p.natAbs < Bg.lim) (hq : q.natAbs < Bg.lim) (h1 : Hid (true = Rt.okz p q)) (hz : Hid (z = (p.natAbs : Int))) (w : World) :
    Calls Try.prog 44 #[.agg (Bg.rZ p q)] w fun r w' => r = .returned (.tuple #[.agg (Bg.rZ z q), .int .i64 0]) ∧ Below w.heap.size w w' := by
  have HM := Mem.start w
  have hz0 := za_rat
  have k1 := la_rz p q
  have k3 := la_rznum p q
  have k4 := la_rzden p q
  have hs1 := sa_rz z q (rZ_size 0 0)
  go_enter Try.func44, Try.ntmps44
  go_upto_region 3 with (first | (go_at_call 38; ((with_reducible refine (rvalid_z p q true hp hq h1 _).mono ?_); rintro e9 w2 ⟨rfl, hL⟩; replace HM := HM.call hL; clear hL)) | (first | ((with_reducible refine g_ld ?_); refine a_ld HM ?_) | ((with_reducible refine g_st ?_); refine a_st HM ?_; clear HM; intro w1 HM) | ((with_reducible refine g_al ?_); refine a_al HM ?_; clear HM; intro bk w1 HM) | ((with_reducible refine g_bx ?_); refine a_bx HM ?_; clear HM; intro bk w1 HM) | ((with_reducible refine g_bld ?_); refine a_bld ?_)))
  obtain ⟨b2, rfl⟩ := HM.nm0
  refine start_M [6] HM (by kernel_rfl) (fun w0x H9 => ?_)
  replace HM := H9; clear H9
  refine k_fa 0 (heldE HM) ?_
  refine k_ld 1 [2, 5, 6, 7] (heldE HM) ?_
  refine k_fa 3 (heldE HM) ?_
  refine k_ld 4 [5, 6, 7] (heldE HM) ?_
  refine j_one 2 fun K9 hK9 => ?_
  refine j_call1 (v := ?_) HM ?_ ?_; rotate_left 1; (focus (with_reducible (exact rabs_z p z hp hz _))); clear HM; intro w1 HM
  refine hK9 _ _ (heldE HM) ?_; clear hK9 K9
  refine t_pure (i := 5) (v := .agg (Bg.rZ z q)) rfl rfl (by kernel_rfl) (fun _ _ _ h => h) (heldE HM) (by rfl) ?_ ?_; (focus (exact h_br (by rfl) (by rfl) (by rfl))); ((try simp only [List.setIfInBounds_toArray]); (try simp only [List.set_cons_succ]); (try simp only [List.set_cons_zero]))
  refine j_one 6 fun K9 hK9 => ?_
  refine j_st HM ?_; clear HM; intro w1 HM
  refine hK9 _ _ heldN ?_; clear hK9 K9
  refine k_mv 7 heldN ?_
  refine wpAnyL_done (by kernel_rfl) ?_ _
  (go_wp2_with fail; refine bodyPost_ret (r_ct (b := b2) (k := 0) rfl rfl (HM.get (by ((repeat (first | exact Look.here | refine Look.there ?_)); done))) (la_rz _ _)) rfl ⟨rfl, HM.low⟩)
theorem sign_zr (p g : Int) (hp : p.natAbs < Bg.lim) (hg : Hid (g = p.sign)) (w : World) :
    Calls Try.prog 50 #[.agg (Bg.zA p)] w fun e w' => e = .returned (.int .i64 g) ∧ Below w.heap.size w w' := by
  rw [zA_int p]; exact sign_any _ _ hp g (Lib.hid (by rw [Bg.toZ_iv]; exact hg.out)) w
set_option maxHeartbeats 4000000 in
theorem Sign_zz (p q g : Int) (hp : p.natAbs < Bg.lim) (hq : q.natAbs < Bg.lim) (h1 : Hid (true = Rt.okz p q)) (hg : Hid (g = p.sign)) (w : World) :
    Calls Try.prog 45 #[.agg (Bg.rZ p q)] w fun r w' => r = .returned (.tuple #[.int .i64 g, .int .i64 0]) ∧ Below w.heap.size w w' := by
  have HM := Mem.start w
  have hz0 := za_rat
  have k1 := la_rz p q
  have k3 := la_rznum p q
  have k4 := la_rzden p q
  go_enter Try.func45, Try.ntmps45
  go_wp2_with (first | first | (go_at_call 15; ((with_reducible refine (valid_z p q true hp hq h1 _).mono ?_); rintro e9 w2 ⟨rfl, hL⟩; replace HM := HM.call hL; clear hL)) | (go_at_call 50; ((with_reducible refine (sign_zr p g hp hg _).mono ?_); rintro e9 w2 ⟨rfl, hL⟩; replace HM := HM.call hL; clear hL)) | (first | ((with_reducible refine g_ld ?_); refine a_ld HM ?_) | ((with_reducible refine g_st ?_); refine a_st HM ?_; clear HM; intro w1 HM) | ((with_reducible refine g_al ?_); refine a_al HM ?_; clear HM; intro bk w1 HM) | ((with_reducible refine g_bx ?_); refine a_bx HM ?_; clear HM; intro bk w1 HM) | ((with_reducible refine g_bld ?_); refine a_bld ?_)))
  go_ret2
  exact ⟨rfl, HM.low⟩
set_option maxHeartbeats 4000000 in
theorem rSign_zz (p q g : Int) (hp : p.natAbs < Bg.lim) (hq : q.natAbs < Bg.lim) (h1 : Hid (true = Rt.okz p q)) (hg : Hid (g = p.sign)) (w : World) :
    Calls Try.prog 46 #[.agg (Bg.rZ p q)] w fun r w' => r = .returned (.tuple #[.int .i64 g, .int .i64 0]) ∧ Below w.heap.size w w' := by
  have HM := Mem.start w
  have hz0 := za_rat
  have k1 := la_rz p q
  have k3 := la_rznum p q
  have k4 := la_rzden p q
  go_enter Try.func46, Try.ntmps46
  go_wp2_with (first | first | (go_at_call 38; ((with_reducible refine (rvalid_z p q true hp hq h1 _).mono ?_); rintro e9 w2 ⟨rfl, hL⟩; replace HM := HM.call hL; clear hL)) | (go_at_call 49; ((with_reducible refine (rsign_z p g hp hg _).mono ?_); rintro e9 w2 ⟨rfl, hL⟩; replace HM := HM.call hL; clear hL)) | (first | ((with_reducible refine g_ld ?_); refine a_ld HM ?_) | ((with_reducible refine g_st ?_); refine a_st HM ?_; clear HM; intro w1 HM) | ((with_reducible refine g_al ?_); refine a_al HM ?_; clear HM; intro bk w1 HM) | ((with_reducible refine g_bx ?_); refine a_bx HM ?_; clear HM; intro bk w1 HM) | ((with_reducible refine g_bld ?_); refine a_bld ?_)))
  go_ret2
  exact ⟨rfl, HM.low⟩
theorem whole_zz (p q x : Int) (hp : p.natAbs < Bg.lim) (hq : q.natAbs < Bg.lim) (h0 : q ≠ 0) (hx : Hid (x = p / q)) (w : World) :
    Calls Try.prog 53 #[.agg (Bg.zA p), .agg (Bg.zA q)] w fun r w' => r = .returned (.agg (Bg.zA x)) ∧ Below w.heap.size w w' := by
  rw [zA_int p]; exact whole_iz _ _ q x hp hq h0 (Lib.hid (by rw [Bg.toZ_iv]; exact hx.out)) w
theorem rdivMod_zz (p q x y : Int) (hp : p.natAbs < Bg.lim) (hq : q.natAbs < Bg.lim) (h0 : q ≠ 0) (hx : Hid (x = p / q)) (hy : Hid (y = p % q)) (w : World) :
    Calls Try.prog 56 #[.agg (Bg.zA p), .agg (Bg.zA q)] w fun r w' => r = .returned (.tuple #[.agg (Bg.zA x), .agg (Bg.zA y), .int .i64 0]) ∧ Below w.heap.size w w' := by
  rw [zA_int p]; exact rdivMod_iz _ _ q x y hp hq h0 (Lib.hid (by rw [Bg.toZ_iv]; exact hx.out)) (Lib.hid (by rw [Bg.toZ_iv]; exact hy.out)) w
set_option maxHeartbeats 4000000 in
theorem Floor_zz (p q x : Int) (hp : p.natAbs < Bg.lim) (hq : q.natAbs < Bg.lim) (h1 : Hid (true = Rt.okz p q)) (h0 : q ≠ 0) (hx : Hid (x = p / q)) (w : World) :
    Calls Try.prog 39 #[.agg (Bg.rZ p q)] w fun r w' => r = .returned (.tuple #[.agg (Bg.zA x), .int .i64 0]) ∧ Below w.heap.size w w' := by
  have HM := Mem.start w
  have hz0 := za_rat
  have k1 := la_rz p q
  have k3 := la_rznum p q
  have k4 := la_rzden p q
  have h0' := Lib.hid h0
  clear h0
  go_enter Try.func39, Try.ntmps39
  go_wp2_with (first | first | (go_at_call 15; ((with_reducible refine (valid_z p q true hp hq h1 _).mono ?_); rintro e9 w2 ⟨rfl, hL⟩; replace HM := HM.call hL; clear hL)) | (go_at_call 53; ((with_reducible refine (whole_zz p q x hp hq h0'.out hx _).mono ?_); rintro e9 w2 ⟨rfl, hL⟩; replace HM := HM.call hL; clear hL)) | (first | ((with_reducible refine g_ld ?_); refine a_ld HM ?_) | ((with_reducible refine g_st ?_); refine a_st HM ?_; clear HM; intro w1 HM) | ((with_reducible refine g_al ?_); refine a_al HM ?_; clear HM; intro bk w1 HM) | ((with_reducible refine g_bx ?_); refine a_bx HM ?_; clear HM; intro bk w1 HM) | ((with_reducible refine g_bld ?_); refine a_bld ?_)))
  refine bodyPost_ret (r_ct rfl rfl (HM.get (by ((repeat (first | exact Look.here | refine Look.there ?_)); done))) (la_z _)) rfl ⟨rfl, HM.low⟩
set_option maxHeartbeats 4000000 in
theorem rFloor_zz (p q x : Int) (hp : p.natAbs < Bg.lim) (hq : q.natAbs < Bg.lim) (h1 : Hid (true = Rt.okz p q)) (h0 : q ≠ 0) (hx : Hid (x = p / q)) (w : World) :
    Calls Try.prog 47 #[.agg (Bg.rZ p q)] w fun r w' => r = .returned (.tuple #[.agg (Bg.zA x), .int .i64 0]) ∧ Below w.heap.size w w' := by
  have HM := Mem.start w
  have hz0 := za_rat
  have k1 := la_rz p q
  have k3 := la_rznum p q
  have k4 := la_rzden p q
  have h0' := Lib.hid h0
  obtain ⟨y, hy⟩ : ∃ y, Hid (y = p % q) := ⟨_, rfl⟩
  clear h0
  go_enter Try.func47, Try.ntmps47
  go_wp2_with (first | first | (go_at_call 38; ((with_reducible refine (rvalid_z p q true hp hq h1 _).mono ?_); rintro e9 w2 ⟨rfl, hL⟩; replace HM := HM.call hL; clear hL)) | (go_at_call 56; ((with_reducible refine (rdivMod_zz p q x y hp hq h0'.out hx hy _).mono ?_); rintro e9 w2 ⟨rfl, hL⟩; replace HM := HM.call hL; clear hL)) | (first | ((with_reducible refine g_ld ?_); refine a_ld HM ?_) | ((with_reducible refine g_st ?_); refine a_st HM ?_; clear HM; intro w1 HM) | ((with_reducible refine g_al ?_); refine a_al HM ?_; clear HM; intro bk w1 HM) | ((with_reducible refine g_bx ?_); refine a_bx HM ?_; clear HM; intro bk w1 HM) | ((with_reducible refine g_bld ?_); refine a_bld ?_)))
  refine bodyPost_ret (r_ct rfl rfl (HM.get (by ((repeat (first | exact Look.here | refine Look.there ?_)); done))) (la_z _)) rfl ⟨rfl, HM.low⟩
theorem Neg_g (s : Bool) (M : Nat) (t : Bool) (N : Nat) (n d e : Int) (hr : Hid ((n, d, e) = if Rt.ok s M t N then (-Bg.toZ s M, Bg.toZ t N, 0) else (0, 0, 20))) (hM : M < Bg.lim) (hN : N < Bg.lim) (w : World) :
    Calls Try.prog 41 #[.agg (Bg.ratA s M t N)] w fun r w' => r = .returned (.tuple #[.agg (Bg.rZ n d), .int .i64 e]) ∧ Below w.heap.size w w' := by
  have hr2 := hr.out
  cases hk : Rt.ok s M t N with
  | false =>
    rw [hk] at hr2
    obtain ⟨rfl, rfl, rfl⟩ : n = 0 ∧ d = 0 ∧ e = 20 := by simpa using hr2
    exact Neg_bad s M t N hM hN hk.symm w
  | true =>
    rw [hk] at hr2
    obtain ⟨rfl, rfl, rfl⟩ : n = -Bg.toZ s M ∧ d = Bg.toZ t N ∧ e = 0 := by simpa using hr2
    obtain ⟨e1, z1⟩ := Rt.ok_z hk
    have g := Rt.good (by rw [Bg.toZ_abs]; exact hM) (by rw [Bg.toZ_abs]; exact hN) z1
    rw [e1]
    exact Neg_zz _ _ _ g.lp g.lq z1.symm rfl w
theorem Abs_g (s : Bool) (M : Nat) (t : Bool) (N : Nat) (n d e : Int) (hr : Hid ((n, d, e) = if Rt.ok s M t N then ((M : Int), Bg.toZ t N, 0) else (0, 0, 20))) (hM : M < Bg.lim) (hN : N < Bg.lim) (w : World) :
    Calls Try.prog 43 #[.agg (Bg.ratA s M t N)] w fun r w' => r = .returned (.tuple #[.agg (Bg.rZ n d), .int .i64 e]) ∧ Below w.heap.size w w' := by
  have hr2 := hr.out
  cases hk : Rt.ok s M t N with
  | false =>
    rw [hk] at hr2
    obtain ⟨rfl, rfl, rfl⟩ : n = 0 ∧ d = 0 ∧ e = 20 := by simpa using hr2
    exact Abs_bad s M t N hM hN hk.symm w
  | true =>
    rw [hk] at hr2
    obtain ⟨rfl, rfl, rfl⟩ : n = (M : Int) ∧ d = Bg.toZ t N ∧ e = 0 := by simpa using hr2
    obtain ⟨e1, z1⟩ := Rt.ok_z hk
    have g := Rt.good (by rw [Bg.toZ_abs]; exact hM) (by rw [Bg.toZ_abs]; exact hN) z1
    rw [e1]
    exact Abs_zz _ _ _ g.lp g.lq z1.symm (Lib.hid (by rw [Bg.toZ_abs])) g.pos w
theorem Sign_g (s : Bool) (M : Nat) (t : Bool) (N : Nat) (n e : Int) (hr : Hid ((n, e) = if Rt.ok s M t N then ((Bg.toZ s M).sign, 0) else (0, 20))) (hM : M < Bg.lim) (hN : N < Bg.lim) (w : World) :
    Calls Try.prog 45 #[.agg (Bg.ratA s M t N)] w fun r w' => r = .returned (.tuple #[.int .i64 n, .int .i64 e]) ∧ Below w.heap.size w w' := by
  have hr2 := hr.out
  cases hk : Rt.ok s M t N with
  | false =>
    rw [hk] at hr2
    obtain ⟨rfl, rfl⟩ : n = 0 ∧ e = 20 := by simpa using hr2
    exact Sign_bad s M t N hM hN hk.symm w
  | true =>
    rw [hk] at hr2
    obtain ⟨rfl, rfl⟩ : n = (Bg.toZ s M).sign ∧ e = 0 := by simpa using hr2
    obtain ⟨e1, z1⟩ := Rt.ok_z hk
    have g := Rt.good (by rw [Bg.toZ_abs]; exact hM) (by rw [Bg.toZ_abs]; exact hN) z1
    rw [e1]
    exact Sign_zz _ _ _ g.lp g.lq z1.symm rfl w
theorem Floor_g (s : Bool) (M : Nat) (t : Bool) (N : Nat) (n e : Int) (hr : Hid ((n, e) = if Rt.ok s M t N then (Bg.toZ s M / Bg.toZ t N, 0) else (0, 20))) (hM : M < Bg.lim) (hN : N < Bg.lim) (w : World) :
    Calls Try.prog 39 #[.agg (Bg.ratA s M t N)] w fun r w' => r = .returned (.tuple #[.agg (Bg.zA n), .int .i64 e]) ∧ Below w.heap.size w w' := by
  have hr2 := hr.out
  cases hk : Rt.ok s M t N with
  | false =>
    rw [hk] at hr2
    obtain ⟨rfl, rfl⟩ : n = 0 ∧ e = 20 := by simpa using hr2
    exact Floor_bad s M t N hM hN hk.symm w
  | true =>
    rw [hk] at hr2
    obtain ⟨rfl, rfl⟩ : n = Bg.toZ s M / Bg.toZ t N ∧ e = 0 := by simpa using hr2
    obtain ⟨e1, z1⟩ := Rt.ok_z hk
    have g := Rt.good (by rw [Bg.toZ_abs]; exact hM) (by rw [Bg.toZ_abs]; exact hN) z1
    rw [e1]
    exact Floor_zz _ _ _ g.lp g.lq z1.symm (by have := g.pos; omega) rfl w
theorem rNeg_g (s : Bool) (M : Nat) (t : Bool) (N : Nat) (n d e : Int) (hr : Hid ((n, d, e) = if Rt.ok s M t N then (-Bg.toZ s M, Bg.toZ t N, 0) else (0, 0, 20))) (hM : M < Bg.lim) (hN : N < Bg.lim) (w : World) :
    Calls Try.prog 42 #[.agg (Bg.ratA s M t N)] w fun r w' => r = .returned (.tuple #[.agg (Bg.rZ n d), .int .i64 e]) ∧ Below w.heap.size w w' := by
  have hr2 := hr.out
  cases hk : Rt.ok s M t N with
  | false =>
    rw [hk] at hr2
    obtain ⟨rfl, rfl, rfl⟩ : n = 0 ∧ d = 0 ∧ e = 20 := by simpa using hr2
    exact rNeg_bad s M t N hM hN hk.symm w
  | true =>
    rw [hk] at hr2
    obtain ⟨rfl, rfl, rfl⟩ : n = -Bg.toZ s M ∧ d = Bg.toZ t N ∧ e = 0 := by simpa using hr2
    obtain ⟨e1, z1⟩ := Rt.ok_z hk
    have g := Rt.good (by rw [Bg.toZ_abs]; exact hM) (by rw [Bg.toZ_abs]; exact hN) z1
    rw [e1]
    exact rNeg_zz _ _ _ g.lp g.lq z1.symm rfl w
theorem rAbs_g (s : Bool) (M : Nat) (t : Bool) (N : Nat) (n d e : Int) (hr : Hid ((n, d, e) = if Rt.ok s M t N then ((M : Int), Bg.toZ t N, 0) else (0, 0, 20))) (hM : M < Bg.lim) (hN : N < Bg.lim) (w : World) :
    Calls Try.prog 44 #[.agg (Bg.ratA s M t N)] w fun r w' => r = .returned (.tuple #[.agg (Bg.rZ n d), .int .i64 e]) ∧ Below w.heap.size w w' := by
  have hr2 := hr.out
  cases hk : Rt.ok s M t N with
  | false =>
    rw [hk] at hr2
    obtain ⟨rfl, rfl, rfl⟩ : n = 0 ∧ d = 0 ∧ e = 20 := by simpa using hr2
    exact rAbs_bad s M t N hM hN hk.symm w
  | true =>
    rw [hk] at hr2
    obtain ⟨rfl, rfl, rfl⟩ : n = (M : Int) ∧ d = Bg.toZ t N ∧ e = 0 := by simpa using hr2
    obtain ⟨e1, z1⟩ := Rt.ok_z hk
    have g := Rt.good (by rw [Bg.toZ_abs]; exact hM) (by rw [Bg.toZ_abs]; exact hN) z1
    rw [e1]
    exact rAbs_zz _ _ _ g.lp g.lq z1.symm (Lib.hid (by rw [Bg.toZ_abs]))  w
theorem rSign_g (s : Bool) (M : Nat) (t : Bool) (N : Nat) (n e : Int) (hr : Hid ((n, e) = if Rt.ok s M t N then ((Bg.toZ s M).sign, 0) else (0, 20))) (hM : M < Bg.lim) (hN : N < Bg.lim) (w : World) :
    Calls Try.prog 46 #[.agg (Bg.ratA s M t N)] w fun r w' => r = .returned (.tuple #[.int .i64 n, .int .i64 e]) ∧ Below w.heap.size w w' := by
  have hr2 := hr.out
  cases hk : Rt.ok s M t N with
  | false =>
    rw [hk] at hr2
    obtain ⟨rfl, rfl⟩ : n = 0 ∧ e = 20 := by simpa using hr2
    exact rSign_bad s M t N hM hN hk.symm w
  | true =>
    rw [hk] at hr2
    obtain ⟨rfl, rfl⟩ : n = (Bg.toZ s M).sign ∧ e = 0 := by simpa using hr2
    obtain ⟨e1, z1⟩ := Rt.ok_z hk
    have g := Rt.good (by rw [Bg.toZ_abs]; exact hM) (by rw [Bg.toZ_abs]; exact hN) z1
    rw [e1]
    exact rSign_zz _ _ _ g.lp g.lq z1.symm rfl w
theorem rFloor_g (s : Bool) (M : Nat) (t : Bool) (N : Nat) (n e : Int) (hr : Hid ((n, e) = if Rt.ok s M t N then (Bg.toZ s M / Bg.toZ t N, 0) else (0, 20))) (hM : M < Bg.lim) (hN : N < Bg.lim) (w : World) :
    Calls Try.prog 47 #[.agg (Bg.ratA s M t N)] w fun r w' => r = .returned (.tuple #[.agg (Bg.zA n), .int .i64 e]) ∧ Below w.heap.size w w' := by
  have hr2 := hr.out
  cases hk : Rt.ok s M t N with
  | false =>
    rw [hk] at hr2
    obtain ⟨rfl, rfl⟩ : n = 0 ∧ e = 20 := by simpa using hr2
    exact rFloor_bad s M t N hM hN hk.symm w
  | true =>
    rw [hk] at hr2
    obtain ⟨rfl, rfl⟩ : n = Bg.toZ s M / Bg.toZ t N ∧ e = 0 := by simpa using hr2
    obtain ⟨e1, z1⟩ := Rt.ok_z hk
    have g := Rt.good (by rw [Bg.toZ_abs]; exact hM) (by rw [Bg.toZ_abs]; exact hN) z1
    rw [e1]
    exact rFloor_zz _ _ _ g.lp g.lq z1.symm (by have := g.pos; omega) rfl w
end Go.Proofs.Ytekfabhmopkapaa
