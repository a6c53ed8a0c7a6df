/- The law RatioExact, walked: all operations of ratio are those of the document, for any two values. -/
import Derived.Test.YtekfabhmopkapaaRatG
import Derived.Test.YtekfabhmopkapaaRatL
namespace Go.Proofs.Ytekfabhmopkapaa
set_option maxRecDepth 8000
open Go.RowKit
theorem Rt.bin_lt {x y n d e : Int} {k : Bool} (hx : k = true → x.natAbs < Bg.lim) (hy : k = true → y.natAbs < Bg.lim) (h : (n, d, e) = Rt.bin k x y) : n.natAbs < Bg.lim ∧ d.natAbs < Bg.lim := by
  cases hk : k with
  | false =>
    obtain ⟨rfl, rfl, _⟩ := Rt.bin_no h hk
    exact ⟨Bg.ppos 32, Bg.ppos 32⟩
  | true => exact Rt.mk_lt (hx hk) (hy hk) (Rt.bin_mk h hk)
set_option maxRecDepth 100000 in
set_option maxHeartbeats 8000000 in
theorem rexact_any (s : Bool) (M : Nat) (t : Bool) (N : Nat) (s2 : Bool) (M2 : Nat) (t2 : Bool) (N2 : Nat) (w : World) (hM : M < Bg.lim) (hN : N < Bg.lim) (hM2 : M2 < Bg.lim) (hN2 : N2 < Bg.lim) :
    Calls Try.prog 6 #[.agg (Bg.ratA s M t N), .agg (Bg.ratA s2 M2 t2 N2)] w fun e w' => e = .returned (.bool true) ∧ Below w.heap.size w w' := by
  have HM := Mem.start w
  obtain ⟨k, hk⟩ : ∃ k, Hid (k = (Rt.ok s M t N && Rt.ok s2 M2 t2 N2)) := ⟨_, rfl⟩
  have HG : k = true → Rt.Good (Bg.toZ s M) (Bg.toZ t N) ∧ Rt.Good (Bg.toZ s2 M2) (Bg.toZ t2 N2) := by
    intro h
    rw [hk.out] at h
    obtain ⟨k1, k2⟩ : Rt.ok s M t N = true ∧ Rt.ok s2 M2 t2 N2 = true := by simpa using h
    exact ⟨Rt.good (by rw [Bg.toZ_abs]; exact hM) (by rw [Bg.toZ_abs]; exact hN) (Rt.ok_z k1).2, Rt.good (by rw [Bg.toZ_abs]; exact hM2) (by rw [Bg.toZ_abs]; exact hN2) (Rt.ok_z k2).2⟩
  obtain ⟨n1, d1, e1, h1⟩ : ∃ n d e : Int, Hid ((n, d, e) = Rt.bin (Rt.ok s M t N && Rt.ok s2 M2 t2 N2) (Rt.num false (Bg.toZ s M) (Bg.toZ t N) (Bg.toZ s2 M2) (Bg.toZ t2 N2)) (Bg.toZ t N * Bg.toZ t2 N2)) := ⟨_, _, _, rfl⟩
  obtain ⟨n2, d2, e2, h2⟩ : ∃ n d e : Int, Hid ((n, d, e) = Rt.bin (Rt.ok s M t N && Rt.ok s2 M2 t2 N2) (Rt.num true (Bg.toZ s M) (Bg.toZ t N) (Bg.toZ s2 M2) (Bg.toZ t2 N2)) (Bg.toZ t N * Bg.toZ t2 N2)) := ⟨_, _, _, rfl⟩
  obtain ⟨n3, d3, e3, h3⟩ : ∃ n d e : Int, Hid ((n, d, e) = Rt.bin (Rt.ok s M t N && Rt.ok s2 M2 t2 N2) (Bg.toZ s M * Bg.toZ s2 M2) (Bg.toZ t N * Bg.toZ t2 N2)) := ⟨_, _, _, rfl⟩
  obtain ⟨n4, d4, e4, h4⟩ : ∃ n d e : Int, Hid ((n, d, e) = Rt.bin (Rt.ok s M t N && Rt.ok s2 M2 t2 N2) (Bg.toZ s M * Bg.toZ t2 N2) (Bg.toZ t N * Bg.toZ s2 M2)) := ⟨_, _, _, rfl⟩
  obtain ⟨g, e5, h5⟩ : ∃ g e : Int, Hid ((g, e) = if (Rt.ok s M t N && Rt.ok s2 M2 t2 N2) then ((Bg.toZ s M * Bg.toZ t2 N2 - Bg.toZ s2 M2 * Bg.toZ t N).sign, 0) else (0, 20)) := ⟨_, _, rfl⟩
  obtain ⟨f1, hf1⟩ : ∃ f, Hid (f = Rt.ok s M t N) := ⟨_, rfl⟩
  obtain ⟨f2, hf2⟩ : ∃ f, Hid (f = Rt.ok s2 M2 t2 N2) := ⟨_, rfl⟩
  have lden : k = true → (Bg.toZ t N * Bg.toZ t2 N2).natAbs < Bg.lim := fun h => lim_960 (mul_480 (HG h).1.bq (HG h).2.bq)
  have b1 := Rt.bin_lt (fun h => lim_961 (mul_480 (HG (hk.out.trans h)).1.bp (HG (hk.out.trans h)).2.bq) (mul_480 (HG (hk.out.trans h)).2.bp (HG (hk.out.trans h)).1.bq)) (fun h => lden (hk.out.trans h)) h1.out
  have b2 := Rt.bin_lt (fun h => lim_961 (mul_480 (HG (hk.out.trans h)).1.bp (HG (hk.out.trans h)).2.bq) (show (-(Bg.toZ s2 M2 * Bg.toZ t N)).natAbs < Bg.p2 960 by rw [Int.natAbs_neg]; exact mul_480 (HG (hk.out.trans h)).2.bp (HG (hk.out.trans h)).1.bq)) (fun h => lden (hk.out.trans h)) h2.out
  have b3 := Rt.bin_lt (fun h => lim_960 (mul_480 (HG (hk.out.trans h)).1.bp (HG (hk.out.trans h)).2.bp)) (fun h => lden (hk.out.trans h)) h3.out
  have b4 := Rt.bin_lt (fun h => lim_960 (mul_480 (HG (hk.out.trans h)).1.bp (HG (hk.out.trans h)).2.bq)) (fun h => lim_960 (mul_480 (HG (hk.out.trans h)).1.bq (HG (hk.out.trans h)).2.bp)) h4.out
  obtain ⟨l1, l1'⟩ := b1
  obtain ⟨l2, l2'⟩ := b2
  obtain ⟨l3, l3'⟩ := b3
  obtain ⟨l4, l4'⟩ := b4
  have hz0 := za_rat
  have s1 := sa_rz n1 d1 (rZ_size 0 0)
  have s2' := sa_rz n2 d2 (rZ_size 0 0)
  have s3 := sa_rz n3 d3 (rZ_size 0 0)
  have s4 := sa_rz n4 d4 (rZ_size 0 0)
  have k0 := la_rat s M t N
  have k9 := la_rat s2 M2 t2 N2
  have k1 := la_rz n1 d1
  have k2 := la_rz n2 d2
  have k3 := la_rz n3 d3
  have k4 := la_rz n4 d4
  clear HG lden hk
  go_enter Try.func6, Try.ntmps6
  go_upto_region 13 with (first | first
    | (go_at_call 22; ((with_reducible refine (add_g s M t N s2 M2 t2 N2 n1 d1 e1 hM hN hM2 hN2 h1 _).mono ?_); rintro e9 w2 ⟨rfl, hL⟩; replace HM := HM.call hL; clear hL))
    | (go_at_call 32; ((with_reducible refine (rAdd_g s M t N s2 M2 t2 N2 n1 d1 e1 hM hN hM2 hN2 h1 _).mono ?_); rintro e9 w2 ⟨rfl, hL⟩; replace HM := HM.call hL; clear hL))
    | (go_at_call 24; ((with_reducible refine (sub_g s M t N s2 M2 t2 N2 n2 d2 e2 hM hN hM2 hN2 h2 _).mono ?_); rintro e9 w2 ⟨rfl, hL⟩; replace HM := HM.call hL; clear hL))
    | (go_at_call 33; ((with_reducible refine (rSub_g s M t N s2 M2 t2 N2 n2 d2 e2 hM hN hM2 hN2 h2 _).mono ?_); rintro e9 w2 ⟨rfl, hL⟩; replace HM := HM.call hL; clear hL))
    | (go_at_call 23; ((with_reducible refine (mul_g s M t N s2 M2 t2 N2 n3 d3 e3 hM hN hM2 hN2 h3 _).mono ?_); rintro e9 w2 ⟨rfl, hL⟩; replace HM := HM.call hL; clear hL))
    | (go_at_call 34; ((with_reducible refine (rMul_g s M t N s2 M2 t2 N2 n3 d3 e3 hM hN hM2 hN2 h3 _).mono ?_); rintro e9 w2 ⟨rfl, hL⟩; replace HM := HM.call hL; clear hL))
    | (go_at_call 25; ((with_reducible refine (quo_g s M t N s2 M2 t2 N2 n4 d4 e4 hM hN hM2 hN2 h4 _).mono ?_); rintro e9 w2 ⟨rfl, hL⟩; replace HM := HM.call hL; clear hL))
    | (go_at_call 35; ((with_reducible refine (rQuo_g s M t N s2 M2 t2 N2 n4 d4 e4 hM hN hM2 hN2 h4 _).mono ?_); rintro e9 w2 ⟨rfl, hL⟩; replace HM := HM.call hL; clear hL))
    | (go_at_call 36; ((with_reducible refine (Cmp_g s M t N s2 M2 t2 N2 g e5 h5 hM hN hM2 hN2 _).mono ?_); rintro e9 w2 ⟨rfl, hL⟩; replace HM := HM.call hL; clear hL))
    | (go_at_call 37; ((with_reducible refine (rCmp_g s M t N s2 M2 t2 N2 g e5 h5 hM hN hM2 hN2 _).mono ?_); rintro e9 w2 ⟨rfl, hL⟩; replace HM := HM.call hL; clear hL))
    | ((with_reducible refine g_bin ?_); refine a_cmpr .neq (n1) (d1) (n1) (d1) false (.inr rfl) (by simp) (l1) (l1') (l1) (l1') ?_)
    | ((with_reducible refine g_bin ?_); refine a_cmpr .neq (n2) (d2) (n2) (d2) false (.inr rfl) (by simp) (l2) (l2') (l2) (l2') ?_)
    | ((with_reducible refine g_bin ?_); refine a_cmpr .neq (n3) (d3) (n3) (d3) false (.inr rfl) (by simp) (l3) (l3') (l3) (l3') ?_)
    | ((with_reducible refine g_bin ?_); refine a_cmpr .neq (n4) (d4) (n4) (d4) false (.inr rfl) (by simp) (l4) (l4') (l4) (l4') ?_) | (first | ((with_reducible refine g_ld ?_); refine a_ld HM ?_) | ((with_reducible refine g_st ?_); refine a_st HM ?_; clear HM; intro w1 HM) | ((with_reducible refine g_al ?_); refine a_al HM ?_; clear HM; intro bk w1 HM) | ((with_reducible refine g_bx ?_); refine a_bx HM ?_; clear HM; intro bk w1 HM) | ((with_reducible refine g_bld ?_); refine a_bld ?_)))
  refine start_M [] HM (by kernel_rfl) (fun w0x H9 => ?_)
  replace HM := H9; clear H9
  refine j_one 0 fun K9 hK9 => ?_
  refine j_call0 (v := ?_) HM ?_ ?_; rotate_left 1; (focus (with_reducible (first | exact rknown_any _ | exact valid_n s M t N f1 hM hN hf1 _ | exact rvalid_n s M t N f1 hM hN hf1 _ | exact valid_n s2 M2 t2 N2 f2 hM2 hN2 hf2 _ | exact rvalid_n s2 M2 t2 N2 f2 hM2 hN2 hf2 _))); clear HM; intro w1 HM
  refine hK9 _ _ (heldE HM) ?_; clear hK9 K9
  refine k_mv 1 (heldE HM) ?_
  refine k_mv 2 (heldE HM) ?_
  refine k_mv 3 (heldE HM) ?_
  refine k_bin 4 (heldE HM) ?_
  refine k_pick 5 (heldE HM) ?_
  refine k_mv 6 (heldE HM) ?_
  refine k_mv 7 (heldE HM) ?_
  refine k_mv 8 (heldE HM) ?_
  refine k_bin 9 (heldE HM) ?_
  refine k_pick 10 (heldE HM) ?_
  refine k_mv 11 (heldE HM) ?_
  refine k_ld 12 [] (heldE HM) ?_
  refine k_ld 14 [] (heldE HM) ?_
  refine j_one 13 fun K9 hK9 => ?_
  refine j_call1 (v := ?_) HM ?_ ?_; rotate_left 1; (focus (with_reducible (first | exact rknown_any _ | exact valid_n s M t N f1 hM hN hf1 _ | exact rvalid_n s M t N f1 hM hN hf1 _ | exact valid_n s2 M2 t2 N2 f2 hM2 hN2 hf2 _ | exact rvalid_n s2 M2 t2 N2 f2 hM2 hN2 hf2 _))); clear HM; intro w1 HM
  refine hK9 _ _ (heldE HM) ?_; clear hK9 K9
  refine j_one 15 fun K9 hK9 => ?_
  refine j_call1 (v := ?_) HM ?_ ?_; rotate_left 1; (focus (with_reducible (first | exact rknown_any _ | exact valid_n s M t N f1 hM hN hf1 _ | exact rvalid_n s M t N f1 hM hN hf1 _ | exact valid_n s2 M2 t2 N2 f2 hM2 hN2 hf2 _ | exact rvalid_n s2 M2 t2 N2 f2 hM2 hN2 hf2 _))); clear HM; intro w1 HM
  refine hK9 _ _ (heldE HM) ?_; clear hK9 K9
  refine k_bin 16 (heldE HM) ?_
  refine k_pick 17 (heldE HM) ?_
  refine k_mv 18 (heldE HM) ?_
  refine k_ld 19 [] (heldE HM) ?_
  refine k_ld 21 [] (heldE HM) ?_
  refine j_one 20 fun K9 hK9 => ?_
  refine j_call1 (v := ?_) HM ?_ ?_; rotate_left 1; (focus (with_reducible (first | exact rknown_any _ | exact valid_n s M t N f1 hM hN hf1 _ | exact rvalid_n s M t N f1 hM hN hf1 _ | exact valid_n s2 M2 t2 N2 f2 hM2 hN2 hf2 _ | exact rvalid_n s2 M2 t2 N2 f2 hM2 hN2 hf2 _))); clear HM; intro w1 HM
  refine hK9 _ _ (heldE HM) ?_; clear hK9 K9
  refine j_one 22 fun K9 hK9 => ?_
  refine j_call1 (v := ?_) HM ?_ ?_; rotate_left 1; (focus (with_reducible (first | exact rknown_any _ | exact valid_n s M t N f1 hM hN hf1 _ | exact rvalid_n s M t N f1 hM hN hf1 _ | exact valid_n s2 M2 t2 N2 f2 hM2 hN2 hf2 _ | exact rvalid_n s2 M2 t2 N2 f2 hM2 hN2 hf2 _))); clear HM; intro w1 HM
  refine hK9 _ _ (heldE HM) ?_; clear hK9 K9
  refine k_bin 23 (heldE HM) ?_
  refine k_pick 24 (heldE HM) ?_
  refine k_mv 25 (heldE HM) ?_
  refine wpAnyL_done (by kernel_rfl) ?_ _
  go_wp2_with fail
  go_ret
  exact ⟨rfl, HM.low⟩
end Go.Proofs.Ytekfabhmopkapaa
