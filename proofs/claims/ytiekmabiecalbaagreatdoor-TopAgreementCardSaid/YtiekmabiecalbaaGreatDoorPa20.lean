/- Walks. -/
import Derived.Test.YtiekmabiecalbaaGreatDoorPa05
import Derived.Test.YtiekmabiecalbaaGreatDoorPa16
import Derived.Test.YtiekmabiecalbaaGreatDoorPa19
namespace Go.Proofs.YtiekmabiecalbaaGreatDoor
set_option maxHeartbeats 16000000
open Go.RowKit
set_option maxRecDepth 8000
set_option linter.unusedSimpArgs false
set_option linter.unusedVariables false
section
theorem z9_63 {P : Prop} (h : P := by
 refine j_one 10 fun K9 hK9 => ?_
 refine j_st HM ?_; clear HM; intro w1 HM
 refine hK9 _ _ heldN ?_; clear hK9 K9
 refine k_mv 11 heldN ?_
 refine wpAnyL_done Zk ?_ _
 (go_wp2_with fail; go_meet; (case rel => exact ⟨_, rfl, HM.pick⟩))) : P := h
theorem z9_64 {P : Prop} (h : P := by
 refine j_one 5 fun K9 hK9 => ?_
 refine j_call2 (v := ?_) HM ?_ ?_; rotate_left 1; (focus (with_reducible (first | exact PW _ | exact FI _ | exact ML _))); clear HM; intro w1 HM
 refine hK9 _ _ (heldE HM) ?_; clear hK9 K9
 refine k_mv 6 (heldE HM) ?_
 refine k_ext 7 (heldE HM) ?_
 refine k_ext 8 (heldE HM) ?_
 refine j_one 10 fun K9 hK9 => ?_
 refine j_st HM ?_; clear HM; intro w1 HM
 refine hK9 _ _ heldN ?_; clear hK9 K9
 refine k_mv 11 heldN ?_
 refine wpAnyL_done Zk ?_ _
 (go_wp2_with fail; go_meet; (case rel => exact ⟨_, rfl, HM.pick⟩))) : P := h
theorem z9_65 {P : Prop} (h : P := by
 refine j_one 4 fun K9 hK9 => ?_
 refine j_call1 (v := ?_) HM ?_ ?_; rotate_left 1; (focus (with_reducible (first | exact PW _ | exact FI _ | exact ML _))); clear HM; intro w1 HM
 refine hK9 _ _ (heldE HM) ?_; clear hK9 K9
 refine j_one 5 fun K9 hK9 => ?_
 refine j_call2 (v := ?_) HM ?_ ?_; rotate_left 1; (focus (with_reducible (first | exact PW _ | exact FI _ | exact ML _))); clear HM; intro w1 HM
 refine hK9 _ _ (heldE HM) ?_; clear hK9 K9
 refine k_mv 6 (heldE HM) ?_
 refine k_ext 7 (heldE HM) ?_
 refine k_ext 8 (heldE HM) ?_
 refine j_one 10 fun K9 hK9 => ?_
 refine j_st HM ?_; clear HM; intro w1 HM
 refine hK9 _ _ heldN ?_; clear hK9 K9
 refine k_mv 11 heldN ?_
 refine wpAnyL_done Zk ?_ _
 (go_wp2_with fail; go_meet; (case rel => exact ⟨_, rfl, HM.pick⟩))) : P := h
theorem z9_66 {P : Prop} (h : P := by
 refine hK9 _ _ heldN ?_; clear hK9 K9
 refine j_one 3 fun K9 hK9 => ?_
 refine j_st HM ?_; clear HM; intro w1 HM
 refine hK9 _ _ heldN ?_; clear hK9 K9
 refine wpAnyL_done Zk ?_ _
 (go_wp2_with fail; refine bodyPost_ret (r_cc (b := b4) (b2 := b5) (k := 0) (k2 := 0) rfl rfl rfl (HM.get Zl) (la_z _) (HM.get Zl) (la_z _)) rfl ⟨rfl, HM.low⟩)) : P := h
end
section
theorem below_eq {f : FuncId} {args : Array Value} {P : Ending → Prop} {w : World} (h : Calls Tryz.prog f args w fun e w' => P e ∧ w = w') : Calls Tryz.prog f args w fun e w' => P e ∧ Below w.heap.size w w' := h.mono (by rintro e w' ⟨h, rfl⟩; exact ⟨h, Below.refl _ _⟩)
def Ac.p10 (n : Nat) : Int := ((10 ^ n : Nat) : Int)
theorem Ac.p10_succ (n : Nat) : Ac.p10 (n + 1) = Ac.p10 n * 10 := by unfold Ac.p10; rw [Nat.pow_succ]; omega
theorem Ac.p10_pos (n : Nat) : 1 ≤ Ac.p10 n := by unfold Ac.p10; have := Nat.pow_pos (n := n) (show 0 < 10 by decide); omega
theorem Ac.p10_le {n : Nat} (h : n ≤ 9) : Ac.p10 n ≤ 1000000000 := by
 unfold Ac.p10
 have := Nat.pow_le_pow_right (show 0 < 10 by decide) h
 have e : (10 : Nat) ^ 9 = 1000000000 := by decide
 omega
theorem power_any (n : Nat) (hn : n ≤ 9) (w : World) :
    Calls Tryz.prog 61 #[.int .i64 (n : Nat)] w fun e w' => e = .returned (.int .i64 (Ac.p10 n)) ∧ w = w' := by
 go_enter Tryz.func61, Tryz.ntmps61
 go_wp2
 go_loop [3, 5] (fun p i => ∃ k : Nat, p = .int .i64 (Ac.p10 k) ∧ i = .int .i64 (k : Nat) ∧ k ≤ n) (fun _ i => n - (intOf i).toNat)
 case atStart => exact ⟨0, rfl, rfl, by omega⟩
 case round =>
  obtain ⟨k, rfl, rfl, hk⟩ := hrel
  by_cases hlt : k < n
  ·have hlt1 : (k : Int) < n := by omega
   have h1 := Ac.p10_pos k
   have h2 := Ac.p10_le (show k ≤ 9 by omega)
   have h3 := Zi (Ac.p10_succ k)
   generalize Ac.p10 k = p at h1 h2 h3 ⊢
   go_wp2
   go_round
   case rel => exact ⟨k + 1, by rw [h3.out], by go_num, by omega⟩
   case measure => simp [intOf]; omega
  ·obtain rfl : k = n := by omega
   go_wp2
   go_ret
   exact ⟨rfl, rfl⟩
theorem Ac.p10_bits {n : Nat} (h : n ≤ 9) : (Ac.p10 n).natAbs < Bg.p2 30 := by
 have h1 := Ac.p10_le h
 have h2 := Ac.p10_pos n
 have e : Bg.p2 30 = 1073741824 := by unfold Bg.p2; rfl
 omega
theorem Ac.mul_lim {x n : Int} (hx : x.natAbs < Bg.p2 480) (hn : n.natAbs < Bg.p2 30) : (x * n).natAbs < Bg.p2 510 := by
 rw [Int.natAbs_mul]
 have e : Bg.p2 510 = Bg.p2 480 * Bg.p2 30 := by rw [← Bg.p2_add]
 rw [e]
 exact Nat.mul_lt_mul'' hx hn
theorem Ac.lim_of {z : Int} {k : Nat} (h : z.natAbs < Bg.p2 k) (hk : k ≤ 1024) : z.natAbs < Bg.lim := by
 have := Bg.p2_mono hk
 rw [Bg.p2_lim] at this
 omega
theorem Ac.resZ {z : Int} (h : z.natAbs < Bg.lim) : z = Bg.resZ z := by unfold Bg.resZ; rw [if_pos h]
theorem Ac.resE {z : Int} (h : z.natAbs < Bg.lim) : 0 = Bg.resE z := by unfold Bg.resE; rw [if_pos h]
theorem Ac.nl {x : Rat} (h : Rt.Fit x) : x.num.natAbs < Bg.lim := Ac.lim_of h.1 Zd
theorem Ac.dl {x : Rat} (h : Rt.Fit x) : ((x.den : Nat) : Int).natAbs < Bg.lim := by rw [Int.natAbs_natCast]; exact Ac.lim_of (z := (x.den : Nat)) (by rw [Int.natAbs_natCast]; exact h.2) Zd
theorem Ac.ediv_abs {a : Int} {d : Int} (hd : 0 < d) : (a / d).natAbs ≤ a.natAbs + 1 := by
 rcases Int.le_total 0 a with h | h
 ·have h1 : 0 ≤ a / d := Int.ediv_nonneg h (Int.le_of_lt hd)
  have h2 : a / d ≤ a := Int.ediv_le_self _ h
  omega
 ·have h1 : a ≤ a / d := by
    refine Int.le_ediv_of_mul_le hd ?_
    obtain ⟨k, rfl⟩ : ∃ k, d = k + 1 := ⟨d - 1, by omega⟩
    have := Int.mul_le_mul_of_nonneg_right h (show 0 ≤ k by omega)
    rw [Int.mul_add, Int.mul_one]
    omega
  have h2 : a / d ≤ 0 := by
   have := Int.ediv_le_ediv hd h
   simpa using this
  omega
def Ac.lo (x : Rat) (n : Nat) : Int := x.num * Ac.p10 n / x.den
def Ac.re (x : Rat) (n : Nat) : Int := x.num * Ac.p10 n % x.den
theorem Ac.lo_lim {x : Rat} (h : Rt.Fit x) {n : Nat} (hn : n ≤ 9) : (Ac.lo x n).natAbs < Bg.p2 511 := by
 have h1 := Ac.mul_lim h.1 (Ac.p10_bits hn)
 have h2 := Ac.ediv_abs (a := x.num * Ac.p10 n) (Ac.den_pos x)
 have e : Bg.p2 511 = Bg.p2 510 * 2 := by rw [show (511 : Nat) = 510 + 1 from rfl, Bg.p2_add]; rw [show Bg.p2 1 = 2 by unfold Bg.p2; rfl]
 unfold Ac.lo
 omega
theorem Ac.re_in (x : Rat) (n : Nat) : 0 ≤ Ac.re x n ∧ Ac.re x n < x.den := ⟨Int.emod_nonneg _ (Int.ne_of_gt (Ac.den_pos x)), Int.emod_lt_of_pos _ (Ac.den_pos x)⟩
theorem Ac.re_lim {x : Rat} (h : Rt.Fit x) (n : Nat) : (Ac.re x n).natAbs < Bg.p2 480 := by
 have h1 := Ac.re_in x n
 have h2 := h.2
 omega
theorem scaled_any (x : Rat) (n : Nat) (hx : Rt.Fit x) (hn : n ≤ 9) (w : World) :
    Calls Tryz.prog 77 #[.agg (Rt.qA x), .int .i64 (n : Nat)] w fun e w' => e = .returned (.tuple #[.agg (Bg.zA (Ac.lo x n)), .agg (Bg.zA (Ac.re x n))]) ∧ Below w.heap.size w w' := by
 have HM := Mem.start w
 have zi := za_int
 have k1 := la_qnum x
 have k2 := la_qden x
 have hz := Ac.lim_of (Ac.mul_lim hx.1 (Ac.p10_bits hn)) (show 510 ≤ 1024 by decide)
 obtain ⟨p, hp⟩ := Zh (Ac.p10 n)
 have hp0 := Ac.p10_pos n
 have hp1 := Ac.p10_le hn
 obtain ⟨z, hzz⟩ := Zh (x.num * p)
 have PW := fun w => below_eq (power_any n hn w)
 rw [← hp.out] at PW hz hp0 hp1
 rw [← hzz.out] at hz
 have hpl : p.natAbs < Bg.lim := small_lim Zo
 have FI := fun w => fromInt_z p Zo Zo w
 have ML := fun w => mul_z x.num p z 0 z (Ac.nl hx) hpl hzz (Zi (Ac.resZ hz)) (Zi (Ac.resE hz)) w
 obtain ⟨q, hq⟩ := Zh (Ac.lo x n)
 obtain ⟨r, hr⟩ := Zh (Ac.re x n)
 have DM := fun w => divMod_f z x.den q r hz (Ac.dl hx) (Int.ne_of_gt (Ac.den_pos x)) (Zi (by rw [hq.out, hzz.out, hp.out]; rfl)) (Zi (by rw [hr.out, hzz.out, hp.out]; rfl)) w
 rw [← hq.out, ← hr.out]
 have s1 := sa_z z (c := Bg.zA 0) (zA_size 0)
 have s2 := sa_z q (c := Bg.zA 0) (zA_size 0)
 have s3 := sa_z r (c := Bg.zA 0) (zA_size 0)
 have s4 := sa_z q (c := Bg.zA q) (zA_size q)
 have s5 := sa_z r (c := Bg.zA r) (zA_size r)
 clear hp hzz hq hr
 go_enter Tryz.func77, Tryz.ntmps77
 go_upto_region 1 with (first | ((with_reducible refine g_ld ?_); refine a_ld HM ?_) | ((with_reducible refine g_st ?_); refine a_st HM ?_; clear HM; intro w1 HM) | ((with_reducible refine g_al ?_); refine a_al HM ?_; clear HM; intro bk w1 HM) | ((with_reducible refine g_bx ?_); refine a_bx HM ?_; clear HM; intro bk w1 HM))
 obtain ⟨b5, rfl⟩ := HM.nm0
 obtain ⟨b4, rfl⟩ := HM.nm1
 obtain ⟨b2, rfl⟩ := HM.nm2
 go_cut [6] (fun p wc => ∃ b6, p = .pointer (some ⟨b6, 0, none⟩) ∧ Mem w [] [(b6, Bg.zA z), (b5, Bg.zA 0), (b4, Bg.zA 0), (b2, Rt.qA x)] wc)
 case first =>
  refine start_M [10] HM Zk (fun w0x H9 => ?_)
  replace HM := H9; clear H9
  refine k_fa 0 (heldE HM) ?_
  refine k_ld 1 [5, 6, 7, 8, 10, 11] (heldE HM) ?_
  refine k_mv 2 (heldE HM) ?_
  refine j_two 3 9 ?_ ?_
  ·refine j_call1 (v := ?_) HM ?_ ?_; rotate_left 1; (focus (with_reducible (first | exact PW _ | exact FI _ | exact ML _))); clear HM; intro w1 HM
   refine ⟨(heldE HM), ?_⟩
   refine j_two 4 9 ?_ ?_
   ·refine j_call1 (v := ?_) HM ?_ ?_; rotate_left 1; (focus (with_reducible (first | exact PW _ | exact FI _ | exact ML _))); clear HM; intro w1 HM
    refine ⟨(heldE HM), ?_⟩
    refine j_two 5 9 ?_ ?_
    ·refine j_call2 (v := ?_) HM ?_ ?_; rotate_left 1; (focus (with_reducible (first | exact PW _ | exact FI _ | exact ML _))); clear HM; intro w1 HM
     refine ⟨(heldE HM), ?_⟩
     refine k_mv 6 (heldE HM) ?_
     refine k_ext 7 (heldE HM) ?_
     refine k_ext 8 (heldE HM) ?_
     refine j_one 9 fun K9 hK9 => ?_
     refine j_al HM ?_; clear HM; intro bk w1 HM
     refine hK9 _ _ (heldE HM) ?_; clear hK9 K9
     exact z9_63
    ·refine j_al HM ?_; clear HM; intro bk w1 HM
     refine ⟨(heldE HM), ?_⟩
     exact z9_64
   ·refine j_al HM ?_; clear HM; intro bk w1 HM
    refine ⟨(heldE HM), ?_⟩
    exact z9_65
  ·refine j_al HM ?_; clear HM; intro bk w1 HM
   refine ⟨(heldE HM), ?_⟩
   refine j_one 3 fun K9 hK9 => ?_
   refine j_call1 (v := ?_) HM ?_ ?_; rotate_left 1; (focus (with_reducible (first | exact PW _ | exact FI _ | exact ML _))); clear HM; intro w1 HM
   refine hK9 _ _ (heldE HM) ?_; clear hK9 K9
   exact z9_65
 case rest =>
  clear HM
  obtain ⟨b6, rfl, HM⟩ := hcut
  go_step
  go_upto_region 3 with (first | (go_at_call 119; (with_reducible refine Zc HM (DM _) ?_; clear HM; intro w2 HM)) | (first | ((with_reducible refine g_ld ?_); refine a_ld HM ?_) | ((with_reducible refine g_st ?_); refine a_st HM ?_; clear HM; intro w1 HM) | ((with_reducible refine g_al ?_); refine a_al HM ?_; clear HM; intro bk w1 HM) | ((with_reducible refine g_bx ?_); refine a_bx HM ?_; clear HM; intro bk w1 HM)))
  refine start_M [2, 3] HM Zk (fun w0x H9 => ?_)
  replace HM := H9; clear H9
  refine k_ld 0 [2, 3] (heldE HM) ?_
  refine j_two 1 2 ?_ ?_
  ·refine j_ld HM ?_
   refine ⟨(heldE HM), ?_⟩
   refine j_one 2 fun K9 hK9 => ?_
   refine j_st HM ?_; clear HM; intro w1 HM
   exact z9_66
  ·refine j_st HM ?_; clear HM; intro w1 HM
   refine ⟨heldN, ?_⟩
   refine j_one 1 fun K9 hK9 => ?_
   refine j_ld HM ?_
   exact z9_66
end
section
theorem check_q (x : Rat) (n : Nat) (hx : Rt.Fit x) (hn : n ≤ 9) (w : World) :
    Calls Tryz.prog 76 #[.agg (Rt.qA x), .int .i64 (n : Nat)] w fun e w' => e = .returned (.int .i64 0) ∧ Below w.heap.size w w' := by
 have HM := Mem.start w
 have k0 := la_q x
 have V := fun w => valid_q x hx w
 have hn1 : (n : Int) ≤ 9 := by omega
 have hn2 : ¬ (9 : Int) < n := by omega
 go_enter Tryz.func76, Tryz.ntmps76
 go_wp2_with (first | (go_at_call 106; (with_reducible refine Zc HM (V _) ?_; clear HM; intro w2 HM)) | (first | ((with_reducible refine g_ld ?_); refine a_ld HM ?_) | ((with_reducible refine g_bx ?_); refine a_bx HM ?_; clear HM; intro bk w1 HM)))
 go_ret
 exact ⟨rfl, HM.low⟩
def Bw.c (l h : Int) (n : Bool) : Array Value := rowsOf [Bg.zA l, #[.int .i64 h], #[.bool n]]
def Ac.up (l h : Int) : Bool := if h = 0 then decide (l.natAbs % 2 = 1) else decide (0 < h)
def Ac.hf (x : Rat) : Int := (2 * Ac.rm x - x.den).sign
theorem check_6 (x : Rat) (hx : Rt.Fit x) (w : World) :
    Calls Tryz.prog 76 #[.agg (Rt.qA x), .int .i64 6] w fun e w' => e = .returned (.int .i64 0) ∧ Below w.heap.size w w' := check_q x 6 hx Zd w
theorem scaled_6 (x : Rat) (hx : Rt.Fit x) (w : World) :
    Calls Tryz.prog 77 #[.agg (Rt.qA x), .int .i64 6] w fun e w' => e = .returned (.tuple #[.agg (Bg.zA (Ac.lo x 6)), .agg (Bg.zA (Ac.re x 6))]) ∧ Below w.heap.size w w' := scaled_any x 6 hx Zd w
end
section
theorem z9_67 {P : Prop} (h : P := by
 clear hf hde hy hh
 go_enter Tryz.func112, Tryz.ntmps112
 go_upto_region 3 with (first | (go_at_call 106; (with_reducible refine Zc HM (V _) ?_; clear HM; intro w2 HM)) | (first | ((with_reducible refine g_ld ?_); refine a_ld HM ?_) | ((with_reducible refine g_st ?_); refine a_st HM ?_; clear HM; intro w1 HM) | ((with_reducible refine g_al ?_); refine a_al HM ?_; clear HM; intro bk w1 HM) | ((with_reducible refine g_bx ?_); refine a_bx HM ?_; clear HM; intro bk w1 HM)))
 obtain ⟨b1, rfl⟩ := HM.nm0
 refine start_M [7] HM Zk (fun w0x H9 => ?_)
 replace HM := H9; clear H9
 refine k_ld 0 [2, 3, 4, 5, 7, 8] (heldE HM) ?_
 refine j_two 1 6 ?_ ?_
 ·refine j_call1 (v := ?_) HM ?_ ?_; rotate_left 1; (focus (with_reducible (first | exact WH _ | exact ML _))); clear HM; intro w1 HM
  refine ⟨(heldE HM), ?_⟩
  refine j_two 2 6 ?_ ?_
  ·refine j_call2 (v := ?_) HM ?_ ?_; rotate_left 1; (focus (with_reducible (first | exact WH _ | exact ML _))); clear HM; intro w1 HM
   refine ⟨(heldE HM), ?_⟩
   refine k_mv 3 (heldE HM) ?_
   refine k_ext 4 (heldE HM) ?_
   refine k_ext 5 (heldE HM) ?_
   refine j_one 6 fun K9 hK9 => ?_
   refine j_al HM ?_; clear HM; intro bk w1 HM
   refine hK9 _ _ (heldE HM) ?_; clear hK9 K9
   refine j_one 7 fun K9 hK9 => ?_
   refine j_st HM ?_; clear HM; intro w1 HM
   refine hK9 _ _ heldN ?_; clear hK9 K9
   refine k_mv 8 heldN ?_
   refine wpAnyL_done Zk ?_ _
   (go_wp2_with (first | ((with_reducible refine g_ld ?_); refine a_ld HM ?_) | ((with_reducible refine g_st ?_); refine a_st HM ?_; clear HM; intro w1 HM) | ((with_reducible refine g_al ?_); refine a_al HM ?_; clear HM; intro bk w1 HM) | ((with_reducible refine g_bx ?_); refine a_bx HM ?_; clear HM; intro bk w1 HM)); go_ret2; exact ⟨⟨_, 32, rfl, HE⟩, HM.low⟩)
  ·refine j_al HM ?_; clear HM; intro bk w1 HM
   refine ⟨(heldE HM), ?_⟩
   refine j_one 2 fun K9 hK9 => ?_
   refine j_call2 (v := ?_) HM ?_ ?_; rotate_left 1; (focus (with_reducible (first | exact WH _ | exact ML _))); clear HM; intro w1 HM
   refine hK9 _ _ (heldE HM) ?_; clear hK9 K9
   refine k_mv 3 (heldE HM) ?_
   refine k_ext 4 (heldE HM) ?_
   refine k_ext 5 (heldE HM) ?_
   refine j_one 7 fun K9 hK9 => ?_
   refine j_st HM ?_; clear HM; intro w1 HM
   refine hK9 _ _ heldN ?_; clear hK9 K9
   refine k_mv 8 heldN ?_
   refine wpAnyL_done Zk ?_ _
   (go_wp2_with (first | ((with_reducible refine g_ld ?_); refine a_ld HM ?_) | ((with_reducible refine g_st ?_); refine a_st HM ?_; clear HM; intro w1 HM) | ((with_reducible refine g_al ?_); refine a_al HM ?_; clear HM; intro bk w1 HM) | ((with_reducible refine g_bx ?_); refine a_bx HM ?_; clear HM; intro bk w1 HM)); go_ret2; exact ⟨⟨_, 32, rfl, HE⟩, HM.low⟩)
 ·refine j_al HM ?_; clear HM; intro bk w1 HM
  refine ⟨(heldE HM), ?_⟩
  refine j_one 1 fun K9 hK9 => ?_
  refine j_call1 (v := ?_) HM ?_ ?_; rotate_left 1; (focus (with_reducible (first | exact WH _ | exact ML _))); clear HM; intro w1 HM
  refine hK9 _ _ (heldE HM) ?_; clear hK9 K9
  refine j_one 2 fun K9 hK9 => ?_
  refine j_call2 (v := ?_) HM ?_ ?_; rotate_left 1; (focus (with_reducible (first | exact WH _ | exact ML _))); clear HM; intro w1 HM
  refine hK9 _ _ (heldE HM) ?_; clear hK9 K9
  refine k_mv 3 (heldE HM) ?_
  refine k_ext 4 (heldE HM) ?_
  refine k_ext 5 (heldE HM) ?_
  refine j_one 7 fun K9 hK9 => ?_
  refine j_st HM ?_; clear HM; intro w1 HM
  refine hK9 _ _ heldN ?_; clear hK9 K9
  refine k_mv 8 heldN ?_
  refine wpAnyL_done Zk ?_ _
  (go_wp2_with (first | ((with_reducible refine g_ld ?_); refine a_ld HM ?_) | ((with_reducible refine g_st ?_); refine a_st HM ?_; clear HM; intro w1 HM) | ((with_reducible refine g_al ?_); refine a_al HM ?_; clear HM; intro bk w1 HM) | ((with_reducible refine g_bx ?_); refine a_bx HM ?_; clear HM; intro bk w1 HM)); go_ret2; exact ⟨⟨_, 32, rfl, HE⟩, HM.low⟩)) : P := h
theorem z9_68 {P : Prop} (h : P := by
 refine j_one 7 fun K9 hK9 => ?_
 refine j_st HM ?_; clear HM; intro w1 HM
 refine hK9 _ _ heldN ?_; clear hK9 K9
 refine k_mv 8 heldN ?_
 refine wpAnyL_done Zk ?_ _
 (go_wp2_with fail; go_meet; (case rel => exact ⟨_, rfl, rfl, HM.pick⟩))) : P := h
theorem z9_69 {P : Prop} (h : P := by
 refine j_one 2 fun K9 hK9 => ?_
 refine j_call2 (v := ?_) HM ?_ ?_; rotate_left 1; (focus (with_reducible (first | exact WH _ | exact ML _))); clear HM; intro w1 HM
 refine hK9 _ _ (heldE HM) ?_; clear hK9 K9
 refine k_mv 3 (heldE HM) ?_
 refine k_ext 4 (heldE HM) ?_
 refine k_ext 5 (heldE HM) ?_
 refine j_one 7 fun K9 hK9 => ?_
 refine j_st HM ?_; clear HM; intro w1 HM
 refine hK9 _ _ heldN ?_; clear hK9 K9
 refine k_mv 8 heldN ?_
 refine wpAnyL_done Zk ?_ _
 (go_wp2_with fail; go_meet; (case rel => exact ⟨_, rfl, rfl, HM.pick⟩))) : P := h
end
section
def Ac.TxtOf (r : Int) (n : Nat) : Prop := r = 0 ∧ n ≤ 21
def Ac.Txt (x : Rat) : Prop := Ac.TxtOf (Ac.re x 6) (Tx.txt false (Ac.lo x 6).natAbs).size
def Ac.Yes (e : Int) (P : Prop) : Prop := e = 0 ↔ P
theorem Ac.yes_t {P : Prop} (h : P) : Ac.Yes 0 P := ⟨fun _ => h, fun _ => rfl⟩
theorem Ac.yes_f {P : Prop} {e : Int} (h : ¬ P) (he : e ≠ 0) : Ac.Yes e P := ⟨fun h2 => absurd h2 he, fun h2 => absurd h2 h⟩
theorem Tx.txt_head (N : Nat) : ∃ c l, c < 10 ∧ Tx.txt false N = Tx.str (c :: l) ∧ l.length + 1 = (Tx.txt false N).size := by
 unfold Tx.txt
 by_cases h : N = 0
 ·rw [if_pos h]
  exact ⟨0, [], by decide, rfl, by rw [Tx.str_len]; rfl⟩
 ·rw [if_neg h, if_neg Bool.false_ne_true]
  obtain ⟨c, l, e, _⟩ := Tx.dig_head h
  have hc : c ∈ Tx.dig N := by
   have : c ∈ (Tx.dig N).reverse := by rw [e]; exact List.mem_cons_self
   simpa using this
  exact ⟨c, l, Tx.dig_lt N c hc, by rw [e], by rw [e, Tx.str_len]; rfl⟩
theorem Tx.txt_cut (N : Nat) : Tx.cut (Tx.txt false N) = (Tx.txt false N, false) := by
 obtain ⟨c, l, hc, e, _⟩ := Tx.txt_head N
 rw [e]; exact Tx.cut_str c l hc
theorem Tx.txt_size {N : Nat} (h : N < Bg.lim) : 1 ≤ (Tx.txt false N).size ∧ (Tx.txt false N).size ≤ 309 := by
 refine ⟨by obtain ⟨c, l, hc, e, h1⟩ := Tx.txt_head N; omega, ?_⟩
 unfold Tx.txt
 by_cases h0 : N = 0
 ·rw [if_pos h0, Tx.str_len]; decide
 ·rw [if_neg h0, if_neg Bool.false_ne_true, Tx.str_len, List.length_reverse]
  exact Tx.lim_len h
theorem Ac.wl_iff (n : Nat) : 15 < Ac.wl n ↔ 21 < n := by unfold Ac.wl; split <;> omega
theorem text_any (x : Rat) (hx : Rt.Fit x) (h0 : 0 ≤ x.num) (w : World) :
    Calls Tryz.prog 41 #[.agg (Rt.qA x), .int .i64 6] w fun r w' => (∃ (s : ByteArray) (e : Int), r = .returned (.tuple #[.string s, .int .i64 e]) ∧ Hid (Ac.Yes e (Ac.Txt x)) ∧ s.size ≤ 1000) ∧ Below w.heap.size w w' := by
 have HM := Mem.start w
 have zi := za_int
 have k0 := la_q x
 have CK := fun w => check_6 x hx w
 have SC := fun w => scaled_6 x hx w
 have hlo := Ac.lim_of (Ac.lo_lim hx (n := 6) Zd) (show 511 ≤ 1024 by decide)
 have hre := Ac.lim_of (Ac.re_lim hx 6) (show 480 ≤ 1024 by decide)
 have hl0 : 0 ≤ Ac.lo x 6 := Int.ediv_nonneg (Int.mul_nonneg h0 (by have := Ac.p10_pos 6; omega)) (Int.le_of_lt (Ac.den_pos x))
 have HT : Hid (Ac.Txt x = Ac.TxtOf (Ac.re x 6) (Tx.txt false (Ac.lo x 6).natAbs).size) := Zi rfl
 generalize Ac.lo x 6 = l at *
 generalize Ac.re x 6 = r at *
 have sl := sa_z l (c := Bg.zA 0) (zA_size 0)
 have sr := sa_z r (c := Bg.zA 0) (zA_size 0)
 obtain ⟨g, hg⟩ := Zh (r.sign)
 have SR := fun w => sign_z r g hre hg w
 by_cases hr0 : r = 0
 case neg =>
  have hg0 : (g == 0) = false := Zb (by
   rw [hg.out]
   intro e
   exact hr0 (Int.sign_eq_zero_iff_zero.1 e))
  have HE := Zi (Ac.yes_f (e := 32) (P := Ac.Txt x) (by rw [HT.out]; exact fun h => hr0 h.1) Zd)
  clear hr0
  go_enter Tryz.func41, Tryz.ntmps41
  go_wp2_with (first | (go_at_call 76; (with_reducible refine Zc HM (CK _) ?_; clear HM; intro w2 HM)) | (go_at_call 77; (with_reducible refine Zc HM (SC _) ?_; clear HM; intro w2 HM)) | (go_at_call 78; (with_reducible refine Zc HM (SR _) ?_; clear HM; intro w2 HM)) | (first | ((with_reducible refine g_ld ?_); refine a_ld HM ?_) | ((with_reducible refine g_st ?_); refine a_st HM ?_; clear HM; intro w1 HM) | ((with_reducible refine g_al ?_); refine a_al HM ?_; clear HM; intro bk w1 HM) | ((with_reducible refine g_bx ?_); refine a_bx HM ?_; clear HM; intro bk w1 HM)))
  go_ret2
  exact ⟨⟨_, 32, rfl, HE, by decide⟩, HM.low⟩
 case pos =>
 subst hr0
 obtain rfl : g = 0 := hg.out
 obtain ⟨n, rfl⟩ : ∃ n : Nat, l = n := ⟨l.toNat, by omega⟩
 rw [Int.natAbs_natCast] at HT hlo
 have FM := fun w => bformat_any false n hlo w
 have ezn : Bg.intA false n = Bg.zA (n : Nat) := by rw [zA_int, Int.natAbs_natCast, Zf Zo]
 rw [ezn] at FM
 have hsz := Tx.txt_size hlo
 have hct := Tx.txt_cut n
 generalize Tx.txt false n = T at *
 obtain ⟨hs1, hs2⟩ := hsz
 have CP := fun w => belt (cp_any T T false (Zi hct.symm) w)
 have PT := fun w => point_any T hs1 Zo w
 have HWL := Zi (Ac.wl_iff T.size)
 have hwb : Ac.wl T.size ≤ 309 := by unfold Ac.wl; split <;> omega
 have HWB := Zi hwb
 clear hct ezn hg hl0 h0 hwb
 go_enter Tryz.func41, Tryz.ntmps41
 go_upto_region 9 with (first | (go_at_call 76; (with_reducible refine Zc HM (CK _) ?_; clear HM; intro w2 HM)) | (go_at_call 77; (with_reducible refine Zc HM (SC _) ?_; clear HM; intro w2 HM)) | (go_at_call 78; (with_reducible refine Zc HM (SR _) ?_; clear HM; intro w2 HM)) | (go_at_call 79; (with_reducible refine Zc HM (FM _) ?_; clear HM; intro w2 HM)) | (go_at_call 56; (with_reducible refine Zc HM (CP _) ?_; clear HM; intro w2 HM)) | (go_at_call 80; refine (PT _).mono ?_; rintro e9 w2 ⟨⟨a, b, rfl, HA, hb⟩, hL⟩; replace HM := HM.call hL; clear hL) | (first | ((with_reducible refine g_ld ?_); refine a_ld HM ?_) | ((with_reducible refine g_st ?_); refine a_st HM ?_; clear HM; intro w1 HM) | ((with_reducible refine g_al ?_); refine a_al HM ?_; clear HM; intro bk w1 HM) | ((with_reducible refine g_bx ?_); refine a_bx HM ?_; clear HM; intro bk w1 HM)))
 by_cases h15 : 15 < a.size
 ·have h16 : (15 : Int) < a.size := by omega
  have HE := Zi (Ac.yes_f (e := 32) (P := Ac.Txt x) (by rw [HT.out]; intro h; have := HWL.out.1 (by rw [← HA.out]; exact h15); have := h.2; omega) Zd)
  clear h15
  go_wp2_with (first | ((with_reducible refine g_ld ?_); refine a_ld HM ?_) | ((with_reducible refine g_st ?_); refine a_st HM ?_; clear HM; intro w1 HM) | ((with_reducible refine g_al ?_); refine a_al HM ?_; clear HM; intro bk w1 HM) | ((with_reducible refine g_bx ?_); refine a_bx HM ?_; clear HM; intro bk w1 HM))
  go_ret2
  exact ⟨⟨_, 32, rfl, HE, by decide⟩, HM.low⟩
 ·have h16 : ¬ (15 : Int) < a.size := by omega
  have HE := Zi (Ac.yes_t (P := Ac.Txt x) (by
   rw [HT.out]
   have h2 : ¬ 21 < T.size := fun h => h15 (by rw [HA.out]; exact HWL.out.2 h)
   exact ⟨rfl, by omega⟩))
  have ha : a.size ≤ 309 := by rw [HA.out]; exact HWB.out
  have TR := fun w => below_eq (tr_any b Zo w)
  clear h15
  go_upto_region 12 with (first | (go_at_call 81; refine (TR _).mono ?_; rintro e9 w2 ⟨⟨c, rfl, hc⟩, hL⟩; replace HM := HM.call hL; clear hL) | (first | ((with_reducible refine g_ld ?_); refine a_ld HM ?_) | ((with_reducible refine g_st ?_); refine a_st HM ?_; clear HM; intro w1 HM) | ((with_reducible refine g_al ?_); refine a_al HM ?_; clear HM; intro bk w1 HM) | ((with_reducible refine g_bx ?_); refine a_bx HM ?_; clear HM; intro bk w1 HM)))
  have hc6 : c.size ≤ 6 := by omega
  by_cases he : c.toList = []
  ·have h1 : c.toList.isEmpty = true := by rw [he]; rfl
   clear he
   go_wp2_with (first | ((with_reducible refine g_ld ?_); refine a_ld HM ?_) | ((with_reducible refine g_st ?_); refine a_st HM ?_; clear HM; intro w1 HM) | ((with_reducible refine g_al ?_); refine a_al HM ?_; clear HM; intro bk w1 HM) | ((with_reducible refine g_bx ?_); refine a_bx HM ?_; clear HM; intro bk w1 HM))
   go_ret2
   exact ⟨⟨_, 0, rfl, HE, by omega⟩, HM.low⟩
  ·have h1 : c.toList.isEmpty = false := by cases h : c.toList with | nil => exact absurd h he | cons a l => rfl
   clear he
   go_wp2_with (first | ((with_reducible refine g_ld ?_); refine a_ld HM ?_) | ((with_reducible refine g_st ?_); refine a_st HM ?_; clear HM; intro w1 HM) | ((with_reducible refine g_al ?_); refine a_al HM ?_; clear HM; intro bk w1 HM) | ((with_reducible refine g_bx ?_); refine a_bx HM ?_; clear HM; intro bk w1 HM))
   go_ret2
   exact ⟨⟨_, 0, rfl, HE, by rw [ByteArray.size_append, ByteArray.size_append]; show a.size + (1 + c.size) ≤ 1000; omega⟩, HM.low⟩
def Ac.Pct : Option Rat → Prop
 | none => False
 | some x => Rt.Fit (x * ((100 : Int) : Rat)) ∧ 0 ≤ x ∧ Ac.Txt (x * ((100 : Int) : Rat))
theorem la_qneg' (x : Rat) : LA 4 (Rt.qA x) 0 (.bool (decide (x.num < 0))) := by
 rw [qA_rZ, rZ_ratA]
 exact la_rnneg _ _ _ _
theorem Ac.num100 {x : Rat} (h : 0 ≤ x) : 0 ≤ (x * ((100 : Int) : Rat)).num := by
 have h1 : (0 : Rat) ≤ ((100 : Int) : Rat) := by decide
 exact Rat.num_nonneg.2 (Rat.mul_nonneg h h1)
theorem pct_any (o : Option Rat) (c : Array Value) (hv : Rt.Vc o c) (w : World) :
    Calls Tryz.prog 112 #[.agg c] w fun r w' => (∃ (s : ByteArray) (e : Int), r = .returned (.tuple #[.string s, .int .i64 e]) ∧ Hid (Ac.Yes e (Ac.Pct o))) ∧ Below w.heap.size w w' := by
 have HM := Mem.start w
 have zr := za_rat
 cases o with
 | none =>
  obtain ⟨s, M, t, N, hM, hN, hb, rfl⟩ := hv
  have k0 := la_rat s M t N
  have V := fun w => valid_n s M t N false hM hN (Zi hb.symm) w
  have HE := Zi (Ac.yes_f (e := 20) (P := Ac.Pct none) (fun h => h) Zd)
  clear hb
  go_enter Tryz.func112, Tryz.ntmps112
  go_wp2_with (first | (go_at_call 106; (with_reducible refine Zc HM (V _) ?_; clear HM; intro w2 HM)) | (first | ((with_reducible refine g_ld ?_); refine a_ld HM ?_) | ((with_reducible refine g_st ?_); refine a_st HM ?_; clear HM; intro w1 HM) | ((with_reducible refine g_al ?_); refine a_al HM ?_; clear HM; intro bk w1 HM) | ((with_reducible refine g_bx ?_); refine a_bx HM ?_; clear HM; intro bk w1 HM)))
  go_ret2
  exact ⟨⟨_, 20, rfl, HE⟩, HM.low⟩
 | some x =>
  obtain ⟨hx, rfl⟩ := hv
  have k0 := la_q x
  have k1 := la_qneg' x
  have V := fun w => valid_q x hx w
  obtain ⟨y, hy⟩ : ∃ y : Rat, Hid (y = x * ((100 : Int) : Rat)) := ⟨_, Zi rfl⟩
  have f100 : Rt.Fit ((100 : Int) : Rat) := by
   rw [Rt.int_divInt]
   exact (Rt.Bd.divInt (i := 20) (j := 1) Zd (Bg.p2_small 20 1048576 (by unfold Bg.p2; rfl) Zd) (Bg.p2_small 1 2 (by unfold Bg.p2; rfl) Zd)).fit
  obtain ⟨h, hh⟩ : ∃ h : Rat, Hid (h = ((100 : Int) : Rat)) := ⟨_, Zi rfl⟩
  have WH := fun w => whole_q 100 h Zd Zd hh w
  rw [← hh.out] at f100 hy
  obtain ⟨d, e, hde⟩ : ∃ (d : Array Value) (e : Int), Hid ((d, e) = Rt.res y) := ⟨_, _, Zi rfl⟩
  have ML := fun w => mul_r x h d e hx f100 (Zi (by rw [← hy.out]; exact hde.out)) w
  by_cases hf : Rt.Fit y
  case neg =>
   obtain ⟨rfl, rfl⟩ : d = Bg.rZ 0 0 ∧ e = 10 := by
    have := hde.out
    unfold Rt.res at this
    rw [if_neg hf] at this
    exact Prod.mk.inj this
   have sd := sa_r66 (c := Bg.rZ 0 0) (rZ_size 0 0) (rZ_one 0 0) (rZ_size 0 0)
   have HE := Zi (Ac.yes_f (e := 32) (P := Ac.Pct (some x)) (fun h9 => hf (by rw [hy.out, hh.out]; exact h9.1)) Zd)
   exact z9_67
  case pos =>
   obtain ⟨rfl, rfl⟩ : d = Rt.qA y ∧ e = 0 := by
    have := hde.out
    unfold Rt.res at this
    rw [if_pos hf] at this
    exact Prod.mk.inj this
   have sd := sa_r66 (c := Bg.rZ 0 0) (qA_size y) (qA_one y) (rZ_size 0 0)
   have ly := la_q y
   by_cases hn : x.num < 0
   ·have HE := Zi (Ac.yes_f (e := 32) (P := Ac.Pct (some x)) (fun h9 => by have := Rat.num_nonneg.2 h9.2.1; omega) Zd)
    exact z9_67
   ·have hx0 : 0 ≤ x := Rat.num_nonneg.1 Zo
    have hyn : 0 ≤ y.num := by rw [hy.out, hh.out]; exact Ac.num100 hx0
    have TX := fun w => text_any y hf hyn w
    have HP := Zi (show (Ac.Txt y → Ac.Pct (some x)) ∧ (Ac.Pct (some x) → Ac.Txt y) by
     constructor
     ·intro h9
      exact ⟨by rw [← hh.out, ← hy.out]; exact hf, hx0, by rw [← hh.out, ← hy.out]; exact h9⟩
     ·intro h9
      rw [hy.out, hh.out]
      exact h9.2.2)
    clear hf hde hy hh hx0 hyn
    go_enter Tryz.func112, Tryz.ntmps112
    go_upto_region 3 with (first | (go_at_call 106; (with_reducible refine Zc HM (V _) ?_; clear HM; intro w2 HM)) | (first | ((with_reducible refine g_ld ?_); refine a_ld HM ?_) | ((with_reducible refine g_st ?_); refine a_st HM ?_; clear HM; intro w1 HM) | ((with_reducible refine g_al ?_); refine a_al HM ?_; clear HM; intro bk w1 HM) | ((with_reducible refine g_bx ?_); refine a_bx HM ?_; clear HM; intro bk w1 HM)))
    obtain ⟨b1, rfl⟩ := HM.nm0
    go_cut [4, 5] (fun p q wc => ∃ b4, p = .pointer (some ⟨b4, 0, none⟩) ∧ q = .int .i64 0 ∧ Mem w [] [(b4, Rt.qA y), (b1, Rt.qA x)] wc)
    case first =>
     refine start_M [7] HM Zk (fun w0x H9 => ?_)
     replace HM := H9; clear H9
     refine k_ld 0 [2, 3, 4, 5, 7, 8] (heldE HM) ?_
     refine j_two 1 6 ?_ ?_
     ·refine j_call1 (v := ?_) HM ?_ ?_; rotate_left 1; (focus (with_reducible (first | exact WH _ | exact ML _))); clear HM; intro w1 HM
      refine ⟨(heldE HM), ?_⟩
      refine j_two 2 6 ?_ ?_
      ·refine j_call2 (v := ?_) HM ?_ ?_; rotate_left 1; (focus (with_reducible (first | exact WH _ | exact ML _))); clear HM; intro w1 HM
       refine ⟨(heldE HM), ?_⟩
       refine k_mv 3 (heldE HM) ?_
       refine k_ext 4 (heldE HM) ?_
       refine k_ext 5 (heldE HM) ?_
       refine j_one 6 fun K9 hK9 => ?_
       refine j_al HM ?_; clear HM; intro bk w1 HM
       refine hK9 _ _ (heldE HM) ?_; clear hK9 K9
       exact z9_68
      ·refine j_al HM ?_; clear HM; intro bk w1 HM
       refine ⟨(heldE HM), ?_⟩
       exact z9_69
     ·refine j_al HM ?_; clear HM; intro bk w1 HM
      refine ⟨(heldE HM), ?_⟩
      refine j_one 1 fun K9 hK9 => ?_
      refine j_call1 (v := ?_) HM ?_ ?_; rotate_left 1; (focus (with_reducible (first | exact WH _ | exact ML _))); clear HM; intro w1 HM
      refine hK9 _ _ (heldE HM) ?_; clear hK9 K9
      exact z9_69
    case rest =>
     clear HM
     obtain ⟨b4, rfl, rfl, HM⟩ := hcut
     go_step
     go_upto_region 7 with (first | (go_at_call 41; refine (TX _).mono ?_; rintro e9 w2 ⟨⟨s, e, rfl, HE, hs⟩, hL⟩; replace HM := HM.call hL; clear hL) | (first | ((with_reducible refine g_ld ?_); refine a_ld HM ?_) | ((with_reducible refine g_st ?_); refine a_st HM ?_; clear HM; intro w1 HM) | ((with_reducible refine g_al ?_); refine a_al HM ?_; clear HM; intro bk w1 HM) | ((with_reducible refine g_bx ?_); refine a_bx HM ?_; clear HM; intro bk w1 HM)))
     by_cases he : e = 0
     ·have HE2 : Hid (Ac.Yes 0 (Ac.Pct (some x))) := Zi (Ac.yes_t (HP.out.1 (HE.out.1 he)))
      subst he
      go_wp2_with (first | ((with_reducible refine g_ld ?_); refine a_ld HM ?_) | ((with_reducible refine g_st ?_); refine a_st HM ?_; clear HM; intro w1 HM) | ((with_reducible refine g_al ?_); refine a_al HM ?_; clear HM; intro bk w1 HM) | ((with_reducible refine g_bx ?_); refine a_bx HM ?_; clear HM; intro bk w1 HM))
      go_ret2
      exact ⟨⟨_, 0, rfl, HE2⟩, HM.low⟩
     ·have HE2 : Hid (Ac.Yes e (Ac.Pct (some x))) := Zi (Ac.yes_f (fun h9 => he (HE.out.2 (HP.out.2 h9))) he)
      have he0 : (e == 0) = false := Zb he
      clear he
      go_wp2_with (first | ((with_reducible refine g_ld ?_); refine a_ld HM ?_) | ((with_reducible refine g_st ?_); refine a_st HM ?_; clear HM; intro w1 HM) | ((with_reducible refine g_al ?_); refine a_al HM ?_; clear HM; intro bk w1 HM) | ((with_reducible refine g_bx ?_); refine a_bx HM ?_; clear HM; intro bk w1 HM))
      go_ret2
      exact ⟨⟨_, e, rfl, HE2⟩, HM.low⟩
end
section
theorem Tx.ns_app (a b : ByteArray) : Tx.ns (a ++ b) = Tx.ns a ++ Tx.ns b := by
 unfold Tx.ns
 rw [ByteArray.data_append, Array.toList_append, List.map_append]
theorem Tx.ns_at {s : ByteArray} {L : List Nat} (h : Tx.ns s = L) {k c : Nat} (hc : L[k]? = some c) : ∃ h : k < s.size, s[k].toNat = c := by
 have h1 : k < L.length := (List.getElem?_eq_some_iff.1 hc).1
 have h2 : k < s.size := by rw [← Tx.ns_len, h]; exact h1
 refine ⟨h2, ?_⟩
 have h3 := Tx.ns_get s h2
 rw [h, hc] at h3
 exact (Option.some.inj h3).symm
def Ac.Dgs (L : List Nat) : Prop := ∀ c ∈ L, Tx.isd c
def Ac.Dot (R : List Nat) : Prop := R = [] ∨ ∃ F, R = 46 :: F
structure Ac.Wh (W : List Nat) : Prop where
 dg : Ac.Dgs W
 pos : 0 < W.length
 top : 1 < W.length → W[0]? ≠ some 48
 len : W.length ≤ 320
end
section
def Tx.Dg (D : List Nat) : Prop := ∀ c ∈ D, c < 10
theorem Tx.str_app (A B : List Nat) : Tx.str (A ++ B) = Tx.str A ++ Tx.str B := by
 refine ByteArray.ext ?_
 rw [ByteArray.data_append]
 unfold Tx.str
 simp
theorem Tx.str_ext (D : List Nat) (i j : Nat) : (Tx.str D).extract i j = Tx.str ((D.take j).drop i) := by
 refine ByteArray.ext (Array.toList_inj.1 ?_)
 rw [ByteArray.data_extract, Array.toList_extract]
 unfold Tx.str
 show (List.map _ D).extract i j = List.map _ _
 rw [List.extract_eq_take_drop, List.map_drop, List.map_take, List.drop_take]
theorem Tx.str_pre (A B : List Nat) {k : Nat} (h : k = A.length) : (Tx.str (A ++ B)).extract 0 k = Tx.str A := by
 rw [Tx.str_ext, h, List.take_left', List.drop_zero]; rfl
theorem Tx.str_at {D : List Nat} (h : Tx.Dg D) {k c : Nat} (hc : D[k]? = some c) : ∃ h : k < (Tx.str D).size, (Tx.str D)[k].toNat = c + 48 :=
 Tx.ns_at (Tx.ns_str D h) (by rw [List.getElem?_map, hc]; rfl)
theorem Tx.rep_val : ∀ k : Nat, Tx.val (List.replicate k 0) = 0
 | 0 => rfl
 | k + 1 => by rw [List.replicate_succ, Tx.val_cons, Tx.rep_val k, Nat.zero_mul]
def Tx.Cut0 (B : List Nat) (r : ByteArray) : Prop := ∃ Q k, r = Tx.str Q ∧ B = Q ++ List.replicate k 0
theorem trb_x (B : List Nat) (hB : Tx.Dg B) (hl : B.length ≤ 400) (w : World) :
    Calls Tryz.prog 123 #[.string (Tx.str B), .int .u8 48] w fun e w' => (∃ r : ByteArray, e = .returned (.string r) ∧ Hid (Tx.Cut0 B r)) ∧ w = w' := by
 obtain ⟨s, hs⟩ := Zh (Tx.str B)
 rw [← hs.out]
 have HB := Zi hB
 have HL := Zi hl
 clear hB hl
 go_enter Tryz.func123, Tryz.ntmps123
 go_wp2
 go_loop [0] (fun v => ∃ (t : ByteArray) (Q : List Nat) (k : Nat), v = .string t ∧ Hid (t = Tx.str Q) ∧ Hid (B = Q ++ List.replicate k 0)) (fun v => match v with | .string t => t.size | _ => 0)
 case atStart => exact ⟨s, B, 0, rfl, hs, Zi Zs⟩
 case round =>
  obtain ⟨t, Q, k, rfl, hT, hQ⟩ := hrel
  rcases List.eq_nil_or_concat Q with h | ⟨Q', c, h⟩
  ·have h1 : ¬ (0 : Int) < t.size := by rw [hT.out, Tx.str_len, h]; simp
   clear h
   go_wp2
   go_ret
   exact ⟨⟨t, rfl, Zi ⟨Q, k, hT.out, hQ.out⟩⟩, rfl⟩
  ·rw [List.concat_eq_append] at h
   have hlQ : t.size = Q'.length + 1 := by rw [hT.out, Tx.str_len, h, List.length_append, List.length_singleton]
   obtain ⟨m, hm0⟩ : ∃ m, m = Q'.length := ⟨_, rfl⟩
   have hm : t.size = m + 1 := by omega
   have hc : Tx.Dg Q := fun d hd => HB.out d (by rw [hQ.out]; exact List.mem_append_left _ hd)
   have hlt : m < t.size := by omega
   have hv : t[m].toNat = c + 48 := by
    obtain ⟨h9, e9⟩ := Tx.str_at hc (k := m) (c := c) (by rw [h, hm0, List.getElem?_append_right (Nat.le_refl _), Nat.sub_self]; rfl)
    have : ∀ (u : ByteArray) (hu : m < u.size), u = Tx.str Q → u[m].toNat = c + 48 := fun u hu e => by subst e; exact e9
    exact this t hlt hT.out
   have hex : t.extract 0 m = Tx.str Q' := by rw [hT.out, h, Tx.str_pre Q' [c] hm0]
   have h1 : (0 : Int) < t.size := by omega
   have HX := Zi hex
   have hlx := ba_ext t (k := m) Zo
   have hls : t.size ≤ 400 := by
    have := congrArg List.length hQ.out
    have h4 := HL.out
    rw [List.length_append, h, List.length_append, List.length_singleton] at this
    omega
   by_cases h0 : c = 0
   ·have hQ2 : Hid (B = Q' ++ List.replicate (k + 1) 0) := Zi (by rw [hQ.out, h, h0, List.append_assoc]; rfl)
    have hc : (t[m].toNat : Int) = 48 := by omega
    clear h hv h0 hex hm0 hlQ
    go_wp2
    go_round
    case rel => exact ⟨_, Q', k + 1, rfl, HX, hQ2⟩
    case measure => simp; omega
   ·have hc : ¬ (t[m].toNat : Int) = 48 := by omega
    clear h hv h0 hex hm0 hlQ
    go_wp2
    go_ret
    exact ⟨⟨t, rfl, Zi ⟨Q, k, hT.out, hQ.out⟩⟩, rfl⟩
theorem tr_x (B : List Nat) (hB : Tx.Dg B) (hl : B.length ≤ 400) (w : World) :
    Calls Tryz.prog 81 #[.string (Tx.str B), .string { data := #[48] }] w fun e w' => (∃ r : ByteArray, e = .returned (.string r) ∧ Hid (Tx.Cut0 B r)) ∧ w = w' := by
 obtain ⟨s, hs⟩ := Zh (Tx.str B)
 have TB := fun w => trb_x B hB hl w
 rw [← hs.out] at TB ⊢
 have hss : s.size = B.length := by rw [hs.out, Tx.str_len]
 have HB := Zi hss
 clear hss
 by_cases h0 : s.toList = []
 ·have h1 : s.toList.isEmpty = true := by rw [h0]; rfl
  have hb0 : B = [] := by
   have : s.toList.length = 0 := by rw [h0]; rfl
   rw [ByteArray.toList_eq] at this
   have e2 : s.data.toList.length = s.size := Array.length_toList
   refine List.length_eq_zero_iff.1 ?_
   have := HB.out
   omega
  have HR : Hid (s = Tx.str ([] : List Nat) ∧ B = [] ++ List.replicate 0 0) := Zi ⟨by rw [hs.out, hb0], hb0⟩
  clear h0 hb0
  go_enter Tryz.func81, Tryz.ntmps81
  go_wp2
  go_ret
  exact ⟨⟨s, rfl, Zi ⟨[], 0, HR.out.1, HR.out.2⟩⟩, rfl⟩
 ·have h1 : s.toList.isEmpty = false := by cases h : s.toList with | nil => exact absurd h h0 | cons a l => rfl
  clear h0
  go_enter Tryz.func81, Tryz.ntmps81
  go_wp2_with (go_at_call 123; refine (TB _).mono ?_; rintro e9 w9 ⟨⟨r, rfl, hQ⟩, rfl⟩)
  go_ret
  exact ⟨⟨r, rfl, hQ⟩, rfl⟩
theorem rep_x (k : Nat) (h0 : 1 ≤ k) (h1 : k ≤ 6) (w : World) :
    Calls Tryz.prog 122 #[.string { data := #[48] }, .int .i64 (k : Nat)] w fun e w' => e = .returned (.string (Tx.str (List.replicate k 0))) ∧ w = w' := by
 have hk : k = 1 ∨ k = 2 ∨ k = 3 ∨ k = 4 ∨ k = 5 ∨ k = 6 := by omega
 go_enter Tryz.func122, Tryz.ntmps122
 rcases hk with rfl | rfl | rfl | rfl | rfl | rfl
 ·go_wp2
  go_ret
  exact ⟨rfl, rfl⟩
 all_goals
  go_wp2_with (first | (go_at_call 163; refine (bmul_any _ Zd Zd _).mono ?_; rintro e w' ⟨rfl, rfl⟩) | (go_at_call 164; (first | refine (hps_any _ false (Zi (by decide +kernel)) _).mono ?_ | refine (hps_any _ true (Zi (by decide +kernel)) _).mono ?_); rintro e w' ⟨rfl, rfl⟩))
  go_ret
  exact ⟨by kernel_rfl, rfl⟩
theorem point_x (D : List Nat) (h1 : 1 ≤ D.length) (hs : D.length ≤ 400) (w : World) :
    Calls Tryz.prog 80 #[.string (Tx.str D), .int .i64 6] w fun e w' => (∃ A B : List Nat, e = .returned (.tuple #[.string (Tx.str A), .string (Tx.str B)]) ∧ Hid (A ++ B = List.replicate (7 - D.length) 0 ++ D ∧ B.length = 6)) ∧ Below w.heap.size w w' := by
 have HM := Mem.start w
 obtain ⟨s, hs9⟩ := Zh (Tx.str D)
 rw [← hs9.out]
 have hsz : s.size = D.length := by rw [hs9.out, Tx.str_len]
 rw [← hsz] at h1 hs
 go_enter Tryz.func80, Tryz.ntmps80
 by_cases h6 : s.size ≤ 6
 ·have h7 : (s.size : Int) ≤ 6 := by omega
  obtain ⟨k, hk⟩ : ∃ k : Nat, (7 : Int) - s.size = k := ⟨7 - s.size, by omega⟩
  have R := fun w => rep_x k Zo Zo w
  rw [← hk] at R
  obtain ⟨r, hr⟩ := Zh (Tx.str (List.replicate k 0))
  rw [← hr.out] at R
  have hrs : r.size = k := by rw [hr.out, Tx.str_len, List.length_replicate]
  obtain ⟨P, hP⟩ : ∃ P, P = List.replicate k 0 ++ D := ⟨_, rfl⟩
  obtain ⟨T, hT⟩ : ∃ T, T = r ++ s := ⟨_, rfl⟩
  have hTP : T = Tx.str P := by rw [hT, hr.out, hs9.out, hP, Tx.str_app]
  have hPl : P.length = 1 + 6 := by rw [hP, List.length_append, List.length_replicate]; omega
  have hTs : T.size = 1 + 6 := by rw [hTP, Tx.str_len, hPl]
  have HA : Hid (T.extract 0 1 = Tx.str (P.take 1)) := Zi (by rw [hTP, Tx.str_ext, List.drop_zero])
  have HB : Hid (T.extract 1 (1 + 6) = Tx.str (P.drop 1)) := Zi (by rw [hTP, Tx.str_ext, ← hPl, List.take_length])
  have HF : Hid (P.take 1 ++ P.drop 1 = List.replicate (7 - D.length) 0 ++ D ∧ (P.drop 1).length = 6) := Zi ⟨by rw [List.take_append_drop, hP, show 7 - D.length = k by omega], by rw [List.length_drop, hPl]⟩
  have HT := Zi hT
  have hk6 : k ≤ 6 := by omega
  clear hk hP hTP hPl hT hsz
  go_upto_region 3 with (go_at_call 122; (with_reducible refine (R _).mono ?_); rintro e9 w9 ⟨rfl, rfl⟩)
  rw [← HT.out]
  clear HT R h6 h7 hrs
  refine start_M [] HM Zk (fun w0x H9 => ?_)
  replace HM := H9; clear H9
  refine k_mv 0 (heldE HM) ?_
  refine k_mv 1 (heldE HM) ?_
  refine k_pv 2 (heldE HM) ?_
  refine k_mv 3 (heldE HM) ?_
  refine k_sub 4 (heldE HM) ?_
  refine t_pure (i := 5) (v := .string (T.extract 0 1)) rfl rfl Zk (fun _ _ _ h => h) (heldE HM) Zv ?_ ?_; (focus ((intro w9; first | (go_simp; done) | (go_simp; rfl) | (go_simp; intro h9; omega)))); ((try simp only [Za]); (try simp only [Zx]); (try simp only [Zy]))
  refine k_mv 6 (heldE HM) ?_
  refine k_mv 7 (heldE HM) ?_
  refine k_pv 8 (heldE HM) ?_
  refine k_mv 9 (heldE HM) ?_
  refine k_sub 10 (heldE HM) ?_
  refine t_pure (i := 11) (v := .string (T.extract 1 (1 + 6))) rfl rfl Zk (fun _ _ _ h => h) (heldE HM) Zv ?_ ?_; (focus ((intro w9; first | (go_simp; done) | (go_simp; rfl) | (go_simp; intro h9; omega)))); ((try simp only [Za]); (try simp only [Zx]); (try simp only [Zy]))
  refine k_mv 12 (heldE HM) ?_
  refine k_mv 13 (heldE HM) ?_
  refine wpAnyL_done Zk ?_ _
  go_wp2_with fail
  go_ret2
  exact ⟨⟨P.take 1, P.drop 1, by rw [← HA.out, ← HB.out]; rfl, HF⟩, HM.low⟩
 ·obtain ⟨m, hm⟩ : ∃ m, s.size = m + 6 := ⟨s.size - 6, by omega⟩
  have h7 : ¬ (s.size : Int) ≤ 6 := by omega
  have HA : Hid (s.extract 0 m = Tx.str (D.take m)) := Zi (by rw [hs9.out, Tx.str_ext, List.drop_zero])
  have HB : Hid (s.extract m (m + 6) = Tx.str (D.drop m)) := Zi (by rw [hs9.out, Tx.str_ext, ← hm, hsz, List.take_length])
  have HF : Hid (D.take m ++ D.drop m = List.replicate (7 - D.length) 0 ++ D ∧ (D.drop m).length = 6) := Zi ⟨by rw [List.take_append_drop, show 7 - D.length = 0 by omega]; rfl, by rw [List.length_drop]; omega⟩
  clear h6 hsz
  go_upto_region 3 with fail
  refine start_M [] HM Zk (fun w0x H9 => ?_)
  replace HM := H9; clear H9
  refine k_mv 0 (heldE HM) ?_
  refine k_mv 1 (heldE HM) ?_
  refine k_pv 2 (heldE HM) ?_
  refine k_mv 3 (heldE HM) ?_
  refine k_sub 4 (heldE HM) ?_
  refine t_pure (i := 5) (v := .string (s.extract 0 m)) rfl rfl Zk (fun _ _ _ h => h) (heldE HM) Zv ?_ ?_; (focus ((intro w9; first | (go_simp; done) | (go_simp; rfl) | (go_simp; intro h9; omega)))); ((try simp only [Za]); (try simp only [Zx]); (try simp only [Zy]))
  refine k_mv 6 (heldE HM) ?_
  refine k_mv 7 (heldE HM) ?_
  refine k_pv 8 (heldE HM) ?_
  refine k_mv 9 (heldE HM) ?_
  refine k_sub 10 (heldE HM) ?_
  refine t_pure (i := 11) (v := .string (s.extract m (m + 6))) rfl rfl Zk (fun _ _ _ h => h) (heldE HM) Zv ?_ ?_; (focus ((intro w9; first | (go_simp; done) | (go_simp; rfl) | (go_simp; intro h9; omega)))); ((try simp only [Za]); (try simp only [Zx]); (try simp only [Zy]))
  refine k_mv 12 (heldE HM) ?_
  refine k_mv 13 (heldE HM) ?_
  refine wpAnyL_done Zk ?_ _
  go_wp2_with fail
  go_ret2
  exact ⟨⟨D.take m, D.drop m, by rw [← HA.out, ← HB.out]; rfl, HF⟩, HM.low⟩
structure Ac.DecOf (n : Nat) (W Q : List Nat) : Prop where
 dw : Tx.Dg W
 dq : Tx.Dg Q
 w0 : 1 ≤ W.length
 w1 : W.length ≤ 15
 hd : 1 < W.length → W[0]? ≠ some 0
 q1 : Q.length ≤ 6
 val : (Tx.val W * 10 ^ Q.length + Tx.val Q) * 10 ^ (6 - Q.length) = n
def Ac.dec (W Q : List Nat) : ByteArray := if Q = [] then Tx.str W else Tx.str W ++ (({ data := #[46] } : ByteArray) ++ Tx.str Q)
theorem Tx.txt_dig (n : Nat) : ∃ D, Tx.txt false n = Tx.str D ∧ Tx.Dg D ∧ 1 ≤ D.length ∧ Tx.val D = n ∧ (1 < D.length → D[0]? ≠ some 0) := by
 unfold Tx.txt
 by_cases h : n = 0
 ·rw [if_pos h]
  exact ⟨[0], rfl, by intro c hc; rw [List.mem_singleton.1 hc]; decide, by decide, by rw [h]; rfl, fun h2 => absurd h2 Zd⟩
 ·rw [if_neg h, if_neg Bool.false_ne_true]
  obtain ⟨c, l, e, hc⟩ := Tx.dig_head h
  refine ⟨(Tx.dig n).reverse, rfl, fun c hc => Tx.dig_lt n c (by simpa using hc), by rw [e]; simp, Tx.val_dig n, fun _ => ?_⟩
  rw [e]
  simpa using hc
theorem Ac.decOf_mk {D A B Q : List Nat} {n k : Nat} (hD : Tx.Dg D) (hv : Tx.val D = n) (hh : 1 < D.length → D[0]? ≠ some 0) (hl : D.length ≤ 21) (h1 : 1 ≤ D.length) (hAB : A ++ B = List.replicate (7 - D.length) 0 ++ D) (hB : B.length = 6) (hQ : B = Q ++ List.replicate k 0) : Ac.DecOf n A Q := by
 have hlen : A.length + 6 = (7 - D.length) + D.length := by
  have := congrArg List.length hAB
  rwa [List.length_append, List.length_append, List.length_replicate, hB] at this
 have hdg : ∀ c ∈ A ++ B, c < 10 := by
  rw [hAB]
  intro c hc
  rcases List.mem_append.1 hc with hc | hc
  ·rw [List.eq_of_mem_replicate hc]; decide
  ·exact hD c hc
 have hQk : Q.length + k = 6 := by
  have := congrArg List.length hQ
  rw [List.length_append, List.length_replicate, hB] at this
  exact this.symm
 refine ⟨fun c hc => hdg c (List.mem_append_left _ hc), fun c hc => hdg c (List.mem_append_right _ (by rw [hQ]; exact List.mem_append_left _ hc)), by omega, by omega, fun h => ?_, by omega, ?_⟩
 ·have h0 : 7 - D.length = 0 := by omega
  rw [h0] at hAB
  have e : D[0]? = A[0]? := by
   have h9 : (A ++ B)[0]? = (List.replicate 0 0 ++ D)[0]? := by rw [hAB]
   rw [List.getElem?_append_left Zo] at h9
   exact h9.symm
  rw [← e]
  exact hh Zo
 ·have e1 : Tx.val (A ++ B) = n := by rw [hAB, Tx.val_app, Tx.rep_val, Nat.zero_mul, Nat.zero_add, hv]
  rw [Tx.val_app, hB, hQ, Tx.val_app, Tx.rep_val, List.length_replicate, Nat.add_zero] at e1
  have e2 : 6 - Q.length = k := by omega
  rw [e2, ← e1, Nat.add_mul, Nat.mul_assoc, ← Nat.pow_add, hQk]
end
section
theorem z9_70 {P : Prop} (h : P := by
 clear he hq0 hQ HDO HFIN
 go_wp2_with (first | ((with_reducible refine g_ld ?_); refine a_ld HM ?_) | ((with_reducible refine g_st ?_); refine a_st HM ?_; clear HM; intro w1 HM) | ((with_reducible refine g_al ?_); refine a_al HM ?_; clear HM; intro bk w1 HM) | ((with_reducible refine g_bx ?_); refine a_bx HM ?_; clear HM; intro bk w1 HM))
 go_ret2
 exact ⟨⟨A, Q, by rw [← HF.out]; rfl, HDO2⟩, HM.low⟩) : P := h
theorem z9_71 {P : Prop} (h : P := by
 obtain ⟨h9, e9⟩ := Tx.str_at HD.out hc
 have : ∀ (u : ByteArray) (hu : k < u.size), u = Tx.str D → u[k].toNat = c + 48 := fun u hu e => by subst e; exact e9
 exact this s hlt hs.out) : P := h
end
section
theorem text_x (x : Rat) (hx : Rt.Fit x) (n : Nat) (hl : Ac.lo x 6 = n) (hr : Ac.re x 6 = 0) (hn : (Tx.txt false n).size ≤ 21) (w : World) :
    Calls Tryz.prog 41 #[.agg (Rt.qA x), .int .i64 6] w fun r w' => (∃ W Q : List Nat, r = .returned (.tuple #[.string (Ac.dec W Q), .int .i64 0]) ∧ Hid (Ac.DecOf n W Q)) ∧ Below w.heap.size w w' := by
 have HM := Mem.start w
 have zi := za_int
 have k0 := la_q x
 have CK := fun w => check_6 x hx w
 have SC := fun w => scaled_6 x hx w
 have hlo := Ac.lim_of (Ac.lo_lim hx (n := 6) Zd) (show 511 ≤ 1024 by decide)
 rw [hl] at SC hlo
 rw [hr] at SC
 have sl := sa_z (n : Int) (c := Bg.zA 0) (zA_size 0)
 have sr := sa_z 0 (c := Bg.zA 0) (zA_size 0)
 have SR := fun w => sign_z 0 0 (Ac.lim_of (Ac.re_lim hx 6 |> fun h => by rw [hr] at h; exact h) (show 480 ≤ 1024 by decide)) (Zi rfl) w
 rw [Int.natAbs_natCast] at hlo
 have FM := fun w => bformat_any false n hlo w
 have ezn : Bg.intA false n = Bg.zA (n : Nat) := by rw [zA_int, Int.natAbs_natCast, Zf Zo]
 rw [ezn] at FM
 have hct := Tx.txt_cut n
 obtain ⟨D, hD, dD, d1, dv, dh⟩ := Tx.txt_dig n
 rw [hD] at FM hct hn
 rw [Tx.str_len] at hn
 have CP := fun w => belt (cp_any (Tx.str D) (Tx.str D) false (Zi hct.symm) w)
 have PT := fun w => point_x D d1 Zo w
 have HDF := Zi (fun (A B Q : List Nat) (k : Nat) (h1 : A ++ B = List.replicate (7 - D.length) 0 ++ D) (h2 : B.length = 6) (h3 : B = Q ++ List.replicate k 0) => Ac.decOf_mk dD dv dh hn d1 h1 h2 h3)
 have HDD : Hid (Tx.Dg D) := Zi dD
 have HD21 := Zi hn
 clear hct ezn hl hr hD dv dh hn d1 dD
 generalize Tx.str D = T at *
 go_enter Tryz.func41, Tryz.ntmps41
 go_upto_region 9 with (first | (go_at_call 76; (with_reducible refine Zc HM (CK _) ?_; clear HM; intro w2 HM)) | (go_at_call 77; (with_reducible refine Zc HM (SC _) ?_; clear HM; intro w2 HM)) | (go_at_call 78; (with_reducible refine Zc HM (SR _) ?_; clear HM; intro w2 HM)) | (go_at_call 79; (with_reducible refine Zc HM (FM _) ?_; clear HM; intro w2 HM)) | (go_at_call 56; (with_reducible refine Zc HM (CP _) ?_; clear HM; intro w2 HM)) | (go_at_call 80; refine (PT _).mono ?_; rintro e9 w2 ⟨⟨A, B, rfl, HA⟩, hL⟩; replace HM := HM.call hL; clear hL) | (first | ((with_reducible refine g_ld ?_); refine a_ld HM ?_) | ((with_reducible refine g_st ?_); refine a_st HM ?_; clear HM; intro w1 HM) | ((with_reducible refine g_al ?_); refine a_al HM ?_; clear HM; intro bk w1 HM) | ((with_reducible refine g_bx ?_); refine a_bx HM ?_; clear HM; intro bk w1 HM)))
 obtain ⟨hA1, hA2⟩ := HA.out
 have hAl : A.length + 6 = (7 - D.length) + D.length := by
  have := congrArg List.length hA1
  rwa [List.length_append, List.length_append, List.length_replicate, hA2] at this
 have h15 : ¬ (15 : Int) < (Tx.str A).size := by have := HD21.out; rw [Tx.str_len]; omega
 have hBd : Tx.Dg B := fun c hc => by
  have h9 : c ∈ List.replicate (7 - D.length) 0 ++ D := by rw [← hA1]; exact List.mem_append_right _ hc
  rcases List.mem_append.1 h9 with h9 | h9
  ·rw [List.eq_of_mem_replicate h9]; decide
  ·exact HDD.out c h9
 have TR := fun w => below_eq (tr_x B hBd Zo w)
 have hAs : (Tx.str A).size ≤ 15 := by have := HD21.out; rw [Tx.str_len]; omega
 obtain ⟨a, ha⟩ := Zh (Tx.str A)
 obtain ⟨b, hb⟩ := Zh (Tx.str B)
 rw [← hb.out] at TR ⊢
 rw [← ha.out] at h15 hAs ⊢
 clear hA1 hA2 hAl hBd CK SC SR FM CP PT
 go_upto_region 12 with (first | (go_at_call 81; refine (TR _).mono ?_; rintro e9 w2 ⟨⟨c, rfl, hc⟩, hL⟩; replace HM := HM.call hL; clear hL) | (first | ((with_reducible refine g_ld ?_); refine a_ld HM ?_) | ((with_reducible refine g_st ?_); refine a_st HM ?_; clear HM; intro w1 HM) | ((with_reducible refine g_al ?_); refine a_al HM ?_; clear HM; intro bk w1 HM) | ((with_reducible refine g_bx ?_); refine a_bx HM ?_; clear HM; intro bk w1 HM)))
 have HFIN : Hid (∃ Q, c = Tx.str Q ∧ Ac.DecOf n A Q) := Zi (by
  obtain ⟨Q, k, e1, e2⟩ := hc.out
  exact ⟨Q, e1, HDF.out A B Q k HA.out.1 HA.out.2 e2⟩)
 clear hc HDF TR
 obtain ⟨Q, hQ, HDO⟩ := HFIN.out
 have hcl : c.size ≤ 6 := by rw [hQ, Tx.str_len]; exact HDO.q1
 have HDO2 := Zi HDO
 have HQ := Zi hQ
 by_cases he : c.toList = []
 ·have h1 : c.toList.isEmpty = true := by rw [he]; rfl
  have hq0 : Q = [] := by
   have : c.toList.length = 0 := by rw [he]; rfl
   rw [ByteArray.toList_eq, hQ] at this
   have e2 : (Tx.str Q).data.toList.length = (Tx.str Q).size := Array.length_toList
   rw [Tx.str_len] at e2
   exact List.length_eq_zero_iff.1 Zo
  have HF : Hid (a = Ac.dec A Q) := Zi (by unfold Ac.dec; rw [if_pos hq0, ha.out])
  exact z9_70
 ·have h1 : c.toList.isEmpty = false := by cases h : c.toList with | nil => exact absurd h he | cons a l => rfl
  have hq0 : Q ≠ [] := by
   intro h
   refine he ?_
   rw [ByteArray.toList_eq, hQ, h]; rfl
  have HF : Hid (a ++ (({ data := #[46] } : ByteArray) ++ c) = Ac.dec A Q) := Zi (by unfold Ac.dec; rw [if_neg hq0, ha.out, hQ])
  exact z9_70
theorem digits_x (D : List Nat) (hD : Tx.Dg D) (a b : Int) (ha : a ≤ D.length) (hb : (D.length : Int) ≤ b) (hl : D.length ≤ 400) (w : World) :
    Calls Tryz.prog 58 #[.string (Tx.str D), .int .i64 a, .int .i64 b] w fun e w' => e = .returned (.bool true) ∧ w = w' := by
 obtain ⟨s, hs⟩ := Zh (Tx.str D)
 rw [← hs.out]
 have hsz : s.size = D.length := by rw [hs.out, Tx.str_len]
 have g1 : ¬ (s.size : Int) < a := by omega
 have g2 : ¬ b < (s.size : Int) := by omega
 have HSZ := Zi hsz
 have HD := Zi hD
 have hs9 : s.size ≤ 400 := by omega
 clear hsz ha hb hD
 go_enter Tryz.func58, Tryz.ntmps58
 go_wp2
 go_loopw [20] (fun i wr => wr = w ∧ ∃ k : Nat, i = .int .i64 (k : Nat) ∧ k ≤ s.size) (fun i _ => s.size - (intOf i).toNat)
 case atStart => exact ⟨by trivial, 0, rfl, by omega⟩
 case round =>
  obtain ⟨rfl, k, rfl, hk⟩ := hrel
  by_cases hlt : k < s.size
  ·obtain ⟨c, hc⟩ : ∃ c, D[k]? = some c := ⟨_, List.getElem?_eq_getElem (by rw [← HSZ.out]; exact hlt)⟩
   have hc9 := HD.out c (List.mem_of_getElem? hc)
   have hv : s[k].toNat = c + 48 := by
    exact z9_71
   have h2 : (k : Int) < s.size := by omega
   have HK : Hid (k < s.size) := Zi hlt
   have h3 : ¬ ((s[k].toNat : Nat) : Int) < 48 := by omega
   have h4 : ¬ (57 : Int) < ((s[k].toNat : Nat) : Int) := by omega
   clear hc hv
   go_wp2
   go_roundw
   case rel => exact ⟨by trivial, k + 1, by go_num, HK.out⟩
   case measure => (have := HK.out; simp [intOf]; omega)
  ·obtain rfl : k = s.size := by omega
   go_wp2
   go_ret
   exact ⟨rfl, rfl⟩
theorem number_x (D : List Nat) (hD : Tx.Dg D) (hl : D.length ≤ 9) (w : World) :
    Calls Tryz.prog 54 #[.string (Tx.str D)] w fun e w' => e = .returned (.tuple #[.int .i64 (Tx.val D : Nat), .bool true]) ∧ w = w' := by
 obtain ⟨s, hs⟩ := Zh (Tx.str D)
 rw [← hs.out]
 have hsz : s.size = D.length := by rw [hs.out, Tx.str_len]
 have HSZ := Zi hsz
 have HD := Zi hD
 have hs9 : s.size ≤ 9 := by omega
 obtain ⟨V, hV⟩ := Zh (Tx.val D)
 rw [← hV.out]
 clear hsz hD hl
 go_enter Tryz.func54, Tryz.ntmps54
 go_wp2
 go_loopw [4, 8] (fun n i wr => wr = w ∧ ∃ k : Nat, ∃ m : Nat, n = .int .i64 (m : Nat) ∧ i = .int .i64 (k : Nat) ∧ k ≤ s.size ∧ Hid (m = Tx.val (D.take k)) ∧ m ≤ 1000000000) (fun _ i _ => s.size - (intOf i).toNat)
 case atStart => exact ⟨by trivial, 0, 0, rfl, rfl, by omega, Zi rfl, by omega⟩
 case round =>
  obtain ⟨rfl, k, m, rfl, rfl, hk, hm, hm9⟩ := hrel
  by_cases hlt : k < s.size
  ·obtain ⟨c, hc⟩ : ∃ c, D[k]? = some c := ⟨_, List.getElem?_eq_getElem (by rw [← HSZ.out]; exact hlt)⟩
   have hc9 := HD.out c (List.mem_of_getElem? hc)
   have hv : s[k].toNat = c + 48 := by
    exact z9_71
   have h2 : (k : Int) < s.size := by omega
   have h3 : ¬ ((s[k].toNat : Nat) : Int) < 48 := by omega
   have h4 : ¬ (57 : Int) < ((s[k].toNat : Nat) : Int) := by omega
   have hm2 : Hid (10 * m + c = Tx.val (D.take (k + 1))) := Zi (by rw [List.take_add_one, hc]; show _ = Tx.val (_ ++ [c]); rw [Tx.val_snoc, hm.out])
   have hm3 : 10 * m + c ≤ 1000000000 := by
    have e := Tx.val_lt (D.take (k + 1)) (fun d hd => HD.out d (List.mem_of_mem_take hd))
    rw [hm2.out]
    refine Nat.le_trans (Nat.le_of_lt e) (Nat.le_trans (Nat.pow_le_pow_right Zd (?_ : _ ≤ 9)) Zd)
    rw [List.length_take]; omega
   have hv2 : ((s[k].toNat : Nat) : Int) = (c : Int) + 48 := by omega
   have HV2 := Zi hv2
   clear hc hv hv2
   go_wp2
   go_roundw
   case rel => exact ⟨by trivial, k + 1, 10 * m + c, by first | go_num | (have := HV2.out; congr 1; omega), by go_num, by omega, hm2, hm3⟩
   case measure => simp [intOf]; omega
  ·obtain rfl : k = s.size := by omega
   have hmV : m = V := by rw [hm.out, hV.out, HSZ.out, List.take_length]
   subst hmV
   go_wp2
   go_ret2
   exact ⟨rfl, rfl⟩
end
section
structure Ac.Wr (s : ByteArray) (n : Nat) : Prop where
 ex : ∃ W F, Tx.ns s = W ++ 46 :: F ∧ Ac.Wh W ∧ W.length = n ∧ Ac.Dgs F ∧ F.length ≤ 6
def Ac.Pad (T0 T : ByteArray) : Prop := Ac.Dgs (Tx.ns T) ∧ (T = T0 ∨ (T.size ≤ 7 ∧ T0.size ≤ 6))
end
section
structure Ac.Rd (s : ByteArray) (W R : List Nat) (n : Nat) : Prop where
 eq : Tx.ns s = W ++ R
 wh : Ac.Wh W
 len : W.length = n
 rest : R = [] ∨ ∃ F, R = 46 :: F ∧ Ac.Dgs F ∧ 0 < F.length ∧ F.length ≤ 6
end
section
theorem Dt.civ_small {n y m d : Int} (h : Dt.isCiv n y m d) : 2000 ≤ y ∧ y ≤ 2199 ∧ 1 ≤ m ∧ m ≤ 12 ∧ 1 ≤ d ∧ d ≤ 31 := by
 obtain ⟨h1, h2, h3, h4, h5, h6, _⟩ := h
 have := Dt.dim_bd y m
 omega
end
end Go.Proofs.YtiekmabiecalbaaGreatDoor
