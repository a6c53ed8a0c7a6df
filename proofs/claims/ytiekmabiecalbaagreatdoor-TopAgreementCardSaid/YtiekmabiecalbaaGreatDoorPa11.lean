/- Walks. -/
import Derived.Test.YtiekmabiecalbaaGreatDoorPa10
namespace Go.Proofs.YtiekmabiecalbaaGreatDoor
set_option maxHeartbeats 16000000
open Go.RowKit
set_option maxRecDepth 8000
section
theorem z9_38 {P : Prop} (h : P := by
 go_wp2_with fail
 go_roundw
 case rel => exact ⟨i0 + 1, by have := hik.out; omega, by go_num, HM⟩
 case measure => simp [intOf]; omega) : P := h
theorem z9_39 {P : Prop} (h : P := by
 go_wp2_with (first | ((with_reducible refine g_ld ?_); refine a_ld HM ?_) | ((with_reducible refine g_bx ?_); refine a_bx HM ?_; clear HM; intro bk w1 HM))
 go_ret
 exact ⟨rfl, HM.low⟩) : P := h
theorem z9_40 {P : Prop} (h : P := by
 refine j_ld HM ?_
 refine ⟨(heldE HM), ?_⟩
 refine j_one 2 fun K9 hK9 => ?_
 refine j_st HM ?_; clear HM; intro w1 HM
 refine hK9 _ _ heldN ?_; clear hK9 K9
 refine j_one 3 fun K9 hK9 => ?_
 refine j_st HM ?_; clear HM; intro w1 HM
 refine hK9 _ _ heldN ?_; clear hK9 K9
 refine wpAnyL_done Zk ?_ _
 (go_wp2_with fail; refine bodyPost_ret (r_cc (b := bq) (k := 0) (b2 := br) (k2 := 0) rfl rfl rfl (HM.get Zl) (la_arr _) (HM.get Zl) (la_arr _)) rfl ⟨?_, HM.low⟩; rw [hQ0.out, hR0.out])) : P := h
theorem z9_41 {P : Prop} (h : P := by
 refine j_st HM ?_; clear HM; intro w1 HM
 refine ⟨heldN, ?_⟩
 refine j_one 1 fun K9 hK9 => ?_
 refine j_ld HM ?_
 refine hK9 _ _ heldN ?_; clear hK9 K9
 refine j_one 3 fun K9 hK9 => ?_
 refine j_st HM ?_; clear HM; intro w1 HM
 refine hK9 _ _ heldN ?_; clear hK9 K9
 refine wpAnyL_done Zk ?_ _
 (go_wp2_with fail; refine bodyPost_ret (r_cc (b := bq) (k := 0) (b2 := br) (k2 := 0) rfl rfl rfl (HM.get Zl) (la_arr _) (HM.get Zl) (la_arr _)) rfl ⟨?_, HM.low⟩; rw [hQ0.out, hR0.out])) : P := h
theorem z9_42 {P : Prop} (h : P := by
 refine start_M [9, 10] HM Zk (fun w0x H9 => ?_)
 replace HM := H9; clear H9
 refine k_fa 0 (heldE HM) ?_
 refine k_ld 1 [4, 6, 8, 9, 10, 11] (heldE HM) ?_
 refine k_fa 2 (heldE HM) ?_
 refine k_ld 3 [4, 6, 8, 9, 10, 11] (heldE HM) ?_
 refine t_pure (i := 4) (v := .bool (!(true == t))) rfl rfl Zk (fun _ _ _ h => h) (heldE HM) Zv ?_ ?_; (focus (exact h_bin Zv Zv Zv (by intro w9; cases t <;> (go_simp; try rfl)))); ((try simp only [Za]); (try simp only [Zx]); (try simp only [Zy]))
 refine k_ld 5 [6, 8, 9, 10, 11] (heldE HM) ?_
 refine k_ld 7 [8, 9, 10, 11] (heldE HM) ?_
 refine j_one 6 fun K9 hK9 => ?_
 refine j_call2 (v := ?_) HM ?_ ?_; rotate_left 1; (focus (with_reducible (first | exact rcanon_any (!(true == t)) Q x hQl hxQ _ | exact rcanon_any false R y hRl hyR _))); clear HM; intro w1 HM
 refine hK9 _ _ (heldE HM) ?_; clear hK9 K9
 refine j_one 8 fun K9 hK9 => ?_
 refine j_call2 (v := ?_) HM ?_ ?_; rotate_left 1; (focus (with_reducible (first | exact rcanon_any (!(true == t)) Q x hQl hxQ _ | exact rcanon_any false R y hRl hyR _))); clear HM; intro w1 HM
 refine hK9 _ _ (heldE HM) ?_; clear hK9 K9
 refine j_one 9 fun K9 hK9 => ?_
 refine j_st HM ?_; clear HM; intro w1 HM
 refine hK9 _ _ heldN ?_; clear hK9 K9
 refine j_one 10 fun K9 hK9 => ?_
 refine j_st HM ?_; clear HM; intro w1 HM
 refine hK9 _ _ heldN ?_; clear hK9 K9
 refine k_mv 11 heldN ?_
 refine wpAnyL_done Zk ?_ _
 go_wp2_with fail
 refine bodyPost_ret (r_cct (b := b4) (k := 0) (b2 := b5) (k2 := 0) rfl rfl rfl (HM.get Zl) (la_z _) (HM.get Zl) (la_z _)) rfl ⟨rfl, HM.low⟩) : P := h
theorem z9_43 {P : Prop} (h : P := by
 refine ⟨(heldE HM), ?_⟩
 refine j_one 5 fun K9 hK9 => ?_
 refine j_al HM ?_; clear HM; intro bk w1 HM
 refine hK9 _ _ (heldE HM) ?_; clear hK9 K9
 refine j_one 6 fun K9 hK9 => ?_
 refine j_st HM ?_; clear HM; intro w1 HM
 refine hK9 _ _ heldN ?_; clear hK9 K9
 refine j_one 7 fun K9 hK9 => ?_
 refine j_st HM ?_; clear HM; intro w1 HM
 refine hK9 _ _ heldN ?_; clear hK9 K9
 refine wpAnyL_done Zk ?_ _
 (go_wp2_with fail; go_meet; (case rel => refine ⟨_, _, rfl, rfl, ?_⟩; first | (refine HM.less ?_; (repeat (first | exact Sub.nil | refine Sub.keep ?_ | refine Sub.skip ?_)); done) | (refine HM.swap.less ?_; (repeat (first | exact Sub.nil | refine Sub.keep ?_ | refine Sub.skip ?_)); done)))) : P := h
theorem z9_44 {P : Prop} (h : P := by
 refine ⟨(heldE HM), ?_⟩
 refine j_one 4 fun K9 hK9 => ?_
 refine j_al HM ?_; clear HM; intro bk w1 HM
 refine hK9 _ _ (heldE HM) ?_; clear hK9 K9
 refine j_one 6 fun K9 hK9 => ?_
 refine j_st HM ?_; clear HM; intro w1 HM
 refine hK9 _ _ heldN ?_; clear hK9 K9
 refine j_one 7 fun K9 hK9 => ?_
 refine j_st HM ?_; clear HM; intro w1 HM
 refine hK9 _ _ heldN ?_; clear hK9 K9
 refine wpAnyL_done Zk ?_ _
 (go_wp2_with fail; go_meet; (case rel => refine ⟨_, _, rfl, rfl, ?_⟩; first | (refine HM.less ?_; (repeat (first | exact Sub.nil | refine Sub.keep ?_ | refine Sub.skip ?_)); done) | (refine HM.swap.less ?_; (repeat (first | exact Sub.nil | refine Sub.keep ?_ | refine Sub.skip ?_)); done)))) : P := h
theorem z9_45 {P : Prop} (h : P := by
 refine j_al HM ?_; clear HM; intro bk w1 HM
 refine ⟨(heldE HM), ?_⟩
 refine j_two 3 6 ?_ ?_
 ·refine j_ld HM ?_
  refine ⟨(heldE HM), ?_⟩
  refine j_one 6 fun K9 hK9 => ?_
  refine j_st HM ?_; clear HM; intro w1 HM
  refine hK9 _ _ heldN ?_; clear hK9 K9
  refine j_one 7 fun K9 hK9 => ?_
  refine j_st HM ?_; clear HM; intro w1 HM
  refine hK9 _ _ heldN ?_; clear hK9 K9
  refine wpAnyL_done Zk ?_ _
  (go_wp2_with fail; go_meet; (case rel => refine ⟨_, _, rfl, rfl, ?_⟩; first | (refine HM.less ?_; (repeat (first | exact Sub.nil | refine Sub.keep ?_ | refine Sub.skip ?_)); done) | (refine HM.swap.less ?_; (repeat (first | exact Sub.nil | refine Sub.keep ?_ | refine Sub.skip ?_)); done)))
 ·refine j_st HM ?_; clear HM; intro w1 HM
  refine ⟨heldN, ?_⟩
  refine j_one 3 fun K9 hK9 => ?_
  refine j_ld HM ?_
  refine hK9 _ _ heldN ?_; clear hK9 K9
  refine j_one 7 fun K9 hK9 => ?_
  refine j_st HM ?_; clear HM; intro w1 HM
  refine hK9 _ _ heldN ?_; clear hK9 K9
  refine wpAnyL_done Zk ?_ _
  (go_wp2_with fail; go_meet; (case rel => refine ⟨_, _, rfl, rfl, ?_⟩; first | (refine HM.less ?_; (repeat (first | exact Sub.nil | refine Sub.keep ?_ | refine Sub.skip ?_)); done) | (refine HM.swap.less ?_; (repeat (first | exact Sub.nil | refine Sub.keep ?_ | refine Sub.skip ?_)); done)))) : P := h
theorem z9_46 {P : Prop} (h : P := by
 refine hK9 _ _ heldN ?_; clear hK9 K9
 refine j_one 3 fun K9 hK9 => ?_
 refine j_st HM ?_; clear HM; intro w1 HM
 refine hK9 _ _ heldN ?_; clear hK9 K9
 refine wpAnyL_done Zk ?_ _
 (go_wp2_with fail; go_roundg g; (case rel => exact ⟨B, r, by omega, HG2, hB, by omega, HM.less (by (repeat (first | exact Sub.nil | refine Sub.keep ?_ | refine Sub.skip ?_)))⟩); (case measure => omega))) : P := h
end
namespace Bg
set_option maxRecDepth 8000
theorem setL_low' (N i y : Nat) (hy : y < 4294967296) : setL N i y % pw (i + 1) = N % pw i + y * pw i := by
 have hm : N % pw i < pw i := Nat.mod_lt _ (ppos i)
 have hlow : N % pw i + y * pw i < pw (i + 1) := lt_succ hm hy
 unfold setL
 rw [Nat.add_mul_mod_self_right, Nat.mod_eq_of_lt hlow]
structure DbSt (N c i R b : Nat) : Prop where
 eq : R % pw i + b * pw i = 2 * (N % pw i) + c
 hi : R / pw i = N / pw i
 b : b ≤ 1
theorem DbSt.start {N c : Nat} (h : c ≤ 1) : DbSt N c 0 N c := ⟨by simp [pw_zero, Nat.mod_one], rfl, h⟩
theorem or_bit {x b : Nat} (hb : b ≤ 1) : x * 2 % 4294967296 ||| b = x * 2 % 4294967296 + b := by
 have h := Nat.two_pow_add_eq_or_of_lt (i := 1) (b := b) Zo (x * 2 % 4294967296 / 2)
 rw [show 2 ^ 1 * (x * 2 % 4294967296 / 2) = x * 2 % 4294967296 from by omega] at h
 exact h.symm
theorem DbSt.step {N c i R b : Nat} (h : DbSt N c i R b) : limb R i = limb N i ∧ DbSt N c (i + 1) (setL R i (limb N i * 2 % 4294967296 + b)) (limb N i / 2147483648) := by
 obtain ⟨h1, h2, h3⟩ := h
 have hx := hi_same h2
 have hl := limb_lt N i
 refine ⟨hx.1, ?_, ?_, by omega⟩
 ·have hy : limb N i * 2 % 4294967296 + b < 4294967296 := by omega
  rw [setL_low' _ _ _ hy, low_succ, p32]
  have e : limb N i * 2 % 4294967296 + b + limb N i / 2147483648 * 4294967296 = 2 * limb N i + b := by omega
  generalize limb N i * 2 % 4294967296 + b = y at *
  generalize limb N i / 2147483648 = b2 at *
  generalize limb N i = x at *
  generalize pw i = p at *
  generalize R % p = r at *
  generalize N % p = n at *
  grind
 ·rw [setL_hi _ _ _ Zo, hx.2]
theorem DbSt.done {N c R b : Nat} (h : DbSt N c 32 R b) (hN : N < lim) : R = (2 * N + c) % lim ∧ (b = 1 ↔ lim ≤ 2 * N + c) := by
 obtain ⟨h1, h2, h3⟩ := h
 have hN' : N < pw 32 := hN
 rw [Nat.div_eq_of_lt hN', Nat.mod_eq_of_lt hN'] at *
 have hR : R < pw 32 := by
  rcases Nat.lt_or_ge R (pw 32) with h | h
  ·exact h
  ·have := Nat.div_pos h (ppos 32); omega
 rw [Nat.mod_eq_of_lt hR] at h1
 change R < lim at hR
 change R + b * lim = 2 * N + c at h1
 rcases (show b = 0 ∨ b = 1 by omega) with rfl | rfl
 ·refine ⟨?_, ?_⟩
  ·rw [← h1, Nat.zero_mul, Nat.add_zero, Nat.mod_eq_of_lt hR]
  ·omega
 ·refine ⟨?_, ?_⟩
  ·rw [← h1, Nat.one_mul, Nat.add_mod_right, Nat.mod_eq_of_lt hR]
  ·omega
theorem shifted_limb (N k r i : Nat) (hr : r < 32) : limb (N / 2 ^ (32 * k + r)) i = if r = 0 then limb N (k + i) else limb N (k + i) / 2 ^ r ||| (limb N (k + i + 1) * 2 ^ (32 - r) % 4294967296) := by
 have e : N / 2 ^ (32 * k + r) = N / pw k / 2 ^ r := by rw [Nat.pow_add, ← pw_two, Nat.div_div_eq_div_mul]
 rw [e]
 split
 ·rename_i h; subst h; rw [Nat.pow_zero, Nat.div_one, limb_div]
 ·rw [shr_or _ _ _ hr Zo, ← limb_div, ← limb_div, Nat.add_assoc]
theorem shifted_lt {N k r : Nat} (hN : N < lim) (hk : k ≤ 32) : N / 2 ^ (32 * k + r) < pw (32 - k) := by
 have e : N / 2 ^ (32 * k + r) = N / pw k / 2 ^ r := by rw [Nat.pow_add, ← pw_two, Nat.div_div_eq_div_mul]
 have h1 : N / pw k < pw (32 - k) := by
  rw [Nat.div_lt_iff_lt_mul (ppos k), ← padd, show 32 - k + k = 32 from by omega]
  exact hN
 have h2 : N / pw k / 2 ^ r ≤ N / pw k := Nat.div_le_self _ _
 omega
theorem limb_top {N i : Nat} (hN : N < lim) (h : 32 ≤ i) : limb N i = 0 := by
 have : N < pw i := Nat.lt_of_lt_of_le hN (pmono h)
 unfold limb; rw [Nat.div_eq_of_lt this]
structure BdSt (a b j q r : Nat) : Prop where
 r : r = a / 2 ^ j % b
 q : q = a / 2 ^ j / b * 2 ^ j
theorem BdSt.start {a b n m : Nat} (hb : 2 ^ n ≤ b) (ha : a < 2 ^ (n + m)) : BdSt a b m 0 (a / 2 ^ m) := by
 have h : a / 2 ^ m < b := by
  refine Nat.lt_of_lt_of_le ?_ hb
  rw [Nat.div_lt_iff_lt_mul (Nat.two_pow_pos _), ← Nat.pow_add]
  exact ha
 exact ⟨(Nat.mod_eq_of_lt h).symm, by rw [Nat.div_eq_of_lt h, Nat.zero_mul]⟩
theorem half_step (a j : Nat) : a / 2 ^ j = 2 * (a / 2 ^ (j + 1)) + a / 2 ^ j % 2 := by
 rw [Nat.pow_succ, ← Nat.div_div_eq_div_mul]
 omega
theorem BdSt.more {a b j q r x : Nat} (h : BdSt a b (j + 1) q r) (hb : 0 < b) (hx : x = 2 * r + a / 2 ^ j % 2) (hge : b ≤ x) : BdSt a b j (q + 2 ^ j) (x - b) ∧ x - b < b := by
 obtain ⟨h1, h2⟩ := h
 have hs := half_step a j
 have hd := Nat.div_add_mod (a / 2 ^ (j + 1)) b
 have hl := Nat.mod_lt (a / 2 ^ (j + 1)) hb
 rw [← h1] at hd hl
 have hxl : x - b < b := by omega
 obtain ⟨A, hA0⟩ : ∃ A, A = a / 2 ^ j := ⟨_, rfl⟩
 rw [← hA0] at hs hx
 generalize hA : a / 2 ^ (j + 1) = A2 at *
 generalize hQ : A2 / b = Q at *
 have e : A = (x - b) + b * (2 * Q + 1) := by
  have : b * (2 * Q + 1) = 2 * (b * Q) + b := by grind
  omega
 refine ⟨⟨?_, ?_⟩, hxl⟩
 ·show x - b = a / 2 ^ j % b
  rw [← hA0, e, Nat.add_mul_mod_self_left, Nat.mod_eq_of_lt hxl]
 ·show q + 2 ^ j = a / 2 ^ j / b * 2 ^ j
  rw [← hA0, e, Nat.add_mul_div_left _ _ hb, Nat.div_eq_of_lt hxl, h2, Nat.pow_succ]
  grind
theorem BdSt.less {a b j q r x : Nat} (h : BdSt a b (j + 1) q r) (hb : 0 < b) (hx : x = 2 * r + a / 2 ^ j % 2) (hlt : x < b) : BdSt a b j q x := by
 obtain ⟨h1, h2⟩ := h
 have hs := half_step a j
 have hd := Nat.div_add_mod (a / 2 ^ (j + 1)) b
 rw [← h1] at hd
 obtain ⟨A, hA0⟩ : ∃ A, A = a / 2 ^ j := ⟨_, rfl⟩
 rw [← hA0] at hs hx
 generalize hA : a / 2 ^ (j + 1) = A2 at *
 generalize hQ : A2 / b = Q at *
 have e : A = x + b * (2 * Q) := by
  have : b * (2 * Q) = 2 * (b * Q) := by grind
  omega
 refine ⟨?_, ?_⟩
 ·show x = a / 2 ^ j % b
  rw [← hA0, e, Nat.add_mul_mod_self_left, Nat.mod_eq_of_lt hlt]
 ·show q = a / 2 ^ j / b * 2 ^ j
  rw [← hA0, e, Nat.add_mul_div_left _ _ hb, Nat.div_eq_of_lt hlt, h2, Nat.pow_succ]
  grind
theorem BdSt.done {a b q r : Nat} (h : BdSt a b 0 q r) : q = a / b ∧ r = a % b := by
 obtain ⟨h1, h2⟩ := h
 rw [Nat.pow_zero, Nat.div_one] at h1
 rw [Nat.pow_zero, Nat.div_one, Nat.mul_one] at h2
 exact ⟨h2, h1⟩
theorem bit_at (a k s : Nat) (hs : s < 32) : limb a k / 2 ^ s &&& 1 = a / 2 ^ (32 * k + s) % 2 := by
 rw [Nat.and_one_is_mod, Nat.pow_add, ← pw_two, ← Nat.div_div_eq_div_mul]
 unfold limb
 generalize a / pw k = x
 have e : x % 4294967296 / 2 ^ s = x / 2 ^ s % 2 ^ (32 - s) := by
  rw [show 4294967296 = 2 ^ s * 2 ^ (32 - s) from by rw [← Nat.pow_add, show s + (32 - s) = 32 from by omega], Nat.mod_mul_right_div_self]
 rw [e]
 exact Nat.mod_mod_of_dvd _ (Nat.pow_dvd_pow 2 (show 1 ≤ 32 - s by omega) |> fun h => by simpa using h)
theorem bit_set (Q k s : Nat) (hs : s < 32) (h : Q % 2 ^ (32 * k + s + 1) = 0) : setL Q k (limb Q k ||| 2 ^ s) = Q + 2 ^ (32 * k + s) ∧ limb Q k ||| 2 ^ s < 4294967296 := by
 have h0 : limb Q k % 2 ^ (s + 1) = 0 := by
  obtain ⟨t, ht⟩ := Nat.dvd_of_mod_eq_zero h
  have e : Q / pw k = 2 ^ (s + 1) * t := by
   rw [ht, Nat.add_assoc, Nat.pow_add, ← pw_two, Nat.mul_assoc, Nat.mul_div_cancel_left _ (ppos k)]
  unfold limb
  rw [show 4294967296 = 2 ^ 32 from rfl, Nat.mod_mod_of_dvd _ (Nat.pow_dvd_pow 2 (show s + 1 ≤ 32 by omega)), e]
  exact Nat.mul_mod_right _ _
 have e2 : limb Q k ||| 2 ^ s = limb Q k + 2 ^ s := by
  obtain ⟨t, ht⟩ := Nat.dvd_of_mod_eq_zero h0
  rw [ht]
  exact (Nat.two_pow_add_eq_or_of_lt (Nat.pow_lt_pow_right Zd Zo) t).symm
 have hl := limb_lt Q k
 have h3 : limb Q k ||| 2 ^ s < 2 ^ 32 := Nat.or_lt_two_pow hl (Nat.pow_lt_pow_right Zd hs)
 refine ⟨?_, h3⟩
 rw [e2] at *
 have hse := setL_eq Q k (limb Q k + 2 ^ s)
 rw [Nat.add_mul] at hse
 rw [show 2 ^ (32 * k + s) = 2 ^ s * pw k from by rw [Nat.pow_add, ← pw_two, Nat.mul_comm]]
 omega
theorem BdSt.free {a b j q r : Nat} (h : BdSt a b (j + 1) q r) : q % 2 ^ (j + 1) = 0 := by rw [h.q]; exact Nat.mul_mod_left _ _
end Bg
section
set_option maxRecDepth 20000 in
theorem rdouble_any (N c z : Nat) (f : Bool) (hN : N < Bg.lim) (hc : c ≤ 1) (hz : Hid (z = (2 * N + c) % Bg.lim)) (hf : Hid (f = decide (Bg.lim ≤ 2 * N + c))) (w : World) :
    Calls Tryz.prog 209 #[.agg (Bg.row 32 N), .int .u32 (c : Nat)] w fun e w' => e = .returned (.tuple #[.agg (Bg.row 32 z), .bool f]) ∧ Below w.heap.size w w' := by
 have HM := Mem.start w
 go_enter Tryz.func209, Tryz.ntmps209
 go_upto_region 1 with (first | ((with_reducible refine g_ld ?_); refine a_ld HM ?_) | ((with_reducible refine g_st ?_); refine a_st HM ?_; clear HM; intro w1 HM) | ((with_reducible refine g_al ?_); refine a_al HM ?_; clear HM; intro bk w1 HM) | ((with_reducible refine g_bx ?_); refine a_bx HM ?_; clear HM; intro bk w1 HM))
 obtain ⟨br, rfl⟩ := HM.nm0
 obtain ⟨bm, rfl⟩ := HM.nm1
 go_wp2_with fail
 go_loopw [1, 6] (fun cc i wr => ∃ i0 R b : Nat, i0 ≤ 32 ∧ i = .int .i64 (i0 : Nat) ∧ cc = .int .u32 (b : Nat) ∧ Hid (Bg.DbSt N c i0 R b) ∧ Mem w [] [(br, Bg.row 32 0), (bm, Bg.row 32 R)] wr) (fun _ i _ => (32 - intOf i).toNat)
 case atStart => exact ⟨0, N, c, by omega, rfl, rfl, Zi (Bg.DbSt.start hc), HM⟩
 case round =>
  clear HM
  obtain ⟨i0, R, b, hi32, rfl, rfl, HS, HM⟩ := hrel
  have hb1 := HS.out.b
  by_cases hlt : i0 < 32
  ·have ht : (i0 : Int) < 32 := by omega
   obtain ⟨x, hx⟩ := Zh (Bg.limb N i0)
   have hxl : x < 4294967296 := by rw [hx.out]; exact Bg.limb_lt _ _
   obtain ⟨hlx, hs2⟩ := HS.out.step
   rw [← hx.out] at hlx hs2
   have HS2 := Zi hs2
   obtain ⟨y, hy⟩ := Zh (x * 2 % 4294967296)
   rw [← hy.out] at HS2
   have hyl : y < 4294967296 := by rw [hy.out]; exact Nat.mod_lt _ Zd
   have hyb : y + b < 4294967296 := by have := hy.out; omega
   have hor : y ||| b = y + b := by rw [hy.out]; exact Bg.or_bit hb1
   have hf1 : LA 30 (Bg.row 32 R) i0 (.int .u32 (x : Nat)) := by rw [← hlx]; exact la_lim R i0 hlt
   have hf2 := sa_lim R i0 (y + b) hyb hlt
   have HO := Zi hor
   have hq0 : (0 : Int) ≤ (i0 : Int) := by omega
   clear hlx hs2 hor
   go_upto_region 4 with fail
   refine start_M [12] HM Zk (fun w0x H9 => ?_)
   replace HM := H9; clear H9
   refine k_mv 0 (heldE HM) ?_
   refine k_mv 1 (heldE HM) ?_
   refine k_ia 2 (heldE HM) ?_
   refine k_ld 3 [4, 6, 11, 12, 13] (heldE HM) ?_
   refine t_pure (i := 4) (v := .int .u32 (y : Nat)) rfl rfl Zk (fun _ _ _ h => h) (heldE HM) Zv ?_ ?_; (focus (exact h_bin Zv Zv Zv (by intro w9; go_simp; rw [IntKind.wrap_u32, hy.out]; simp))); ((try simp only [Za]); (try simp only [Zx]); (try simp only [Zy]))
   refine k_mv 5 (heldE HM) ?_
   refine t_pure (i := 6) (v := .int .u32 ((y + b : Nat) : Int)) rfl rfl Zk (fun _ _ _ h => h) (heldE HM) Zv ?_ ?_; (focus (exact h_bin Zv Zv Zv (by intro w9; go_simp; rw [u32_or_nat _ _ hyl Zo, HO.out]; first | done | (simp; done) | omega))); ((try simp only [Za]); (try simp only [Zx]); (try simp only [Zy]))
   refine k_mv 7 (heldE HM) ?_
   refine k_ia 8 (heldE HM) ?_
   refine k_ld 9 [10, 11, 12, 13] (heldE HM) ?_
   refine t_pure (i := 10) (v := .int .u32 ((x / 2147483648 : Nat) : Int)) rfl rfl Zk (fun _ _ _ h => h) (heldE HM) Zv ?_ ?_; (focus (exact h_bin Zv Zv Zv (by intro w9; go_simp))); ((try simp only [Za]); (try simp only [Zx]); (try simp only [Zy]))
   refine k_ia 11 (heldE HM) ?_
   refine j_one 12 fun K9 hK9 => ?_
   refine j_st HM ?_; clear HM; intro w1 HM
   refine hK9 _ _ heldN ?_; clear hK9 K9
   refine k_mv 13 heldN ?_
   refine wpAnyL_done Zk ?_ _
   go_wp2_with fail
   go_roundw
   case rel => exact ⟨i0 + 1, _, x / 2147483648, hlt, by go_num, rfl, HS2, HM⟩
   case measure => simp [intOf]; omega
  ·obtain rfl : i0 = 32 := by omega
   obtain ⟨h1, h2⟩ := HS.out.done hN
   have HZ : Hid (z = R) := Zi (by rw [hz.out, h1])
   have HF : Hid (f = decide (b = 1)) := Zi (by rw [hf.out]; exact decide_eq_decide.2 h2.symm)
   clear h1 h2
   rcases (show b = 0 ∨ b = 1 by omega) with rfl | rfl
   all_goals
    go_wp2_with (first | ((with_reducible refine g_ld ?_); refine a_ld HM ?_) | ((with_reducible refine g_st ?_); refine a_st HM ?_; clear HM; intro w1 HM) | ((with_reducible refine g_al ?_); refine a_al HM ?_; clear HM; intro bk w1 HM) | ((with_reducible refine g_bx ?_); refine a_bx HM ?_; clear HM; intro bk w1 HM))
    refine bodyPost_ret (r_ct (b := br) (k := 0) rfl rfl (HM.get Zl) (la_arr _)) rfl ⟨?_, HM.low⟩
    rw [HZ.out, HF.out]
    rfl
set_option maxRecDepth 20000 in
theorem rshifted_any (N n z : Nat) (hN : N < Bg.lim) (hn : n ≤ 1024) (hz : Hid (z = N / 2 ^ n)) (w : World) :
    Calls Tryz.prog 208 #[.agg (Bg.row 32 N), .int .i64 (n : Nat)] w fun e w' => e = .returned (.agg (Bg.row 32 z)) ∧ Below w.heap.size w w' := by
 have HM := Mem.start w
 obtain ⟨k, hk⟩ := Zh (n / 32)
 obtain ⟨r, hr⟩ := Zh (n % 32)
 have hk32 : k ≤ 32 := by rw [hk.out]; omega
 have hr32 : r < 32 := by rw [hr.out]; omega
 have hnk : Hid (n = 32 * k + r) := Zi (by rw [hk.out, hr.out]; omega)
 have e1 : (n : Int) / 32 = (k : Int) := by rw [hk.out]; simp
 have e2 : (n : Int) % 32 = (r : Int) := by rw [hr.out]; simp
 go_enter Tryz.func208, Tryz.ntmps208
 go_upto_region 3 with (first | ((with_reducible refine g_ld ?_); refine a_ld HM ?_) | ((with_reducible refine g_st ?_); refine a_st HM ?_; clear HM; intro w1 HM) | ((with_reducible refine g_al ?_); refine a_al HM ?_; clear HM; intro bk w1 HM) | ((with_reducible refine g_bx ?_); refine a_bx HM ?_; clear HM; intro bk w1 HM))
 obtain ⟨bo, rfl⟩ := HM.nm0
 obtain ⟨br, rfl⟩ := HM.nm1
 obtain ⟨bm, rfl⟩ := HM.nm2
 have hzl : Hid (z < Bg.pw (32 - k)) := Zi (by rw [hz.out, hnk.out]; exact Bg.shifted_lt hN hk32)
 clear e1 e2
 go_wp2_with fail
 go_loopw [8] (fun i wr => ∃ i0 : Nat, i0 + k ≤ 32 ∧ i = .int .i64 (i0 : Nat) ∧ Mem w [] [(bo, Bg.row 32 (z % Bg.pw i0)), (br, Bg.row 32 0), (bm, Bg.row 32 N)] wr) (fun i _ => (32 - intOf i).toNat)
 case atStart => exact ⟨0, by omega, rfl, by rw [Bg.pw_zero, Nat.mod_one]; exact HM⟩
 case round =>
  clear HM
  obtain ⟨i0, hi0, rfl, HM⟩ := hrel
  obtain ⟨ik, hik⟩ := Zh (i0 + k)
  have e5 : (i0 : Int) + (k : Int) = (ik : Int) := by have := hik.out; omega
  have hik32 : ik ≤ 32 := by have := hik.out; omega
  by_cases hlt : ik < 32
  ·have ht : (ik : Int) < 32 := by omega
   have hi32 : i0 < 32 := by have := hik.out; omega
   obtain ⟨x, hx⟩ := Zh (Bg.limb N ik)
   have hxl : x < 4294967296 := by rw [hx.out]; exact Bg.limb_lt _ _
   obtain ⟨y, hy⟩ := Zh (x / 2 ^ r)
   have hyl : y < 4294967296 := by rw [hy.out]; exact Nat.lt_of_le_of_lt (Nat.div_le_self _ _) hxl
   have hlz := Bg.shifted_limb N k r i0 hr32
   rw [← hnk.out, ← hz.out, show k + i0 = ik from by have := hik.out; omega, ← hx.out, ← hy.out] at hlz
   replace hlz := Zi hlz
   have hf1 : LA 30 (Bg.row 32 N) ik (.int .u32 (x : Nat)) := by rw [hx.out]; exact la_lim N ik hlt
   have hf2 : SA 30 (Bg.row 32 (z % Bg.pw i0)) i0 (.int .u32 ((x : Int) / 2 ^ r)) (Bg.row 32 (Bg.setL (z % Bg.pw i0) i0 y)) := by
    have h := sa_lim (z % Bg.pw i0) i0 y hyl hi32
    rwa [show ((y : Nat) : Int) = (x : Int) / 2 ^ r from by rw [hy.out]; simp] at h
   have hq0 : (0 : Int) ≤ (i0 : Int) := by omega
   have hq1 : (i0 : Int) < 32 := by omega
   have hq2 : (0 : Int) ≤ (ik : Int) := by omega
   go_upto_region 7 with (first | ((with_reducible refine g_ld ?_); refine a_ld HM ?_) | ((with_reducible refine g_st ?_); refine a_st HM ?_; clear HM; intro w1 HM) | ((with_reducible refine g_al ?_); refine a_al HM ?_; clear HM; intro bk w1 HM) | ((with_reducible refine g_bx ?_); refine a_bx HM ?_; clear HM; intro bk w1 HM))
   clear hf1 hf2
   rcases Nat.eq_zero_or_pos r with hr0 | hr0
   ·have e2 : Bg.setL (z % Bg.pw i0) i0 y = z % Bg.pw (i0 + 1) := by
      have h := hlz.out
      rw [if_pos hr0] at h
      rw [hy.out, hr0, Nat.pow_zero, Nat.div_one, ← h, Bg.low_set]
    rw [e2] at HM
    clear e2
    subst hr0
    exact z9_38
   ·have hrp : (0 : Int) < (r : Int) := by omega
    have hl := hlz.out
    rw [if_neg Zo] at hl
    by_cases hlt2 : ik + 1 < 32
    ·have ht2 : (ik : Int) + 1 < 32 := by omega
     obtain ⟨u, hu⟩ := Zh (Bg.limb N (ik + 1))
     have hul : u < 4294967296 := by rw [hu.out]; exact Bg.limb_lt _ _
     obtain ⟨v, hv⟩ := Zh (u * 2 ^ (32 - r) % 4294967296)
     have hvl : v < 4294967296 := by rw [hv.out]; exact Nat.mod_lt _ Zd
     rw [← hu.out, ← hv.out] at hl
     have hl0 : LA 30 (Bg.row 32 (Bg.setL (z % Bg.pw i0) i0 y)) i0 (.int .u32 (y : Nat)) := by
      have h := la_lim (Bg.setL (z % Bg.pw i0) i0 y) i0 hi32
      rwa [Bg.setL_limb _ _ _ _ hyl, if_pos rfl] at h
     have hl1 : LA 30 (Bg.row 32 N) (ik + 1) (.int .u32 (u : Nat)) := by rw [hu.out]; exact la_lim N (ik + 1) hlt2
     have hol : y ||| v < 4294967296 := by have := Nat.or_lt_two_pow (n := 32) (x := y) (y := v) Zo Zo; omega
     have hso := sa_lim (Bg.setL (z % Bg.pw i0) i0 y) i0 (y ||| v) hol hi32
     rw [Bg.setL_twice _ _ _ _ hyl, ← hl, Bg.low_set] at hso
     replace hl := Zi hl
     have hq3 : (0 : Int) ≤ (ik : Int) + 1 := by omega
     go_upto_region 8 with fail
     rw [hl.out] at hso
     refine start_M [14] HM Zk (fun w0x H9 => ?_)
     replace HM := H9; clear H9
     refine k_mv 0 (heldE HM) ?_
     refine k_ia 1 (heldE HM) ?_
     refine k_ld 2 [12, 13, 14] (heldE HM) ?_
     refine k_mv 3 (heldE HM) ?_
     refine k_mv 4 (heldE HM) ?_
     refine t_pure (i := 5) (v := .int .i64 (ik : Nat)) rfl rfl Zk (fun _ _ _ h => h) (heldE HM) Zv ?_ ?_; (focus (exact h_bin Zv Zv Zv (by intro w9; go_simp; rw [IntWalk.i64_in _ Zo]))); ((try simp only [Za]); (try simp only [Zx]); (try simp only [Zy]))
     refine k_add 6 (heldE HM) ?_
     refine k_ia 7 (heldE HM) ?_
     refine k_ld 8 [11, 12, 13, 14] (heldE HM) ?_
     refine k_mv 9 (heldE HM) ?_
     refine t_pure (i := 10) (v := .int .u64 ((32 - r : Nat) : Int)) rfl rfl Zk (fun _ _ _ h => h) (heldE HM) Zv ?_ ?_; (focus (exact h_bin Zv Zv Zv (by intro w9; go_simp; rw [IntWalk.u64_in _ Zo]; first | done | omega))); ((try simp only [Za]); (try simp only [Zx]); (try simp only [Zy]))
     refine t_pure (i := 11) (v := .int .u32 (v : Nat)) rfl rfl Zk (fun _ _ _ h => h) (heldE HM) Zv ?_ ?_; (focus (exact h_bin Zv Zv Zv (by intro w9; go_simp; rw [hv.out, IntKind.wrap_u32]; simp))); ((try simp only [Za]); (try simp only [Zx]); (try simp only [Zy]))
     refine t_pure (i := 12) (v := .int .u32 ((y ||| v : Nat) : Int)) rfl rfl Zk (fun _ _ _ h => h) (heldE HM) Zv ?_ ?_; (focus (exact h_bin Zv Zv Zv (by intro w9; go_simp; rw [u32_or_nat _ _ hyl hvl]))); ((try simp only [Za]); (try simp only [Zx]); (try simp only [Zy]))
     refine k_ia 13 (heldE HM) ?_
     refine j_one 14 fun K9 hK9 => ?_
     refine j_st HM ?_; clear HM; intro w1 HM
     refine hK9 _ _ heldN ?_; clear hK9 K9
     refine wpAnyL_done Zk ?_ _
     exact z9_38
    ·have ht2 : ¬ (ik : Int) + 1 < 32 := by omega
     have e2 : Bg.setL (z % Bg.pw i0) i0 y = z % Bg.pw (i0 + 1) := by
      rw [Bg.limb_top hN (show 32 ≤ ik + 1 by omega), Nat.zero_mul, Nat.zero_mod, Nat.or_zero] at hl
      rw [← hl, Bg.low_set]
     rw [e2] at HM
     clear e2 hl
     exact z9_38
  ·have ht : ¬ (ik : Int) < 32 := by omega
   have hz2 : z % Bg.pw i0 = z := Nat.mod_eq_of_lt (by rw [show i0 = 32 - k from by have := hik.out; omega]; exact hzl.out)
   rw [hz2] at HM
   clear hz2
   go_wp2_with (first | ((with_reducible refine g_ld ?_); refine a_ld HM ?_) | ((with_reducible refine g_st ?_); refine a_st HM ?_; clear HM; intro w1 HM) | ((with_reducible refine g_al ?_); refine a_al HM ?_; clear HM; intro bk w1 HM) | ((with_reducible refine g_bx ?_); refine a_bx HM ?_; clear HM; intro bk w1 HM))
   refine bodyPost_ret (r_c (b := br) (k := 0) rfl rfl (HM.get Zl) (la_arr _)) rfl ⟨rfl, HM.low⟩
set_option maxRecDepth 20000 in
theorem rlow_any (N : Nat) (hN : N < 18446744073709551616) (w : World) :
    Calls Tryz.prog 207 #[.agg (Bg.row 32 N)] w fun e w' => e = .returned (.int .u64 (N : Nat)) ∧ Below w.heap.size w w' := by
 have HM := Mem.start w
 have ho : bits .or .u64 (((Bg.limb N 1 : Nat) : Int) * 4294967296) ((Bg.limb N 0 : Nat) : Int) = ((Bg.limb N 1 * 4294967296 + Bg.limb N 0 : Nat) : Int) := div_or _ _ (Bg.limb_lt N 1) (Bg.limb_lt N 0)
 rw [← Bg.two_limbs hN] at ho
 have h0l := Bg.limb_lt N 0
 have h1l := Bg.limb_lt N 1
 have hc0 : LA 30 (Bg.row 32 N) 0 (.int .u32 (Bg.limb N 0 : Nat)) := la_lim N 0 Zd
 have hc1 : LA 30 (Bg.row 32 N) 1 (.int .u32 (Bg.limb N 1 : Nat)) := la_lim N 1 Zd
 generalize Bg.limb N 0 = l0 at hc0 h0l ho
 generalize Bg.limb N 1 = l1 at hc1 h1l ho
 go_enter Tryz.func207, Tryz.ntmps207
 exact z9_39
theorem sa_twom (U : Nat) (hU : U < 18446744073709551616) : SA 30 (Bg.row 32 0) 0 (.int .u32 ((U : Int) % 4294967296)) (Bg.row 32 (U % 4294967296)) ∧ SA 30 (Bg.row 32 (U % 4294967296)) 1 (.int .u32 ((U : Int) / 4294967296)) (Bg.row 32 U) := by
 constructor
 ·have := sa_lim 0 0 (U % 4294967296) (Nat.mod_lt _ Zd) Zd
  rw [Bg.setL_low] at this
  exact this
 ·have := sa_lim (U % 4294967296) 1 (U / 4294967296) Zo Zd
  rw [Bg.setL_top _ _ _ (by rw [Bg.pw_one]; omega), Bg.pw_one, show U % 4294967296 + U / 4294967296 * 4294967296 = U from by omega] at this
  exact this
set_option maxRecDepth 20000 in
theorem rsmall_any (N : Nat) (hN : N < 18446744073709551616) (w : World) :
    Calls Tryz.prog 206 #[.int .u64 (N : Nat)] w fun e w' => e = .returned (.agg (Bg.row 32 N)) ∧ Below w.heap.size w w' := by
 have HM := Mem.start w
 obtain ⟨h1, h2⟩ := sa_twom N hN
 have e4 : (N : Int) / 4294967296 % 4294967296 = (N : Int) / 4294967296 := by omega
 go_enter Tryz.func206, Tryz.ntmps206
 go_wp2_with (first | ((with_reducible refine g_ld ?_); refine a_ld HM ?_) | ((with_reducible refine g_st ?_); refine a_st HM ?_; clear HM; intro w1 HM) | ((with_reducible refine g_al ?_); refine a_al HM ?_; clear HM; intro bk w1 HM))
 refine bodyPost_ret (r_c rfl rfl (HM.get Zl) (la_arr _)) rfl ⟨rfl, HM.low⟩
end
section
theorem run_build_int1 (N : Nat) (w : World) : (Instr.build 33 #[(1, .agg (Bg.row 32 N))]).run Tryz.prog w = .ok (.agg (Bg.intA false N)) w := by
 have hf := fill_int false N
 rw [intA_set0] at hf
 have hz := Bg.zeroInt
 have hs1 := Bg.row_size 32 N
 have hs2 := Bg.intA_size false 0
 have hz2 : ∀ w, (zeroValue 33).run Tryz.prog w = .ok (.agg (Bg.intA false 0)) w := fun w => by rw [← Bg.zeroInt]; kernel_rfl
 clear hz
 simp [Instr.build, hz2, go_sem, hs1, hs2, hf, Instr.fill, Value.cells]
theorem h_b1 {o : Oper} {a : Act} {x : Operand} {N : Nat} (ho : o.op = .build 33 #[(1, x)]) (hx : a.eval x = .agg (Bg.row 32 N)) : ∀ w, (execOp a.eval o).run Tryz.prog w = .ok (.value (.agg (Bg.intA false N))) w := fun w => by
 unfold execOp
 simp only [ho, Sem.run_bind, List.map_toArray, List.map_cons, List.map_nil, hx, run_build_int1, Result.andThen_ok, Sem.run_pure]
theorem Bg.dif_mod {X b : Nat} (hb : b < Bg.lim) (h1 : b ≤ X) (h2 : X < b + b) : Bg.dif (X % Bg.lim) b = X - b := by
 unfold Bg.dif
 rcases Nat.lt_or_ge X Bg.lim with h | h
 ·rw [Nat.mod_eq_of_lt h, if_pos h1]
 ·have e : X % Bg.lim = X - Bg.lim := by rw [Nat.mod_eq_sub_mod h, Nat.mod_eq_of_lt Zo]
  rw [e]
  split <;> omega
theorem Bg.cmp_lt0 {a b : Nat} : (0 ≤ Bg.cmp a b) ↔ b ≤ a := by
 unfold Bg.cmp
 split
 ·constructor <;> intro h <;> omega
 ·split <;> constructor <;> intro h <;> omega
set_option maxRecDepth 20000 in
theorem rdivide_any (a b q r : Nat) (hb0 : 0 < b) (ha : a < Bg.lim) (hb : b < Bg.lim) (hq : Hid (q = a / b)) (hr : Hid (r = a % b)) (w : World) :
    Calls Tryz.prog 172 #[.agg (Bg.row 32 a), .agg (Bg.row 32 b)] w fun e w' => e = .returned (.tuple #[.agg (Bg.row 32 q), .agg (Bg.row 32 r)]) ∧ Below w.heap.size w w' := by
 have HM := Mem.start w
 obtain ⟨u, hu⟩ := Zh (Bg.used a)
 obtain ⟨v, hv⟩ := Zh (Bg.used b)
 have hu2 := Bg.used_two ha
 have hv2 := Bg.used_two hb
 rw [← hu.out] at hu2
 rw [← hv.out] at hv2
 go_enter Tryz.func172, Tryz.ntmps172
 go_upto_region 1 with (first | ((with_reducible refine g_ld ?_); refine a_ld HM ?_) | ((with_reducible refine g_st ?_); refine a_st HM ?_; clear HM; intro w1 HM) | ((with_reducible refine g_al ?_); refine a_al HM ?_; clear HM; intro bk w1 HM) | ((with_reducible refine g_bx ?_); refine a_bx HM ?_; clear HM; intro bk w1 HM) | ((with_reducible refine g_bld ?_); refine a_bld ?_))
 obtain ⟨br, rfl⟩ := HM.nm0
 obtain ⟨bq, rfl⟩ := HM.nm1
 obtain ⟨bb, rfl⟩ := HM.nm2
 obtain ⟨ba, rfl⟩ := HM.nm3
 by_cases hsm : a < 18446744073709551616 ∧ b < 18446744073709551616
 ·as_aux_lemma =>
  obtain ⟨ha64, hb64⟩ := hsm
  have hu3 : (u : Int) ≤ 2 := by simp [ha64] at hu2; omega
  have hv3 : (v : Int) ≤ 2 := by simp [hb64] at hv2; omega
  have hq64 : q < 18446744073709551616 := by rw [hq.out]; exact Nat.lt_of_le_of_lt (Nat.div_le_self _ _) ha64
  have hr64 : r < 18446744073709551616 := by rw [hr.out]; exact Nat.lt_of_le_of_lt (Nat.mod_le _ _) ha64
  clear hu2 hv2
  go_upto_region 2 with (first | (go_at_call 176; (with_reducible refine Zc HM (limbs_as a u hu _) ?_; clear HM; intro w2 HM)) | (go_at_call 176; (with_reducible refine Zc HM (limbs_as b v hv _) ?_; clear HM; intro w2 HM)) | (first | ((with_reducible refine g_ld ?_); refine a_ld HM ?_) | ((with_reducible refine g_st ?_); refine a_st HM ?_; clear HM; intro w1 HM) | ((with_reducible refine g_al ?_); refine a_al HM ?_; clear HM; intro bk w1 HM) | ((with_reducible refine g_bx ?_); refine a_bx HM ?_; clear HM; intro bk w1 HM) | ((with_reducible refine g_bld ?_); refine a_bld ?_)))
  clear hu3 hv3
  refine start_M [12, 13] HM Zk (fun w0x H9 => ?_)
  replace HM := H9; clear H9
  refine k_ld 0 [1, 3, 4, 5, 7, 9, 10, 11, 12, 13] (heldE HM) ?_
  refine k_ld 2 [3, 4, 5, 7, 9, 10, 11, 12, 13] (heldE HM) ?_
  refine k_ld 6 [7, 9, 10, 11, 12, 13] (heldE HM) ?_
  refine k_ld 8 [9, 10, 11, 12, 13] (heldE HM) ?_
  refine j_one 1 fun K9 hK9 => ?_
  refine j_call1 (v := ?_) HM ?_ ?_; rotate_left 1; (focus (with_reducible (first | exact rlow_any a ha64 _ | exact rlow_any b hb64 _ | exact rsmall_any q hq64 _ | exact rsmall_any r hr64 _))); clear HM; intro w1 HM
  refine hK9 _ _ (heldE HM) ?_; clear hK9 K9
  refine j_one 3 fun K9 hK9 => ?_
  refine j_call1 (v := ?_) HM ?_ ?_; rotate_left 1; (focus (with_reducible (first | exact rlow_any a ha64 _ | exact rlow_any b hb64 _ | exact rsmall_any q hq64 _ | exact rsmall_any r hr64 _))); clear HM; intro w1 HM
  refine hK9 _ _ (heldE HM) ?_; clear hK9 K9
  refine t_pure (i := 4) (v := .int .u64 (q : Nat)) rfl rfl Zk (fun _ _ _ h => h) (heldE HM) Zv ?_ ?_; (focus (exact h_bin Zv Zv Zv (by intro w9; go_simp; rw [if_neg Zo, show (a : Int) / (b : Int) = ((q : Nat) : Int) from by rw [hq.out]; rfl, IntWalk.u64_in _ Zo]))); ((try simp only [Za]); (try simp only [Zx]); (try simp only [Zy]))
  refine j_one 5 fun K9 hK9 => ?_
  refine j_call1 (v := ?_) HM ?_ ?_; rotate_left 1; (focus (with_reducible (first | exact rlow_any a ha64 _ | exact rlow_any b hb64 _ | exact rsmall_any q hq64 _ | exact rsmall_any r hr64 _))); clear HM; intro w1 HM
  refine hK9 _ _ (heldE HM) ?_; clear hK9 K9
  refine j_one 7 fun K9 hK9 => ?_
  refine j_call1 (v := ?_) HM ?_ ?_; rotate_left 1; (focus (with_reducible (first | exact rlow_any a ha64 _ | exact rlow_any b hb64 _ | exact rsmall_any q hq64 _ | exact rsmall_any r hr64 _))); clear HM; intro w1 HM
  refine hK9 _ _ (heldE HM) ?_; clear hK9 K9
  refine j_one 9 fun K9 hK9 => ?_
  refine j_call1 (v := ?_) HM ?_ ?_; rotate_left 1; (focus (with_reducible (first | exact rlow_any a ha64 _ | exact rlow_any b hb64 _ | exact rsmall_any q hq64 _ | exact rsmall_any r hr64 _))); clear HM; intro w1 HM
  refine hK9 _ _ (heldE HM) ?_; clear hK9 K9
  refine t_pure (i := 10) (v := .int .u64 (r : Nat)) rfl rfl Zk (fun _ _ _ h => h) (heldE HM) Zv ?_ ?_; (focus (exact h_bin Zv Zv Zv (by intro w9; go_simp; rw [if_neg Zo, show (a : Int).tmod (b : Int) = ((r : Nat) : Int) from by rw [hr.out]; rfl]))); ((try simp only [Za]); (try simp only [Zx]); (try simp only [Zy]))
  refine j_one 11 fun K9 hK9 => ?_
  refine j_call1 (v := ?_) HM ?_ ?_; rotate_left 1; (focus (with_reducible (first | exact rlow_any a ha64 _ | exact rlow_any b hb64 _ | exact rsmall_any q hq64 _ | exact rsmall_any r hr64 _))); clear HM; intro w1 HM
  refine hK9 _ _ (heldE HM) ?_; clear hK9 K9
  refine j_one 12 fun K9 hK9 => ?_
  refine j_st HM ?_; clear HM; intro w1 HM
  refine hK9 _ _ heldN ?_; clear hK9 K9
  refine j_one 13 fun K9 hK9 => ?_
  refine j_st HM ?_; clear HM; intro w1 HM
  refine hK9 _ _ heldN ?_; clear hK9 K9
  refine wpAnyL_done Zk ?_ _
  go_wp2_with (first | ((with_reducible refine g_ld ?_); refine a_ld HM ?_) | ((with_reducible refine g_st ?_); refine a_st HM ?_; clear HM; intro w1 HM) | ((with_reducible refine g_al ?_); refine a_al HM ?_; clear HM; intro bk w1 HM) | ((with_reducible refine g_bx ?_); refine a_bx HM ?_; clear HM; intro bk w1 HM) | ((with_reducible refine g_bld ?_); refine a_bld ?_))
  refine bodyPost_ret (r_cc (b := bq) (k := 0) (b2 := br) (k2 := 0) rfl rfl rfl (HM.get Zl) (la_arr _) (HM.get Zl) (la_arr _)) rfl ⟨rfl, HM.low⟩
 ·obtain ⟨m, hm⟩ : ∃ m : Nat, Hid (m = Bg.bl a) := ⟨_, rfl⟩
  obtain ⟨nb, hnb⟩ : ∃ m : Nat, Hid (m = Bg.bl b) := ⟨_, rfl⟩
  have hbb := (Bg.bl_bounds hb).2 Zo
  have hab := (Bg.bl_bounds ha).1
  have hm24 : m ≤ 1024 := by rw [hm.out]; exact Bg.bl_1024 ha
  have hn24 : nb ≤ 1024 := by rw [hnb.out]; exact Bg.bl_1024 hb
  rw [← hnb.out] at hbb
  rw [← hm.out] at hab
  obtain ⟨n, rfl⟩ : ∃ n, nb = n + 1 := ⟨nb - 1, by omega⟩
  rw [Nat.add_sub_cancel] at hbb
  have hbn := hbb.2
  clear hbb
  unfold Bg.p2 at hbn hab
  have hmI : Hid ((m : Int) = (Bg.bl a : Int)) := Zi (by rw [hm.out])
  have hnI : Hid (((n + 1 : Nat) : Int) = (Bg.bl b : Int)) := Zi (by rw [hnb.out])
  have hbn := Zi hbn
  have hab := Zi hab
  have e1 : ((n + 1 : Nat) : Int) - 1 = (n : Int) := by omega
  go_cut [17] (fun v wc => v = .bool false ∧ Mem w [] [(br, Bg.row 32 0), (bq, Bg.row 32 0), (bb, Bg.row 32 b), (ba, Bg.row 32 a)] wc)
  case first =>
   by_cases hua : a < 18446744073709551616
   ·have hu3 : (u : Int) ≤ 2 := by simp [hua] at hu2; omega
    have hv3 : decide ((v : Int) ≤ 2) = false := by have h : ¬ b < 18446744073709551616 := fun h => hsm ⟨hua, h⟩; simp [h] at hv2; simp; omega
    clear hsm hua hu2 hv2
    go_wp2_with (first | (go_at_call 176; (with_reducible refine Zc HM (limbs_as a u hu _) ?_; clear HM; intro w2 HM)) | (go_at_call 176; (with_reducible refine Zc HM (limbs_as b v hv _) ?_; clear HM; intro w2 HM)) | (first | ((with_reducible refine g_ld ?_); refine a_ld HM ?_) | ((with_reducible refine g_st ?_); refine a_st HM ?_; clear HM; intro w1 HM) | ((with_reducible refine g_al ?_); refine a_al HM ?_; clear HM; intro bk w1 HM) | ((with_reducible refine g_bx ?_); refine a_bx HM ?_; clear HM; intro bk w1 HM) | ((with_reducible refine g_bld ?_); refine a_bld ?_)))
    go_meet
    case rel => exact ⟨rfl, HM⟩
   ·have hu3 : decide ((u : Int) ≤ 2) = false := by simp [hua] at hu2; simp; omega
    clear hsm hua hu2 hv2
    go_wp2_with (first | (go_at_call 176; (with_reducible refine Zc HM (limbs_as a u hu _) ?_; clear HM; intro w2 HM)) | (first | ((with_reducible refine g_ld ?_); refine a_ld HM ?_) | ((with_reducible refine g_st ?_); refine a_st HM ?_; clear HM; intro w1 HM) | ((with_reducible refine g_al ?_); refine a_al HM ?_; clear HM; intro bk w1 HM) | ((with_reducible refine g_bx ?_); refine a_bx HM ?_; clear HM; intro bk w1 HM) | ((with_reducible refine g_bld ?_); refine a_bld ?_)))
    go_meet
    case rel => exact ⟨rfl, HM⟩
  case rest =>
   clear HM hsm hu2 hv2
   obtain ⟨rfl, HM⟩ := hcut
   go_step
   go_upto_region 3 with fail
   refine start_M [] HM Zk (fun w0x H9 => ?_)
   replace HM := H9; clear H9
   refine k_ld 0 [] (heldE HM) ?_
   refine t_pure (i := 1) (v := .agg (Bg.intA false a)) rfl rfl Zk (fun _ _ _ h => h) (heldE HM) Zv ?_ ?_; (focus (exact h_b1 Zv Zv)); ((try simp only [Za]); (try simp only [Zx]); (try simp only [Zy]))
   refine k_ld 3 [] (heldE HM) ?_
   refine t_pure (i := 4) (v := .agg (Bg.intA false b)) rfl rfl Zk (fun _ _ _ h => h) (heldE HM) Zv ?_ ?_; (focus (exact h_b1 Zv Zv)); ((try simp only [Za]); (try simp only [Zx]); (try simp only [Zy]))
   refine j_one 2 fun K9 hK9 => ?_
   refine j_call1 (v := ?_) HM ?_ ?_; rotate_left 1; (focus (with_reducible (first | exact rbits_any false a _ ha hmI _ | exact rbits_any false b _ hb hnI _))); clear HM; intro w1 HM
   refine hK9 _ _ (heldE HM) ?_; clear hK9 K9
   refine j_one 5 fun K9 hK9 => ?_
   refine j_call1 (v := ?_) HM ?_ ?_; rotate_left 1; (focus (with_reducible (first | exact rbits_any false a _ ha hmI _ | exact rbits_any false b _ hb hnI _))); clear HM; intro w1 HM
   refine hK9 _ _ (heldE HM) ?_; clear hK9 K9
   refine t_pure (i := 6) (v := .int .i64 (n : Nat)) rfl rfl Zk (fun _ _ _ h => h) (heldE HM) Zv ?_ ?_; (focus (exact h_bin Zv Zv Zv (by intro w9; go_simp; rw [IntWalk.i64_in _ Zo]; first | done | omega))); ((try simp only [Za]); (try simp only [Zx]); (try simp only [Zy]))
   refine k_mv 7 (heldE HM) ?_
   refine k_mv 8 (heldE HM) ?_
   refine wpAnyL_done Zk ?_ _
   clear e1
   by_cases hmn : m ≤ n
   ·as_aux_lemma =>
    have hmnI : (m : Int) ≤ (n : Int) := by omega
    have hlt : a < b := by
     have h1 := hab.out
     have h2 := hbn.out
     have h3 := Nat.pow_le_pow_right (n := 2) Zd hmn
     omega
    have hQ0 : Hid (q = 0) := Zi (by rw [hq.out, Nat.div_eq_of_lt hlt])
    have hR0 : Hid (r = a) := Zi (by rw [hr.out, Nat.mod_eq_of_lt hlt])
    clear hlt hmn
    go_upto_region 5 with fail
    refine start_M [2, 3] HM Zk (fun w0x H9 => ?_)
    replace HM := H9; clear H9
    refine k_ld 0 [2, 3] (heldE HM) ?_
    refine j_two 1 2 ?_ ?_
    ·exact z9_40
    ·exact z9_41
   ·obtain ⟨d, hd⟩ : ∃ d, Hid (m = n + d) := ⟨m - n, Zi Zo⟩
    have hd1 : 1 ≤ d := by have := hd.out; omega
    have hd24 : d ≤ 1024 := by have := hd.out; omega
    have hmnI : ¬ (m : Int) ≤ (n : Int) := by omega
    have e1 : (m : Int) - (n : Int) = (d : Int) := by have := hd.out; omega
    obtain ⟨R0, hR0⟩ := Zh (a / 2 ^ d)
    have HS0 : Hid (Bg.BdSt a b d 0 R0) := Zi (by rw [hR0.out]; exact Bg.BdSt.start hbn.out (by rw [← hd.out]; exact hab.out))
    go_upto_region 7 with (first | (go_at_call 208; (with_reducible refine Zc HM (rshifted_any a d R0 ha hd24 hR0 _) ?_; clear HM; intro w2 HM)) | (first | ((with_reducible refine g_ld ?_); refine a_ld HM ?_) | ((with_reducible refine g_st ?_); refine a_st HM ?_; clear HM; intro w1 HM) | ((with_reducible refine g_al ?_); refine a_al HM ?_; clear HM; intro bk w1 HM) | ((with_reducible refine g_bx ?_); refine a_bx HM ?_; clear HM; intro bk w1 HM) | ((with_reducible refine g_bld ?_); refine a_bld ?_)))
    clear hmn
    go_wp2_with fail
    go_loopw [8] (fun i wr => ∃ j Q R : Nat, j ≤ d ∧ i = .int .i64 (j - 1) ∧ Hid (Bg.BdSt a b j Q R) ∧ Mem w [] [(br, Bg.row 32 R), (bq, Bg.row 32 Q), (bb, Bg.row 32 b), (ba, Bg.row 32 a)] wr) (fun i _ => (intOf i + 1).toNat)
    case atStart => exact ⟨d, 0, R0, Nat.le_refl _, by go_num, HS0, HM⟩
    case round =>
     clear HM e1 hmnI HS0
     obtain ⟨j, Q, R, hjd, rfl, HS, HM⟩ := hrel
     cases j with
     | zero =>
      as_aux_lemma =>
      rw [show ((0 : Nat) : Int) - 1 = -1 from rfl]
      obtain ⟨h1, h2⟩ := HS.out.done
      have hQ0 : Hid (q = Q) := Zi (by rw [hq.out, h1])
      have hR0 : Hid (r = R) := Zi (by rw [hr.out, h2])
      clear h1 h2
      go_upto_region 15 with fail
      refine start_M [2, 3] HM Zk (fun w0x H9 => ?_)
      replace HM := H9; clear H9
      refine k_ld 0 [2, 3] (heldE HM) ?_
      refine j_two 1 2 ?_ ?_
      ·exact z9_40
      ·exact z9_41
     | succ j =>
      as_aux_lemma =>
      have e1 : ((j + 1 : Nat) : Int) - 1 = (j : Int) := by omega
      rw [e1]
      clear e1
      obtain ⟨k, hk⟩ := Zh (j / 32)
      obtain ⟨s, hs⟩ := Zh (j % 32)
      have hk32 : k < 32 := by have := hk.out; omega
      have hs32 : s < 32 := by have := hs.out; omega
      have hjk : Hid (32 * k + s = j) := Zi (by rw [hk.out, hs.out]; omega)
      have e2 : (j : Int) / 32 = (k : Int) := by rw [hk.out]; simp
      have e3 : (j : Int) % 32 = (s : Int) := by rw [hs.out]; simp
      obtain ⟨x, hx⟩ := Zh (Bg.limb a k)
      have hxl : x < 4294967296 := by rw [hx.out]; exact Bg.limb_lt _ _
      obtain ⟨y, hy⟩ := Zh (x / 2 ^ s)
      have hyl : y < 4294967296 := by rw [hy.out]; exact Nat.lt_of_le_of_lt (Nat.div_le_self _ _) hxl
      obtain ⟨c, hc⟩ := Zh (a / 2 ^ j % 2)
      have hc1 : c ≤ 1 := by rw [hc.out]; omega
      have hand : Hid (y &&& 1 = c) := Zi (by rw [hc.out, hy.out, hx.out, Bg.bit_at a k s hs32, hjk.out])
      have hRb : R < b := by rw [HS.out.r]; exact Nat.mod_lt _ hb0
      have hRl : R < Bg.lim := by omega
      obtain ⟨X, hX⟩ := Zh (2 * R + c)
      obtain ⟨Z, hZ⟩ := Zh ((2 * R + c) % Bg.lim)
      have hZl : Z < Bg.lim := by rw [hZ.out]; exact Nat.mod_lt _ (Bg.ppos 32)
      obtain ⟨F, hF⟩ := Zh (decide (Bg.lim ≤ 2 * R + c))
      have hf1 : LA 30 (Bg.row 32 a) k (.int .u32 (x : Nat)) := by rw [hx.out]; exact la_lim a k hk32
      have hq0 : (0 : Int) ≤ (k : Int) := by omega
      have hq1 : (k : Int) < 32 := by omega
      have hq2 : (0 : Int) ≤ (j : Int) := by omega
      go_upto_region 11 with fail
      refine start_M [14] HM Zk (fun w0x H9 => ?_)
      replace HM := H9; clear H9
      refine k_ld 0 [10, 11, 12, 13, 14, 15] (heldE HM) ?_
      refine k_mv 1 (heldE HM) ?_
      refine t_pure (i := 2) (v := .int .i64 (k : Nat)) rfl rfl Zk (fun _ _ _ h => h) (heldE HM) Zv ?_ ?_; (focus (exact h_bin Zv Zv Zv (by intro w9; go_simp; rw [IntWalk.i64_in _ Zo]))); ((try simp only [Za]); (try simp only [Zx]); (try simp only [Zy]))
      refine k_ia 3 (heldE HM) ?_
      refine k_ld 4 [8, 9, 10, 11, 12, 13, 14, 15] (heldE HM) ?_
      refine k_mv 5 (heldE HM) ?_
      refine t_pure (i := 6) (v := .int .i64 (s : Nat)) rfl rfl Zk (fun _ _ _ h => h) (heldE HM) Zv ?_ ?_; (focus (exact h_bin Zv Zv Zv (by intro w9; go_simp; rw [show (j : Int).tmod 32 = ((s : Nat) : Int) from by rw [hs.out]; rfl]))); ((try simp only [Za]); (try simp only [Zx]); (try simp only [Zy]))
      refine k_cv 7 (heldE HM) ?_
      refine t_pure (i := 8) (v := .int .u32 (y : Nat)) rfl rfl Zk (fun _ _ _ h => h) (heldE HM) Zv ?_ ?_; (focus (exact h_bin Zv Zv Zv (by intro w9; go_simp; rw [hy.out]; simp))); ((try simp only [Za]); (try simp only [Zx]); (try simp only [Zy]))
      refine t_pure (i := 9) (v := .int .u32 (c : Nat)) rfl rfl Zk (fun _ _ _ h => h) (heldE HM) Zv ?_ ?_; (focus (exact h_bin Zv Zv Zv (by intro w9; go_simp; rw [show (1 : Int) = ((1 : Nat) : Int) from rfl, u32_and_nat _ 1 hyl Zd, hand.out]))); ((try simp only [Za]); (try simp only [Zx]); (try simp only [Zy]))
      refine j_one 10 fun K9 hK9 => ?_
      refine j_call2 (v := ?_) HM ?_ ?_; rotate_left 1; (focus (with_reducible (first | exact rdouble_any R c Z F hRl hc1 hZ hF _))); clear HM; intro w1 HM
      refine hK9 _ _ (heldE HM) ?_; clear hK9 K9
      refine k_mv 11 (heldE HM) ?_
      refine k_ext 12 (heldE HM) ?_
      refine k_ext 13 (heldE HM) ?_
      refine j_one 14 fun K9 hK9 => ?_
      refine j_st HM ?_; clear HM; intro w1 HM
      refine hK9 _ _ heldN ?_; clear hK9 K9
      refine k_mv 15 heldN ?_
      refine wpAnyL_done Zk ?_ _
      clear hf1 hq0 hq1
      by_cases hge : b ≤ X
      ·have hXb : X < b + b := by rw [hX.out]; omega
       obtain ⟨D, hD⟩ := Zh (Bg.dif Z b)
       have hDX : D = X - b := by rw [hD.out, hZ.out, ← hX.out]; exact Bg.dif_mod hb hge hXb
       have HS2 := (HS.out.more hb0 (x := X) (by rw [hX.out, hc.out]) hge).1
       obtain ⟨hbs, hbl⟩ := Bg.bit_set Q k s hs32 (by rw [hjk.out]; exact HS.out.free)
       rw [hjk.out] at hbs
       rw [← hbs, ← hDX] at HS2
       replace HS2 := Zi HS2
       have HGE := Zi hge
       clear hbs hDX hge hXb HS
       go_upto_region 12 with fail
       go_cut [75] (fun v wc => v = .bool true ∧ Mem w [] [(br, Bg.row 32 Z), (bq, Bg.row 32 Q), (bb, Bg.row 32 b), (ba, Bg.row 32 a)] wc)
       case first =>
        by_cases hFl : Bg.lim ≤ 2 * R + c
        ·obtain rfl : F = true := by rw [hF.out]; simp [hFl]
         clear hFl
         go_wp2_with (first | ((with_reducible refine g_ld ?_); refine a_ld HM ?_) | ((with_reducible refine g_st ?_); refine a_st HM ?_; clear HM; intro w1 HM) | ((with_reducible refine g_al ?_); refine a_al HM ?_; clear HM; intro bk w1 HM) | ((with_reducible refine g_bx ?_); refine a_bx HM ?_; clear HM; intro bk w1 HM) | ((with_reducible refine g_bld ?_); refine a_bld ?_))
         go_meet
         case rel => exact ⟨rfl, HM⟩
        ·obtain rfl : F = false := by rw [hF.out]; simp [hFl]
         obtain ⟨g, hg⟩ := Zh (Bg.cmp Z b)
         have hg0 : 0 ≤ g := by
          rw [hg.out, Bg.cmp_lt0, hZ.out, Nat.mod_eq_of_lt Zo, ← hX.out]; exact HGE.out
         clear hFl
         go_wp2_with (first | (go_at_call 210; (with_reducible refine Zc HM (rcompare_any Z b g hZl hb hg _) ?_; clear HM; intro w2 HM)) | (first | ((with_reducible refine g_ld ?_); refine a_ld HM ?_) | ((with_reducible refine g_st ?_); refine a_st HM ?_; clear HM; intro w1 HM) | ((with_reducible refine g_al ?_); refine a_al HM ?_; clear HM; intro bk w1 HM) | ((with_reducible refine g_bx ?_); refine a_bx HM ?_; clear HM; intro bk w1 HM) | ((with_reducible refine g_bld ?_); refine a_bld ?_)))
         go_meet
         case rel => exact ⟨rfl, HM⟩
       case rest =>
        clear HM
        obtain ⟨rfl, HM⟩ := hcut
        go_step
        have hx2 := Bg.limb_lt Q k
        obtain ⟨y2, hy2⟩ := Zh (Bg.limb Q k)
        rw [← hy2.out] at HS2 hbl
        have hy2l : y2 < 4294967296 := by rw [hy2.out]; exact hx2
        have hf2 : LA 30 (Bg.row 32 Q) k (.int .u32 (y2 : Nat)) := by rw [hy2.out]; exact la_lim Q k hk32
        have h2s : 2 ^ s < 2 ^ 32 := Nat.pow_lt_pow_right Zo hs32
        have hf3 : SA 30 (Bg.row 32 Q) k (.int .u32 (bits .or .u32 (y2 : Int) ((2 : Int) ^ s % 4294967296))) (Bg.row 32 (Bg.setL Q k (y2 ||| 2 ^ s))) := by
         rw [show ((2 : Int) ^ s % 4294967296) = ((2 ^ s : Nat) : Int) from by
          rw [show (2 : Int) ^ s = ((2 ^ s : Nat) : Int) from by simp]
          generalize 2 ^ s = tt at h2s ⊢
          omega, u32_or_nat _ _ hy2l h2s]
         exact sa_lim Q k (y2 ||| 2 ^ s) hbl hk32
        clear h2s
        have hq0 : (0 : Int) ≤ (k : Int) := by omega
        have hq1 : (k : Int) < 32 := by omega
        go_upto_region 14 with (first | (go_at_call 174; (with_reducible refine Zc HM (rdif_any Z b D hZl hb hD _) ?_; clear HM; intro w2 HM)) | (first | ((with_reducible refine g_ld ?_); refine a_ld HM ?_) | ((with_reducible refine g_st ?_); refine a_st HM ?_; clear HM; intro w1 HM) | ((with_reducible refine g_al ?_); refine a_al HM ?_; clear HM; intro bk w1 HM) | ((with_reducible refine g_bx ?_); refine a_bx HM ?_; clear HM; intro bk w1 HM) | ((with_reducible refine g_bld ?_); refine a_bld ?_)))
        clear hx2
        have e2 : (j : Int) / 32 = (k : Int) := by rw [hk.out]; simp
        have e3 : (j : Int).tmod 32 = (s : Int) := by rw [hs.out]; rfl
        go_upto_region 9 with (first | ((with_reducible refine g_ld ?_); refine a_ld HM ?_) | ((with_reducible refine g_st ?_); refine a_st HM ?_; clear HM; intro w1 HM) | ((with_reducible refine g_al ?_); refine a_al HM ?_; clear HM; intro bk w1 HM) | ((with_reducible refine g_bx ?_); refine a_bx HM ?_; clear HM; intro bk w1 HM) | ((with_reducible refine g_bld ?_); refine a_bld ?_))
        clear hf2 hf3 e2 e3 hq0 hq1
        go_wp2_with fail
        go_roundw
        case rel => exact ⟨j, _, D, by omega, rfl, HS2, HM⟩
        case measure => simp [intOf]
      ·have hZX : Z = X := by rw [hZ.out, ← hX.out, Nat.mod_eq_of_lt Zo]
       obtain rfl : F = false := by rw [hF.out, ← hX.out]; simp; omega
       have HS2 := HS.out.less hb0 (x := X) (by rw [hX.out, hc.out]) Zo
       rw [← hZX] at HS2
       replace HS2 := Zi HS2
       obtain ⟨g, hg⟩ := Zh (Bg.cmp Z b)
       have hg0 : ¬ 0 ≤ g := by rw [hg.out, Bg.cmp_lt0, hZX]; exact hge
       clear hge hZX
       go_wp2_with (first | (go_at_call 210; (with_reducible refine Zc HM (rcompare_any Z b g hZl hb hg _) ?_; clear HM; intro w2 HM)) | (first | ((with_reducible refine g_ld ?_); refine a_ld HM ?_) | ((with_reducible refine g_st ?_); refine a_st HM ?_; clear HM; intro w1 HM) | ((with_reducible refine g_al ?_); refine a_al HM ?_; clear HM; intro bk w1 HM) | ((with_reducible refine g_bx ?_); refine a_bx HM ?_; clear HM; intro bk w1 HM) | ((with_reducible refine g_bld ?_); refine a_bld ?_)))
       go_roundw
       case rel => exact ⟨j, Q, Z, by omega, rfl, HS2, HM⟩
       case measure => simp [intOf]
end
section
theorem Mem.swap {w0 w : World} {X : List Nat} {p q : Nat × Array Value} {L : List (Nat × Array Value)} (h : Mem w0 X (p :: q :: L) w) : Mem w0 X (q :: p :: L) w :=
 ⟨h.only, fun x hx => h.blk x ((List.Perm.swap p q L).mem_iff.1 hx), fun x hx => h.own x ((List.Perm.swap p q L).mem_iff.1 hx), (((List.Perm.swap q p L).map _).nodup_iff).1 h.nod⟩
section
variable {P : Program} {md : Region.Mode} {ops : Array Oper} {Q : Exit → Act → World → Prop} {S1 S2 : World → Prop} {K : List Nat}
theorem three_L {i j k : Nat} {fuel : Nat} {listed : Array Bool} {a : Act} {w : World} (hr : (Region.ready md ops listed == [i, j, k]) = true)
    (h1 : wpOp P ops Q i (fun a' w' => Held S1 S2 K (listed.setIfInBounds i true) w' ∧ wpAnyL P md ops Q S1 S2 K fuel (listed.setIfInBounds i true) a' w') a w)
    (h2 : wpOp P ops Q j (fun a' w' => Held S1 S2 K (listed.setIfInBounds j true) w' ∧ wpAnyL P md ops Q S1 S2 K fuel (listed.setIfInBounds j true) a' w') a w)
    (h3 : wpOp P ops Q k (fun a' w' => Held S1 S2 K (listed.setIfInBounds k true) w' ∧ wpAnyL P md ops Q S1 S2 K fuel (listed.setIfInBounds k true) a' w') a w) : wpAnyL P md ops Q S1 S2 K (fuel + 1) listed a w := by
 have hr' : Region.ready md ops listed = [i, j, k] := by simpa using hr
 refine ⟨fun h0 => (by rw [h0] at hr'; cases hr'), ?_⟩
 rw [hr']
 intro l hk
 rcases List.mem_cons.1 hk with rfl | hk
 ·exact h1
 rcases List.mem_cons.1 hk with rfl | hk
 ·exact h2
 ·obtain rfl : l = k := by simpa using hk
  exact h3
end
theorem Bg.dm_raw {s t : Bool} {M N : Nat} (h0 : 0 < N) : Bg.toZ (!(s == t)) (Bg.dmQ s M N) = Bg.toZ s M / Bg.toZ t N ∧ (Bg.dmR s M N : Int) = Bg.toZ s M % Bg.toZ t N := by
 have e : ∀ a b : Bool, (!(a == b)) = (a != b) := by decide
 rw [e]
 by_cases hM : M = 0
 ·subst hM
  have h1 : Bg.dmQ s 0 N = 0 := by unfold Bg.dmQ; simp
  have h2 : Bg.dmR s 0 N = 0 := by unfold Bg.dmR; simp
  rw [h1, h2]
  cases s <;> cases t <;> simp [Bg.toZ]
 ·exact Bg.dm_eq h0 (by simp [hM]) (by simp; intro _; omega)
set_option maxRecDepth 20000 in
theorem rdivMod_any (s t : Bool) (M N : Nat) (x y : Int) (hM : M < Bg.lim) (hN : N < Bg.lim) (h0 : 0 < N) (hx : Hid (x = Bg.toZ s M / Bg.toZ t N)) (hy : Hid (y = Bg.toZ s M % Bg.toZ t N)) (w : World) :
    Calls Tryz.prog 131 #[.agg (Bg.intA s M), .agg (Bg.intA t N)] w fun e w' => e = .returned (.tuple #[.agg (Bg.zA x), .agg (Bg.zA y), .int .i64 0]) ∧ Below w.heap.size w w' := by
 have HM := Mem.start w
 obtain ⟨q, hq⟩ := Zh (M / N)
 obtain ⟨r, hr⟩ := Zh (M % N)
 obtain ⟨Q, hQ⟩ := Zh (Bg.dmQ s M N)
 obtain ⟨R, hR⟩ := Zh (Bg.dmR s M N)
 have hrN : r < N := by rw [hr.out]; exact Nat.mod_lt _ h0
 have hql : q < Bg.lim := by rw [hq.out]; exact Nat.lt_of_le_of_lt (Nat.div_le_self _ _) hM
 have hrl : r < Bg.lim := by omega
 have hz0 : Hid (false = decide (N = 0)) := Zi (by simp; omega)
 have hxQ : Hid (x = Bg.toZ (!(s == t)) Q) := Zi (by rw [hx.out, hQ.out, (Bg.dm_raw h0).1])
 have hyR : Hid (y = Bg.toZ false R) := Zi (by rw [hy.out, hR.out, ← (Bg.dm_raw h0).2]; simp [Bg.toZ])
 have hq1 : s = true → r ≠ 0 → q + 1 < Bg.lim := by
  intro _ hr0
  rw [hr.out] at hr0
  have h1 : 2 ≤ N := by
   rcases Nat.lt_or_ge N 2 with h | h
   ·exfalso; have : N = 1 := by omega
    rw [this, Nat.mod_one] at hr0; exact hr0 rfl
   ·exact h
  have h2 : M / N ≤ M / 2 := Nat.div_le_div_left h1 Zd
  rw [hq.out]; have := Bg.p2_pos 1; omega
 have hQR : (s = true ∧ r ≠ 0 → Q = q + 1 ∧ R = N - r) ∧ (¬ (s = true ∧ r ≠ 0) → Q = q ∧ R = r) := by
  constructor
  ·rintro ⟨h1, h2⟩
   rw [hQ.out, hR.out, hq.out, hr.out]
   rw [hr.out] at h2
   unfold Bg.dmQ Bg.dmR
   simp [h1, h2]
  ·intro h
   rw [hQ.out, hR.out, hq.out, hr.out]
   rw [hr.out] at h
   unfold Bg.dmQ Bg.dmR
   have h2 : (s && decide (M % N ≠ 0)) = false := by cases s <;> simp_all
   rw [h2]
   exact ⟨rfl, rfl⟩
 replace hQR := Zi hQR
 replace hq1 := Zi hq1
 clear hx hy
 go_enter Tryz.func131, Tryz.ntmps131
 go_upto_region 4 with (first | first
  | (go_at_call 171; (with_reducible refine Zc HM (zero_as N false hN hz0.out _) ?_; clear HM; intro w2 HM))
  | (go_at_call 172; (with_reducible refine Zc HM (rdivide_any M N q r h0 hM hN hq hr _) ?_; clear HM; intro w2 HM)) | (first | ((with_reducible refine g_ld ?_); refine a_ld HM ?_) | ((with_reducible refine g_st ?_); refine a_st HM ?_; clear HM; intro w1 HM) | ((with_reducible refine g_al ?_); refine a_al HM ?_; clear HM; intro bk w1 HM) | ((with_reducible refine g_bx ?_); refine a_bx HM ?_; clear HM; intro bk w1 HM) | ((with_reducible refine g_bld ?_); refine a_bld ?_)))
 obtain ⟨b8, rfl⟩ := HM.nm0
 obtain ⟨b7, rfl⟩ := HM.nm1
 obtain ⟨b5, rfl⟩ := HM.nm2
 obtain ⟨b4, rfl⟩ := HM.nm3
 have hQl : Q < Bg.lim := by
  by_cases h : s = true ∧ r ≠ 0
  ·rw [(hQR.out.1 h).1]; exact hq1.out h.1 h.2
  ·rw [(hQR.out.2 h).1]; exact hql
 have hRl : R < Bg.lim := by
  by_cases h : s = true ∧ r ≠ 0
  ·rw [(hQR.out.1 h).2]; omega
  ·rw [(hQR.out.2 h).2]; exact hrl
 cases s with
 | false =>
  obtain ⟨rfl, rfl⟩ := hQR.out.2 Zs
  clear hQR
  go_upto_region 9 with (first | ((with_reducible refine g_ld ?_); refine a_ld HM ?_) | ((with_reducible refine g_st ?_); refine a_st HM ?_; clear HM; intro w1 HM) | ((with_reducible refine g_al ?_); refine a_al HM ?_; clear HM; intro bk w1 HM) | ((with_reducible refine g_bx ?_); refine a_bx HM ?_; clear HM; intro bk w1 HM) | ((with_reducible refine g_bld ?_); refine a_bld ?_))
  refine start_M [9, 10] HM Zk (fun w0x H9 => ?_)
  replace HM := H9; clear H9
  refine k_fa 0 (heldE HM) ?_
  refine k_ld 1 [4, 6, 8, 9, 10, 11] (heldE HM) ?_
  refine k_fa 2 (heldE HM) ?_
  refine k_ld 3 [4, 6, 8, 9, 10, 11] (heldE HM) ?_
  refine t_pure (i := 4) (v := .bool (!(false == t))) rfl rfl Zk (fun _ _ _ h => h) (heldE HM) Zv ?_ ?_; (focus (exact h_bin Zv Zv Zv (by intro w9; cases t <;> (go_simp; try rfl)))); ((try simp only [Za]); (try simp only [Zx]); (try simp only [Zy]))
  refine k_ld 5 [6, 8, 9, 10, 11] (heldE HM) ?_
  refine k_ld 7 [8, 9, 10, 11] (heldE HM) ?_
  refine j_one 6 fun K9 hK9 => ?_
  refine j_call2 (v := ?_) HM ?_ ?_; rotate_left 1; (focus (with_reducible (first | exact rcanon_any (!(false == t)) Q x hQl hxQ _ | exact rcanon_any false R y hRl hyR _))); clear HM; intro w1 HM
  refine hK9 _ _ (heldE HM) ?_; clear hK9 K9
  refine j_one 8 fun K9 hK9 => ?_
  refine j_call2 (v := ?_) HM ?_ ?_; rotate_left 1; (focus (with_reducible (first | exact rcanon_any (!(false == t)) Q x hQl hxQ _ | exact rcanon_any false R y hRl hyR _))); clear HM; intro w1 HM
  refine hK9 _ _ (heldE HM) ?_; clear hK9 K9
  refine j_one 9 fun K9 hK9 => ?_
  refine j_st HM ?_; clear HM; intro w1 HM
  refine hK9 _ _ heldN ?_; clear hK9 K9
  refine j_one 10 fun K9 hK9 => ?_
  refine j_st HM ?_; clear HM; intro w1 HM
  refine hK9 _ _ heldN ?_; clear hK9 K9
  refine k_mv 11 heldN ?_
  refine wpAnyL_done Zk ?_ _
  go_wp2_with fail
  refine bodyPost_ret (r_cct (b := b4) (k := 0) (b2 := b5) (k2 := 0) rfl rfl rfl (HM.get Zl) (la_z _) (HM.get Zl) (la_z _)) rfl ⟨rfl, HM.low⟩
 | true =>
  by_cases hr0 : r = 0
  ·obtain ⟨rfl, rfl⟩ := hQR.out.2 (by simp [hr0])
   have hz1 : Hid (true = decide (R = 0)) := Zi (by simp [hr0])
   clear hQR hr0
   go_upto_region 9 with (first | (go_at_call 171; (with_reducible refine Zc HM (zero_as R true hrl hz1.out _) ?_; clear HM; intro w2 HM)) | (first | ((with_reducible refine g_ld ?_); refine a_ld HM ?_) | ((with_reducible refine g_st ?_); refine a_st HM ?_; clear HM; intro w1 HM) | ((with_reducible refine g_al ?_); refine a_al HM ?_; clear HM; intro bk w1 HM) | ((with_reducible refine g_bx ?_); refine a_bx HM ?_; clear HM; intro bk w1 HM) | ((with_reducible refine g_bld ?_); refine a_bld ?_)))
   exact z9_42
  ·obtain ⟨hQq, hRr⟩ := hQR.out.1 ⟨rfl, hr0⟩
   have hz1 : Hid (false = decide (r = 0)) := Zi (by simp [hr0])
   have hz2 : Hid (R = Bg.dif N r) := Zi (by rw [hRr]; unfold Bg.dif; rw [if_pos Zo])
   have hz3 : Hid (Q = (q + 1) % Bg.lim) := Zi (by rw [hQq, Nat.mod_eq_of_lt Zo])
   have hz4 : Hid (true = decide (q + 1 < Bg.lim)) := Zi (by simp; omega)
   have h1l : 1 < Bg.lim := small_lim Zd
   have hs1 : SA 30 (Bg.row 32 0) 0 (.int .u32 1) (Bg.row 32 1) := by
    have h := sa_lim 0 0 1 Zd Zd
    rw [Bg.setL_low] at h
    exact h
   clear hQR hr0 hQq hRr
   go_upto_region 9 with (first | first
    | (go_at_call 171; (with_reducible refine Zc HM (zero_as r false hrl hz1.out _) ?_; clear HM; intro w2 HM))
    | (go_at_call 174; (with_reducible refine Zc HM (rdif_any N r R hN hrl hz2 _) ?_; clear HM; intro w2 HM))
    | (go_at_call 175; (with_reducible refine Zc HM (rsum_any q 1 Q true hql h1l hz3 hz4 _) ?_; clear HM; intro w2 HM)) | (first | ((with_reducible refine g_ld ?_); refine a_ld HM ?_) | ((with_reducible refine g_st ?_); refine a_st HM ?_; clear HM; intro w1 HM) | ((with_reducible refine g_al ?_); refine a_al HM ?_; clear HM; intro bk w1 HM) | ((with_reducible refine g_bx ?_); refine a_bx HM ?_; clear HM; intro bk w1 HM) | ((with_reducible refine g_bld ?_); refine a_bld ?_)))
   exact z9_42
set_option maxRecDepth 20000 in
theorem rgcd_any (s t : Bool) (M N : Nat) (z : Int) (hM : M < Bg.lim) (hN : N < Bg.lim) (hz : Hid (z = (Nat.gcd M N : Nat))) (w : World) :
    Calls Tryz.prog 130 #[.agg (Bg.intA s M), .agg (Bg.intA t N)] w fun e w' => e = .returned (.agg (Bg.zA z)) ∧ Below w.heap.size w w' := by
 have HM := Mem.start w
 go_enter Tryz.func130, Tryz.ntmps130
 go_upto_region 1 with (first | ((with_reducible refine g_ld ?_); refine a_ld HM ?_) | ((with_reducible refine g_st ?_); refine a_st HM ?_; clear HM; intro w1 HM) | ((with_reducible refine g_al ?_); refine a_al HM ?_; clear HM; intro bk w1 HM) | ((with_reducible refine g_bx ?_); refine a_bx HM ?_; clear HM; intro bk w1 HM))
 obtain ⟨br, rfl⟩ := HM.nm0
 go_cut [5, 6] (fun p q wc => ∃ bm bn : Nat, p = .pointer (some ⟨bm, 0, none⟩) ∧ q = .pointer (some ⟨bn, 0, none⟩) ∧ Mem w [] [(bn, Bg.row 32 N), (bm, Bg.row 32 M), (br, Bg.zA 0)] wc)
 case first =>
  refine start_M [6, 7] HM Zk (fun w0x H9 => ?_)
  replace HM := H9; clear H9
  refine k_fa 0 (heldE HM) ?_
  refine k_ld 1 [6, 7] (heldE HM) ?_
  refine k_fa 2 (heldE HM) ?_
  refine three_L (i := 3) (j := 4) (k := 5) Zk (op_L rfl Zv ?_) (op_L rfl Zv ?_) (op_L rfl Zv ?_)
  ·refine j_ld HM ?_
   refine ⟨(heldE HM), ?_⟩
   refine j_two 4 5 ?_ ?_
   ·refine j_al HM ?_; clear HM; intro bk w1 HM
    exact z9_43
   ·refine j_al HM ?_; clear HM; intro bk w1 HM
    exact z9_44
  ·refine j_al HM ?_; clear HM; intro bk w1 HM
   refine ⟨(heldE HM), ?_⟩
   refine j_two 3 5 ?_ ?_
   ·refine j_ld HM ?_
    exact z9_43
   ·exact z9_45
  ·refine j_al HM ?_; clear HM; intro bk w1 HM
   refine ⟨(heldE HM), ?_⟩
   refine j_two 3 4 ?_ ?_
   ·refine j_ld HM ?_
    exact z9_44
   ·exact z9_45
 case rest =>
  clear HM
  obtain ⟨bm, bn, rfl, rfl, HM⟩ := hcut
  go_wp2_with fail
  go_loopg [] (N + 1) (fun g wr => ∃ A B : Nat, B + 1 ≤ g ∧ Hid (Nat.gcd A B = Nat.gcd M N) ∧ A < Bg.lim ∧ B < Bg.lim ∧ Mem w [] [(bn, Bg.row 32 B), (bm, Bg.row 32 A), (br, Bg.zA 0)] wr)
  case atStart => exact ⟨M, N, Nat.le_refl _, Zi rfl, hM, hN, HM⟩
  case round =>
   clear HM
   obtain ⟨A, B, hBg, HG, hA, hB, HM⟩ := hrel
   cases gk with
   | zero => omega
   | succ g =>
    by_cases hB0 : B = 0
    ·have hz1 : Hid (true = decide (B = 0)) := Zi (by simp [hB0])
     have hv : Hid (z = Bg.toZ false A) := Zi (by rw [hz.out, ← HG.out, hB0, Nat.gcd_zero_right]; simp [Bg.toZ])
     clear hB0
     go_wp2_with (first | first
      | (go_at_call 171; (with_reducible refine Zc HM (zero_as B true hB hz1.out _) ?_; clear HM; intro w2 HM))
      | (go_at_call 173; (with_reducible refine Zc HM (rcanon_any false A z hA hv _) ?_; clear HM; intro w2 HM)) | (first | ((with_reducible refine g_ld ?_); refine a_ld HM ?_) | ((with_reducible refine g_st ?_); refine a_st HM ?_; clear HM; intro w1 HM) | ((with_reducible refine g_al ?_); refine a_al HM ?_; clear HM; intro bk w1 HM) | ((with_reducible refine g_bx ?_); refine a_bx HM ?_; clear HM; intro bk w1 HM)))
     refine bodyPost_ret (r_c (b := br) (k := 0) rfl rfl (HM.get Zl) (la_z _)) rfl ⟨rfl, HM.low⟩
    ·have hz1 : Hid (false = decide (B = 0)) := Zi (by simp [hB0])
     have hB1 : 0 < B := by omega
     obtain ⟨q, hq⟩ := Zh (A / B)
     obtain ⟨r, hr⟩ := Zh (A % B)
     have hrB : r < B := by rw [hr.out]; exact Nat.mod_lt _ hB1
     have HG2 : Hid (Nat.gcd B r = Nat.gcd M N) := Zi (by rw [hr.out, ← HG.out, Nat.gcd_comm A B, Nat.gcd_rec B A, Nat.gcd_comm])
     clear hB0
     go_upto_region 4 with (first | first
      | (go_at_call 171; (with_reducible refine Zc HM (zero_as B false hB hz1.out _) ?_; clear HM; intro w2 HM))
      | (go_at_call 172; (with_reducible refine Zc HM (rdivide_any A B q r hB1 hA hB hq hr _) ?_; clear HM; intro w2 HM)) | (first | ((with_reducible refine g_ld ?_); refine a_ld HM ?_) | ((with_reducible refine g_st ?_); refine a_st HM ?_; clear HM; intro w1 HM) | ((with_reducible refine g_al ?_); refine a_al HM ?_; clear HM; intro bk w1 HM) | ((with_reducible refine g_bx ?_); refine a_bx HM ?_; clear HM; intro bk w1 HM)))
     refine start_M [2, 3] HM Zk (fun w0x H9 => ?_)
     replace HM := H9; clear H9
     refine k_ld 0 [2, 3] (heldE HM) ?_
     refine j_two 1 2 ?_ ?_
     ·refine j_ld HM ?_
      refine ⟨(heldE HM), ?_⟩
      refine j_one 2 fun K9 hK9 => ?_
      refine j_st HM ?_; clear HM; intro w1 HM
      exact z9_46
     ·refine j_st HM ?_; clear HM; intro w1 HM
      refine ⟨heldN, ?_⟩
      refine j_one 1 fun K9 hK9 => ?_
      refine j_ld HM ?_
      exact z9_46
end
end Go.Proofs.YtiekmabiecalbaaGreatDoor
