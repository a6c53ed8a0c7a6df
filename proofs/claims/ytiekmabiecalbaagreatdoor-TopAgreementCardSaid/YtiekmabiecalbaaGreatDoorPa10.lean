/- Walks. -/
import Derived.Test.YtiekmabiecalbaaGreatDoorPa09
namespace Go.Proofs.YtiekmabiecalbaaGreatDoor
set_option maxHeartbeats 16000000
open Go.RowKit
set_option maxRecDepth 8000
section
theorem z9_31 {P : Prop} (h : P := by
 have hlow : N % pw i + x * pw i < pw (i + 1) := lt_succ hm hx
 unfold setL
 rw [Nat.add_mul_div_right _ _ (ppos _), Nat.div_eq_of_lt hlow, Nat.zero_add]) : P := h
theorem z9_32 {P : Prop} (h : P := by
 have : 1 * B ≤ h * B := Nat.mul_le_mul_right _ hh
 omega) : P := h
theorem z9_33 {P : Prop} (h : P := by
 generalize V % pw i = vl at *
 generalize limb V i = v at *
 generalize limb U (j + i) = x at *
 generalize pw j = pj at *
 generalize pw i = pi at *
 grind) : P := h
theorem z9_34 {P : Prop} (h : P := by
 go_wp2_with fail
 go_roundw
 case rel => exact ⟨i0 + 1, hin, by go_num, HM⟩
 case measure => simp [intOf]; omega) : P := h
theorem z9_35 {P : Prop} (h : P := by
 refine hK9 _ _ heldN ?_; clear hK9 K9
 refine j_one 3 fun K9 hK9 => ?_
 refine j_st HM ?_; clear HM; intro w1 HM
 refine hK9 _ _ heldN ?_; clear hK9 K9
 refine wpAnyL_done Zk ?_ _
 (go_wp2_with fail; refine bodyPost_ret (r_cc (b := bq) (k := 0) (b2 := br) (k2 := 0) rfl rfl rfl (HM.get Zl) (la_mag _) (HM.get Zl) (la_mag _)) rfl ⟨?_, HM.low⟩; rw [hQ2.out, hW2.out])) : P := h
theorem z9_36 {P : Prop} (h : P := by
 by_cases hrm : 4294967295 < r + h
 ·have ht2 : (4294967295 : Int) < (r : Int) + (h : Int) := by omega
  go_wp2_with (first | ((with_reducible refine g_ld ?_); refine a_ld HM ?_) | ((with_reducible refine g_st ?_); refine a_st HM ?_; clear HM; intro w1 HM) | ((with_reducible refine g_al ?_); refine a_al HM ?_; clear HM; intro bk w1 HM) | ((with_reducible refine g_bld ?_); refine a_bld ?_))
  go_meet
  case rel => exact ⟨g - 1, r + h, by go_num, by go_num, Zi (HG.out.leave HF.out hh0 hnl HT.out Zo), HM⟩
 ·have ht2 : ¬ (4294967295 : Int) < (r : Int) + (h : Int) := by omega
  go_wp2_with (first | ((with_reducible refine g_ld ?_); refine a_ld HM ?_) | ((with_reducible refine g_st ?_); refine a_st HM ?_; clear HM; intro w1 HM) | ((with_reducible refine g_al ?_); refine a_al HM ?_; clear HM; intro bk w1 HM) | ((with_reducible refine g_bld ?_); refine a_bld ?_))
  go_roundw
  case rel => exact ⟨g - 1, r + h, by go_num, by go_num, Zi (HG.out.next HF.out hh0 HT.out Zo), HM⟩
  case measure => simp [intOf]; omega) : P := h
theorem z9_37 {P : Prop} (h : P := by
 rw [e2] at HM
 clear e2
 subst hs0
 cases k with
 | zero =>
  go_wp2_with fail
  go_roundw
  case rel => exact ⟨0, by omega, rfl, HM⟩
  case measure => simp [intOf]
 | succ k =>
  go_wp2_with fail
  go_roundw
  case rel => exact ⟨k + 1, by omega, by go_num, HM⟩
  case measure => simp [intOf]; omega) : P := h
end
namespace Bg
theorem pw_two (i : Nat) : pw i = 2 ^ (32 * i) := by unfold pw; rfl
theorem limb_test (N i j : Nat) : (limb N i).testBit j = (decide (j < 32) && N.testBit (j + 32 * i)) := by
 unfold limb pw
 rw [show 4294967296 = 2 ^ 32 from rfl, Nat.testBit_mod_two_pow, Nat.testBit_div_two_pow]
theorem shl_or (A i s : Nat) (hs : s < 32) (h0 : 0 < s) : limb (A * 2 ^ s) (i + 1) = (limb A (i + 1) * 2 ^ s % 4294967296) ||| (limb A i / 2 ^ (32 - s)) := by
 apply Nat.eq_of_testBit_eq
 intro j
 rw [Nat.testBit_or, limb_test, show 4294967296 = 2 ^ 32 from rfl, Nat.testBit_mod_two_pow, Nat.testBit_div_two_pow, Nat.testBit_mul_two_pow, Nat.testBit_mul_two_pow, limb_test, limb_test]
 by_cases hj : j < 32
 ·by_cases hjs : s ≤ j
  ·have e1 : ¬ (j + (32 - s) < 32) := by omega
   have e2 : s ≤ j + 32 * (i + 1) := by omega
   have e3 : j - s < 32 := by omega
   have e4 : j + 32 * (i + 1) - s = j - s + 32 * (i + 1) := by omega
   simp [hj, hjs, e1, e2, e3, e4]
  ·have e1 : j + (32 - s) < 32 := by omega
   have e2 : s ≤ j + 32 * (i + 1) := by omega
   have e4 : j + 32 * (i + 1) - s = j + (32 - s) + 32 * i := by omega
   simp [hj, hjs, e1, e2, e4]
 ·have e1 : ¬ (j + (32 - s) < 32) := by omega
  simp [hj, e1]
theorem shl_zero (A s : Nat) (hs : s < 32) : limb (A * 2 ^ s) 0 = limb A 0 * 2 ^ s % 4294967296 := by
 apply Nat.eq_of_testBit_eq
 intro j
 rw [limb_test, show 4294967296 = 2 ^ 32 from rfl, Nat.testBit_mod_two_pow, Nat.testBit_mul_two_pow, Nat.testBit_mul_two_pow, limb_test]
 by_cases hj : j < 32
 ·by_cases hjs : s ≤ j
  ·have e3 : j - s < 32 := by omega
   simp [hj, hjs, e3]
  ·simp [hjs]
 ·simp [hj]
theorem shr_or (U i s : Nat) (hs : s < 32) (h0 : 0 < s) : limb (U / 2 ^ s) i = (limb U i / 2 ^ s) ||| (limb U (i + 1) * 2 ^ (32 - s) % 4294967296) := by
 apply Nat.eq_of_testBit_eq
 intro j
 rw [Nat.testBit_or, limb_test, show 4294967296 = 2 ^ 32 from rfl, Nat.testBit_mod_two_pow, Nat.testBit_div_two_pow, Nat.testBit_div_two_pow, Nat.testBit_mul_two_pow, limb_test, limb_test]
 by_cases hj : j < 32
 ·by_cases hjs : j + s < 32
  ·have e1 : ¬ (32 - s ≤ j) := by omega
   have e4 : j + 32 * i + s = j + s + 32 * i := by omega
   simp [hj, hjs, e1, e4]
  ·have e1 : 32 - s ≤ j := by omega
   have e2 : j - (32 - s) < 32 := by omega
   have e4 : j + 32 * i + s = j - (32 - s) + 32 * (i + 1) := by omega
   simp [hj, hjs, e1, e2, e4]
 ·have hjs : ¬ (j + s < 32) := by omega
  simp [hj, hjs]
def hi (V i : Nat) : Nat := V / pw i * pw i
theorem hi_top {V n : Nat} (h : V < pw n) : hi V n = 0 := by unfold hi; rw [Nat.div_eq_of_lt h, Nat.zero_mul]
theorem hi_zero (V : Nat) : hi V 0 = V := by unfold hi; rw [pw_zero]; omega
theorem setL_twice (N i x y : Nat) (hx : x < 4294967296) : setL (setL N i x) i y = setL N i y := by
 have hm : N % pw i < pw i := Nat.mod_lt _ (ppos i)
 have h1 : setL N i x % pw i = N % pw i := by
  unfold setL
  rw [p32, show N % pw i + x * pw i + N / (pw i * 4294967296) * (pw i * 4294967296) = N % pw i + (x + N / (pw i * 4294967296) * 4294967296) * pw i from by grind]
  rw [Nat.add_mul_mod_self_right, Nat.mod_eq_of_lt hm]
 have h2 : setL N i x / pw (i + 1) = N / pw (i + 1) := by
  exact z9_31
 rw [setL, h1, h2]
 rfl
theorem low_set (N i : Nat) : setL (N % pw i) i (limb N i) = N % pw (i + 1) := by
 rw [setL_top _ _ _ (Nat.mod_lt _ (ppos i)), low_succ]
theorem hi_set (V i : Nat) : setL (hi V (i + 1)) i (limb V i) = hi V i := by
 unfold setL hi
 have h1 : V / pw (i + 1) * pw (i + 1) % pw i = 0 := by
  rw [p32, Nat.mul_comm (pw i), ← Nat.mul_assoc]
  exact Nat.mul_mod_left _ _
 rw [h1, Nat.mul_div_cancel _ (ppos _), div_step V i, p32]
 grind
theorem guess_tight {B U V h nx x u2 g r p : Nat} (hp : 0 < p)
    (hV1 : (h * B + nx) * p ≤ V) (hV2 : V < (h * B + nx + 1) * p)
    (hU1 : (x * B + u2) * p ≤ U) (hs : g * h + r = x) (ht : g * nx ≤ r * B + u2) (hg : g ≤ B) (hh : 0 < h) (hB : 0 < B) : g ≤ U / V + 1 := by
 have h1 : g * (h * B + nx) ≤ x * B + u2 := by
  rw [Nat.mul_add, ← Nat.mul_assoc]
  rw [← hs, Nat.add_mul]
  omega
 have h2 : g * (h * B + nx) * p ≤ U := Nat.le_trans (Nat.mul_le_mul_right _ h1) hU1
 have h3 : B * p ≤ V := by
  refine Nat.le_trans (Nat.mul_le_mul_right _ ?_) hV1
  exact z9_32
 have hV0 : 0 < V := Nat.lt_of_lt_of_le (Nat.mul_pos hB hp) h3
 rcases Nat.eq_zero_or_pos g with rfl | hg0
 ·exact Nat.zero_le _
 obtain ⟨g', rfl⟩ : ∃ g', g = g' + 1 := ⟨g - 1, by omega⟩
 have h4 : g' * V ≤ U := by
  have a1 : g' * V ≤ g' * ((h * B + nx) * p) + g' * p := by
   rw [← Nat.mul_add]
   refine Nat.mul_le_mul_left _ ?_
   rw [Nat.add_mul, Nat.one_mul] at hV2
   omega
  have a2 : (g' + 1) * (h * B + nx) * p = g' * ((h * B + nx) * p) + (h * B + nx) * p := by
   rw [Nat.add_mul, Nat.one_mul, Nat.add_mul, Nat.mul_assoc]
  have a3 : g' * p ≤ B * p := Nat.mul_le_mul_right _ Zo
  have a4 : B * p ≤ (h * B + nx) * p := by
   refine Nat.mul_le_mul_right _ ?_
   exact z9_32
  omega
 have : g' ≤ U / V := (Nat.le_div_iff_mul_le hV0).2 h4
 omega
theorem guess_down {B U V h nx x u2 g r p : Nat} (hp : 0 < p) (hV1 : (h * B + nx) * p ≤ V) (hU2 : U < (x * B + u2 + 1) * p)
    (hs : g * h + r = x) (hq : U / V ≤ g) (ht : r * B + u2 < g * nx) (hh : 0 < h) (hB : 0 < B) : U / V ≤ g - 1 ∧ 1 ≤ g := by
 have h0 : 1 ≤ g := by
  rcases Nat.eq_zero_or_pos g with rfl | h
  ·simp at ht
  ·exact h
 refine ⟨?_, h0⟩
 have hne : U / V ≠ g := by
  intro e
  have hV0 : 0 < V := by
   refine Nat.lt_of_lt_of_le (Nat.mul_pos ?_ hp) hV1
   exact z9_32
  have h1 : g * V ≤ U := by rw [← e]; exact Nat.div_mul_le_self _ _
  have h2 : g * ((h * B + nx) * p) ≤ g * V := Nat.mul_le_mul_left _ hV1
  have h3 : g * (h * B + nx) * p < (x * B + u2 + 1) * p := by
   rw [Nat.mul_assoc]
   omega
  have h4 := Nat.lt_of_mul_lt_mul_right h3
  rw [Nat.mul_add, ← Nat.mul_assoc] at h4
  rw [← hs, Nat.add_mul] at h4
  omega
 omega
theorem guess_first {U V h x p2 : Nat} (hV1 : h * p2 ≤ V) (hU2 : U < (x + 1) * p2) (hh : 0 < h) : U / V ≤ x / h := by
 rw [Nat.le_div_iff_mul_le hh]
 have h1 : U / V * V ≤ U := Nat.div_mul_le_self _ _
 have h2 : U / V * (h * p2) ≤ U / V * V := Nat.mul_le_mul_left _ hV1
 have h3 : U / V * h * p2 < (x + 1) * p2 := by rw [Nat.mul_assoc]; omega
 have := Nat.lt_of_mul_lt_mul_right h3
 omega
structure MsSt (U0 V g n j i U c b : Nat) : Prop where
 eq : U + g * (V % pw i) * pw j = U0 + (c + b) * pw (j + i)
 hi : U / pw (j + i) = U0 / pw (j + i)
 c : c < 4294967296
 b : b ≤ 1
 lt : U < pw (j + n + 1)
theorem MsSt.start {U0 V g n j : Nat} (h : U0 < pw (j + n + 1)) : MsSt U0 V g n j 0 U0 0 0 := ⟨by simp [pw_zero, Nat.mod_one], rfl, by decide, by decide, h⟩
theorem hi_same {U U0 k : Nat} (h : U / pw k = U0 / pw k) : limb U k = limb U0 k ∧ U / pw (k + 1) = U0 / pw (k + 1) := by
 constructor
 ·unfold limb; rw [h]
 ·rw [p32, ← Nat.div_div_eq_div_mul, ← Nat.div_div_eq_div_mul, h]
theorem setL_hi (N i x : Nat) (hx : x < 4294967296) : setL N i x / pw (i + 1) = N / pw (i + 1) := by
 have hm : N % pw i < pw i := Nat.mod_lt _ (ppos i)
 exact z9_31
theorem MsSt.step {U0 V g n j i U c b t d b2 : Nat} (h : MsSt U0 V g n j i U c b) (hi : i < n) (ht : t = g * limb V i + c) (ht2 : t < 18446744073709551616) (hd : d < 4294967296) (hb2 : b2 ≤ 1)
    (he : limb U (j + i) + b2 * 4294967296 = t % 4294967296 + b + d) : MsSt U0 V g n j (i + 1) (setL U (j + i) d) (t / 4294967296) b2 := by
 obtain ⟨h1, h2, h3, h4, h5⟩ := h
 have hx := hi_same h2
 refine ⟨?_, ?_, by omega, hb2, setL_lt _ _ _ _ hd Zo h5⟩
 ·have hs := setL_eq U (j + i) d
  have e := Nat.div_add_mod t 4294967296
  rw [low_succ, ← Nat.add_assoc, p32]
  rw [padd] at *
  generalize t / 4294967296 = q at *
  generalize t % 4294967296 = r at *
  generalize setL U (j + i) d = U2 at *
  exact z9_33
 ·rw [← Nat.add_assoc, setL_hi _ _ _ hd, hx.2]
theorem MsSt.last {U0 V g n j U c b d b2 : Nat} (h : MsSt U0 V g n j n U c b) (hV : V < pw n) (hd : d < 4294967296) (he : limb U (j + n) + b2 * 4294967296 = c + b + d) :
    setL U (j + n) d + g * V * pw j = U0 + b2 * pw (j + n + 1) ∧ setL U (j + n) d < pw (j + n + 1) := by
 obtain ⟨h1, _, _, _, h5⟩ := h
 refine ⟨?_, setL_lt _ _ _ _ hd Zo h5⟩
 have hs := setL_eq U (j + n) d
 rw [Nat.mod_eq_of_lt hV] at h1
 rw [p32]
 generalize setL U (j + n) d = U2 at *
 generalize limb U (j + n) = x at *
 generalize pw (j + n) = p at *
 generalize g * V * pw j = G at *
 grind
structure AbSt (U0 V n j i U c : Nat) : Prop where
 eq : U + c * pw (j + i) = U0 + V % pw i * pw j
 c : c ≤ 1
 lt : U < pw (j + n + 1)
theorem AbSt.start {U0 V n j : Nat} (h : U0 < pw (j + n + 1)) : AbSt U0 V n j 0 U0 0 := ⟨by simp [pw_zero, Nat.mod_one], by decide, h⟩
theorem AbSt.step {U0 V n j i U c : Nat} (h : AbSt U0 V n j i U c) (hi : i < n) :
    AbSt U0 V n j (i + 1) (setL U (j + i) ((limb U (j + i) + limb V i + c) % 4294967296)) ((limb U (j + i) + limb V i + c) / 4294967296) := by
 obtain ⟨h1, h2, h3⟩ := h
 have hx := limb_lt U (j + i)
 have hy := limb_lt V i
 have hd : (limb U (j + i) + limb V i + c) % 4294967296 < 4294967296 := Nat.mod_lt _ Zd
 refine ⟨?_, by omega, setL_lt _ _ _ _ hd Zo h3⟩
 have hs := setL_eq U (j + i) ((limb U (j + i) + limb V i + c) % 4294967296)
 have e := Nat.div_add_mod (limb U (j + i) + limb V i + c) 4294967296
 rw [low_succ, ← Nat.add_assoc, p32]
 rw [padd] at *
 generalize (limb U (j + i) + limb V i + c) / 4294967296 = q at *
 generalize (limb U (j + i) + limb V i + c) % 4294967296 = r at *
 generalize setL U (j + i) r = U2 at *
 exact z9_33
theorem AbSt.last {U0 V n j U c d : Nat} (h : AbSt U0 V n j n U c) (hV : V < pw n) (hd : d = (limb U (j + n) + c) % 4294967296) :
    ∃ e, setL U (j + n) d + e * pw (j + n + 1) = U0 + V * pw j ∧ setL U (j + n) d < pw (j + n + 1) := by
 obtain ⟨h1, h2, h3⟩ := h
 have hdl : d < 4294967296 := by rw [hd]; exact Nat.mod_lt _ Zd
 refine ⟨(limb U (j + n) + c) / 4294967296, ?_, setL_lt _ _ _ _ hdl Zo h3⟩
 have hs := setL_eq U (j + n) d
 have e := Nat.div_add_mod (limb U (j + n) + c) 4294967296
 rw [← hd] at e
 rw [Nat.mod_eq_of_lt hV] at h1
 rw [p32]
 generalize (limb U (j + n) + c) / 4294967296 = q at *
 generalize setL U (j + n) d = U2 at *
 generalize limb U (j + n) = x at *
 generalize pw (j + n) = p at *
 generalize V * pw j = G at *
 grind
structure DvSt (A V n k U Q : Nat) : Prop where
 eq : A = U + Q * V
 lt : U < V * pw k
 low : Q % pw k = 0
theorem DvSt.start {A V n k : Nat} (h : A < V * pw k) : DvSt A V n k A 0 := ⟨by simp, h, by simp⟩
theorem DvSt.fits {A V n k U Q : Nat} (h : DvSt A V n (k + 1) U Q) (hV : V < pw n) : U < pw (k + n + 1) := by
 have h1 := h.lt
 have h2 : V * pw (k + 1) ≤ pw n * pw (k + 1) := Nat.mul_le_mul_right _ (Nat.le_of_lt hV)
 rw [← padd, show n + (k + 1) = k + n + 1 from by omega] at h2
 omega
theorem DvSt.digit {A V n k U Q : Nat} (h : DvSt A V n (k + 1) U Q) : U / pw k / V < 4294967296 := by
 have hV0 : 0 < V := by
  rcases Nat.eq_zero_or_pos V with e | e
  ·have := h.lt; rw [e] at this; omega
  ·exact e
 rw [Nat.div_lt_iff_lt_mul hV0, Nat.div_lt_iff_lt_mul (ppos k)]
 have := h.lt
 rw [p32] at this
 rw [Nat.mul_comm 4294967296, Nat.mul_assoc, Nat.mul_comm 4294967296]
 exact this
theorem DvSt.step {A V n k U Q U2 : Nat} (h : DvSt A V n (k + 1) U Q) (hU : U2 + U / pw k / V * V * pw k = U) : DvSt A V n k U2 (setL Q k (U / pw k / V)) := by
 obtain ⟨h1, h2, h3⟩ := h
 have hlow : Q % pw k = 0 := by
  have := Nat.mod_mod_of_dvd Q (show pw k ∣ pw (k + 1) from ⟨4294967296, by rw [p32]⟩)
  rw [← this, h3, Nat.zero_mod]
 have hk : limb Q k = 0 := by
  have := low_succ Q k
  rw [h3, hlow] at this
  have hp := ppos k
  rcases Nat.eq_zero_or_pos (limb Q k) with e | e
  ·exact e
  ·have := Nat.mul_pos e hp; omega
 have hs := setL_eq Q k (U / pw k / V)
 rw [hk, Nat.zero_mul, Nat.add_zero] at hs
 have hV0 : 0 < V := by
  rcases Nat.eq_zero_or_pos V with e | e
  ·rw [e] at h2; omega
  ·exact e
 refine ⟨?_, ?_, ?_⟩
 ·rw [hs, h1]
  generalize U / pw k / V = q at *
  have : q * pw k * V = q * V * pw k := by rw [Nat.mul_assoc, Nat.mul_comm (pw k), ← Nat.mul_assoc]
  rw [Nat.add_mul]
  omega
 ·have e1 := Nat.div_add_mod U (pw k)
  have e2 := Nat.div_add_mod (U / pw k) V
  have m1 := Nat.mod_lt U (ppos k)
  have m2 := Nat.mod_lt (U / pw k) hV0
  have e3 : U2 = U / pw k % V * pw k + U % pw k := by
   have : U / pw k / V * V * pw k + (U / pw k % V * pw k + U % pw k) = U := by
    rw [← Nat.add_assoc, ← Nat.add_mul, Nat.mul_comm _ V, e2, Nat.mul_comm, e1]
   omega
  have e4 : (U / pw k % V + 1) * pw k ≤ V * pw k := Nat.mul_le_mul_right _ m2
  rw [Nat.add_mul, Nat.one_mul] at e4
  omega
 ·rw [hs, Nat.add_mul_mod_self_right, hlow]
theorem DvSt.done {A V n U Q : Nat} (h : DvSt A V n 0 U Q) : Q = A / V ∧ U = A % V := by
 obtain ⟨h1, h2, _⟩ := h
 rw [pw_zero, Nat.mul_one] at h2
 have hV0 : 0 < V := by omega
 subst h1
 constructor
 ·rw [Nat.add_mul_div_right _ _ hV0, Nat.div_eq_of_lt h2, Nat.zero_add]
 ·rw [Nat.add_mul_mod_self_right, Nat.mod_eq_of_lt h2]
theorem round_right {U V k n g U2 b2 : Nat} (hU2 : U2 + g * V * pw k = U + b2 * pw (k + n + 1)) (hl : U2 < pw (k + n + 1)) (h1 : U / pw k / V ≤ g) (h2 : g ≤ U / pw k / V + 1) (hV0 : 0 < V) :
    (b2 = 0 → g = U / pw k / V) ∧ (b2 = 1 → g = U / pw k / V + 1) := by
 have e1 : U / pw k * pw k ≤ U := Nat.div_mul_le_self _ _
 have e2 : U / pw k / V * V ≤ U / pw k := Nat.div_mul_le_self _ _
 have e3 : U / pw k / V * V * pw k ≤ U / pw k * pw k := Nat.mul_le_mul_right _ e2
 constructor
 ·intro hb
  subst hb
  have h3 : g * V * pw k ≤ U := by omega
  have h4 : g * V ≤ U / pw k := (Nat.le_div_iff_mul_le (ppos k)).2 h3
  have h5 : g ≤ U / pw k / V := (Nat.le_div_iff_mul_le hV0).2 h4
  omega
 ·intro hb
  subst hb
  rcases Nat.lt_or_ge (U / pw k / V) g with h | h
  ·omega
  ·exfalso
   have : g = U / pw k / V := by omega
   rw [this] at hU2
   omega
theorem round_back {U V k n g U2 U3 e : Nat} (hU2 : U2 + g * V * pw k = U + pw (k + n + 1)) (hg : g = U / pw k / V + 1) (h3 : U3 + e * pw (k + n + 1) = U2 + V * pw k) (hl : U3 < pw (k + n + 1)) (hU : U < pw (k + n + 1)) :
    U3 + U / pw k / V * V * pw k = U := by
 have e1 : U / pw k * pw k ≤ U := Nat.div_mul_le_self _ _
 have e2 : U / pw k / V * V ≤ U / pw k := Nat.div_mul_le_self _ _
 have e3 : U / pw k / V * V * pw k ≤ U / pw k * pw k := Nat.mul_le_mul_right _ e2
 rw [hg, Nat.add_mul, Nat.one_mul, Nat.add_mul] at hU2
 generalize U / pw k / V * V * pw k = q at *
 generalize V * pw k = v at *
 generalize pw (k + n + 1) = p at *
 have h4 : U3 + e * p + q = U + p := by omega
 rcases e with _ | _ | e
 ·omega
 ·omega
 ·exfalso
  have : (e + 1 + 1) * p = e * p + p + p := by grind
  omega
end Bg
namespace Bg
set_option maxRecDepth 8000
theorem div_limb (N i : Nat) : N / pw i = limb N i + 4294967296 * (N / pw (i + 1)) := by
 have e : N / pw (i + 1) = N / pw i / 4294967296 := by rw [Nat.div_div_eq_div_mul, p32]
 rw [e]
 unfold limb
 omega
structure GuF (U V n k h nx X u2 : Nat) : Prop where
 v1 : (h * 4294967296 + nx) * pw (n - 2) ≤ V
 v2 : V < (h * 4294967296 + nx + 1) * pw (n - 2)
 u1 : (X * 4294967296 + u2) * pw (n - 2) ≤ U / pw k
 u2 : U / pw k < (X * 4294967296 + u2 + 1) * pw (n - 2)
 f1 : h * pw (n - 1) ≤ V
 f2 : U / pw k < (X + 1) * pw (n - 1)
 xl : X < (h + 1) * 4294967296
 dl : U / pw k / V < 4294967296
theorem div_two {N M p : Nat} (hp : 0 < p) (h : N / p = M) : M * p ≤ N ∧ N < (M + 1) * p := by
 subst h
 refine ⟨Nat.div_mul_le_self _ _, ?_⟩
 have := Nat.lt_div_mul_add hp (a := N)
 rw [Nat.add_mul, Nat.one_mul]
 omega
theorem GuF.mk2 {A U V n k Q h nx X u2 : Nat} (hn : 2 ≤ n) (hV : V < pw n) (hS : DvSt A V n (k + 1) U Q) (hh : h = limb V (n - 1)) (hnx : nx = limb V (n - 2)) (hX : X = limb U (k + n) * 4294967296 + limb U (k + n - 1)) (hu2 : u2 = limb U (k + n - 2)) : GuF U V n k h nx X u2 := by
 have hU := hS.fits hV
 have hd := hS.digit
 have hlt := hS.lt
 have a1 := div_limb V (n - 1)
 rw [show n - 1 + 1 = n from by omega, Nat.div_eq_of_lt hV] at a1
 have a2 := div_limb V (n - 2)
 rw [show n - 2 + 1 = n - 1 from by omega, a1] at a2
 have b1 := div_limb U (k + n)
 rw [Nat.div_eq_of_lt hU] at b1
 have b2 := div_limb U (k + n - 1)
 rw [show k + n - 1 + 1 = k + n from by omega, b1] at b2
 have b3 := div_limb U (k + n - 2)
 rw [show k + n - 2 + 1 = k + n - 1 from by omega, b2] at b3
 have e2 : U / pw k / pw (n - 1) = U / pw (k + n - 1) := by rw [Nat.div_div_eq_div_mul, ← padd, show k + (n - 1) = k + n - 1 from by omega]
 have e3 : U / pw k / pw (n - 2) = U / pw (k + n - 2) := by rw [Nat.div_div_eq_div_mul, ← padd, show k + (n - 2) = k + n - 2 from by omega]
 rw [← hh] at a1 a2
 rw [← hnx] at a2
 rw [← hu2] at b3
 have b4 : U / pw (k + n - 1) = X := by omega
 have b5 : U / pw (k + n - 2) = X * 4294967296 + u2 := by omega
 have a4 : V / pw (n - 1) = h := by omega
 have a5 : V / pw (n - 2) = h * 4294967296 + nx := by omega
 obtain ⟨c1, c2⟩ := div_two (ppos (n - 1)) a4
 obtain ⟨c3, c4⟩ := div_two (ppos (n - 2)) a5
 obtain ⟨c5, c6⟩ := div_two (ppos (n - 1)) (e2.trans b4)
 obtain ⟨c7, c8⟩ := div_two (ppos (n - 2)) (e3.trans b5)
 refine ⟨c3, c4, c7, c8, c1, c6, ?_, hd⟩
 have h1 : U / pw k < V * 4294967296 := by
  rw [Nat.div_lt_iff_lt_mul (ppos k)]
  rw [p32] at hlt
  rw [Nat.mul_assoc, Nat.mul_comm 4294967296]; exact hlt
 have h2 : X * pw (n - 1) < (h + 1) * 4294967296 * pw (n - 1) := by
  have h3 : V * 4294967296 < (h + 1) * pw (n - 1) * 4294967296 := Nat.mul_lt_mul_of_pos_right c2 Zd
  rw [Nat.mul_assoc, Nat.mul_comm (pw (n - 1)), ← Nat.mul_assoc] at h3
  omega
 exact Nat.lt_of_mul_lt_mul_right h2
structure GuSt (U V n k h nx X u2 g r : Nat) : Prop where
 eq : g * h + r = X
 ge : U / pw k / V ≤ g
 r : r < 4294967296
 g : g ≤ 4294967297
structure GuEnd (U V k g : Nat) : Prop where
 ge : U / pw k / V ≤ g
 le : g ≤ U / pw k / V + 1
 lt : g < 4294967296
theorem GuSt.start {U V n k h nx X u2 : Nat} (hF : GuF U V n k h nx X u2) (hh : 2147483648 ≤ h) (hl : h < 4294967296) : GuSt U V n k h nx X u2 (X / h) (X % h) := by
 have h0 : 0 < h := by omega
 refine ⟨by rw [Nat.mul_comm]; exact Nat.div_add_mod X h, guess_first hF.f1 hF.f2 h0, by have := Nat.mod_lt X h0; omega, ?_⟩
 have h1 : X / h < 4294967298 := by
  rw [Nat.div_lt_iff_lt_mul h0]
  have := hF.xl
  omega
 omega
theorem GuSt.stop {U V n k h nx X u2 g r : Nat} (hS : GuSt U V n k h nx X u2 g r) (hF : GuF U V n k h nx X u2) (hh : 0 < h) (h1 : g < 4294967296) (h2 : g * nx ≤ r * 4294967296 + u2) : GuEnd U V k g :=
 ⟨hS.ge, guess_tight (ppos (n - 2)) hF.v1 hF.v2 hF.u1 hS.eq h2 Zo hh Zd, h1⟩
theorem GuSt.low {U V n k h nx X u2 g r : Nat} (hS : GuSt U V n k h nx X u2 g r) (hF : GuF U V n k h nx X u2) (hh : 0 < h) (h1 : 4294967296 ≤ g ∨ r * 4294967296 + u2 < g * nx) :
    U / pw k / V ≤ g - 1 ∧ 1 ≤ g := by
 rcases h1 with h1 | h1
 ·have := hF.dl; omega
 ·exact guess_down (ppos (n - 2)) hF.v1 hF.u2 hS.eq hS.ge h1 hh Zd
theorem GuSt.next {U V n k h nx X u2 g r : Nat} (hS : GuSt U V n k h nx X u2 g r) (hF : GuF U V n k h nx X u2) (hh : 0 < h) (h1 : 4294967296 ≤ g ∨ r * 4294967296 + u2 < g * nx) (hr : r + h < 4294967296) :
    GuSt U V n k h nx X u2 (g - 1) (r + h) := by
 obtain ⟨a, b⟩ := hS.low hF hh h1
 obtain ⟨g', rfl⟩ : ∃ g', g = g' + 1 := ⟨g - 1, by omega⟩
 refine ⟨?_, a, hr, by have := hS.g; omega⟩
 have := hS.eq
 rw [Nat.add_mul] at this
 simp only [Nat.add_sub_cancel]
 omega
theorem GuSt.leave {U V n k h nx X u2 g r : Nat} (hS : GuSt U V n k h nx X u2 g r) (hF : GuF U V n k h nx X u2) (hh : 0 < h) (hnx : nx < 4294967296) (h1 : 4294967296 ≤ g ∨ r * 4294967296 + u2 < g * nx) (hr : 4294967296 ≤ r + h) :
    GuEnd U V k (g - 1) := by
 obtain ⟨a, b⟩ := hS.low hF hh h1
 obtain ⟨g', rfl⟩ : ∃ g', g = g' + 1 := ⟨g - 1, by omega⟩
 simp only [Nat.add_sub_cancel] at a ⊢
 have e : g' * h + (r + h) = X := by
  have := hS.eq
  rw [Nat.add_mul] at this
  omega
 have hx := hF.xl
 have hg : g' < 4294967296 := by
  rw [Nat.add_mul] at hx
  have h2 : g' * h < 4294967296 * h := by
   have := Nat.mul_comm h 4294967296
   omega
  exact Nat.lt_of_mul_lt_mul_right h2
 refine ⟨a, guess_tight (ppos (n - 2)) hF.v1 hF.v2 hF.u1 e ?_ Zo hh Zd, hg⟩
 have h3 : g' * nx ≤ 4294967296 * 4294967296 := Nat.mul_le_mul Zo Zo
 have h4 : 4294967296 * 4294967296 ≤ (r + h) * 4294967296 := Nat.mul_le_mul_right _ hr
 omega
end Bg
section
theorem lz32_any (x s : Nat) (h0 : x < 4294967296) (hs : Hid (s + Lib.bitLen x = 32)) (w : World) :
    Calls Tryz.prog 198 #[.int .u32 (x : Nat)] w fun e w' => e = .returned (.int .i64 (s : Nat)) ∧ w' = w := by
 have hb : Lib.bitLen x ≤ 32 := bitLen_32 h0
 have HL := Zi (len32_any (x : Int) w Zo Zo)
 rw [Int.toNat_natCast] at HL
 generalize Lib.bitLen x = l at hs hb HL
 go_enter Tryz.func198, Tryz.ntmps198
 go_wp2_with (go_at_call 186; refine HL.out.mono ?_; rintro e w' ⟨rfl, rfl⟩)
 go_ret
 refine ⟨?_, rfl⟩
 have := hs.out
 rw [show (s : Int) = 32 - (l : Nat) from by omega]
 rfl
structure Norm (b n s V : Nat) : Prop where
 sl : s < 32
 v : V = b * 2 ^ s
 lt : V < Bg.pw n
 hi : 2147483648 * Bg.pw (n - 1) ≤ V
theorem norm_mk {b n s : Nat} (hb : b < Bg.lim) (hn : n = Bg.used b) (h2 : 2 ≤ n) (hs : s + Lib.bitLen (Bg.limb b (n - 1)) = 32) : Norm b n s (b * 2 ^ s) := by
 have hx := Bg.limb_lt b (n - 1)
 obtain ⟨h3, h4⟩ := bitLen_bounds hx
 have ht : Bg.limb b (n - 1) ≠ 0 := by
  rw [hn]
  rcases Bg.top_limb b 32 with h | h
  ·exfalso; unfold Bg.used at hn; omega
  ·exact h
 have h5 := h4 ht
 have h6 := bitLen_pos ht
 have hlt := Bg.used_lt hb
 rw [← hn] at hlt
 have e := Bg.low_succ b (n - 1)
 rw [show n - 1 + 1 = n from by omega, Nat.mod_eq_of_lt hlt] at e
 have hm : b % Bg.pw (n - 1) < Bg.pw (n - 1) := Nat.mod_lt _ (Bg.ppos _)
 have hp := Bg.p32 (n - 1)
 rw [show n - 1 + 1 = n from by omega] at hp
 generalize Lib.bitLen (Bg.limb b (n - 1)) = l at *
 generalize Bg.limb b (n - 1) = x at *
 have e1 : Bg.p2 l * 2 ^ s = 4294967296 := by
  unfold Bg.p2; rw [← Nat.pow_add, show l + s = 32 from by omega]
 have e2 : Bg.p2 (l - 1) * 2 ^ s = 2147483648 := by
  unfold Bg.p2; rw [← Nat.pow_add, show l - 1 + s = 31 from by omega]
 refine ⟨by omega, rfl, ?_, ?_⟩
 ·have h7 : b < (x + 1) * Bg.pw (n - 1) := by rw [Nat.add_mul, Nat.one_mul]; omega
  have h8 : b * 2 ^ s < (x + 1) * Bg.pw (n - 1) * 2 ^ s := Nat.mul_lt_mul_of_pos_right h7 (Nat.two_pow_pos _)
  have h9 : (x + 1) * Bg.pw (n - 1) * 2 ^ s ≤ Bg.p2 l * Bg.pw (n - 1) * 2 ^ s := Nat.mul_le_mul_right _ (Nat.mul_le_mul_right _ h3)
  have e3 : Bg.p2 l * Bg.pw (n - 1) * 2 ^ s = Bg.pw n := by rw [hp, Nat.mul_assoc, Nat.mul_comm (Bg.pw (n - 1)), ← Nat.mul_assoc, e1, Nat.mul_comm]
  omega
 ·have h7 : Bg.p2 (l - 1) * Bg.pw (n - 1) ≤ b := by
    have := Nat.mul_le_mul_right (Bg.pw (n - 1)) h5
    omega
  have h8 := Nat.mul_le_mul_right (2 ^ s) h7
  rw [Nat.mul_assoc, Nat.mul_comm (Bg.pw (n - 1)), ← Nat.mul_assoc, e2] at h8
  exact h8
theorem dividend_lt {a m b n s V : Nat} (ha : a < Bg.pw m) (hN : Norm b n s V) (hn : 1 ≤ n) (hmn : n ≤ m) : a * 2 ^ s < V * Bg.pw (m - n + 1) ∧ a * 2 ^ s < Bg.pw (m + 1) := by
 have h1 : 2 ^ s ≤ 2 ^ 31 := Nat.pow_le_pow_right Zd (by have := hN.sl; omega)
 have h2 : a * 2 ^ s < Bg.pw m * 2 ^ s := Nat.mul_lt_mul_of_pos_right ha (Nat.two_pow_pos _)
 have h3 : Bg.pw m * 2 ^ s ≤ Bg.pw m * 2147483648 := Nat.mul_le_mul_left _ h1
 constructor
 ·have h4 := Nat.mul_le_mul_right (Bg.pw (m - n + 1)) hN.hi
  rw [Nat.mul_assoc, ← Bg.padd, show n - 1 + (m - n + 1) = m from by omega] at h4
  omega
 ·rw [Bg.p32]
  omega
theorem row33_zero : #[Value.int .u32 0, .int .u32 0, .int .u32 0, .int .u32 0, .int .u32 0, .int .u32 0, .int .u32 0, .int .u32 0, .int .u32 0, .int .u32 0, .int .u32 0, .int .u32 0, .int .u32 0, .int .u32 0, .int .u32 0, .int .u32 0, .int .u32 0, .int .u32 0, .int .u32 0, .int .u32 0, .int .u32 0, .int .u32 0, .int .u32 0, .int .u32 0, .int .u32 0, .int .u32 0, .int .u32 0, .int .u32 0, .int .u32 0, .int .u32 0, .int .u32 0, .int .u32 0, .int .u32 0] = Bg.row 33 0 := by
 kernel_rfl
theorem za_33 : ZA 241 (Bg.row 33 0) := ⟨.agg (Bg.row 33 0), rfl, fun w => by rw [← row33_zero]; kernel_rfl⟩
theorem la_33 (N i : Nat) (h : i < 33) : LA 30 (Bg.row 33 N) i (.int .u32 (Bg.limb N i : Nat)) := LA.one Zk (Bg.row_at 33 N i h)
theorem sa_33 (N i x : Nat) (hx : x < 4294967296) (hi : i < 33) : SA 30 (Bg.row 33 N) i (.int .u32 (x : Nat)) (Bg.row 33 (Bg.setL N i x)) := by
 have h := SA.one (T := 30) (c := Bg.row 33 N) (k := i) (v := .int .u32 (x : Nat)) Zk rfl (by rw [Bg.row_size]; exact hi)
 rwa [Bg.row_set 33 N i x hx] at h
theorem add32_b (x y c : Nat) (hx : x < 4294967296) (hy : y < 4294967296) (hc : c ≤ 1) (w : World) :
    Calls Tryz.prog 200 #[.int .u32 (x : Nat), .int .u32 (y : Nat), .int .u32 (c : Nat)] w fun e w' => e = .returned (.tuple #[.int .u32 ((x + y + c) % 4294967296 : Nat), .int .u32 ((x + y + c) / 4294967296 : Nat)]) ∧ Below w.heap.size w w' :=
 (add32_any x y c hx hy hc w).mono (fun _ _ h => ⟨h.1, h.2 ▸ Below.refl _ _⟩)
set_option maxRecDepth 100000 in
theorem divide_long (ba bb a b : Nat) (ha : a < Bg.lim) (hb : b < Bg.lim) (hn2 : 4294967296 ≤ b) (hlt : ¬ a < b) (w : World) (hA : Blk w ba (Bg.row 32 a)) (hB : Blk w bb (Bg.row 32 b)) :
    Calls Tryz.prog 158 #[.pointer (some ⟨ba, 0, none⟩), .pointer (some ⟨bb, 0, none⟩)] w fun e w' => e = .returned (.tuple #[.agg (Bg.row 32 (a / b)), .agg (Bg.row 32 (a % b))]) ∧ Below w.heap.size w w' := by
 have HM := Mem.start w
 have HA := Zi hA
 have HB := Zi hB
 clear hA hB
 obtain ⟨n, hn⟩ := Zh (Bg.used b)
 obtain ⟨m, hm⟩ := Zh (Bg.used a)
 have h2n : 2 ≤ n := by
  rw [hn.out]
  have h1 := Bg.used_lt hb
  rcases Nat.lt_or_ge (Bg.used b) 2 with h | h
  ·exfalso
   have := Bg.pmono (show Bg.used b ≤ 1 by omega)
   rw [Bg.pw_one] at this
   omega
  ·exact h
 have hnm : n ≤ m := by
  rw [hn.out, hm.out]
  have h1 := Bg.used_lt ha
  rcases Bg.used_ge b with h | h
  ·omega
  ·rcases Nat.lt_or_ge (Bg.used a) (Bg.used b) with h3 | h3
   ·exfalso
    have := Bg.pmono (show Bg.used a ≤ Bg.used b - 1 by omega)
    omega
   ·exact h3
 have hm32 : m ≤ 32 := by rw [hm.out]; exact Bg.used_le a
 have haw : Hid (a < Bg.pw m) := Zi (by rw [hm.out]; exact Bg.used_lt ha)
 obtain ⟨x, hx⟩ := Zh (Bg.limb b (n - 1))
 have hxl : x < 4294967296 := by rw [hx.out]; exact Bg.limb_lt _ _
 obtain ⟨s, hs⟩ : ∃ s, Hid (s + Lib.bitLen x = 32) := ⟨32 - Lib.bitLen x, Zi (by have := bitLen_32 hxl; omega)⟩
 obtain ⟨V, hV⟩ := Zh (b * 2 ^ s)
 have HN : Hid (Norm b n s V) := Zi (by rw [hV.out]; exact norm_mk hb hn.out h2n (by rw [← hx.out]; exact hs.out))
 have hs32 := HN.out.sl
 obtain ⟨c, hcm⟩ := Zh (Bg.cmp a b)
 have hc0 : ¬ c < 0 := by rw [hcm.out]; unfold Bg.cmp; rw [if_neg hlt]; split <;> decide
 have HUA := Zi (fun w1 h1 => used_any ba a w1 h1)
 have HUB := Zi (fun w1 h1 => used_any bb b w1 h1)
 rw [← hm.out] at HUA
 rw [← hn.out] at HUB
 have hn1 : ((n : Int) == 1) = false := by simp; omega
 have hbx : LA 30 (Bg.row 32 b) (n - 1) (.int .u32 (x : Nat)) := by rw [hx.out]; exact la_lim b (n - 1) Zo
 have e1 : ((n : Int) - 1).toNat = n - 1 := by omega
 have hz33 := za_33
 go_enter Tryz.func158, Tryz.ntmps158
 go_upto_region 11 with (first | first
  | (go_at_call 161; ((with_reducible refine (HUB.out _ (HM.ro HB.out Zs)).mono ?_); rintro e9 w9 ⟨rfl, rfl⟩))
  | (go_at_call 161; ((with_reducible refine (HUA.out _ (HM.ro HA.out Zs)).mono ?_); rintro e9 w9 ⟨rfl, rfl⟩))
  | (go_at_call 156; (with_reducible refine Zc HM (compare_b ba bb a b c ha hb hcm _ (HM.ro HA.out Zs) (HM.ro HB.out Zs)) ?_; clear HM; intro w2 HM))
  | (go_at_call 198; ((with_reducible refine (lz32_any x s hxl hs _).mono ?_); rintro e9 w9 ⟨rfl, rfl⟩)) | (first | ((with_reducible refine g_ld ?_); refine a_ld HM ?_) | ((with_reducible refine g_st ?_); refine a_st HM ?_; clear HM; intro w1 HM) | ((with_reducible refine g_al ?_); refine a_al HM ?_; clear HM; intro bk w1 HM) | ((with_reducible refine g_bld ?_); refine a_bld ?_)))
 obtain ⟨bv, rfl⟩ := HM.nm0
 obtain ⟨bu, rfl⟩ := HM.nm1
 obtain ⟨br, rfl⟩ := HM.nm2
 obtain ⟨bq, rfl⟩ := HM.nm3
 clear hz33 hbx e1 hn1 hc0
 go_wp2_with fail
 go_loopw [11] (fun i wr => ∃ k : Nat, k ≤ n ∧ i = .int .i64 (k - 1) ∧ Mem w [] [(bv, Bg.row 32 (Bg.hi V k)), (bu, Bg.row 33 0), (br, Bg.row 32 0), (bq, Bg.row 32 0)] wr) (fun i _ => (intOf i + 1).toNat)
 case atStart => exact ⟨n, Nat.le_refl _, rfl, by rw [Bg.hi_top HN.out.lt]; exact HM⟩
 case round =>
  clear HM
  obtain ⟨k, hk, rfl, HM⟩ := hrel
  cases k with
  | zero =>
   rw [Bg.hi_zero] at HM
   rw [show ((0 : Nat) : Int) - 1 = -1 from rfl]
   obtain ⟨D, hD⟩ := Zh (a * 2 ^ s)
   have HD : Hid (D < V * Bg.pw (m - n + 1) ∧ D < Bg.pw (m + 1)) := Zi (by rw [hD.out]; exact dividend_lt haw.out HN.out Zo hnm)
   go_wp2_with fail
   go_loopw [12] (fun i wr => ∃ k : Nat, k ≤ m + 1 ∧ i = .int .i64 (k - 1) ∧ Mem w [] [(bv, Bg.row 32 V), (bu, Bg.row 33 (Bg.hi D k)), (br, Bg.row 32 0), (bq, Bg.row 32 0)] wr) (fun i _ => (intOf i + 1).toNat)
   case atStart => exact ⟨m + 1, Nat.le_refl _, by go_num, by rw [Bg.hi_top HD.out.2]; exact HM⟩
   case round =>
    clear HM
    obtain ⟨k, hk, rfl, HM⟩ := hrel
    cases k with
    | zero =>
     rw [Bg.hi_zero] at HM
     rw [show ((0 : Nat) : Int) - 1 = -1 from rfl]
     obtain ⟨p1, hp1⟩ : ∃ p, Hid (p + 1 = n) := ⟨n - 1, Zi Zo⟩
     obtain ⟨p2, hp2⟩ : ∃ p, Hid (p + 2 = n) := ⟨n - 2, Zi Zo⟩
     obtain ⟨h, hh⟩ := Zh (Bg.limb V p1)
     obtain ⟨nx, hnx⟩ := Zh (Bg.limb V p2)
     have hhl : h < 4294967296 := by rw [hh.out]; exact Bg.limb_lt _ _
     have hnl : nx < 4294967296 := by rw [hnx.out]; exact Bg.limb_lt _ _
     have hhg : 2147483648 ≤ h := by
      have h1 := HN.out.hi
      have h2 := HN.out.lt
      rw [hh.out]
      have e1 := hp1.out
      rw [← e1] at h1 h2
      rw [show p1 + 1 - 1 = p1 from rfl] at h1
      have e2 := Bg.div_limb V p1
      rw [Nat.div_eq_of_lt h2] at e2
      have e3 : 2147483648 ≤ V / Bg.pw p1 := (Nat.le_div_iff_mul_le (Bg.ppos _)).2 h1
      omega
     have hl1 : LA 30 (Bg.row 32 V) p1 (.int .u32 (h : Nat)) := by rw [hh.out]; exact la_lim V p1 (by have := hp1.out; omega)
     have hl2 : LA 30 (Bg.row 32 V) p2 (.int .u32 (nx : Nat)) := by rw [hnx.out]; exact la_lim V p2 (by have := hp2.out; omega)
     have hb1 : (0 : Int) ≤ (p1 : Int) := by omega
     have hb2 : (p1 : Int) < 32 := by have := hp1.out; omega
     have hb3 : (0 : Int) ≤ (p2 : Int) := by omega
     have hb4 : (p2 : Int) < 32 := by have := hp2.out; omega
     go_upto_region 24 with fail
     refine start_M [] HM Zk (fun w0x H9 => ?_)
     replace HM := H9; clear H9
     refine k_mv 0 (heldE HM) ?_
     refine t_pure (i := 1) (v := .int .i64 (p1 : Nat)) rfl rfl Zk (fun _ _ _ h => h) (heldE HM) Zv ?_ ?_; (focus (exact h_bin Zv Zv Zv (by have := hp1.out; intro w9; go_simp; rw [IntWalk.i64_in _ Zo]; omega))); ((try simp only [Za]); (try simp only [Zx]); (try simp only [Zy]))
     refine k_ia 2 (heldE HM) ?_
     refine k_ld 3 [] (heldE HM) ?_
     refine k_cv 4 (heldE HM) ?_
     refine k_mv 5 (heldE HM) ?_
     refine t_pure (i := 6) (v := .int .i64 (p2 : Nat)) rfl rfl Zk (fun _ _ _ h => h) (heldE HM) Zv ?_ ?_; (focus (exact h_bin Zv Zv Zv (by have := hp2.out; intro w9; go_simp; rw [IntWalk.i64_in _ Zo]; omega))); ((try simp only [Za]); (try simp only [Zx]); (try simp only [Zy]))
     refine k_ia 7 (heldE HM) ?_
     refine k_ld 8 [] (heldE HM) ?_
     refine k_cv 9 (heldE HM) ?_
     refine k_mv 10 (heldE HM) ?_
     refine k_mv 11 (heldE HM) ?_
     refine wpAnyL_done Zk ?_ _
     clear hl1 hl2 hb1 hb2 hb3 hb4
     go_wp2_with fail
     go_loopw [15] (fun i wr => ∃ k U Q : Nat, k ≤ m - n + 1 ∧ i = .int .i64 (k - 1) ∧ Hid (Bg.DvSt D V n k U Q) ∧ Mem w [] [(bv, Bg.row 32 V), (bu, Bg.row 33 U), (br, Bg.row 32 0), (bq, Bg.row 32 Q)] wr) (fun i _ => (intOf i + 1).toNat)
     case atStart => exact ⟨m - n + 1, D, 0, Nat.le_refl _, by go_num, Zi (Bg.DvSt.start HD.out.1), HM⟩
     case round =>
      clear HM
      obtain ⟨k, U, Q, hk, rfl, HS, HM⟩ := hrel
      cases k with
      | zero =>
       as_aux_lemma =>
        rw [show ((0 : Nat) : Int) - 1 = -1 from rfl]
        obtain ⟨hQ, hU⟩ := HS.out.done
        obtain ⟨W, hW⟩ := Zh (U / 2 ^ s)
        have hQ2 : Q = a / b := by rw [hQ, hD.out, hV.out, Nat.mul_div_mul_right _ _ (Nat.two_pow_pos _)]
        have hW2 : W = a % b := by rw [hW.out, hU, hD.out, hV.out, Nat.mul_mod_mul_right, Nat.mul_div_cancel _ (Nat.two_pow_pos _)]
        have hWl : W < Bg.pw n := by
         have h1 := HS.out.lt
         rw [Bg.pw_zero, Nat.mul_one] at h1
         have h2 := HN.out.lt
         have h3 : U / 2 ^ s ≤ U := Nat.div_le_self _ _
         rw [hW.out]; omega
        replace hQ2 := Zi hQ2
        replace hW2 := Zi hW2
        replace hWl := Zi hWl
        clear hQ hU hk HD
        go_wp2_with fail
        go_loopw [281] (fun i wr => ∃ i0 : Nat, i0 ≤ n ∧ i = .int .i64 (i0 : Nat) ∧ Mem w [] [(bv, Bg.row 32 V), (bu, Bg.row 33 U), (br, Bg.row 32 (W % Bg.pw i0)), (bq, Bg.row 32 Q)] wr) (fun i _ => (n - intOf i).toNat)
        case atStart => exact ⟨0, Nat.zero_le _, rfl, by rw [Bg.pw_zero, Nat.mod_one]; exact HM⟩
        case round =>
         clear HM
         obtain ⟨i0, hi0, rfl, HM⟩ := hrel
         by_cases hin : i0 < n
         ·have ht : (i0 : Int) < (n : Int) := by omega
          obtain ⟨y, hy⟩ := Zh (Bg.limb U i0 / 2 ^ s)
          have hyu := Bg.limb_lt U i0
          have hyl : y < 4294967296 := by rw [hy.out]; exact Nat.lt_of_le_of_lt (Nat.div_le_self _ _) hyu
          have hf1 := la_33 U i0 Zo
          have hf2 : SA 30 (Bg.row 32 (W % Bg.pw i0)) i0 (.int .u32 (((Bg.limb U i0 : Nat) : Int) / 2 ^ s)) (Bg.row 32 (Bg.setL (W % Bg.pw i0) i0 y)) := by
           have h := sa_lim (W % Bg.pw i0) i0 y hyl Zo
           rwa [show ((y : Nat) : Int) = ((Bg.limb U i0 : Nat) : Int) / 2 ^ s from by rw [hy.out]; simp] at h
          have hq0 : (0 : Int) ≤ (i0 : Int) := by omega
          have hq1 : (i0 : Int) < 32 := by omega
          have hq2 : (i0 : Int) < 33 := by omega
          go_upto_region 58 with (first | ((with_reducible refine g_ld ?_); refine a_ld HM ?_) | ((with_reducible refine g_st ?_); refine a_st HM ?_; clear HM; intro w1 HM) | ((with_reducible refine g_al ?_); refine a_al HM ?_; clear HM; intro bk w1 HM) | ((with_reducible refine g_bld ?_); refine a_bld ?_))
          clear hf1 hf2
          rcases Nat.eq_zero_or_pos s with hs0 | hs0
          ·have e2 : Bg.setL (W % Bg.pw i0) i0 y = W % Bg.pw (i0 + 1) := by
             rw [hy.out, ← Bg.low_set W i0, hW.out, hs0, Nat.pow_zero, Nat.div_one, Nat.div_one]
           rw [e2] at HM
           clear e2
           subst hs0
           exact z9_34
          ·go_upto_region 59 with fail
           have hl0 : LA 30 (Bg.row 32 (Bg.setL (W % Bg.pw i0) i0 y)) i0 (.int .u32 (y : Nat)) := by
            have h := la_lim (Bg.setL (W % Bg.pw i0) i0 y) i0 Zo
            rwa [Bg.setL_limb _ _ _ _ hyl, if_pos rfl] at h
           have hl1 := la_33 U (i0 + 1) Zo
           obtain ⟨z, hz⟩ := Zh (Bg.limb U (i0 + 1) * 2 ^ (32 - s) % 4294967296)
           have hzl : z < 4294967296 := by rw [hz.out]; exact Nat.mod_lt _ Zd
           have hol : y ||| z < 4294967296 := by have := Nat.or_lt_two_pow (n := 32) (x := y) (y := z) Zo Zo; omega
           have hso := sa_lim (Bg.setL (W % Bg.pw i0) i0 y) i0 (y ||| z) hol Zo
           have e2 : Bg.setL (Bg.setL (W % Bg.pw i0) i0 y) i0 (y ||| z) = W % Bg.pw (i0 + 1) := by
            rw [Bg.setL_twice _ _ _ _ hyl, hy.out, hz.out, ← Bg.shr_or U i0 s hs32 hs0, ← hW.out, Bg.low_set]
           rw [e2] at hso
           clear e2
           have hsh : (32 : Int) - (s : Int) = ((32 - s : Nat) : Int) := by omega
           have hq3 : (0 : Int) ≤ (i0 : Int) + 1 := by omega
           have hq4 : (i0 : Int) + 1 < 33 := by omega
           refine start_M [12] HM Zk (fun w0x H9 => ?_)
           replace HM := H9; clear H9
           refine k_mv 0 (heldE HM) ?_
           refine k_ia 1 (heldE HM) ?_
           refine k_ld 2 [10, 11, 12] (heldE HM) ?_
           refine k_mv 3 (heldE HM) ?_
           refine k_add 4 (heldE HM) ?_
           refine k_ia 5 (heldE HM) ?_
           refine k_ld 6 [9, 10, 11, 12] (heldE HM) ?_
           refine k_mv 7 (heldE HM) ?_
           refine k_sub 8 (heldE HM) ?_
           refine t_pure (i := 9) (v := .int .u32 (z : Nat)) rfl rfl Zk (fun _ _ _ h => h) (heldE HM) Zv ?_ ?_; (focus (exact h_bin Zv Zv Zv (by intro w9; go_simp; rw [hz.out, IntKind.wrap_u32]; simp))); ((try simp only [Za]); (try simp only [Zx]); (try simp only [Zy]))
           refine t_pure (i := 10) (v := .int .u32 ((y ||| z : Nat) : Int)) rfl rfl Zk (fun _ _ _ h => h) (heldE HM) Zv ?_ ?_; (focus (exact h_bin Zv Zv Zv (by intro w9; go_simp; rw [u32_or_nat _ _ hyl hzl]))); ((try simp only [Za]); (try simp only [Zx]); (try simp only [Zy]))
           refine k_ia 11 (heldE HM) ?_
           refine j_one 12 fun K9 hK9 => ?_
           refine j_st HM ?_; clear HM; intro w1 HM
           refine hK9 _ _ heldN ?_; clear hK9 K9
           refine wpAnyL_done Zk ?_ _
           exact z9_34
         ·obtain rfl : i0 = n := by omega
          rw [Nat.mod_eq_of_lt hWl.out] at HM
          go_upto_region 61 with fail
          have hlq := la_mag Q
          have hlr := la_mag W
          refine start_M [2, 3] HM Zk (fun w0x H9 => ?_)
          replace HM := H9; clear H9
          refine k_ld 0 [2, 3] (heldE HM) ?_
          refine j_two 1 2 ?_ ?_
          ·refine j_ld HM ?_
           refine ⟨(heldE HM), ?_⟩
           refine j_one 2 fun K9 hK9 => ?_
           refine j_st HM ?_; clear HM; intro w1 HM
           exact z9_35
          ·refine j_st HM ?_; clear HM; intro w1 HM
           refine ⟨heldN, ?_⟩
           refine j_one 1 fun K9 hK9 => ?_
           refine j_ld HM ?_
           exact z9_35
      | succ k =>
       have e1 : ((k + 1 : Nat) : Int) - 1 = (k : Int) := by omega
       rw [e1]
       clear e1
       as_aux_lemma =>
        obtain ⟨b0, hb0⟩ := Zh (k + n)
        obtain ⟨b1, hb1⟩ : ∃ b, Hid (b + 1 = k + n) := ⟨k + n - 1, Zi Zo⟩
        obtain ⟨b2, hb2⟩ : ∃ b, Hid (b + 2 = k + n) := ⟨k + n - 2, Zi Zo⟩
        obtain ⟨x0, hx0⟩ := Zh (Bg.limb U b0)
        obtain ⟨x1, hx1⟩ := Zh (Bg.limb U b1)
        obtain ⟨x2, hx2⟩ := Zh (Bg.limb U b2)
        have hl0 : x0 < 4294967296 := by rw [hx0.out]; exact Bg.limb_lt _ _
        have hl1 : x1 < 4294967296 := by rw [hx1.out]; exact Bg.limb_lt _ _
        have hl2 : x2 < 4294967296 := by rw [hx2.out]; exact Bg.limb_lt _ _
        have hy0 : b0 < 33 := by have := hb0.out; omega
        have hy1 : b1 < 33 := by have := hb1.out; omega
        have hy2 : b2 < 33 := by have := hb2.out; omega
        have hf0 : LA 30 (Bg.row 33 U) b0 (.int .u32 (x0 : Nat)) := by rw [hx0.out]; exact la_33 U b0 hy0
        have hf1 : LA 30 (Bg.row 33 U) b1 (.int .u32 (x1 : Nat)) := by rw [hx1.out]; exact la_33 U b1 hy1
        obtain ⟨X, hX⟩ := Zh (x0 * 4294967296 + x1)
        have HF : Hid (Bg.GuF U V n k h nx X x2) := Zi (Bg.GuF.mk2 Zo HN.out.lt HS.out
         (by rw [hh.out, show n - 1 = p1 from by have := hp1.out; omega]) (by rw [hnx.out, show n - 2 = p2 from by have := hp2.out; omega])
         (by rw [hX.out, hx0.out, hx1.out, hb0.out, show k + n - 1 = b1 from by have := hb1.out; omega]) (by rw [hx2.out, show k + n - 2 = b2 from by have := hb2.out; omega]))
        have hq0 : (0 : Int) ≤ (b0 : Int) := by omega
        have hq1 : (b0 : Int) < 33 := by omega
        have hq2 : (0 : Int) ≤ (b1 : Int) := by omega
        have hq3 : (b1 : Int) < 33 := by omega
        have hj0 : (0 : Int) ≤ (k : Int) := by omega
        go_upto_region 28 with fail
        refine start_M [] HM Zk (fun w0x H9 => ?_)
        replace HM := H9; clear H9
        refine k_mv 0 (heldE HM) ?_
        refine k_mv 1 (heldE HM) ?_
        refine t_pure (i := 2) (v := .int .i64 (b0 : Nat)) rfl rfl Zk (fun _ _ _ h => h) (heldE HM) Zv ?_ ?_; (focus (exact h_bin Zv Zv Zv (by have := hb0.out; intro w9; go_simp; rw [IntWalk.i64_in _ Zo]; first | done | omega))); ((try simp only [Za]); (try simp only [Zx]); (try simp only [Zy]))
        refine k_ia 3 (heldE HM) ?_
        refine k_ld 4 [] (heldE HM) ?_
        refine k_cv 5 (heldE HM) ?_
        refine t_pure (i := 6) (v := .int .u64 ((x0 * 4294967296 : Nat) : Int)) rfl rfl Zk (fun _ _ _ h => h) (heldE HM) Zv ?_ ?_; (focus (exact h_bin Zv Zv Zv (by intro w9; go_simp; rw [IntWalk.u64_in _ Zo]))); ((try simp only [Za]); (try simp only [Zx]); (try simp only [Zy]))
        refine k_mv 7 (heldE HM) ?_
        refine k_mv 8 (heldE HM) ?_
        refine t_pure (i := 9) (v := .int .i64 (b0 : Nat)) rfl rfl Zk (fun _ _ _ h => h) (heldE HM) Zv ?_ ?_; (focus (exact h_bin Zv Zv Zv (by have := hb0.out; intro w9; go_simp; rw [IntWalk.i64_in _ Zo]; first | done | omega))); ((try simp only [Za]); (try simp only [Zx]); (try simp only [Zy]))
        refine t_pure (i := 10) (v := .int .i64 (b1 : Nat)) rfl rfl Zk (fun _ _ _ h => h) (heldE HM) Zv ?_ ?_; (focus (exact h_bin Zv Zv Zv (by have := hb1.out; have := hb0.out; intro w9; go_simp; rw [IntWalk.i64_in _ Zo]; omega))); ((try simp only [Za]); (try simp only [Zx]); (try simp only [Zy]))
        refine k_ia 11 (heldE HM) ?_
        refine k_ld 12 [] (heldE HM) ?_
        refine k_cv 13 (heldE HM) ?_
        refine t_pure (i := 14) (v := .int .u64 (X : Nat)) rfl rfl Zk (fun _ _ _ h => h) (heldE HM) Zv ?_ ?_; (focus (exact h_bin Zv Zv Zv (by intro w9; go_simp; rw [hX.out]; exact div_or x0 x1 hl0 hl1))); ((try simp only [Za]); (try simp only [Zx]); (try simp only [Zy]))
        refine k_mv 15 (heldE HM) ?_
        refine wpAnyL_done Zk ?_ _
        clear hf0 hf1 hq0 hq1 hq2 hq3
        go_upto_region 29 with fail
        have hXl : X < 18446744073709551616 := by rw [hX.out]; omega
        obtain ⟨g, hg⟩ := Zh (X / h)
        obtain ⟨r, hr⟩ := Zh (X % h)
        have hgl : g < 18446744073709551616 := by rw [hg.out]; exact Nat.lt_of_le_of_lt (Nat.div_le_self _ _) hXl
        refine start_M [] HM Zk (fun w0x H9 => ?_)
        replace HM := H9; clear H9
        refine k_mv 0 (heldE HM) ?_
        refine k_mv 1 (heldE HM) ?_
        refine t_pure (i := 2) (v := .int .u64 (g : Nat)) rfl rfl Zk (fun _ _ _ h => h) (heldE HM) Zv ?_ ?_; (focus (exact h_bin Zv Zv Zv (by intro w9; go_simp; rw [if_neg Zo, show (X : Int) / (h : Int) = ((g : Nat) : Int) from by rw [hg.out]; rfl, IntWalk.u64_in _ Zo]))); ((try simp only [Za]); (try simp only [Zx]); (try simp only [Zy]))
        refine k_mv 3 (heldE HM) ?_
        refine k_mv 4 (heldE HM) ?_
        refine t_pure (i := 5) (v := .int .u64 (r : Nat)) rfl rfl Zk (fun _ _ _ h => h) (heldE HM) Zv ?_ ?_; (focus (exact h_bin Zv Zv Zv (by intro w9; go_simp; rw [if_neg Zo, show (X : Int).tmod (h : Int) = ((r : Nat) : Int) from by rw [hr.out]; rfl]))); ((try simp only [Za]); (try simp only [Zx]); (try simp only [Zy]))
        refine k_mv 6 (heldE HM) ?_
        refine k_mv 7 (heldE HM) ?_
        refine wpAnyL_done Zk ?_ _
        have HG : Hid (Bg.GuSt U V n k h nx X x2 g r) := Zi (by rw [hg.out, hr.out]; exact Bg.GuSt.start HF.out hhg hhl)
        clear hg hr
        go_upto_block 7 with fail
        go_cut [17, 18] from 145 to 279 (fun i i2 wc => ∃ g r : Nat, i = .int .u64 (g : Nat) ∧ i2 = .int .u64 (r : Nat) ∧ Hid (Bg.GuEnd U V k g) ∧ Mem w [] [(bv, Bg.row 32 V), (bu, Bg.row 33 U), (br, Bg.row 32 0), (bq, Bg.row 32 Q)] wc)
        case first =>
         as_aux_lemma =>
          go_wp2_with fail
          go_loopw [17, 18] (fun i i2 wr => ∃ g r : Nat, i = .int .u64 (g : Nat) ∧ i2 = .int .u64 (r : Nat) ∧ Hid (Bg.GuSt U V n k h nx X x2 g r) ∧ Mem w [] [(bv, Bg.row 32 V), (bu, Bg.row 33 U), (br, Bg.row 32 0), (bq, Bg.row 32 Q)] wr) (fun i _ _ => (intOf i).toNat)
          case atStart => exact ⟨g, r, rfl, rfl, HG, HM⟩
          case round =>
           clear HM HG hgl
           obtain ⟨g, r, rfl, rfl, HG, HM⟩ := hrel
           have hgg := HG.out.g
           have hrr := HG.out.r
           have hh0 : 0 < h := by omega
           by_cases hgm : 4294967295 < g
           ·have ht : (4294967295 : Int) < (g : Int) := by omega
            have HT : Hid (4294967296 ≤ g ∨ r * 4294967296 + x2 < g * nx) := Zi (.inl Zo)
            exact z9_36
           ·have ht : ¬ (4294967295 : Int) < (g : Int) := by omega
            obtain ⟨P, hP⟩ := Zh (g * nx)
            obtain ⟨R, hR⟩ := Zh (r * 4294967296 + x2)
            have hPl : P < 18446744073709551616 := by
             have h1 : g * nx ≤ 4294967295 * 4294967295 := Nat.mul_le_mul Zo Zo
             rw [hP.out]; omega
            have hRl : R < 18446744073709551616 := by rw [hR.out]; omega
            have hf2 : LA 30 (Bg.row 33 U) b2 (.int .u32 (x2 : Nat)) := by rw [hx2.out]; exact la_33 U b2 hy2
            have hmul : (g : Int) * (nx : Int) = (P : Int) := by rw [hP.out]; simp
            have hor : bits .or .u64 ((r : Int) * 4294967296) (x2 : Int) = (R : Int) := by rw [hR.out]; exact div_or r x2 hrr hl2
            have hbs : (k : Int) + (n : Int) - 2 = (b2 : Int) := by have := hb2.out; omega
            have hq0 : (0 : Int) ≤ (b2 : Int) := by omega
            have hq1 : (b2 : Int) < 33 := by omega
            by_cases hRP : R < P
            ·have ht3 : (R : Int) < (P : Int) := by omega
             have HT : Hid (4294967296 ≤ g ∨ r * 4294967296 + x2 < g * nx) := Zi (.inr (by rw [← hP.out, ← hR.out]; exact hRP))
             go_upto_region 31 with (first | ((with_reducible refine g_ld ?_); refine a_ld HM ?_) | ((with_reducible refine g_st ?_); refine a_st HM ?_; clear HM; intro w1 HM) | ((with_reducible refine g_al ?_); refine a_al HM ?_; clear HM; intro bk w1 HM) | ((with_reducible refine g_bld ?_); refine a_bld ?_))
             clear hmul hor hbs hf2 hq0 hq1 ht3 ht
             have hg1 := (HG.out.low HF.out hh0 HT.out).2
             exact z9_36
            ·have ht3 : ¬ (R : Int) < (P : Int) := by omega
             go_wp2_with (first | ((with_reducible refine g_ld ?_); refine a_ld HM ?_) | ((with_reducible refine g_st ?_); refine a_st HM ?_; clear HM; intro w1 HM) | ((with_reducible refine g_al ?_); refine a_al HM ?_; clear HM; intro bk w1 HM) | ((with_reducible refine g_bld ?_); refine a_bld ?_))
             go_meet
             case rel => exact ⟨g, r, rfl, rfl, Zi (HG.out.stop HF.out hh0 Zo (by rw [← hP.out, ← hR.out]; omega)), HM⟩
        case rest =>
         clear HM HG hgl
         obtain ⟨g, r, rfl, rfl, HE, HM⟩ := hcut
         have hgl := HE.out.lt
         have HU := Zi (HS.out.fits HN.out.lt)
         go_wp2_with fail
         go_loopw [196, 19, 20] (fun i i2 i3 wr => ∃ i0 U2 cy bw : Nat, i0 ≤ n ∧ i = .int .i64 (i0 : Nat) ∧ i2 = .int .u32 (bw : Nat) ∧ i3 = .int .u64 (cy : Nat) ∧ Hid (Bg.MsSt U V g n k i0 U2 cy bw) ∧ Mem w [] [(bv, Bg.row 32 V), (bu, Bg.row 33 U2), (br, Bg.row 32 0), (bq, Bg.row 32 Q)] wr) (fun i _ _ _ => (n - intOf i).toNat)
         case atStart => exact ⟨0, U, 0, 0, Nat.zero_le _, rfl, rfl, rfl, Zi (Bg.MsSt.start HU.out), HM⟩
         case round =>
          clear HM
          obtain ⟨i0, U2, cy, bw, hi0, rfl, rfl, rfl, HT, HM⟩ := hrel
          have hcy := HT.out.c
          have hbw := HT.out.b
          by_cases hin : i0 < n
          ·have ht : (i0 : Int) < (n : Int) := by omega
           obtain ⟨v, hv⟩ := Zh (Bg.limb V i0)
           have hvl : v < 4294967296 := by rw [hv.out]; exact Bg.limb_lt _ _
           obtain ⟨ik, hik⟩ := Zh (k + i0)
           have hik33 : ik < 33 := by have := hik.out; omega
           obtain ⟨y, hy⟩ := Zh (Bg.limb U2 ik)
           have hyl : y < 4294967296 := by rw [hy.out]; exact Bg.limb_lt _ _
           obtain ⟨P, hP⟩ := Zh (g * v)
           have hPl : P ≤ 18446744065119617025 := by
            have h1 : g * v ≤ 4294967295 * 4294967295 := Nat.mul_le_mul Zo Zo
            rw [hP.out]; omega
           obtain ⟨tt, htt⟩ := Zh (P + cy)
           have htl : tt < 18446744073709551616 := by rw [htt.out]; omega
           obtain ⟨t0, ht0⟩ := Zh (tt % 4294967296)
           obtain ⟨t1, ht1⟩ := Zh (tt / 4294967296)
           have ht0l : t0 < 4294967296 := by rw [ht0.out]; exact Nat.mod_lt _ Zd
           have HB := Zi (sub32_any y t0 bw hyl ht0l hbw)
           obtain ⟨d, hd⟩ := Zh ((y + 4294967296 - t0 + 4294967296 - bw) % 4294967296)
           obtain ⟨bw2, hbw2⟩ := Zh (Bg.brw y t0 bw)
           have hq := Bg.brw_eq y t0 bw hyl ht0l hbw
           rw [← hd.out, ← hbw2.out] at HB hq
           have hdl : d < 4294967296 := by rw [hd.out]; exact Nat.mod_lt _ Zd
           have hb2l : bw2 ≤ 1 := by omega
           have HT2 := Zi (HT.out.step hin (t := tt) (d := d) (b2 := bw2) (by rw [htt.out, hP.out, hv.out]) htl hdl hb2l (by rw [← hik.out, ← hy.out, ← ht0.out]; omega))
           rw [← hik.out, ← ht1.out] at HT2
           have hf1 : LA 30 (Bg.row 32 V) i0 (.int .u32 (v : Nat)) := by rw [hv.out]; exact la_lim V i0 Zo
           have hf2 : LA 30 (Bg.row 33 U2) ik (.int .u32 (y : Nat)) := by rw [hy.out]; exact la_33 U2 ik hik33
           have hf3 := sa_33 U2 ik d hdl hik33
           have e1 : (g : Int) * (v : Int) = (P : Int) := by rw [hP.out]; simp
           have e2 : (P : Int) + (cy : Int) = (tt : Int) := by rw [htt.out]; simp
           have e3 : (tt : Int) / 4294967296 = (t1 : Int) := by rw [ht1.out]; simp
           have e4 : (tt : Int) % 4294967296 = (t0 : Int) := by rw [ht0.out]; simp
           have e5 : (i0 : Int) + (k : Int) = (ik : Int) := by have := hik.out; omega
           have hq0 : (0 : Int) ≤ (i0 : Int) := by omega
           have hq1 : (i0 : Int) < 32 := by omega
           have hq2 : (0 : Int) ≤ (ik : Int) := by omega
           have hq3 : (ik : Int) < 33 := by omega
           clear hq
           as_aux_lemma =>
            go_upto_region 42 with (first | (go_at_call 199; ((with_reducible refine (HB.out _).mono ?_); rintro e9 w9 ⟨rfl, rfl⟩)) | (first | ((with_reducible refine g_ld ?_); refine a_ld HM ?_) | ((with_reducible refine g_st ?_); refine a_st HM ?_; clear HM; intro w1 HM) | ((with_reducible refine g_al ?_); refine a_al HM ?_; clear HM; intro bk w1 HM) | ((with_reducible refine g_bld ?_); refine a_bld ?_)))
            clear e1 e2 e3 e4 e5 hq0 hq1 hq2 hq3 hf1 hf2 hf3
            go_wp2_with fail
            go_roundw
            case rel => exact ⟨i0 + 1, _, t1, bw2, hin, by go_num, rfl, rfl, HT2, HM⟩
            case measure => simp [intOf]; omega
          ·obtain rfl : i0 = n := by omega
           obtain ⟨y, hy⟩ := Zh (Bg.limb U2 b0)
           have hyl : y < 4294967296 := by rw [hy.out]; exact Bg.limb_lt _ _
           have HB := Zi (sub32_any y cy bw hyl hcy hbw)
           obtain ⟨d, hd⟩ := Zh ((y + 4294967296 - cy + 4294967296 - bw) % 4294967296)
           obtain ⟨bw2, hbw2⟩ := Zh (Bg.brw y cy bw)
           have hq := Bg.brw_eq y cy bw hyl hcy hbw
           rw [← hd.out, ← hbw2.out] at HB hq
           have hdl : d < 4294967296 := by rw [hd.out]; exact Nat.mod_lt _ Zd
           have hb2l : bw2 ≤ 1 := by omega
           have HT2 := Zi (HT.out.last HN.out.lt (d := d) (b2 := bw2) hdl (by rw [← hb0.out, ← hy.out]; omega))
           rw [← hb0.out] at HT2
           have hf2 : LA 30 (Bg.row 33 U2) b0 (.int .u32 (y : Nat)) := by rw [hy.out]; exact la_33 U2 b0 hy0
           have hf3 := sa_33 U2 b0 d hdl hy0
           have e4 : (cy : Int) % 4294967296 = (cy : Int) := by omega
           have e5 : (k : Int) + (i0 : Int) = (b0 : Int) := by have := hb0.out; omega
           have hq2 : (0 : Int) ≤ (b0 : Int) := by omega
           have hq3 : (b0 : Int) < 33 := by omega
           clear hq
           go_upto_region 44 with (first | (go_at_call 199; ((with_reducible refine (HB.out _).mono ?_); rintro e9 w9 ⟨rfl, rfl⟩)) | (first | ((with_reducible refine g_ld ?_); refine a_ld HM ?_) | ((with_reducible refine g_st ?_); refine a_st HM ?_; clear HM; intro w1 HM) | ((with_reducible refine g_al ?_); refine a_al HM ?_; clear HM; intro bk w1 HM) | ((with_reducible refine g_bld ?_); refine a_bld ?_)))
           clear e4 hf2 hf3 HB
           obtain ⟨U3, hU3⟩ := Zh (Bg.setL U2 b0 d)
           rw [← hU3.out] at HM HT2
           rw [hb0.out] at HT2
           have hV0 : 0 < V := by have h1 := HN.out.hi; have h2 := Bg.ppos (i0 - 1); omega
           obtain ⟨G, hG⟩ := Zh (U / Bg.pw k / V)
           have HR := Zi (Bg.round_right HT2.out.1 HT2.out.2 HE.out.ge HE.out.le hV0)
           rw [← hG.out] at HR
           have hk32 : k < 32 := by omega
           have hq4 : (k : Int) < 32 := by omega
           have hGl : G < 4294967296 := by rw [hG.out]; exact HS.out.digit
           have HS2 : ∀ U', U' + U / Bg.pw k / V * V * Bg.pw k = U → Bg.DvSt D V i0 k U' (Bg.setL Q k G) := by rw [hG.out]; exact fun U' h => HS.out.step h
           replace HS2 := Zi HS2
           have hfq := sa_lim Q k G hGl hk32
           have e4 : (G : Int) % 4294967296 = (G : Int) := by omega
           rcases (show bw2 = 0 ∨ bw2 = 1 by omega) with h0 | h0
           ·subst h0
            as_aux_lemma =>
             have hgG : g = G := HR.out.1 rfl
             have HS3 := Zi (HS2.out U3 (by have h1 := HT2.out.1; rw [hgG, hG.out] at h1; omega))
             subst hgG
             clear HB HR HS2 hq2 hq3 e5
             go_upto_region 53 with fail
             go_upto_region 27 with (first | ((with_reducible refine g_ld ?_); refine a_ld HM ?_) | ((with_reducible refine g_st ?_); refine a_st HM ?_; clear HM; intro w1 HM) | ((with_reducible refine g_al ?_); refine a_al HM ?_; clear HM; intro bk w1 HM) | ((with_reducible refine g_bld ?_); refine a_bld ?_))
             go_wp2_with fail
             go_roundw
             case rel => exact ⟨k, U3, _, by omega, rfl, HS3, HM⟩
             case measure => simp [intOf]
           ·subst h0
            have hgG : g = G + 1 := HR.out.2 rfl
            have eg : (g : Int) - 1 = (G : Int) := by omega
            clear HB HR hq2 hq3 e5 e4
            go_wp2_with fail
            go_loopw [247, 23] (fun i i2 wr => ∃ i1 U4 c2 : Nat, i1 ≤ i0 ∧ i = .int .i64 (i1 : Nat) ∧ i2 = .int .u32 (c2 : Nat) ∧ Hid (Bg.AbSt U3 V i0 k i1 U4 c2) ∧ Mem w [] [(bv, Bg.row 32 V), (bu, Bg.row 33 U4), (br, Bg.row 32 0), (bq, Bg.row 32 Q)] wr) (fun i _ _ => (i0 - intOf i).toNat)
            case atStart => exact ⟨0, U3, 0, Nat.zero_le _, rfl, rfl, Zi (Bg.AbSt.start HT2.out.2), HM⟩
            case round =>
             clear HM eg
             obtain ⟨i1, U4, c2, hi1, rfl, rfl, HA2, HM⟩ := hrel
             have hc2 := HA2.out.c
             by_cases hin : i1 < i0
             ·have ht : (i1 : Int) < (i0 : Int) := by omega
              as_aux_lemma =>
               obtain ⟨v, hv⟩ := Zh (Bg.limb V i1)
               have hvl : v < 4294967296 := by rw [hv.out]; exact Bg.limb_lt _ _
               obtain ⟨ik, hik⟩ := Zh (k + i1)
               have hik33 : ik < 33 := by have := hik.out; omega
               obtain ⟨y, hy⟩ := Zh (Bg.limb U4 ik)
               have hyl : y < 4294967296 := by rw [hy.out]; exact Bg.limb_lt _ _
               have HB := Zi (add32_b y v c2 hyl hvl hc2)
               have HA3 := HA2.out.step hin
               rw [← hik.out, ← hy.out, ← hv.out] at HA3
               obtain ⟨d, hd⟩ := Zh ((y + v + c2) % 4294967296)
               obtain ⟨c3, hc3⟩ := Zh ((y + v + c2) / 4294967296)
               rw [← hd.out, ← hc3.out] at HB HA3
               replace HA3 := Zi HA3
               have hdl : d < 4294967296 := by rw [hd.out]; exact Nat.mod_lt _ Zd
               have hf1 : LA 30 (Bg.row 32 V) i1 (.int .u32 (v : Nat)) := by rw [hv.out]; exact la_lim V i1 Zo
               have hf2 : LA 30 (Bg.row 33 U4) ik (.int .u32 (y : Nat)) := by rw [hy.out]; exact la_33 U4 ik hik33
               have hf3 := sa_33 U4 ik d hdl hik33
               have hq0 : (0 : Int) ≤ (i1 : Int) := by omega
               have hq1 : (i1 : Int) < 32 := by omega
               have hq2 : (0 : Int) ≤ (ik : Int) := by omega
               have hq3 : (ik : Int) < 33 := by omega
               go_upto_region 50 with fail
               refine start_M [17] HM Zk (fun w0x H9 => ?_)
               replace HM := H9; clear H9
               refine k_mv 0 (heldE HM) ?_
               refine k_mv 1 (heldE HM) ?_
               refine t_pure (i := 2) (v := .int .i64 (ik : Nat)) rfl rfl Zk (fun _ _ _ h => h) (heldE HM) Zv ?_ ?_; (focus (exact h_bin Zv Zv Zv (by have := hik.out; intro w9; go_simp; rw [IntWalk.i64_in _ Zo]; first | done | omega))); ((try simp only [Za]); (try simp only [Zx]); (try simp only [Zy]))
               refine k_mv 3 (heldE HM) ?_
               refine k_mv 4 (heldE HM) ?_
               refine t_pure (i := 5) (v := .int .i64 (ik : Nat)) rfl rfl Zk (fun _ _ _ h => h) (heldE HM) Zv ?_ ?_; (focus (exact h_bin Zv Zv Zv (by have := hik.out; intro w9; go_simp; rw [IntWalk.i64_in _ Zo]; first | done | omega))); ((try simp only [Za]); (try simp only [Zx]); (try simp only [Zy]))
               refine k_ia 6 (heldE HM) ?_
               refine k_ld 7 [12, 13, 14, 15, 16, 17, 18] (heldE HM) ?_
               refine k_mv 8 (heldE HM) ?_
               refine k_ia 9 (heldE HM) ?_
               refine k_ld 10 [12, 13, 14, 15, 16, 17, 18] (heldE HM) ?_
               refine k_mv 11 (heldE HM) ?_
               refine j_one 12 fun K9 hK9 => ?_
               refine j_call3 (v := ?_) HM ?_ ?_; rotate_left 1; (focus (with_reducible (exact (HB.out _)))); clear HM; intro w1 HM
               refine hK9 _ _ (heldE HM) ?_; clear hK9 K9
               refine k_mv 13 (heldE HM) ?_
               refine k_ext 14 (heldE HM) ?_
               refine k_ext 15 (heldE HM) ?_
               refine k_ia 16 (heldE HM) ?_
               refine j_one 17 fun K9 hK9 => ?_
               refine j_st HM ?_; clear HM; intro w1 HM
               refine hK9 _ _ heldN ?_; clear hK9 K9
               refine k_mv 18 heldN ?_
               refine wpAnyL_done Zk ?_ _
               clear hq0 hq1 hq2 hq3 hf1 hf2 hf3 HB
               go_wp2_with fail
               go_roundw
               case rel => exact ⟨i1 + 1, _, c3, hin, by go_num, rfl, HA3, HM⟩
               case measure => simp [intOf]; omega
             ·obtain rfl : i0 = i1 := by omega
              as_aux_lemma =>
               obtain ⟨y, hy⟩ := Zh (Bg.limb U4 b0)
               have hyl : y < 4294967296 := by rw [hy.out]; exact Bg.limb_lt _ _
               obtain ⟨d, hd⟩ := Zh ((y + c2) % 4294967296)
               have hdl : d < 4294967296 := by rw [hd.out]; exact Nat.mod_lt _ Zd
               have HA3 := HA2.out.last HN.out.lt (d := d) (by rw [hd.out, hy.out, hb0.out])
               rw [← hb0.out] at HA3
               obtain ⟨e, hA3, hA4⟩ := HA3
               have hU5 := Bg.round_back (by have := HT2.out.1; rwa [Nat.one_mul] at this) (by rw [hgG, hG.out]) (by rw [← hb0.out]; exact hA3) (by rw [← hb0.out]; exact hA4) HU.out
               have HS3 := Zi (HS2.out _ hU5)
               have hf2 : LA 30 (Bg.row 33 U4) b0 (.int .u32 (y : Nat)) := by rw [hy.out]; exact la_33 U4 b0 hy0
               have e4 : (G : Int) % 4294967296 = (G : Int) := by omega
               have e5 : (k : Int) + (i0 : Int) = (b0 : Int) := by have := hb0.out; omega
               have e6 : ((y : Int) + (c2 : Int)) % 4294967296 = (d : Int) := by rw [hd.out]; simp
               have hf3 : SA 30 (Bg.row 33 U4) b0 (.int .u32 (((y : Int) + (c2 : Int)) % 4294967296)) (Bg.row 33 (Bg.setL U4 b0 d)) := by rw [e6]; exact sa_33 U4 b0 d hdl hy0
               have hq2 : (0 : Int) ≤ (b0 : Int) := by omega
               have hq3 : (b0 : Int) < 33 := by omega
               clear hA3 hA4 hU5 HS2 e6
               go_upto_region 53 with (first | ((with_reducible refine g_ld ?_); refine a_ld HM ?_) | ((with_reducible refine g_st ?_); refine a_st HM ?_; clear HM; intro w1 HM) | ((with_reducible refine g_al ?_); refine a_al HM ?_; clear HM; intro bk w1 HM) | ((with_reducible refine g_bld ?_); refine a_bld ?_))
               go_upto_region 27 with (first | ((with_reducible refine g_ld ?_); refine a_ld HM ?_) | ((with_reducible refine g_st ?_); refine a_st HM ?_; clear HM; intro w1 HM) | ((with_reducible refine g_al ?_); refine a_al HM ?_; clear HM; intro bk w1 HM) | ((with_reducible refine g_bld ?_); refine a_bld ?_))
               go_wp2_with fail
               go_roundw
               case rel => exact ⟨k, _, _, by omega, rfl, HS3, HM⟩
               case measure => simp [intOf]
    | succ k =>
     as_aux_lemma =>
      have e1 : ((k + 1 : Nat) : Int) - 1 = (k : Int) := by omega
      rw [e1]
      clear e1
      have hk0 : (0 : Int) ≤ (k : Int) := by omega
      have hk1 : (k : Int) < 33 := by omega
      have hk2 : k < 33 := by omega
      have hxb := Bg.limb_lt a k
      obtain ⟨y, hy⟩ := Zh (Bg.limb a k * 2 ^ s % 4294967296)
      have hyl : y < 4294967296 := by rw [hy.out]; exact Nat.mod_lt _ Zd
      have hss : SA 30 (Bg.row 33 (Bg.hi D (k + 1))) k (.int .u32 (((Bg.limb a k : Nat) : Int) * 2 ^ s % 4294967296)) (Bg.row 33 (Bg.setL (Bg.hi D (k + 1)) k y)) := by
       have h := sa_33 (Bg.hi D (k + 1)) k y hyl hk2
       rwa [show ((y : Nat) : Int) = ((Bg.limb a k : Nat) : Int) * 2 ^ s % 4294967296 from by rw [hy.out]; simp] at h
      rcases Nat.lt_or_ge k m with hkm | hkm
      case' inl =>
       have hlb := la_lim a k Zo
       have hq4 : (k : Int) < 32 := by omega
       have hq5 : (k : Int) < (m : Int) := by omega
       go_upto_region 22 with (first | ((with_reducible refine g_ld ?_); refine a_ld HM ?_) | ((with_reducible refine g_st ?_); refine a_st HM ?_; clear HM; intro w1 HM) | ((with_reducible refine g_al ?_); refine a_al HM ?_; clear HM; intro bk w1 HM) | ((with_reducible refine g_bld ?_); refine a_bld ?_))
       clear hq4 hq5 hlb
      case' inr =>
       have hq5 : ¬ (k : Int) < (m : Int) := by omega
       have e2 : Bg.row 33 (Bg.hi D (k + 1)) = Bg.row 33 (Bg.setL (Bg.hi D (k + 1)) k y) := by
        obtain rfl : k = m := by omega
        have e3 : Bg.limb a k = 0 := by unfold Bg.limb; rw [Nat.div_eq_of_lt haw.out, Nat.zero_mod]
        rw [hy.out, e3, Bg.hi_top HD.out.2, Nat.zero_mul, Nat.zero_mod, Bg.setL_top _ _ _ (Bg.ppos _), Nat.zero_mul]
       rw [e2] at HM
       clear e2
       go_upto_region 22 with fail
       clear hq5
      all_goals clear hss
      all_goals
       rcases Nat.eq_zero_or_pos s with hs0 | hs0
       ·have e2 : Bg.setL (Bg.hi D (k + 1)) k y = Bg.hi D k := by
          have e : D = a := by rw [hD.out, hs0, Nat.pow_zero, Nat.mul_one]
          rw [hy.out, hs0, Nat.pow_zero, Nat.mul_one, Nat.mod_eq_of_lt hxb, e, Bg.hi_set]
        exact z9_37
       ·cases k with
        | zero =>
         have e2 : Bg.setL (Bg.hi D 1) 0 y = Bg.hi D 0 := by
          rw [hy.out, ← Bg.shl_zero a s hs32, ← hD.out, Bg.hi_set]
         rw [e2] at HM
         clear e2
         go_wp2_with fail
         go_roundw
         case rel => exact ⟨0, by omega, rfl, HM⟩
         case measure => simp [intOf]
        | succ k =>
         go_upto_region 23 with fail
         have hlb1 := la_lim a k Zo
         have hly := la_33 (Bg.setL (Bg.hi D (k + 1 + 1)) (k + 1) y) (k + 1) hk2
         rw [Bg.setL_limb _ _ _ _ hyl, if_pos rfl] at hly
         have hx1 := Bg.limb_lt a k
         obtain ⟨z, hz⟩ := Zh (Bg.limb a k / 2 ^ (32 - s))
         have hzl : z < 4294967296 := by rw [hz.out]; exact Nat.lt_of_le_of_lt (Nat.div_le_self _ _) hx1
         have hol : y ||| z < 4294967296 := by have := Nat.or_lt_two_pow (n := 32) (x := y) (y := z) Zo Zo; omega
         have hso := sa_33 (Bg.setL (Bg.hi D (k + 1 + 1)) (k + 1) y) (k + 1) (y ||| z) hol hk2
         have e2 : Bg.setL (Bg.setL (Bg.hi D (k + 1 + 1)) (k + 1) y) (k + 1) (y ||| z) = Bg.hi D (k + 1) := by
          rw [Bg.setL_twice _ _ _ _ hyl, hy.out, hz.out, ← Bg.shl_or a k s hs32 hs0, ← hD.out, Bg.hi_set]
         rw [e2] at hso
         clear e2
         have hsh : (32 : Int) - (s : Int) = ((32 - s : Nat) : Int) := by omega
         have hq0 : (0 : Int) ≤ (k : Int) + 1 := by omega
         have hq1 : (k : Int) + 1 < 33 := by omega
         have hq2 : (0 : Int) ≤ (k : Int) := by omega
         have hq3 : (k : Int) < 32 := by omega
         refine start_M [14] HM Zk (fun w0x H9 => ?_)
         replace HM := H9; clear H9
         refine k_mv 0 (heldE HM) ?_
         refine k_ia 1 (heldE HM) ?_
         refine k_ld 2 [12, 13, 14] (heldE HM) ?_
         refine k_mv 3 (heldE HM) ?_
         refine k_mv 4 (heldE HM) ?_
         refine t_pure (i := 5) (v := .int .i64 (k : Nat)) rfl rfl Zk (fun _ _ _ h => h) (heldE HM) Zv ?_ ?_; (focus (exact h_bin Zv Zv Zv (by intro w9; go_simp; rw [IntWalk.i64_in _ Zo]))); ((try simp only [Za]); (try simp only [Zx]); (try simp only [Zy]))
         refine k_pv 6 (heldE HM) ?_
         refine k_ia 7 (heldE HM) ?_
         refine k_ld 8 [11, 12, 13, 14] (heldE HM) ?_
         refine k_mv 9 (heldE HM) ?_
         refine k_sub 10 (heldE HM) ?_
         refine t_pure (i := 11) (v := .int .u32 (z : Nat)) rfl rfl Zk (fun _ _ _ h => h) (heldE HM) Zv ?_ ?_; (focus (exact h_bin Zv Zv Zv (by intro w9; go_simp; rw [hz.out]; simp))); ((try simp only [Za]); (try simp only [Zx]); (try simp only [Zy]))
         refine t_pure (i := 12) (v := .int .u32 ((y ||| z : Nat) : Int)) rfl rfl Zk (fun _ _ _ h => h) (heldE HM) Zv ?_ ?_; (focus (exact h_bin Zv Zv Zv (by intro w9; go_simp; rw [u32_or_nat _ _ hyl hzl]))); ((try simp only [Za]); (try simp only [Zx]); (try simp only [Zy]))
         refine k_ia 13 (heldE HM) ?_
         refine j_one 14 fun K9 hK9 => ?_
         refine j_st HM ?_; clear HM; intro w1 HM
         refine hK9 _ _ heldN ?_; clear hK9 K9
         refine wpAnyL_done Zk ?_ _
         go_wp2_with fail
         go_roundw
         case rel => exact ⟨k + 1, by omega, by go_num, HM⟩
         case measure => simp [intOf]; omega
  | succ k =>
   as_aux_lemma =>
    have e1 : ((k + 1 : Nat) : Int) - 1 = (k : Int) := by omega
    rw [e1]
    clear e1
    have hk0 : (0 : Int) ≤ (k : Int) := by omega
    have hk1 : (k : Int) < 32 := by omega
    have hk2 : k < 32 := by omega
    have hlb := la_lim b k hk2
    have hxb := Bg.limb_lt b k
    obtain ⟨y, hy⟩ := Zh (Bg.limb b k * 2 ^ s % 4294967296)
    have hyl : y < 4294967296 := by rw [hy.out]; exact Nat.mod_lt _ Zd
    have hss : SA 30 (Bg.row 32 (Bg.hi V (k + 1))) k (.int .u32 (((Bg.limb b k : Nat) : Int) * 2 ^ s % 4294967296)) (Bg.row 32 (Bg.setL (Bg.hi V (k + 1)) k y)) := by
     have h := sa_lim (Bg.hi V (k + 1)) k y hyl hk2
     rwa [show ((y : Nat) : Int) = ((Bg.limb b k : Nat) : Int) * 2 ^ s % 4294967296 from by rw [hy.out]; simp] at h
    go_upto_region 15 with (first | ((with_reducible refine g_ld ?_); refine a_ld HM ?_) | ((with_reducible refine g_st ?_); refine a_st HM ?_; clear HM; intro w1 HM) | ((with_reducible refine g_al ?_); refine a_al HM ?_; clear HM; intro bk w1 HM) | ((with_reducible refine g_bld ?_); refine a_bld ?_))
    clear hss hlb
    rcases Nat.eq_zero_or_pos s with hs0 | hs0
    ·have e2 : Bg.setL (Bg.hi V (k + 1)) k y = Bg.hi V k := by
       have e : V = b := by rw [hV.out, hs0, Nat.pow_zero, Nat.mul_one]
       rw [hy.out, hs0, Nat.pow_zero, Nat.mul_one, Nat.mod_eq_of_lt hxb, e, Bg.hi_set]
     exact z9_37
    ·cases k with
     | zero =>
      have e2 : Bg.setL (Bg.hi V 1) 0 y = Bg.hi V 0 := by
       rw [hy.out, ← Bg.shl_zero b s hs32, ← hV.out, Bg.hi_set]
      rw [e2] at HM
      clear e2
      go_wp2_with fail
      go_roundw
      case rel => exact ⟨0, by omega, rfl, HM⟩
      case measure => simp [intOf]
     | succ k =>
      go_upto_region 16 with fail
      have hlb1 := la_lim b k Zo
      have hly := la_lim (Bg.setL (Bg.hi V (k + 1 + 1)) (k + 1) y) (k + 1) hk2
      rw [Bg.setL_limb _ _ _ _ hyl, if_pos rfl] at hly
      have hx1 := Bg.limb_lt b k
      obtain ⟨z, hz⟩ := Zh (Bg.limb b k / 2 ^ (32 - s))
      have hzl : z < 4294967296 := by rw [hz.out]; exact Nat.lt_of_le_of_lt (Nat.div_le_self _ _) hx1
      have hol : y ||| z < 4294967296 := by have := Nat.or_lt_two_pow (n := 32) (x := y) (y := z) Zo Zo; omega
      have hso := sa_lim (Bg.setL (Bg.hi V (k + 1 + 1)) (k + 1) y) (k + 1) (y ||| z) hol hk2
      have e2 : Bg.setL (Bg.setL (Bg.hi V (k + 1 + 1)) (k + 1) y) (k + 1) (y ||| z) = Bg.hi V (k + 1) := by
       rw [Bg.setL_twice _ _ _ _ hyl, hy.out, hz.out, ← Bg.shl_or b k s hs32 hs0, ← hV.out, Bg.hi_set]
      rw [e2] at hso
      clear e2
      have hsh : (32 : Int) - (s : Int) = ((32 - s : Nat) : Int) := by omega
      have hq0 : (0 : Int) ≤ (k : Int) + 1 := by omega
      have hq1 : (k : Int) + 1 < 32 := by omega
      have hq2 : (0 : Int) ≤ (k : Int) := by omega
      have hq3 : (k : Int) < 32 := by omega
      refine start_M [14] HM Zk (fun w0x H9 => ?_)
      replace HM := H9; clear H9
      refine k_mv 0 (heldE HM) ?_
      refine k_ia 1 (heldE HM) ?_
      refine k_ld 2 [12, 13, 14] (heldE HM) ?_
      refine k_mv 3 (heldE HM) ?_
      refine k_mv 4 (heldE HM) ?_
      refine t_pure (i := 5) (v := .int .i64 (k : Nat)) rfl rfl Zk (fun _ _ _ h => h) (heldE HM) Zv ?_ ?_; (focus (exact h_bin Zv Zv Zv (by intro w9; go_simp; rw [IntWalk.i64_in _ Zo]))); ((try simp only [Za]); (try simp only [Zx]); (try simp only [Zy]))
      refine k_pv 6 (heldE HM) ?_
      refine k_ia 7 (heldE HM) ?_
      refine k_ld 8 [11, 12, 13, 14] (heldE HM) ?_
      refine k_mv 9 (heldE HM) ?_
      refine k_sub 10 (heldE HM) ?_
      refine t_pure (i := 11) (v := .int .u32 (z : Nat)) rfl rfl Zk (fun _ _ _ h => h) (heldE HM) Zv ?_ ?_; (focus (exact h_bin Zv Zv Zv (by intro w9; go_simp; rw [hz.out]; simp))); ((try simp only [Za]); (try simp only [Zx]); (try simp only [Zy]))
      refine t_pure (i := 12) (v := .int .u32 ((y ||| z : Nat) : Int)) rfl rfl Zk (fun _ _ _ h => h) (heldE HM) Zv ?_ ?_; (focus (exact h_bin Zv Zv Zv (by intro w9; go_simp; rw [u32_or_nat _ _ hyl hzl]))); ((try simp only [Za]); (try simp only [Zx]); (try simp only [Zy]))
      refine k_ia 13 (heldE HM) ?_
      refine j_one 14 fun K9 hK9 => ?_
      refine j_st HM ?_; clear HM; intro w1 HM
      refine hK9 _ _ heldN ?_; clear hK9 K9
      refine wpAnyL_done Zk ?_ _
      go_wp2_with fail
      go_roundw
      case rel => exact ⟨k + 1, by omega, by go_num, HM⟩
      case measure => simp [intOf]; omega
end
section
theorem divOk_any {a b : Nat} (h0 : 0 < b) (ha : a < Bg.lim) (hb : b < Bg.lim) : Bg.DivOk a b := by
 by_cases hs : b < 4294967296 ∨ a < b
 ·exact Bg.DivOk.small h0 ha hb hs
 ·intro ba bb w hA hB
  exact divide_long ba bb a b ha hb Zo Zo w hA hB
theorem divMod_f (p d x y : Int) (hp : p.natAbs < Bg.lim) (hd : d.natAbs < Bg.lim) (h0 : d ≠ 0) (hx : Hid (x = p / d)) (hy : Hid (y = p % d)) (w : World) :
    Calls Tryz.prog 119 #[.agg (Bg.zA p), .agg (Bg.zA d)] w fun e w' => e = .returned (.tuple #[.agg (Bg.zA x), .agg (Bg.zA y), .int .i64 0]) ∧ Below w.heap.size w w' :=
 divMod_z p d x y hp hd h0 (divOk_any Zo hp hd) hx hy w
end
end Go.Proofs.YtiekmabiecalbaaGreatDoor
