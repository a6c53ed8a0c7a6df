/- bigint's Cmp and ToInt. -/
import Derived.Test.YtbkbfgedlfbbiaaBigJ
namespace Go.Proofs.Ytbkbfgedlfbbiaa
open Go.RowKit
theorem Bg.cmp_sign (x y : Int) (hs : x.sign = y.sign) : x.sign * Bg.cmp x.natAbs y.natAbs = (x - y).sign := by
  unfold Bg.cmp
  rcases Int.lt_trichotomy x 0 with h1 | h1 | h1
  · have e : x.sign = -1 := Int.sign_eq_neg_one_of_neg h1
    have h2 : y < 0 := by rw [e] at hs; exact Int.sign_eq_neg_one_iff_neg.1 hs.symm
    rw [e]
    rcases Int.lt_trichotomy x y with h | h | h
    · rw [Int.sign_eq_neg_one_of_neg (show x - y < 0 by omega)]
      rw [if_neg (by omega), if_pos (by omega)]; rfl
    · subst h; simp
    · rw [Int.sign_eq_one_of_pos (show 0 < x - y by omega)]
      rw [if_pos (by omega)]; rfl
  · subst h1
    have h2 : y = 0 := Int.sign_eq_zero_iff_zero.1 hs.symm
    subst h2
    simp
  · have e : x.sign = 1 := Int.sign_eq_one_of_pos h1
    have h2 : 0 < y := by rw [e] at hs; exact Int.sign_eq_one_iff_pos.1 hs.symm
    rw [e]
    rcases Int.lt_trichotomy x y with h | h | h
    · rw [Int.sign_eq_neg_one_of_neg (show x - y < 0 by omega)]
      rw [if_pos (by omega)]; rfl
    · subst h; simp
    · rw [Int.sign_eq_one_of_pos (show 0 < x - y by omega)]
      rw [if_neg (by omega), if_pos (by omega)]; rfl
theorem Bg.cmp_other (x y : Int) (hs : x.sign ≠ y.sign) : (x - y).sign = if x.sign < y.sign then -1 else 1 := by
  rcases Int.lt_trichotomy x 0 with h1 | h1 | h1 <;> rcases Int.lt_trichotomy y 0 with h2 | h2 | h2
  all_goals
    first
      | (exfalso; apply hs; simp [Int.sign_eq_neg_one_of_neg, Int.sign_eq_one_of_pos, h1, h2]; done)
      | (rw [Int.sign_eq_neg_one_of_neg (show x - y < 0 by omega)]; simp [Int.sign_eq_neg_one_of_neg, Int.sign_eq_one_of_pos, h1, h2]; done)
      | (rw [Int.sign_eq_one_of_pos (show 0 < x - y by omega)]; simp [Int.sign_eq_neg_one_of_neg, Int.sign_eq_one_of_pos, h1, h2]; done)
set_option maxRecDepth 20000 in
set_option maxHeartbeats 2000000 in
theorem cmp_any0 (s t : Bool) (M N : Nat) (hM : M < Bg.lim) (hN : N < Bg.lim) (g : Int) (hg : Hid (g = (Bg.toZ s M - Bg.toZ t N).sign)) (w : World) :
    Calls Try.prog 34 #[.agg (Bg.intA s M), .agg (Bg.intA t N)] w fun e w' => e = .returned (.int .i64 g) ∧ Below w.heap.size w w' := by
  have hz := Bg.zero32
  obtain ⟨w1, hw1⟩ : ∃ w1, w1 = (w.alloc (.cells (Bg.intA s M) 25)).alloc (.cells (Bg.intA t N) 25) := ⟨_, rfl⟩
  have HO0 := own2 w (Bg.intA s M) (Bg.intA t N) 25 25
  rw [← hw1] at HO0
  have HO := Lib.hid HO0
  clear HO0
  obtain ⟨s1, hs1⟩ : ∃ s1, Hid (s1 = (s && decide (M ≠ 0))) := ⟨_, rfl⟩
  obtain ⟨t1, ht1⟩ : ∃ t1, Hid (t1 = (t && decide (N ≠ 0))) := ⟨_, rfl⟩
  obtain ⟨a, ha⟩ : ∃ a, Hid (a = (Bg.toZ s M).sign) := ⟨_, rfl⟩
  obtain ⟨b, hb⟩ : ∃ b, Hid (b = (Bg.toZ t N).sign) := ⟨_, rfl⟩
  obtain ⟨c, hc⟩ : ∃ c, Hid (c = Bg.cmp M N) := ⟨_, rfl⟩
  have hav : a = -1 ∨ a = 0 ∨ a = 1 := by
    rw [ha.out]
    rcases Int.lt_trichotomy (Bg.toZ s M) 0 with h | h | h
    · exact .inl (Int.sign_eq_neg_one_of_neg h)
    · right; left; rw [h]; rfl
    · right; right; exact Int.sign_eq_one_of_pos h
  have hcv : c = -1 ∨ c = 0 ∨ c = 1 := by
    rw [hc.out]; unfold Bg.cmp
    split
    · exact .inl rfl
    · split
      · exact .inr (.inr rfl)
      · exact .inr (.inl rfl)
  go_enter Try.func34, Try.ntmps34
  go_wp2_with fail
  rw [← hw1]
  clear hw1
  have HD : Own w w1.drew _ := ⟨HO.out.1.drew, HO.out.2⟩
  refine wp_region_held_drew (S := fun w' => Own w w' [(w.heap.size + 1, Bg.intA t N), (w.heap.size, Bg.intA s M)]) (by kernel_rfl) HD (fun hHeld => ?_)
  refine take_h (i := 0) (v := .agg (Bg.intA s M)) rfl rfl (by kernel_rfl) (by kernel_rfl) (by kernel_rfl) (fun _ _ _ h => h) ?hy1 hHeld ?rest1
  case hy1 => exact yl_int s M (by rfl) _ rfl _ rfl (fun w' h => h.get (by simp))
  try simp only [List.setIfInBounds_toArray, List.set_cons_zero, List.set_cons_succ]
  refine take_h (i := 2) (v := .agg (Bg.intA t N)) rfl rfl (by kernel_rfl) (by kernel_rfl) (by kernel_rfl) (fun _ _ _ h => h) ?hy2 hHeld ?rest2
  case hy2 => exact yl_int t N (by rfl) _ rfl _ rfl (fun w' h => h.get (by simp))
  try simp only [List.setIfInBounds_toArray, List.set_cons_zero, List.set_cons_succ]
  refine call_h (i := 1) (.int .i64 a) (by kernel_rfl) rfl rfl (by rfl) 24 #[.agg (Bg.intA s M)] (by intro w; go_simp) (sign_any s M hM a ha _) (fun w' hb => hHeld.call hb) (fun w2 hb => ?_)
  have hHeld2 := hHeld.call hb
  try simp only [List.setIfInBounds_toArray, List.set_cons_zero, List.set_cons_succ]
  refine call_h (i := 3) (.int .i64 b) (by kernel_rfl) rfl rfl (by rfl) 24 #[.agg (Bg.intA t N)] (by intro w; go_simp) (sign_any t N hN b ‹_› _) (fun w' hb => hHeld2.call hb) (fun w3 hb2 => ?_)
  have hHeld3 := hHeld2.call hb2
  try simp only [List.setIfInBounds_toArray, List.set_cons_zero, List.set_cons_succ]
  refine take_h (i := 4) (v := .int .i64 a) rfl rfl (by kernel_rfl) (by kernel_rfl) (by kernel_rfl) (fun _ _ _ h => h) (Or.inl ⟨by rfl, ?hy5⟩) hHeld3 ?rest5
  case hy5 => (intro w hSw; go_simp)
  try simp only [List.setIfInBounds_toArray, List.set_cons_zero, List.set_cons_succ]
  refine take_h (i := 5) (v := .int .i64 b) rfl rfl (by kernel_rfl) (by kernel_rfl) (by kernel_rfl) (fun _ _ _ h => h) (Or.inl ⟨by rfl, ?hy6⟩) hHeld3 ?rest6
  case hy6 => (intro w hSw; go_simp)
  refine wpAnyH_done (by kernel_rfl) ?_ _
  try simp only [List.setIfInBounds_toArray, List.set_cons_zero, List.set_cons_succ]
  clear HO hb hb2 hHeld hHeld2 HD
  have HO := Lib.hid hHeld3
  clear hHeld3
  by_cases hab : a = b
  · subst hab
    have HE : Hid (g = a * c) := Lib.hid (by
      have h := Bg.cmp_sign (Bg.toZ s M) (Bg.toZ t N) (by rw [← ha.out, ‹Hid (a = (Bg.toZ t N).sign)›.out])
      rw [Bg.toZ_abs, Bg.toZ_abs, ← ha.out, ← hc.out] at h
      rw [hg.out, h])
    go_wp2_with (first
      | ((with_reducible apply wl_at; refine ld_int (s) (M) rfl _ rfl _ rfl (by exact HO.out.get (b := w.heap.size) (by simp)) ?_))
      | (go_at_call 50; with_reducible refine (split_as s s1 M hM hs1 _).mono ?_; rintro e w4 ⟨rfl, hL⟩; have HO := Lib.hid ((HO.out.call hL).alloc (Bg.row 32 M) 57); clear hL)
      | ((with_reducible apply wl_at; refine ld_int (t) (N) rfl _ rfl _ rfl (by exact HO.out.get (b := w.heap.size + 1) (by simp)) ?_))
      | (go_at_call 50; with_reducible refine (split_as t t1 N hN ht1 _).mono ?_; rintro e w5 ⟨rfl, hL⟩; have HO := Lib.hid ((HO.out.call hL).alloc (Bg.row 32 N) 57); clear hL)
      | ((with_reducible apply wl_at; refine sn_mag (M) rfl _ _ rfl rfl rfl ?_))
      | ((with_reducible apply wl_at; refine sn_mag (N) rfl _ _ rfl rfl rfl ?_))
      | (go_at_call 59; refine (compare_b w4.heap.size w5.heap.size M N c hM hN hc _ (HO.out.get (by simp)) (HO.out.get (by simp))).mono ?_; rintro e w6 ⟨rfl, hL⟩; have HO := Lib.hid (HO.out.call hL); clear hL))
    go_ret
    refine ⟨congrArg Ending.returned (congrArg (Value.int IntKind.i64) ?_), HO.out.1⟩
    rw [HE.out]
    rcases hav with h | h | h <;> rcases hcv with k | k | k <;> rw [h, k] <;> kernel_rfl
  · have HE : Hid (g = if a < b then -1 else 1) := Lib.hid (by
      rw [hg.out, Bg.cmp_other _ _ (by rw [← ha.out, ← ‹Hid (b = (Bg.toZ t N).sign)›.out]; exact hab), ← ha.out, ← ‹Hid (b = (Bg.toZ t N).sign)›.out])
    by_cases hlt : a < b
    · have HL := Lib.hid hlt
      go_wp2_with fail
      go_ret
      refine ⟨?_, HO.out.1⟩
      rw [HE.out, if_pos HL.out]
      rfl
    · have HL := Lib.hid hlt
      go_wp2_with fail
      go_ret
      refine ⟨?_, HO.out.1⟩
      rw [HE.out, if_neg (show ¬ a < b by have := HL.out; omega)]
      rfl
end Go.Proofs.Ytbkbfgedlfbbiaa
