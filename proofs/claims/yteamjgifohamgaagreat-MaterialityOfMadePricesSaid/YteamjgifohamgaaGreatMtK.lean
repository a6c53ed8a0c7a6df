/- The example of the law awakes; the sanity check of the chapter. -/
import Derived.Test.YteamjgifohamgaaGreatMtJ
namespace Go.Proofs.YteamjgifohamgaaGreat
set_option maxRecDepth 8000
open Go.RowKit
theorem Mt.rat_int (n : Int) : Rat.divInt n 1 = (n : Rat) := by rw [Rat.divInt_eq_div]; grind
theorem Mt.h100 : Rat.divInt 1 100 = (1 : Rat) / 100 := by rw [Rat.divInt_eq_div]; rfl
theorem Mt.h3 : Rat.divInt 3 100 = (3 : Rat) / 100 := by rw [Rat.divInt_eq_div]; rfl
theorem Mt.i100 : Rat.divInt 100 1 = 100 := Mt.rat_int 100
theorem Mt.i101 : Rat.divInt 101 1 = 101 := Mt.rat_int 101
theorem Mt.i103 : Rat.divInt 103 1 = 103 := Mt.rat_int 103
theorem Mt.i3 : Rat.divInt 3 1 = 3 := Mt.rat_int 3
theorem Mt.i0 : Rat.divInt 0 1 = 0 := Mt.rat_int 0
theorem Mt.fit_i (n : Int) (h1 : -9223372036854775808 ≤ n) (h2 : n < 9223372036854775808) : Rt.Fit (Rat.divInt n 1) := by rw [Mt.rat_int]; exact Ex.int_fit h1 h2
theorem Mt.fit_100 : Rt.Fit (Rat.divInt 1 100) := Rt.fit_small (by decide) (by decide)
theorem Mt.fit_3 : Rt.Fit (Rat.divInt 3 100) := Rt.fit_small (by decide) (by decide)
theorem Mt.size_ok {a b s : Rat} (h0 : ¬ b = 0) (h1 : Rt.Fit (a - b)) (h2 : (a - b) / b = s) (h3 : Rt.Fit s) (h4 : ¬ s < 0) : Mt.size (some a) (some b) = (some s, 0) := by
  subst h2
  unfold Mt.size
  simp only [if_neg h0]
  rw [if_pos h1, if_pos h3, Mt.abs_eq, if_neg h4]
theorem Mt.size_101 : Mt.size (some (Rat.divInt 101 1)) (some (Rat.divInt 100 1)) = (some (Rat.divInt 1 100), 0) := by
  have h1 : Rat.divInt 101 1 - Rat.divInt 100 1 = 1 := by rw [Mt.i101, Mt.i100]; grind
  exact Mt.size_ok (by rw [Mt.i100]; grind) (by rw [h1]; exact Rt.fit_one) (by rw [h1, Mt.i100, Mt.h100]) Mt.fit_100 (by rw [Mt.h100]; grind)
theorem Mt.size_103 : Mt.size (some (Rat.divInt 103 1)) (some (Rat.divInt 100 1)) = (some (Rat.divInt 3 100), 0) := by
  have h1 : Rat.divInt 103 1 - Rat.divInt 100 1 = Rat.divInt 3 1 := by rw [Mt.i103, Mt.i100, Mt.i3]; grind
  exact Mt.size_ok (by rw [Mt.i100]; grind) (by rw [h1]; exact Mt.fit_i 3 (by decide) (by decide)) (by rw [h1, Mt.i3, Mt.i100, Mt.h3]) Mt.fit_3 (by rw [Mt.h3]; grind)
def Mt.d1 : Mt.D := Mt.mk 9 Mt.alpha { data := #[97] } (Rat.divInt 101 1) (Rat.divInt 100 1) (Mt.fit_i _ (by decide) (by decide)) (Mt.fit_i _ (by decide) (by decide))
def Mt.d2 : Mt.D := Mt.mk 7 Mt.alpha { data := #[97] } (Rat.divInt 103 1) (Rat.divInt 100 1) (Mt.fit_i _ (by decide) (by decide)) (Mt.fit_i _ (by decide) (by decide))
theorem Mt.s1 : Mt.size Mt.d1.ow Mt.d1.oi = (some (Rat.divInt 1 100), 0) := Mt.size_101
theorem Mt.s2 : Mt.size Mt.d2.ow Mt.d2.oi = (some (Rat.divInt 3 100), 0) := Mt.size_103
theorem Mt.bad_12 : [Mt.d1, Mt.d2].find? Mt.bad = none := Mt.find_no (by
  intro d hd
  simp only [List.mem_cons, List.not_mem_nil, or_false] at hd
  rcases hd with rfl | rfl
  · unfold Mt.bad; rw [Mt.s1]; rfl
  · unfold Mt.bad; rw [Mt.s2]; rfl)
theorem Mt.mat_100 : Mt.mat (some (Rat.divInt 1 100)) [Mt.d1, Mt.d2] = ([Mt.d2], 0) := by
  have k1 : Mt.keep (Rat.divInt 1 100) Mt.d1 = false := by unfold Mt.keep; rw [Mt.s1]; simp only [Mt.h100]; grind
  have k2 : Mt.keep (Rat.divInt 1 100) Mt.d2 = true := by unfold Mt.keep; rw [Mt.s2]; simp only [Mt.h100, Mt.h3]; grind
  unfold Mt.mat
  simp only []
  rw [if_pos (by rw [Mt.h100]; grind), Mt.bad_12]
  simp only [Mt.kept, List.filter_cons, k1, k2, List.filter_nil]
  rfl
theorem Mt.mat_0 : Mt.mat (some (Rat.divInt 0 1)) [Mt.d1, Mt.d2] = ([Mt.d1, Mt.d2], 0) := by
  have k1 : Mt.keep (Rat.divInt 0 1) Mt.d1 = true := by unfold Mt.keep; rw [Mt.s1]; simp only [Mt.h100, Mt.i0]; grind
  have k2 : Mt.keep (Rat.divInt 0 1) Mt.d2 = true := by unfold Mt.keep; rw [Mt.s2]; simp only [Mt.h3, Mt.i0]; grind
  unfold Mt.mat
  simp only []
  rw [if_pos (by rw [Mt.i0]; grind), Mt.bad_12]
  simp only [Mt.kept, List.filter_cons, k1, k2, List.filter_nil]
  rfl
theorem Mt.fst_0 : Mt.fst3 [Mt.d1, Mt.d2] 0 = (7, true, 0) := rfl
end Go.Proofs.YteamjgifohamgaaGreat
