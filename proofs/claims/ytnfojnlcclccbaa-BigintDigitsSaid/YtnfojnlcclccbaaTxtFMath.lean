/- Plain law of Format's rounds: the digits that stand and those that are left. -/
import Derived.Test.YtnfojnlcclccbaaTxtMath
namespace Go.Proofs.Ytnfojnlcclccbaa
set_option maxRecDepth 8000
namespace Tx
/-- Within a group of nine digits, before digit i: l stands, m groups and rest are left. -/
structure FmSt (N m rest i : Nat) (l : List Nat) : Prop where
  eq : dig N = l ++ dig (m * 10 ^ (9 - i) + rest)
  le : i ≤ 9
  lt : rest < 10 ^ (9 - i)
theorem FmSt.start {N m : Nat} {l : List Nat} (h : dig N = l ++ dig m) : FmSt N (m / 1000000000) (m % 1000000000) 0 l :=
  ⟨by rw [h]; congr 2; show m = m / 1000000000 * 1000000000 + m % 1000000000; omega, by omega, by show m % 1000000000 < 1000000000; omega⟩
theorem FmSt.step {N m rest i : Nat} {l : List Nat} (h : FmSt N m rest i l) (hi : i < 9) (h0 : 0 < rest ∨ m ≠ 0) : FmSt N m (rest / 10) (i + 1) (l ++ [rest % 10]) := by
  obtain ⟨h1, h2, h3⟩ := h
  have e : 9 - i = (9 - (i + 1)) + 1 := by omega
  rw [e, Nat.pow_succ] at h1 h3
  obtain ⟨p, hp⟩ : ∃ p, p = 10 ^ (9 - (i + 1)) := ⟨_, rfl⟩
  rw [← hp] at h1 h3
  have hm : m * (p * 10) = (m * p) * 10 := by rw [Nat.mul_assoc]
  rw [hm] at h1
  have hne : m * p * 10 + rest ≠ 0 := by
    rcases h0 with h0 | h0
    · omega
    · have := Nat.mul_pos (Nat.pos_of_ne_zero h0) (show 0 < p by omega)
      omega
  refine ⟨?_, by omega, by rw [← hp]; omega⟩
  rw [← hp, h1, dig_pos hne, show (m * p * 10 + rest) % 10 = rest % 10 from by omega, show (m * p * 10 + rest) / 10 = m * p + rest / 10 from by omega]
  simp
/-- The group's end: nine digits are written, or nothing is left. -/
theorem FmSt.done {N m rest i : Nat} {l : List Nat} (h : FmSt N m rest i l) (he : i = 9 ∨ (rest = 0 ∧ m = 0)) : dig N = l ++ dig m := by
  obtain ⟨h1, h2, h3⟩ := h
  rcases he with rfl | ⟨rfl, rfl⟩
  · have : rest = 0 := by simpa using h3
    subst this
    simpa using h1
  · simpa using h1
end Tx
end Go.Proofs.Ytnfojnlcclccbaa
