/- The length in bits of sums and products; bigint's Bits. -/
import Derived.Test.YtbkbfgedlfbbiaaBigV
namespace Go.Proofs.Ytbkbfgedlfbbiaa
open Go.RowKit
@[irreducible] def Bg.p2 (k : Nat) : Nat := 2 ^ k
theorem Bg.p2_add (i j : Nat) : Bg.p2 (i + j) = Bg.p2 i * Bg.p2 j := by unfold Bg.p2; rw [Nat.pow_add]
theorem Bg.p2_pos (i : Nat) : 0 < Bg.p2 i := by unfold Bg.p2; exact Nat.two_pow_pos _
theorem Bg.p2_mono {i j : Nat} (h : i ≤ j) : Bg.p2 i ≤ Bg.p2 j := by unfold Bg.p2; exact Nat.pow_le_pow_right (by decide) h
theorem Bg.p2_zero : Bg.p2 0 = 1 := by unfold Bg.p2; rfl
theorem Bg.p2_succ (i : Nat) : Bg.p2 (i + 1) = 2 * Bg.p2 i := by unfold Bg.p2; rw [Nat.pow_succ]; omega
theorem Bg.p2_pw (i : Nat) : Bg.p2 (32 * i) = Bg.pw i := by unfold Bg.p2 Bg.pw; rfl
theorem Bg.p2_lim : Bg.p2 1024 = Bg.lim := Bg.p2_pw 32
theorem bla_bounds : ∀ (f x : Nat), x < 2 ^ f → x < 2 ^ Lib.bitLenAux f x ∧ (x ≠ 0 → 2 ^ (Lib.bitLenAux f x - 1) ≤ x)
  | 0, x, h => by
    have : x = 0 := by simpa using h
    subst this
    simp [Lib.bitLenAux]
  | f + 1, x, h => by
    unfold Lib.bitLenAux
    by_cases h0 : x = 0
    · subst h0; simp
    · rw [if_neg h0]
      obtain ⟨a, b⟩ := bla_bounds f (x / 2) (by rw [Nat.pow_succ] at h; omega)
      refine ⟨by rw [Nat.add_comm, Nat.pow_succ]; omega, fun _ => ?_⟩
      by_cases h1 : x / 2 = 0
      · have e : x = 1 := by omega
        subst e
        have : Lib.bitLenAux f (1 / 2) = 0 := by cases f <;> simp [Lib.bitLenAux]
        rw [this]
        decide
      · have c := b h1
        have hp : 1 ≤ Lib.bitLenAux f (x / 2) := by
          by_cases hz : Lib.bitLenAux f (x / 2) = 0
          · rw [hz] at a; simp at a; omega
          · omega
        rw [show 1 + Lib.bitLenAux f (x / 2) - 1 = (Lib.bitLenAux f (x / 2) - 1) + 1 from by omega, Nat.pow_succ]
        omega
theorem bitLen_bounds {x : Nat} (h : x < 4294967296) : x < Bg.p2 (Lib.bitLen x) ∧ (x ≠ 0 → Bg.p2 (Lib.bitLen x - 1) ≤ x) := by
  have := bla_bounds 32 x h
  rw [← Lib.bitLenAux_fuel 32 x h 64 (by decide)] at this
  unfold Bg.p2 Lib.bitLen
  exact this
theorem Bg.bl_zero : Bg.bl 0 = 0 := by
  unfold Bg.bl
  rw [if_pos]
  exact (Bg.used_zero (Bg.ppos 32)).2 rfl
theorem Bg.bl_bounds {N : Nat} (hN : N < Bg.lim) : N < Bg.p2 (Bg.bl N) ∧ (N ≠ 0 → 1 ≤ Bg.bl N ∧ Bg.p2 (Bg.bl N - 1) ≤ N) := by
  have h1 := Bg.used_lt hN
  have h2 := Bg.used_ge N
  unfold Bg.bl
  by_cases h0 : Bg.used N = 0
  · rw [if_pos h0]
    rw [h0, Bg.pw_zero] at h1
    rw [Bg.p2_zero]
    omega
  · rw [if_neg h0]
    obtain ⟨k, hk⟩ : ∃ k, Bg.used N = k + 1 := ⟨Bg.used N - 1, by omega⟩
    rw [hk] at h1 h2 ⊢
    rw [show k + 1 - 1 = k from rfl] at *
    have h3 : Bg.pw k ≤ N := h2.resolve_left (by omega)
    have hp := Bg.ppos k
    have hq : N / Bg.pw k < 4294967296 := by
      rw [Nat.div_lt_iff_lt_mul hp, Nat.mul_comm, ← Bg.p32]; exact h1
    have hl : Bg.limb N k = N / Bg.pw k := by unfold Bg.limb; exact Nat.mod_eq_of_lt hq
    have hn : N / Bg.pw k ≠ 0 := by
      have := Nat.div_pos h3 hp
      omega
    rw [hl]
    obtain ⟨b1, b2⟩ := bitLen_bounds hq
    have b3 := b2 hn
    have b4 := bitLen_pos hn
    have d1 := Nat.div_add_mod N (Bg.pw k)
    have d2 := Nat.mod_lt N hp
    generalize N / Bg.pw k = l at b1 b2 b3 b4 d1 ⊢
    generalize Lib.bitLen l = m at b1 b2 b3 b4 ⊢
    refine ⟨?_, fun _ => ⟨by omega, ?_⟩⟩
    · rw [Bg.p2_add, Bg.p2_pw]
      have : Bg.pw k * (l + 1) ≤ Bg.pw k * Bg.p2 m := Nat.mul_le_mul_left _ b1
      rw [Nat.mul_add, Nat.mul_one] at this
      omega
    · rw [show 32 * k + m - 1 = 32 * k + (m - 1) from by omega, Bg.p2_add, Bg.p2_pw]
      have : Bg.pw k * Bg.p2 (m - 1) ≤ Bg.pw k * l := Nat.mul_le_mul_left _ b3
      omega
theorem Bg.p2_lt_imp {i j : Nat} (h : Bg.p2 i < Bg.p2 j) : i < j := by
  by_cases hc : i < j
  · exact hc
  · have := Bg.p2_mono (show j ≤ i by omega)
    omega
/-- A number below 2^k has at most k bits. -/
theorem Bg.bl_le {N k : Nat} (hN : N < Bg.lim) (h : N < Bg.p2 k) : Bg.bl N ≤ k := by
  by_cases h0 : N = 0
  · subst h0; rw [Bg.bl_zero]; omega
  · obtain ⟨_, b⟩ := Bg.bl_bounds hN
    obtain ⟨b1, b2⟩ := b h0
    have := Bg.p2_lt_imp (Nat.lt_of_le_of_lt b2 h)
    omega
theorem Bg.bl_gt {N k : Nat} (hN : N < Bg.lim) (h : Bg.p2 k ≤ N) : k < Bg.bl N := Bg.p2_lt_imp (Nat.lt_of_le_of_lt h (Bg.bl_bounds hN).1)
theorem Bg.bl_1024 {N : Nat} (hN : N < Bg.lim) : Bg.bl N ≤ 1024 := Bg.bl_le hN (by rw [Bg.p2_lim]; exact hN)
/-- A product has as many bits as its factors together, or one fewer. -/
theorem Bg.bl_mul {M N : Nat} (hM : M < Bg.lim) (hN : N < Bg.lim) (h : M * N < Bg.lim) (m0 : M ≠ 0) (n0 : N ≠ 0) : Bg.bl (M * N) = Bg.bl M + Bg.bl N ∨ Bg.bl (M * N) = Bg.bl M + Bg.bl N - 1 := by
  obtain ⟨a1, a2⟩ := Bg.bl_bounds hM
  obtain ⟨b1, b2⟩ := Bg.bl_bounds hN
  obtain ⟨a3, a4⟩ := a2 m0
  obtain ⟨b3, b4⟩ := b2 n0
  have u : M * N < Bg.p2 (Bg.bl M + Bg.bl N) := by
    rw [Bg.p2_add]
    exact Nat.mul_lt_mul_of_lt_of_le a1 (Nat.le_of_lt b1) (by omega)
  have l : Bg.p2 (Bg.bl M - 1 + (Bg.bl N - 1)) ≤ M * N := by
    rw [Bg.p2_add]
    exact Nat.mul_le_mul a4 b4
  have := Bg.bl_le h u
  have := Bg.bl_gt h l
  omega
theorem Bg.bl_over {M N : Nat} (hM : M < Bg.lim) (hN : N < Bg.lim) (h : ¬ M * N < Bg.lim) : 1024 < Bg.bl M + Bg.bl N := by
  obtain ⟨a1, _⟩ := Bg.bl_bounds hM
  obtain ⟨b1, _⟩ := Bg.bl_bounds hN
  by_cases hc : 1024 < Bg.bl M + Bg.bl N
  · exact hc
  · exfalso
    have u : M * N < Bg.p2 (Bg.bl M + Bg.bl N) := by
      rw [Bg.p2_add]
      exact Nat.mul_lt_mul_of_lt_of_le a1 (Nat.le_of_lt b1) (Bg.p2_pos _)
    have := Bg.p2_mono (show Bg.bl M + Bg.bl N ≤ 1024 by omega)
    rw [Bg.p2_lim] at this
    omega
/-- A sum has at most one bit more than the greater of the two. -/
theorem Bg.bl_sum {M N Z T : Nat} (hM : M < Bg.lim) (hN : N < Bg.lim) (hZ : Z < Bg.lim) (h : Z ≤ M + N) (h1 : Bg.bl M ≤ T) (h2 : Bg.bl N ≤ T) : Bg.bl Z ≤ T + 1 := by
  obtain ⟨a1, _⟩ := Bg.bl_bounds hM
  obtain ⟨b1, _⟩ := Bg.bl_bounds hN
  refine Bg.bl_le hZ ?_
  rw [Bg.p2_succ]
  have := Bg.p2_mono h1
  have := Bg.p2_mono h2
  omega
theorem Bg.bl_sum_over {M N T : Nat} (hM : M < Bg.lim) (hN : N < Bg.lim) (h : Bg.lim ≤ M + N) (h1 : Bg.bl M ≤ T) (h2 : Bg.bl N ≤ T) : 1024 ≤ T := by
  obtain ⟨a1, _⟩ := Bg.bl_bounds hM
  obtain ⟨b1, _⟩ := Bg.bl_bounds hN
  by_cases hc : 1024 ≤ T
  · exact hc
  · exfalso
    have h3 := Bg.p2_mono (show T + 1 ≤ 1024 by omega)
    rw [Bg.p2_lim, Bg.p2_succ] at h3
    have := Bg.p2_mono h1
    have := Bg.p2_mono h2
    omega
set_option maxRecDepth 20000 in
set_option maxHeartbeats 1000000 in
theorem bits_num (s : Bool) (N : Nat) (n : Int) (hN : N < Bg.lim) (hn : Hid (n = (Bg.bl N : Int))) (w : World) :
    Calls Try.prog 35 #[.agg (Bg.intA s N)] w fun e w' => e = .returned (.int .i64 n) ∧ Below w.heap.size w w' := by
  have hz := Bg.zero32
  obtain ⟨w1, hw1⟩ : ∃ w1, w1 = w.alloc (.cells (Bg.intA s N) 25) := ⟨_, rfl⟩
  have HO0 := (Own.start w).alloc (Bg.intA s N) 25
  rw [← hw1] at HO0
  have HO := Lib.hid HO0
  clear HO0
  obtain ⟨s1, hs1⟩ : ∃ s1, Hid (s1 = (s && decide (N ≠ 0))) := ⟨_, rfl⟩
  go_enter Try.func35, Try.ntmps35
  go_upto_region 2 with (first
    | (rw [← hw1]; (with_reducible apply wl_at; refine ld_int (s) (N) rfl _ rfl _ rfl (by exact HO.out.get (by simp)) ?_); clear hw1)
    | (go_at_call 50; refine (split_as s s1 N hN hs1 _).mono ?_; rintro e w2 ⟨rfl, hL⟩; have HO := Lib.hid ((HO.out.call hL).alloc (Bg.row 32 N) 57); clear hL)
    | ((with_reducible apply wl_at; refine sn_mag (N) rfl _ _ rfl rfl rfl ?_)))
  simp only [Act.put]
  generalize hw3 : w2.alloc (.cells (Bg.row 32 N) 57) = w3 at HO ⊢
  clear hw3
  have HBits := Lib.hid (bits_any w2.heap.size N w3 (HO.out.get (by simp)))
  rw [← hn.out] at HBits
  go_wp2_with (go_at_call 63; refine HBits.out.mono ?_; rintro e w' ⟨rfl, rfl⟩)
  go_ret
  exact ⟨rfl, HO.out.1⟩
theorem bits_z (p n : Int) (hp : p.natAbs < Bg.lim) (hn : Hid (n = (Bg.bl p.natAbs : Int))) (w : World) :
    Calls Try.prog 35 #[.agg (Bg.zA p)] w fun e w' => e = .returned (.int .i64 n) ∧ Below w.heap.size w w' := by
  rw [zA_int p]
  exact bits_num _ _ n hp hn w
theorem sign_z (p g : Int) (hp : p.natAbs < Bg.lim) (hg : Hid (g = p.sign)) (w : World) :
    Calls Try.prog 24 #[.agg (Bg.zA p)] w fun e w' => e = .returned (.int .i64 g) ∧ Below w.heap.size w w' := by
  rw [zA_int p]
  exact sign_any _ _ hp g (Lib.hid (by rw [Bg.toZ_iv]; exact hg.out)) w
end Go.Proofs.Ytbkbfgedlfbbiaa
