/- The length in bits: Go's Len32, bigint's bits. -/
import Derived.Test.YtbkbfgedlfbbiaaBigA
import Derived.Test.YtbkbfgedlfbbiaaLen
namespace Go.Proofs.Ytbkbfgedlfbbiaa
open Go.RowKit
theorem bitLenAux_le : ∀ (f x : Nat), Lib.bitLenAux f x ≤ f
  | 0, _ => Nat.le_refl _
  | f + 1, x => by
    unfold Lib.bitLenAux
    have := bitLenAux_le f (x / 2)
    split <;> omega
theorem bitLen_32 {x : Nat} (h : x < 4294967296) : Lib.bitLen x ≤ 32 := by
  unfold Lib.bitLen
  rw [Lib.bitLenAux_fuel 32 x h 64 (by decide)]
  exact bitLenAux_le 32 x
theorem bitLen_pos {x : Nat} (h : x ≠ 0) : 1 ≤ Lib.bitLen x := by
  unfold Lib.bitLen Lib.bitLenAux
  rw [if_neg h]
  omega
def Bg.bl (N : Nat) : Nat := if Bg.used N = 0 then 0 else 32 * (Bg.used N - 1) + Lib.bitLen (Bg.limb N (Bg.used N - 1))
theorem Bg.top_limb (N : Nat) : ∀ k, Bg.top k N = 0 ∨ Bg.limb N (Bg.top k N - 1) ≠ 0
  | 0 => .inl rfl
  | k + 1 => by
    by_cases h : Bg.limb N k = 0
    · rw [Bg.top_down h]; exact Bg.top_limb N k
    · rw [Bg.top_stop h]; right; simpa using h
theorem Bg.bl_64 {N : Nat} (hN : N < Bg.lim) : (64 < Bg.bl N) = ¬ N < 18446744073709551616 := by
  have hp : Bg.pw 2 = 18446744073709551616 := by rw [show (2 : Nat) = 0 + 1 + 1 from rfl, Bg.p32, Bg.p32, Bg.pw_zero]
  have h1 := Bg.used_lt hN
  have h2 := Bg.used_ge N
  have h3 : Bg.used N = 0 ∨ Bg.limb N (Bg.used N - 1) ≠ 0 := by unfold Bg.used; exact Bg.top_limb N 32
  have h4 := bitLen_32 (Bg.limb_lt N (Bg.used N - 1))
  unfold Bg.bl
  by_cases h0 : Bg.used N = 0
  · rw [if_pos h0]
    rw [h0, Bg.pw_zero] at h1
    simp
    omega
  · rw [if_neg h0]
    have h5 := bitLen_pos (h3.resolve_left h0)
    rw [← hp]
    by_cases hu : Bg.used N ≤ 2
    · have := Bg.pmono hu
      have h6 : N < Bg.pw 2 := Nat.lt_of_lt_of_le h1 this
      simp [h6]
      omega
    · have := Bg.pmono (show 2 ≤ Bg.used N - 1 by omega)
      have h6 : ¬ N < Bg.pw 2 := by
        rcases h2 with h2 | h2 <;> omega
      simp [h6]
      omega
set_option maxRecDepth 20000 in
set_option maxHeartbeats 1000000 in
theorem bits_any (b N : Nat) (w : World) (hB : Blk w b (Bg.row 32 N)) :
    Calls Try.prog 63 #[.pointer (some ⟨b, 0, none⟩)] w fun e w' => e = .returned (.int .i64 (Bg.bl N : Nat)) ∧ w' = w := by
  have HB := Lib.hid hB
  have HU := Lib.hid (used_any b N w hB)
  have hu := Bg.used_le N
  obtain ⟨n, hn⟩ : ∃ n, n = Bg.used N := ⟨_, rfl⟩
  rw [← hn] at HU hu
  have HN := Lib.hid hn
  clear hn hB
  by_cases h0 : n = 0
  · subst h0
    go_enter Try.func63, Try.ntmps63
    go_wp2_with (go_at_call 67; refine HU.out.mono ?_; rintro e w' ⟨rfl, rfl⟩)
    go_ret
    refine ⟨?_, rfl⟩
    unfold Bg.bl
    rw [if_pos HN.out.symm]
    rfl
  · obtain ⟨k, rfl⟩ : ∃ k, n = k + 1 := ⟨n - 1, by omega⟩
    have hc := HB.out.limb (i := k) (by omega)
    have hl := Bg.limb_lt N k
    have h4 := bitLen_32 hl
    have HL := Lib.hid (len32_any (Bg.limb N k : Nat) w (by omega) (by omega))
    have e2 : ((Bg.limb N k : Nat) : Int).toNat = Bg.limb N k := by omega
    rw [e2] at HL
    obtain ⟨m, hm⟩ : ∃ m, m = Lib.bitLen (Bg.limb N k) := ⟨_, rfl⟩
    rw [← hm] at HL h4
    have HM := Lib.hid hm
    clear hm e2
    have e1 : (((k + 1 : Nat) : Int) - 1) = (k : Int) := by omega
    have hk0 : (0 : Int) ≤ (k : Int) := by omega
    have hk1 : (k : Int) < 32 := by omega
    have hne : ¬ (((k + 1 : Nat) : Int) = 0) := by omega
    obtain ⟨K, hK⟩ : ∃ K, K = k + 1 := ⟨_, rfl⟩
    go_enter Try.func63, Try.ntmps63
    go_wp2_with (first
      | (go_at_call 67; refine HU.out.mono ?_; rintro e w' ⟨rfl, rfl⟩)
      | (go_at_call 72; refine HL.out.mono ?_; rintro e w' ⟨rfl, rfl⟩))
    go_ret
    refine ⟨congrArg Ending.returned (congrArg (Value.int IntKind.i64) ?_), rfl⟩
    unfold Bg.bl
    rw [← HN.out, if_neg h0, show k + 1 - 1 = k from rfl, ← HM.out]
    omega
end Go.Proofs.Ytbkbfgedlfbbiaa
