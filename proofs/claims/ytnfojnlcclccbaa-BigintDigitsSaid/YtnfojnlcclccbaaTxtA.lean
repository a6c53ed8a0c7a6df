/- The contract of small: a magnitude times x and y more. -/
import Derived.Test.YtnfojnlcclccbaaEngB
import Derived.Test.YtnfojnlcclccbaaTxtMath
namespace Go.Proofs.Ytnfojnlcclccbaa
set_option maxRecDepth 8000
/-- Before limb i: the low limbs are turned, c is carried. -/
structure Bg.SmSt (N x y i S c : Nat) : Prop where
  lt : S < Bg.lim
  hi : ∀ j, i ≤ j → Bg.limb S j = Bg.limb N j
  eq : S % Bg.pw i + c * Bg.pw i = N % Bg.pw i * x + y
  le : c < 4294967296
theorem Bg.SmSt.zero {N x y : Nat} (hN : N < Bg.lim) (hy : y < 4294967296) : Bg.SmSt N x y 0 N y := ⟨hN, fun _ _ => rfl, by rw [Bg.pw_zero, Nat.mod_one]; simp, hy⟩
theorem Bg.setL_lo (N i x : Nat) (hx : x < 4294967296) : Bg.setL N i x % Bg.pw (i + 1) = N % Bg.pw i + x * Bg.pw i := by
  unfold Bg.setL
  rw [Nat.add_mul_mod_self_right]
  exact Nat.mod_eq_of_lt (Bg.lt_succ (Nat.mod_lt _ (Bg.ppos i)) hx)
theorem Bg.SmSt.step {N x y i S c : Nat} (h : Bg.SmSt N x y i S c) (hi : i < 32) (hx : x < 4294967296) :
    Bg.SmSt N x y (i + 1) (Bg.setL S i ((Bg.limb N i * x + c) % 4294967296)) ((Bg.limb N i * x + c) / 4294967296) := by
  obtain ⟨h1, h2, h3, h4⟩ := h
  have hl := Bg.limb_lt N i
  have hm := Bg.col_mul hl hx
  have hr : (Bg.limb N i * x + c) % 4294967296 < 4294967296 := Nat.mod_lt _ (by decide)
  have e := Nat.div_add_mod (Bg.limb N i * x + c) 4294967296
  refine ⟨Bg.setL_lt _ _ _ _ hr hi h1, fun j hj => ?_, ?_, by omega⟩
  · rw [Bg.setL_limb _ _ _ _ hr, if_neg (by omega)]
    exact h2 j (by omega)
  · rw [Bg.setL_lo _ _ _ hr, Bg.low_succ, Bg.p32]
    generalize (Bg.limb N i * x + c) % 4294967296 = r at *
    generalize (Bg.limb N i * x + c) / 4294967296 = q at *
    generalize S % Bg.pw i = s at *
    generalize N % Bg.pw i = n at *
    generalize Bg.pw i = p at *
    generalize Bg.limb N i = l at *
    grind
theorem Bg.SmSt.done {N x y S c : Nat} (h : Bg.SmSt N x y 32 S c) (hN : N < Bg.lim) : S = (N * x + y) % Bg.lim ∧ (c = 0 ↔ N * x + y < Bg.lim) := by
  obtain ⟨h1, h2, h3, h4⟩ := h
  have e : Bg.pw 32 = Bg.lim := rfl
  rw [e, Nat.mod_eq_of_lt h1, Nat.mod_eq_of_lt hN] at h3
  refine ⟨?_, ?_, ?_⟩
  · rw [← h3, Nat.add_mul_mod_self_right, Nat.mod_eq_of_lt h1]
  · rintro rfl; omega
  · intro hlt
    rcases Nat.eq_zero_or_pos c with hc | hc
    · exact hc
    · have := Nat.le_mul_of_pos_left Bg.lim hc; omega
end Go.Proofs.Ytnfojnlcclccbaa

namespace Go.Proofs.Ytnfojnlcclccbaa
set_option maxRecDepth 8000
open Go.RowKit
set_option maxRecDepth 20000 in
set_option maxHeartbeats 1000000 in
theorem small_any (b N x y : Nat) (hN : N < Bg.lim) (hx : x < 4294967296) (hy : y < 4294967296) (w : World) (hB : Blk w b (Bg.row 32 N)) :
    Calls Try.prog 16 #[.pointer (some ⟨b, 0, none⟩), .int .u32 (x : Nat), .int .u32 (y : Nat)] w fun e w' => e = .returned (.bool (decide (N * x + y < Bg.lim))) ∧ Blk w' b (Bg.row 32 ((N * x + y) % Bg.lim)) ∧ w.grownBy w' (some b) := by
  have HB := Lib.hid hB
  have HZ := Lib.hid (Bg.SmSt.zero (x := x) hN hy)
  clear hB
  go_enter Try.func16, Try.ntmps16
  go_wp2_with fail
  go_loopw [7, 12] (fun c i wr => ∃ (k q S : Nat), k ≤ 32 ∧ i = .int .i64 k ∧ c = .int .u64 q ∧ Hid (Bg.SmSt N x y k S q) ∧ Hid (Blk wr b (Bg.row 32 S)) ∧ Hid (w.grownBy wr (some b))) (fun _ i _ => 32 - (intOf i).toNat)
  case atStart => exact ⟨0, y, N, by omega, rfl, rfl, HZ, HB, Lib.hid (grown_refl _ _)⟩
  case round =>
    clear HB HZ
    obtain ⟨k, q, S, hk, rfl, rfl, HZ, HB, HG⟩ := hrel
    by_cases hlt : k < 32
    · have hc := HB.out.limb hlt
      rw [HZ.out.hi k (Nat.le_refl k)] at hc
      have hf := HB.out.free k
      have hq := HZ.out.le
      have hl := Bg.limb_lt N k
      have HS := Lib.hid (HZ.out.step hlt hx)
      have HP := Lib.hid (HB.out.put k _ (Nat.mod_lt (Bg.limb N k * x + q) (show 4294967296 > 0 by decide)))
      generalize Bg.limb N k = l at hc hl HS HP
      have hxy := Bg.col_mul hl hx
      have h1 : l * x < 18446744073709551616 := by omega
      have h3 : l * x + q < 18446744073709551616 := by omega
      go_wp2_with fail
      go_roundw
      case rel => exact ⟨k + 1, _, _, by omega, by go_num, rfl, HS, HP, Lib.hid (grown_cell HG.out k _)⟩
      case measure => simp [intOf]; omega
    · obtain rfl : k = 32 := by omega
      have hd := HZ.out.done hN
      go_wp2_with fail
      go_ret
      refine ⟨?_, hd.1 ▸ HB.out, HG.out⟩
      refine ret_bool (a := ((q : Int) == 0)) ?_
      rw [Bool.eq_iff_iff, decide_eq_true_iff, beq_iff_eq, ← hd.2]
      omega
end Go.Proofs.Ytnfojnlcclccbaa
