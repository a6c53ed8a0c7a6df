/- The number of limbs that are used: bigint's used, the document's limbs and zero. -/
import Derived.Test.YtbkbfgedlfbbiaaBigW
namespace Go.Proofs.Ytbkbfgedlfbbiaa
open Go.RowKit
set_option maxHeartbeats 1000000 in
theorem used_any (b N : Nat) (w : World) (hb : Blk w b (Bg.row 32 N)) :
    Calls Try.prog 67 #[.pointer (some ⟨b, 0, none⟩)] w fun e w' => e = .returned (.int .i64 (Bg.used N : Nat)) ∧ w' = w := by
  have HB := Lib.hid hb
  clear hb
  go_enter Try.func67, Try.ntmps67
  go_wp2
  go_loop [3] (fun i => ∃ k : Nat, k ≤ 32 ∧ i = .int .i64 k ∧ Hid (Bg.used N = Bg.top k N)) (fun i => (intOf i).toNat)
  case atStart => exact ⟨32, by omega, rfl, Lib.hid rfl⟩
  case round =>
    obtain ⟨k, hk, rfl, HK⟩ := hrel
    cases k with
    | zero =>
      go_wp2
      go_ret
      exact ⟨by rw [HK.out]; rfl, rfl⟩
    | succ k =>
      have hc := HB.out.limb (i := k) (by omega)
      by_cases h0 : Bg.limb N k = 0
      · rw [h0] at hc
        go_wp2
        go_round
        case rel => exact ⟨k, by omega, rfl, Lib.hid (HK.out.trans (Bg.top_down h0))⟩
        case measure => simp [intOf]
      · go_wp2
        go_ret
        exact ⟨by rw [HK.out, Bg.top_stop h0]; simp, rfl⟩
set_option maxHeartbeats 1000000 in
theorem limbs_any (N : Nat) (w : World) :
    Calls Try.prog 64 #[Bg.magV N] w fun e w' => e = .returned (.int .i64 (Bg.used N : Nat)) ∧ Below w.heap.size w w' := by
  unfold Bg.magV
  go_enter Try.func64, Try.ntmps64
  go_wp2
  have HB := Lib.hid (Blk.new w (Bg.row 32 N) 23)
  generalize hg : w.alloc (Obj.cells (Bg.row 32 N) 23) = w1 at HB ⊢
  have HL := Lib.hid (show Below w.heap.size w w1 from hg ▸ below_new w _)
  clear hg
  go_loop [3] (fun i => ∃ k : Nat, k ≤ 32 ∧ i = .int .i64 k ∧ Hid (Bg.used N = Bg.top k N)) (fun i => (intOf i).toNat)
  case atStart => exact ⟨32, by omega, rfl, Lib.hid rfl⟩
  case round =>
    obtain ⟨k, hk, rfl, HK⟩ := hrel
    cases k with
    | zero =>
      go_wp2
      go_ret
      exact ⟨by rw [HK.out]; rfl, HL.out⟩
    | succ k =>
      have hc := HB.out.limb (i := k) (by omega)
      by_cases h0 : Bg.limb N k = 0
      · rw [h0] at hc
        go_wp2
        go_round
        case rel => exact ⟨k, by omega, rfl, Lib.hid (HK.out.trans (Bg.top_down h0))⟩
        case measure => simp [intOf]
      · go_wp2
        go_ret
        exact ⟨by rw [HK.out, Bg.top_stop h0]; simp, HL.out⟩
set_option maxHeartbeats 1000000 in
theorem zero_any (N : Nat) (hN : N < Bg.lim) (w : World) :
    Calls Try.prog 52 #[Bg.magV N] w fun e w' => e = .returned (.bool (decide (N = 0))) ∧ Below w.heap.size w w' := by
  unfold Bg.magV
  go_enter Try.func52, Try.ntmps52
  have HB := Lib.hid (Blk.new w (Bg.row 32 N) 23)
  go_wp2_with (first
    | (refine ld_arr N rfl _ rfl _ rfl HB.out ?_)
    | (go_at_call 64; refine (limbs_any N _).mono ?_; rintro e w' ⟨rfl, hL⟩))
  go_ret
  refine ⟨?_, (below_new w _).trans (hL.mono (by simp))⟩
  have h0 := Bg.used_zero hN
  by_cases e : N = 0
  · rw [h0.2 e]
    simp [e]
  · have := mt h0.1 e
    simp [e, this]
end Go.Proofs.Ytbkbfgedlfbbiaa
