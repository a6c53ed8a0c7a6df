/- bigint's short: division by one limb, in place. -/
import Derived.Test.YtbkbfgedlfbbiaaBigK
namespace Go.Proofs.Ytbkbfgedlfbbiaa
open Go.RowKit
/-- Of the world only block b may have turned, and new blocks were made. -/
theorem grown_refl (w : World) (b : Nat) : w.grownBy w (some b) := World.grownBy.refl w _
theorem grown_cell {a w : World} {b : Nat} (h : a.grownBy w (some b)) (i : Nat) (v : Value) : a.grownBy (w.setCell ⟨b, i, none⟩ v) (some b) :=
  ⟨h.os, h.tape, h.output, by simpa [World.setCell] using h.size, fun k hk hne => (Below.heap_setCell _ _ _ _ (fun e => by subst e; exact hne rfl)).trans (h.block k hk hne)⟩
theorem grown_drewN {a w : World} {b : Nat} (h : a.grownBy w (some b)) (n : Nat) : a.grownBy (w.drewN n) (some b) := ⟨h.os, h.tape, h.output, h.size, h.block⟩
theorem grown_drew {a w : World} {b : Nat} (h : a.grownBy w (some b)) : a.grownBy w.drew (some b) := ⟨h.os, h.tape, h.output, h.size, h.block⟩
theorem div32_as (x y d q r : Nat) (hx : x < d) (hy : y < 4294967296) (hd : d < 4294967296) (hq : Hid (q = (x * 4294967296 + y) / d)) (hr : Hid (r = (x * 4294967296 + y) % d)) (w : World) :
    Calls Try.prog 68 #[.int .u32 (x : Nat), .int .u32 (y : Nat), .int .u32 (d : Nat)] w fun e w' => e = .returned (.tuple #[.int .u32 (q : Nat), .int .u32 (r : Nat)]) ∧ ∃ n, w' = w.drewN n := by
  rw [hq.out, hr.out]; exact div32_any x y d hx hy hd w
set_option maxRecDepth 20000 in
set_option maxHeartbeats 1000000 in
theorem short_any (b N x : Nat) (hN : N < Bg.lim) (hx0 : 0 < x) (hx : x < 4294967296) (w : World) (hB : Blk w b (Bg.row 32 N)) :
    Calls Try.prog 51 #[.pointer (some ⟨b, 0, none⟩), .int .u32 (x : Nat)] w fun e w' => e = .returned (.int .u32 (N % x : Nat)) ∧ Blk w' b (Bg.row 32 (N / x)) ∧ w.grownBy w' (some b) := by
  have HB := Lib.hid hB
  have HU := Lib.hid (used_any b N w hB)
  have HNU := Lib.hid (Bg.used_lt hN)
  have hul := Bg.used_le N
  clear hB
  generalize Bg.used N = n at HU HNU hul
  go_enter Try.func51, Try.ntmps51
  go_wp2_with (go_at_call 67; refine HU.out.mono ?_; rintro e w' ⟨rfl, rfl⟩)
  go_loopw [5, 6] (fun r i wr => ∃ (k q : Nat), k ≤ n ∧ i = .int .i64 ((k : Int) - 1) ∧ r = .int .u32 (q : Nat) ∧ Hid (q = Bg.shR N x k) ∧ Hid (Blk wr b (Bg.row 32 (Bg.shT N x k))) ∧ Hid (w'.grownBy wr (some b))) (fun _ i _ => (intOf i + 1).toNat)
  case atStart => exact ⟨n, 0, by omega, rfl, rfl, Lib.hid (Bg.shR_top HNU.out).symm, Lib.hid (by rw [Bg.shT_top HNU.out]; exact HB.out), Lib.hid (grown_refl _ _)⟩
  case round =>
    clear HB HU
    obtain ⟨k, q, hk, rfl, rfl, HQ, HB, HG⟩ := hrel
    cases k with
    | zero =>
      go_wp2_with fail
      go_ret
      have hd := Bg.sh_done N x
      refine ⟨?_, hd.1 ▸ HB.out, HG.out⟩
      rw [← hd.2, ← HQ.out]
      rfl
    | succ k =>
      have e1 : ((k + 1 : Nat) : Int) - 1 = (k : Int) := by omega
      rw [e1]
      have hk32 : k < 32 := by omega
      have hc := HB.out.limb hk32
      rw [Bg.shT_limb] at hc
      have hf := HB.out.free k
      have hqx : q < x := by rw [HQ.out]; exact Bg.shR_lt _ _ _ hx0
      have hl := Bg.limb_lt N k
      have HS := Lib.hid (Bg.sh_step (N := N) (k := k) hx0)
      obtain ⟨d, hd⟩ : ∃ d, Hid (d = (q * 4294967296 + Bg.limb N k) / x) := ⟨_, rfl⟩
      obtain ⟨r, hr⟩ : ∃ r, Hid (r = (q * 4294967296 + Bg.limb N k) % x) := ⟨_, rfl⟩
      have HX := Lib.hid (div32_as q (Bg.limb N k) x d r hqx hl hx hd hr)
      have hdl : Hid (d < 4294967296) := Lib.hid (by
        rw [hd.out, Nat.div_lt_iff_lt_mul hx0]
        have : (q + 1) * 4294967296 ≤ x * 4294967296 := Nat.mul_le_mul_right _ hqx
        omega)
      go_wp2_with fail
      go_region_with (go_at_call 68; refine (HX.out _).mono ?_; rintro e w3 ⟨rfl, n3, rfl⟩)
      all_goals
        go_wp2_with fail
        go_roundw
        case rel => exact ⟨k, r, by omega, rfl, rfl, Lib.hid (by rw [HS.out.2, ← HQ.out, hr.out]), Lib.hid (by have := (HB.out.drewN (1 + n3)).put k d hdl.out; rw [hd.out, HQ.out, HS.out.1, ← HQ.out, ← hd.out] at this; exact this), Lib.hid (grown_cell (grown_drewN HG.out _) k _)⟩
        case measure => simp [intOf]
end Go.Proofs.Ytbkbfgedlfbbiaa
