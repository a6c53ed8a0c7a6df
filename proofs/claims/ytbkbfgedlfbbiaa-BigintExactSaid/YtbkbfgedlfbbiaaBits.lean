/- Go's math/bits at 32 bits: Add32, Sub32, Div32. -/
import Derived.Test.YtbkbfgedlfbbiaaBigMath
import Derived.Test.YtbkbfgedlfbbiaaBase
import Derived.Laws.BitsAllLaws
namespace Go.Proofs.Ytbkbfgedlfbbiaa
open Go.RowKit
theorem ret_pair {v v' u u' : Value} {x : Ending} (h : x = .returned (.tuple #[v, u])) (h1 : v = v') (h2 : u = u') : x = .returned (.tuple #[v', u']) := by rw [h, h1, h2]
theorem add32_any (x y c : Nat) (hx : x < 4294967296) (hy : y < 4294967296) (hc : c ≤ 1) (w : World) :
    Calls Try.prog 71 #[.int .u32 (x : Nat), .int .u32 (y : Nat), .int .u32 (c : Nat)] w fun e w' => e = .returned (.tuple #[.int .u32 ((x + y + c) % 4294967296 : Nat), .int .u32 ((x + y + c) / 4294967296 : Nat)]) ∧ w' = w := by
  go_enter Try.func71, Try.ntmps71
  go_wp2
  go_ret2
  refine ⟨ret_pair rfl (by congr) (by congr), rfl⟩
theorem sub32_any (x y c : Nat) (hx : x < 4294967296) (hy : y < 4294967296) (hc : c ≤ 1) (w : World) :
    Calls Try.prog 70 #[.int .u32 (x : Nat), .int .u32 (y : Nat), .int .u32 (c : Nat)] w fun e w' => e = .returned (.tuple #[.int .u32 ((x + 4294967296 - y + 4294967296 - c) % 4294967296 : Nat), .int .u32 (Bg.brw x y c : Nat)]) ∧ w' = w := by
  have hs : IntKind.u32.signed = false := rfl
  have hm : IntKind.u32.max = 4294967295 := rfl
  have hd : (((x : Int) - y) % 4294967296 - c) % 4294967296 = (((x + 4294967296 - y + 4294967296 - c) % 4294967296 : Nat) : Int) := by omega
  have hb := Bg.borrow_bits x y c hx hy hc
  have hdl : (x + 4294967296 - y + 4294967296 - c) % 4294967296 < 4294967296 := Nat.mod_lt _ (by decide)
  obtain ⟨d, hdd⟩ : ∃ d, d = (x + 4294967296 - y + 4294967296 - c) % 4294967296 := ⟨_, rfl⟩
  rw [← hdd] at hd hb hdl ⊢
  have hx1 : x ^^^ y < 4294967296 := Nat.xor_lt_two_pow (n := 32) hx hy
  have hx2 : 4294967295 ^^^ x < 4294967296 := Nat.xor_lt_two_pow (n := 32) (by decide) hx
  have hx3 : 4294967295 ^^^ (x ^^^ y) < 4294967296 := Nat.xor_lt_two_pow (n := 32) (by decide) hx1
  have h4 : (4294967295 ^^^ x) &&& y < 4294967296 := Nat.lt_of_le_of_lt Nat.and_le_right hy
  have h5 : (4294967295 ^^^ (x ^^^ y)) &&& d < 4294967296 := Nat.lt_of_le_of_lt Nat.and_le_right hdl
  have r1 := u32_xor_nat x y hx hy
  have r2 : bits .xor .u32 4294967295 (x : Int) = _ := u32_xor_nat 4294967295 x (by decide) hx
  have r3 : bits .xor .u32 4294967295 ((x ^^^ y : Nat) : Int) = _ := u32_xor_nat 4294967295 (x ^^^ y) (by decide) hx1
  have r4 := u32_and_nat (4294967295 ^^^ x) y hx2 hy
  have r5 := u32_and_nat (4294967295 ^^^ (x ^^^ y)) d hx3 hdl
  have r6 := u32_or_nat _ _ h4 h5
  have HB := Lib.hid hb
  clear hb hdd hdl hx1 hx2 hx3 h4 h5
  go_enter Try.func70, Try.ntmps70
  go_wp2
  go_ret2
  refine ⟨ret_pair rfl (congrArg (Value.int .u32) hd) (congrArg (Value.int .u32) ?_), rfl⟩
  rw [← HB.out]
  rfl
theorem div_or (x y : Nat) (hx : x < 4294967296) (hy : y < 4294967296) : bits .or .u64 (((x * 4294967296 : Nat) : Int)) (y : Int) = ((x * 4294967296 + y : Nat) : Int) := by
  rw [u64_or_nat _ _ (by omega) (by omega), nat_join 32 _ _ (by omega) (by omega)]
set_option maxRecDepth 20000 in
theorem div32_any (x y d : Nat) (hx : x < d) (hy : y < 4294967296) (hd : d < 4294967296) (w : World) :
    Calls Try.prog 68 #[.int .u32 (x : Nat), .int .u32 (y : Nat), .int .u32 (d : Nat)] w fun e w' => e = .returned (.tuple #[.int .u32 ((x * 4294967296 + y) / d : Nat), .int .u32 ((x * 4294967296 + y) % d : Nat)]) ∧ ∃ n, w' = w.drewN n := by
  have h1 : ¬ d ≤ x := by omega
  have h2 : ((d : Int) != 0) = true := by simp; omega
  have h3 : ((d : Int) == 0) = false := by simp; omega
  have ho : bits .or .u64 ((x : Int) * 4294967296) (y : Int) = ((x * 4294967296 + y : Nat) : Int) := div_or x y (by omega) hy
  have hq : (x * 4294967296 + y) / d < 4294967296 := by
    rw [Nat.div_lt_iff_lt_mul (by omega)]
    have : (x + 1) * 4294967296 ≤ d * 4294967296 := Nat.mul_le_mul_right _ hx
    omega
  have hz : x * 4294967296 + y < 18446744073709551616 := by omega
  have hr : (x * 4294967296 + y) % d < d := Nat.mod_lt _ (by omega)
  generalize x * 4294967296 + y = z at ho hq hz hr ⊢
  have HQ := Lib.hid hq
  clear hq
  go_enter Try.func68, Try.ntmps68
  go_wp2_with fail
  go_quiet (fail)
  go_wp2_with fail
  go_ret2
  refine ⟨ret_pair rfl (congrArg (Value.int .u32) ?_) (congrArg (Value.int .u32) ?_), nq, rfl⟩
  · have h := HQ.out
    have e : (z : Int) / (d : Int) = ((z / d : Nat) : Int) := rfl
    rw [e]
    generalize z / d = q at h ⊢
    have hw : IntKind.u64.wrap (q : Int) = (q : Int) % 18446744073709551616 := by simp [IntKind.wrap, IntKind.bits, IntKind.signed]
    rw [hw]
    omega
  · rfl
end Go.Proofs.Ytbkbfgedlfbbiaa
