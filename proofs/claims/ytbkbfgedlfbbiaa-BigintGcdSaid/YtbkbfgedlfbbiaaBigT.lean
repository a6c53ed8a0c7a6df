/- bigint's ToInt. -/
import Derived.Test.YtbkbfgedlfbbiaaBigR
import Derived.Test.YtbkbfgedlfbbiaaBigS
import Derived.Test.YtbkbfgedlfbbiaaBigN
namespace Go.Proofs.Ytbkbfgedlfbbiaa
open Go.RowKit
/-- Does a number fit into 64 bits with a sign? -/
def Bg.fits64 (z : Int) : Bool := decide (-9223372036854775808 ≤ z) && decide (z < 9223372036854775808)
theorem Bg.two_limbs {N : Nat} (h : N < 18446744073709551616) : N = Bg.limb N 1 * 4294967296 + Bg.limb N 0 := by
  unfold Bg.limb
  rw [Bg.pw_one, Bg.pw_zero]
  omega
theorem run_lss (x y : Operand) (m n : Int) (w : World) :
    (do eqGuard .lss 79 x y (.int .u64 m) (.int .u64 n); binOp .lss 79 (.int .u64 m) (.int .u64 n) : Sem Value).run Try.prog w = .ok (.bool (decide (m < n))) w := by
  simp [go_sem]
theorem gls_lss (m n : Int) (v : Bool) (hv : v = decide (m < n)) {ops : Array Oper} {rest : List Oper} {o : Oper} {a : Act} {w : World} {Q : Exit → Act → World → Prop} (hw : Region.wanted o (yielded ops a.tmps) = true) (x y : Operand) (t : TypeId) (ho : o.op = .binOp .lss 79 x y t) (hx : a.eval x = .int .u64 m) (hy : a.eval y = .int .u64 n)
    (h : wpList Try.prog ops Q rest (a.put o.dst (.bool v)) w) : wpList Try.prog ops Q (o :: rest) a w := by
  have hr := run_lss x y m n w
  rw [← hv] at hr
  refine wpList_step fun K hK => ?_
  rw [if_pos hw]
  unfold Oper.wp execOp
  simp only [Sem.run_bind] at hr
  simp only [ho, hx, hy, Sem.run_bind, hr, Result.andThen_ok, Sem.run_pure]
  exact hK _ _ h
set_option maxRecDepth 20000 in
set_option maxHeartbeats 2000000 in
theorem toInt_any0 (s : Bool) (N : Nat) (hN : N < Bg.lim) (v : Int) (f : Bool) (hf : Hid (f = Bg.fits64 (Bg.toZ s N))) (hv : Hid (v = if f then Bg.toZ s N else 0)) (w : World) :
    Calls Try.prog 37 #[.agg (Bg.intA s N)] w fun e w' => e = .returned (.tuple #[.int .i64 v, .bool f]) ∧ Below w.heap.size w w' := by
  have hz := Bg.zero32
  obtain ⟨w1, hw1⟩ : ∃ w1, w1 = w.alloc (.cells (Bg.intA s N) 25) := ⟨_, rfl⟩
  have HO0 := (Own.start w).alloc (Bg.intA s N) 25
  rw [← hw1] at HO0
  have HO := Lib.hid HO0
  clear HO0
  obtain ⟨s1, hs1⟩ : ∃ s1, Hid (s1 = (s && decide (N ≠ 0))) := ⟨_, rfl⟩
  have HZ : Hid (Bg.toZ s1 N = Bg.toZ s N) := Lib.hid (by rw [hs1.out, Bg.toZ_canon])
  obtain ⟨m, hm⟩ : ∃ m, m = Bg.bl N := ⟨_, rfl⟩
  have hb64 : (64 < m) = ¬ N < 18446744073709551616 := by rw [hm]; exact Bg.bl_64 hN
  have HM := Lib.hid hm
  clear hm
  go_enter Try.func37, Try.ntmps37
  go_upto_region 2 with (first
    | (rw [← hw1]; (with_reducible apply wl_at; refine ld_int (s) (N) rfl _ rfl _ rfl (by exact HO.out.get (by simp)) ?_); clear hw1)
    | (go_at_call 50; refine (split_as s s1 N hN hs1 _).mono ?_; rintro e w2 ⟨rfl, hL⟩; have HO := Lib.hid ((HO.out.call hL).alloc (Bg.row 32 N) 57); clear hL)
    | ((with_reducible apply wl_at; refine sn_mag (N) rfl _ _ rfl rfl rfl ?_)))
  simp only [Act.put]
  generalize hw3 : w2.alloc (.cells (Bg.row 32 N) 57) = w3 at HO ⊢
  clear hw3
  have HB : Hid (Blk w3 w2.heap.size (Bg.row 32 N)) := Lib.hid (HO.out.get (by simp))
  have HBits := Lib.hid (bits_any w2.heap.size N w3 HB.out)
  rw [← HM.out] at HBits
  by_cases hN64 : N < 18446744073709551616
  · have hm64 : ¬ 64 < m := by rw [hb64]; simp [hN64]
    have HN64 := Lib.hid hN64
    have hc0 := HB.out.limb (i := 0) (by decide)
    have hc1 := HB.out.limb (i := 1) (by decide)
    have h0l := Bg.limb_lt N 0
    have h1l := Bg.limb_lt N 1
    have ho : bits .or .u64 (((Bg.limb N 1 : Nat) : Int) * 4294967296) ((Bg.limb N 0 : Nat) : Int) = ((Bg.limb N 1 * 4294967296 + Bg.limb N 0 : Nat) : Int) := div_or _ _ h1l h0l
    rw [← Bg.two_limbs hN64] at ho
    generalize Bg.limb N 0 = l0 at hc0 h0l ho
    generalize Bg.limb N 1 = l1 at hc1 h1l ho
    clear hb64
    have HFV : Hid (∀ b : Bool, f = b → v = if b then Bg.toZ s1 N else 0) := Lib.hid (fun b hb => by rw [hv.out, hb, HZ.out])
    have HFF : Hid (f = Bg.fits64 (Bg.toZ s1 N)) := Lib.hid (by rw [hf.out, HZ.out])
    cases s1 with
    | true =>
      by_cases hb : N ≤ 9223372036854775808
      · have HBd := Lib.hid hb
        go_wp2_with (go_at_call 63; refine HBits.out.mono ?_; rintro e w' ⟨rfl, rfl⟩)
        go_ret2
        have hft : f = true := by
          have := HBd.out
          rw [HFF.out]; simp [Bg.fits64, Bg.toZ]; omega
        refine ⟨ret_pair rfl (congrArg (Value.int .i64) ?_) (congrArg Value.bool hft.symm), HO.out.1⟩
        rw [HFV.out true hft]
        have := HBd.out
        have hw (x : Int) : IntKind.u64.wrap x = x % 18446744073709551616 := by simp [IntKind.wrap, IntKind.bits, IntKind.signed]
        simp only [Bg.toZ, if_true, hw]
        unfold wrap64
        omega
      · have HBd := Lib.hid hb
        go_wp2_with (go_at_call 63; refine HBits.out.mono ?_; rintro e w' ⟨rfl, rfl⟩)
        go_ret2
        have hft : f = false := by
          have := HBd.out
          rw [HFF.out]; simp [Bg.fits64, Bg.toZ]; omega
        refine ⟨ret_pair rfl (congrArg (Value.int .i64) ?_) (congrArg Value.bool hft.symm), HO.out.1⟩
        rw [HFV.out false hft]
        rfl
    | false =>
      by_cases hb : N < 9223372036854775808
      · have HBd := Lib.hid hb
        clear hb
        go_wp2_with (first | (go_at_call 63; refine HBits.out.mono ?_; rintro e w' ⟨rfl, rfl⟩) | (with_reducible apply wl_at; refine gls_lss N 9223372036854775808 true (by have := HBd.out; simp; omega) rfl _ _ _ rfl rfl rfl ?_))
        go_ret2
        have hft : f = true := by
          have := HBd.out
          rw [HFF.out]; simp [Bg.fits64, Bg.toZ]; omega
        refine ⟨ret_pair rfl (congrArg (Value.int .i64) ?_) (congrArg Value.bool hft.symm), HO.out.1⟩
        rw [HFV.out true hft]
        have := HBd.out
        simp only [Bg.toZ]
        first | rfl | (simp; done) | (unfold wrap64; simp; omega)
      · have HBd := Lib.hid hb
        clear hb
        go_wp2_with (first | (go_at_call 63; refine HBits.out.mono ?_; rintro e w' ⟨rfl, rfl⟩) | (with_reducible apply wl_at; refine gls_lss N 9223372036854775808 false (by have := HBd.out; simp; omega) rfl _ _ _ rfl rfl rfl ?_))
        go_ret2
        have hft : f = false := by
          have := HBd.out
          rw [HFF.out]; simp [Bg.fits64, Bg.toZ]; omega
        refine ⟨ret_pair rfl (congrArg (Value.int .i64) ?_) (congrArg Value.bool hft.symm), HO.out.1⟩
        rw [HFV.out false hft]
        rfl
  · have hm64 : 64 < m := by rw [hb64]; exact hN64
    have HN64 := Lib.hid hN64
    clear hb64 hN64
    go_wp2_with (go_at_call 63; refine HBits.out.mono ?_; rintro e w' ⟨rfl, rfl⟩)
    go_ret2
    have hft : f = false := by
      have := HN64.out
      rw [hf.out]
      cases s <;> simp [Bg.fits64, Bg.toZ] <;> omega
    refine ⟨ret_pair rfl (congrArg (Value.int .i64) ?_) (congrArg Value.bool hft.symm), HO.out.1⟩
    rw [hv.out, hft]
    rfl
end Go.Proofs.Ytbkbfgedlfbbiaa
