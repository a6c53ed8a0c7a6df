/- Numbers with a sign: bigint's Neg, Sign, Add, Sub, Mul. -/
import Derived.Test.YtbkbfgedlfbbiaaBigF
namespace Go.Proofs.Ytbkbfgedlfbbiaa
open Go.RowKit
namespace Bg
/-- The number that a sign and a magnitude denote. -/
def toZ (s : Bool) (N : Nat) : Int := if s then -(N : Int) else N
/-- The canonical value of a number. -/
@[irreducible] def zA (z : Int) : Array Value := intA (decide (z < 0)) z.natAbs
def iv (z : Int) : Value := .agg (zA z)
theorem toZ_abs (s : Bool) (N : Nat) : (toZ s N).natAbs = N := by cases s <;> simp [toZ]
theorem toZ_neg (s : Bool) (N : Nat) : decide (toZ s N < 0) = (s && decide (N ≠ 0)) := by
  cases s
  · simp [toZ]
  · by_cases h : N = 0
    · simp [toZ, h]
    · have : 0 < N := by omega
      simp [toZ, h, this]
theorem iv_toZ (s : Bool) (N : Nat) : iv (toZ s N) = intV (s && decide (N ≠ 0)) N := by
  unfold iv zA intV; rw [toZ_abs, toZ_neg]
theorem toZ_canon (s : Bool) (N : Nat) : toZ (s && decide (N ≠ 0)) N = toZ s N := by
  cases s
  · simp [toZ]
  · by_cases h : N = 0 <;> simp [toZ, h]
theorem toZ_not (s : Bool) (N : Nat) : toZ (!s) N = -toZ s N := by cases s <;> simp [toZ]
theorem lt_lim {z : Int} {s : Bool} {N : Nat} (h : z = toZ s N) (hN : N < lim) : z.natAbs < lim := by rw [h, toZ_abs]; exact hN
end Bg
section
variable {ops : Array Oper} {rest : List Oper} {o : Oper} {a : Act} {w : World} {Q : Exit → Act → World → Prop}
/-- A whole magnitude goes into the variable that was made last. -/
theorem sn_mag (N : Nat) (hg : o.guard = none) (x y : Operand) (ho : o.op = .store 57 x y) (hx : a.eval x = .pointer (some ⟨w.heap.size, 0, none⟩)) (hy : a.eval y = .agg (Bg.row 32 N))
    (h : wpList Try.prog ops Q rest (a.put o.dst undef) (w.alloc (.cells (Bg.row 32 N) 57))) : wpList Try.prog ops Q (o :: rest) a (w.alloc (.cells (Bg.row 32 0) 57)) := by
  refine st_mag N _ hg x y ho _ hx hy (Blk.new w (Bg.row 32 0) _) (Bg.row_size 32 0) ?_
  rw [World.setRow_alloc_new]
  exact h
end
theorem st_z (z : Int) (c : Array Value) {ops : Array Oper} {rest : List Oper} {o : Oper} {a : Act} {w : World} {Q : Exit → Act → World → Prop} (hg : o.guard = none) (x y : Operand) (ho : o.op = .store 25 x y) (b : Nat) (hx : a.eval x = .pointer (some ⟨b, 0, none⟩)) (hy : a.eval y = .agg (Bg.zA z)) (hb : Blk w b c) (hc : c.size = 33)
    (h : wpList Try.prog ops Q rest (a.put o.dst undef) (w.setRow b (Bg.zA z))) : wpList Try.prog ops Q (o :: rest) a w := by
  unfold Bg.zA at hy h
  exact st_int _ _ c hg x y ho b hx hy hb hc h
theorem lv_z {w : World} {z : Int} {b : Nat} (hb : Blk w b (Bg.zA z)) : (loadVar 25 ⟨b, 0, none⟩).run Try.prog w = .ok (.agg (Bg.zA z)) w := by
  unfold Bg.zA at hb ⊢
  exact lv_int hb
theorem made_z (s : Bool) (N : Nat) (hN : N < Bg.lim) (w : World) :
    Calls Try.prog 48 #[.bool s, Bg.magV N] w fun e w' => e = .returned (Bg.iv (Bg.toZ s N)) ∧ Below w.heap.size w w' := by
  rw [Bg.iv_toZ]; exact made_any s N hN w
theorem zA_zero : Bg.intA false 0 = Bg.zA 0 := by unfold Bg.zA; rfl
/-- The two blocks with which a function of one number begins. -/
structure In1 (w w1 : World) (s : Bool) (N : Nat) : Prop where
  x : Blk w1 w.heap.size (Bg.intA s N)
  r : Blk w1 (w.heap.size + 1) (Bg.intA false 0)
  l : Below w.heap.size w w1
  z : w1.heap.size = w.heap.size + 2
theorem in1 (w : World) (s : Bool) (N : Nat) : In1 w ((w.alloc (.cells (Bg.intA s N) 25)).alloc (.cells (Bg.intA false 0) 25)) s N := by
  refine ⟨(Blk.new w _ _).alloc _, ?_, (below_new w _).alloc (by simp) _, by simp⟩
  have := Blk.new (w.alloc (.cells (Bg.intA s N) 25)) (Bg.intA false 0) 25
  rwa [alloc_size] at this
set_option maxRecDepth 20000 in
set_option maxHeartbeats 1000000 in
theorem neg_any (s : Bool) (N : Nat) (hN : N < Bg.lim) (w : World) :
    Calls Try.prog 25 #[Bg.intV s N] w fun e w' => e = .returned (Bg.iv (-Bg.toZ s N)) ∧ Below w.heap.size w w' := by
  have hz := Bg.zero32
  have hzi := Bg.zeroInt
  have hs2 := Bg.intA_size false 0
  obtain ⟨w1, hw1⟩ : ∃ w1, w1 = (w.alloc (.cells (Bg.intA s N) 25)).alloc (.cells (Bg.intA false 0) 25) := ⟨_, rfl⟩
  have HI := Lib.hid (hw1 ▸ in1 w s N)
  obtain ⟨z, hzz⟩ : ∃ z, z = -Bg.toZ s N := ⟨_, rfl⟩
  rw [← hzz]
  have HQ := Lib.hid hzz
  clear hzz
  unfold Bg.intV
  go_enter Try.func25, Try.ntmps25
  go_wp2_with (first
    | (rw [← hw1]; refine ld_int s N rfl _ rfl _ rfl HI.out.x ?_; clear hw1)
    | (go_at_call 50; refine (split_any s N hN _).mono ?_; rintro e w2 ⟨rfl, hL⟩; unfold Bg.magV; have HL := Lib.hid hL; clear hL)
    | (refine sn_mag N rfl _ _ rfl rfl rfl ?_)
    | (refine ld_mag N rfl _ rfl _ rfl (Blk.new w2 (Bg.row 32 N) 57) ?_)
    | (go_at_call 48; refine (made_z _ N hN _).mono ?_; rintro e w4 ⟨rfl, hM⟩; generalize hv : Bg.toZ _ N = v; have HV := Lib.hid hv; unfold Bg.iv; have HM := Lib.hid hM; clear hM hv)
    | (refine st_z v (Bg.intA false 0) rfl _ _ rfl (w.heap.size + 1) rfl rfl ?hb hs2 ?_; (case hb => exact ((HI.out.r.below HL.out (by have := HI.out.z; omega)).alloc _).below HM.out (by have := HI.out.z; have := HL.out.size; simp; omega)); generalize hq : World.setRow _ _ _ = w5))
  have HF := Lib.hid (((HI.out.r.below HL.out (by have := HI.out.z; omega)).alloc (.cells (Bg.row 32 N) 57)).below HM.out (by have := HI.out.z; have := HL.out.size; simp; omega) |>.setRow (Bg.zA v))
  rw [hq] at HF
  have HG : Below w.heap.size w w5 := by
    rw [← hq]
    exact below_setRow (((HI.out.l.trans (HL.out.mono (by have := HI.out.z; omega))).alloc (by have := HI.out.z; have := HL.out.size; omega) _).trans (HM.out.mono (by have := HI.out.z; have := HL.out.size; simp; omega))) (by omega) _
  refine bodyPost_ret (res_cell rfl _ rfl (lv_z HF.out)) rfl ⟨?_, HG⟩
  have : v = z := by
    rw [← HV.out, HQ.out]
    cases s <;> by_cases h : N = 0 <;> simp [Bg.toZ, h]
  rw [this]
  rfl
end Go.Proofs.Ytbkbfgedlfbbiaa
