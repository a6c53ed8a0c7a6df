/- The operations of bigint and of the document in the forms that ratios ask for; what ratios are, in plain words. -/
import Derived.Test.YtekfabhmopkapaaRatM
import Derived.Test.YtekfabhmopkapaaDivs
import Derived.Test.YtekfabhmopkapaaRefB2
import Derived.Test.YtekfabhmopkapaaRefB5
namespace Go.Proofs.Ytekfabhmopkapaa
set_option maxRecDepth 8000
open Go.RowKit
theorem Bg.resZ_lt' (z : Int) : (Bg.resZ z).natAbs < Bg.lim := by
  unfold Bg.resZ
  split
  · assumption
  · exact Bg.ppos 32
theorem mul_n (s t : Bool) (M N : Nat) (z v e : Int) (hM : M < Bg.lim) (hN : N < Bg.lim) (hzz : Hid (z = Bg.toZ s M * Bg.toZ t N)) (hv : Hid (v = Bg.resZ z)) (he : Hid (e = Bg.resE z)) (w : World) :
    Calls Try.prog 87 #[.agg (Bg.intA s M), .agg (Bg.intA t N)] w fun r w' => r = .returned (.tuple #[.agg (Bg.zA v), .int .i64 e]) ∧ Below w.heap.size w w' := by
  rw [hv.out, he.out, ← Bg.resV_eq]; exact mul_any0 s t M N hM hN z hzz w
theorem divMod_r (s t : Bool) (M N : Nat) (x y : Int) (hM : M < Bg.lim) (hN : N < Bg.lim) (h0 : 0 < N) (hx : Hid (x = Bg.toZ s M / Bg.toZ t N)) (hy : Hid (y = Bg.toZ s M % Bg.toZ t N)) (w : World) :
    Calls Try.prog 78 #[.agg (Bg.intA s M), .agg (Bg.intA t N)] w fun e w' => e = .returned (.tuple #[.agg (Bg.zA x), .agg (Bg.zA y), .int .i64 0]) ∧ Below w.heap.size w w' :=
  divMod_any0 s t M N hM hN h0 (divOk_any h0 hM hN) x y hx hy w
theorem gcd_r (s t : Bool) (M N : Nat) (z : Int) (hM : M < Bg.lim) (hN : N < Bg.lim) (hz : Hid (z = (Nat.gcd M N : Nat))) (w : World) :
    Calls Try.prog 51 #[.agg (Bg.intA s M), .agg (Bg.intA t N)] w fun e w' => e = .returned (.agg (Bg.zA z)) ∧ Below w.heap.size w w' :=
  gcd_any0 s t M N hM hN (fun _ _ h0 hA hB => divOk_any h0 hA (Nat.lt_of_le_of_lt hB hN)) z hz w
theorem neg_r (s : Bool) (N : Nat) (z : Int) (hN : N < Bg.lim) (hz : Hid (z = -Bg.toZ s N)) (w : World) :
    Calls Try.prog 52 #[.agg (Bg.intA s N)] w fun e w' => e = .returned (.agg (Bg.zA z)) ∧ Below w.heap.size w w' := by
  rw [hz.out]
  exact neg_any s N hN w
theorem sign_v (g : Int) : g.sign = -1 ∨ g.sign = 0 ∨ g.sign = 1 := by
  rcases Int.lt_trichotomy g 0 with h | h | h
  · exact .inl (Int.sign_eq_neg_one_of_neg h)
  · right; left; rw [h]; rfl
  · right; right; exact Int.sign_eq_one_of_pos h
/-- Short enough for a ratio. -/
def Rt.short (M N : Nat) : Bool := decide (Bg.bl M ≤ 480) && decide (Bg.bl N ≤ 480)
/-- A valid ratio, as its four parts say. -/
def Rt.ok (s : Bool) (M : Nat) (t : Bool) (N : Nat) : Bool := Rt.short M N && ((!s || decide (M ≠ 0)) && ((!t || decide (N ≠ 0)) && (decide (0 < (Bg.toZ t N).sign) && decide ((Nat.gcd M N : Int) = 1))))
/-- The common divisor with the denominator's sign. -/
def Rt.sg (p q : Int) : Int := if q < 0 then -(Nat.gcd p.natAbs q.natAbs : Int) else (Nat.gcd p.natAbs q.natAbs : Int)
/-- p / q in lowest terms, or the error. -/
def Rt.mk (p q : Int) : Int × Int × Int :=
  if q = 0 then (0, 0, 11) else if Rt.short (p / Rt.sg p q).natAbs (q / Rt.sg p q).natAbs then (p / Rt.sg p q, q / Rt.sg p q, 0) else (0, 0, 10)
theorem Rt.sg_pos {p q : Int} (h : q ≠ 0) : 0 < Nat.gcd p.natAbs q.natAbs := Nat.gcd_pos_of_pos_right _ (by omega)
theorem Rt.sg_ne {p q : Int} (h : q ≠ 0) : Rt.sg p q ≠ 0 := by
  have := Rt.sg_pos (p := p) h
  unfold Rt.sg; split <;> omega
end Go.Proofs.Ytekfabhmopkapaa
