/- The solver's equations in memory; minus of the program. -/
import Derived.Test.YtadnddffdedjgaaNsE
import Derived.Test.YtadnddffdedjgaaMks
import Derived.Test.YtadnddffdedjgaaEngJ
namespace Go.Proofs.Ytadnddffdedjgaa
set_option maxRecDepth 8000
open Go.RowKit
namespace Sy
theorem big_416 : Mx.big < Bg.p2 416 := by
  rw [show 416 = 200 + 216 from rfl, Bg.p2_add]
  unfold Bg.p2 Mx.big
  decide
theorem big_lim : Mx.big * Mx.big * 4 < Bg.p2 1024 := by
  have h1 := Nat.mul_lt_mul'' big_416 big_416
  rw [← Bg.p2_add] at h1
  have h2 : Bg.p2 (416 + 416) * 4 = Bg.p2 834 := by
    rw [show 834 = (416 + 416) + 2 from rfl, Bg.p2_add (416 + 416) 2]
    have : Bg.p2 2 = 4 := by unfold Bg.p2; rfl
    rw [this]
  have h3 := Bg.p2_mono (i := 834) (j := 1024) (by omega)
  omega
theorem lim {z : Int} (h : z.natAbs ≤ Mx.big) : z.natAbs < Bg.lim := by
  have := big_lim
  rw [Bg.p2_lim] at this
  have h1 : Mx.big ≤ Mx.big * Mx.big := Nat.le_mul_self _
  omega
theorem mul_lim {x y : Int} (hx : x.natAbs ≤ Mx.big) (hy : y.natAbs ≤ Mx.big) : (x * y).natAbs ≤ Mx.big * Mx.big := by
  rw [Int.natAbs_mul]; exact Nat.mul_le_mul hx hy
end Sy
theorem mul_ff (p d z : Int) (hp : p.natAbs < Bg.lim) (hd : d.natAbs < Bg.lim) (hz : Hid (z = p * d)) (hl : z.natAbs < Bg.lim) (w : World) :
    Calls Try.prog 95 #[.agg (Bg.zA p), .agg (Bg.zA d)] w fun r w' => r = .returned (.tuple #[.agg (Bg.zA z), .int .i64 0]) ∧ Below w.heap.size w w' :=
  mul_z p d z 0 z hp hd hz (Lib.hid (by unfold Bg.resZ; rw [if_pos hl])) (Lib.hid (by unfold Bg.resE; rw [if_pos hl])) w
theorem sub_ff (p d z : Int) (hp : p.natAbs < Bg.lim) (hd : d.natAbs < Bg.lim) (hz : Hid (z = p - d)) (hl : z.natAbs < Bg.lim) (w : World) :
    Calls Try.prog 100 #[.agg (Bg.zA p), .agg (Bg.zA d)] w fun r w' => r = .returned (.tuple #[.agg (Bg.zA z), .int .i64 0]) ∧ Below w.heap.size w w' := by
  rw [zA_int p, zA_int d, zA_int z, ← zA_int z, ← Bg.resV_yes hl]
  exact sub_any0 _ _ _ _ hp hd z (Lib.hid (by rw [Bg.toZ_iv, Bg.toZ_iv]; exact hz.out)) w
set_option maxHeartbeats 4000000 in
theorem sminus_any (a d b c y q : Int) (ha : a.natAbs ≤ Mx.big) (hd : d.natAbs ≤ Mx.big) (hb : b.natAbs ≤ Mx.big) (hc : c.natAbs ≤ Mx.big) (hy : y.natAbs ≤ Mx.big) (h0 : y ≠ 0) (hq : Hid (q = (a * d - b * c) / y)) (w : World) :
    Calls Try.prog 77 #[.agg (Bg.zA a), .agg (Bg.zA d), .agg (Bg.zA b), .agg (Bg.zA c), .agg (Bg.zA y)] w fun e w' => e = .returned (.agg (Bg.zA q)) ∧ Below w.heap.size w w' := by
  have HM := Mem.start w
  have hz := za_int
  have hbl := Sy.big_lim
  rw [Bg.p2_lim] at hbl
  obtain ⟨u, hu⟩ : ∃ u, Hid (u = a * d) := ⟨_, Lib.hid rfl⟩
  obtain ⟨v, hv⟩ : ∃ v, Hid (v = b * c) := ⟨_, Lib.hid rfl⟩
  obtain ⟨z, hzz⟩ : ∃ z, Hid (z = u - v) := ⟨_, Lib.hid rfl⟩
  obtain ⟨r, hr⟩ : ∃ r, Hid (r = z % y) := ⟨_, Lib.hid rfl⟩
  have lu : u.natAbs ≤ Mx.big * Mx.big := by rw [hu.out]; exact Sy.mul_lim ha hd
  have lv : v.natAbs ≤ Mx.big * Mx.big := by rw [hv.out]; exact Sy.mul_lim hb hc
  have lz : z.natAbs ≤ Mx.big * Mx.big + Mx.big * Mx.big := by rw [hzz.out]; omega
  have hq2 : Hid (q = z / y) := Lib.hid (by rw [hq.out, hzz.out, hu.out, hv.out])
  have M1 := fun w => mul_ff a d u (Sy.lim ha) (Sy.lim hd) hu (by omega) w
  have M2 := fun w => mul_ff b c v (Sy.lim hb) (Sy.lim hc) hv (by omega) w
  have S1 := fun w => sub_ff u v z (by omega) (by omega) hzz (by omega) w
  have D1 := fun w => divMod_f z y q r (by omega) (Sy.lim hy) h0 hq2 hr w
  clear hbl lu lv lz ha hd hb hc hy h0
  go_enter Try.func77, Try.ntmps77
  go_wp2_with (first | first
    | (go_at_call 95; ((with_reducible refine (M1 _).mono ?_); rintro e9 w2 ⟨rfl, hL⟩; replace HM := HM.call hL; clear hL)) | (go_at_call 95; ((with_reducible refine (M2 _).mono ?_); rintro e9 w2 ⟨rfl, hL⟩; replace HM := HM.call hL; clear hL)) | (go_at_call 100; ((with_reducible refine (S1 _).mono ?_); rintro e9 w2 ⟨rfl, hL⟩; replace HM := HM.call hL; clear hL)) | (go_at_call 101; ((with_reducible refine (D1 _).mono ?_); rintro e9 w2 ⟨rfl, hL⟩; replace HM := HM.call hL; clear hL)) | (first | ((with_reducible refine g_ld ?_); refine a_ld HM ?_) | ((with_reducible refine g_st ?_); refine a_st HM ?_; clear HM; intro w1 HM) | ((with_reducible refine g_al ?_); refine a_al HM ?_; clear HM; intro bk w1 HM) | ((with_reducible refine g_bx ?_); refine a_bx HM ?_; clear HM; intro bk w1 HM) | ((with_reducible refine g_bld ?_); refine a_bld ?_)))
  refine bodyPost_ret (r_c rfl rfl (HM.get (by ((repeat (first | exact Look.here | refine Look.there ?_)); done))) (la_z _)) rfl ⟨rfl, HM.low⟩
end Go.Proofs.Ytadnddffdedjgaa
