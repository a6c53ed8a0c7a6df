/- The document's numbers: FromInt, Neg, Abs, Add, Sub. -/
import Derived.Test.YtekfabhmopkapaaRefA2
import Derived.Test.YtekfabhmopkapaaMakeI
namespace Go.Proofs.Ytekfabhmopkapaa
set_option maxRecDepth 8000
open Go.RowKit
theorem sa_two (s : Bool) (U : Nat) (hU : U < 18446744073709551616) : SA 22 (Bg.intA s 0) 1 (.int .u32 ((U : Int) % 4294967296)) (Bg.intA s (U % 4294967296)) ∧ SA 22 (Bg.intA s (U % 4294967296)) 2 (.int .u32 ((U : Int) / 4294967296)) (Bg.intA s U) := by
  have h1 : Bg.setL 0 0 (U % 4294967296) = U % 4294967296 := by rw [Bg.setL_top _ _ _ (Bg.ppos 0), Bg.pw_zero]; omega
  have h2 : Bg.pw 1 = 4294967296 := by rw [show (1 : Nat) = 0 + 1 from rfl, Bg.p32, Bg.pw_zero]
  have h3 : Bg.setL (U % 4294967296) 1 (U / 4294967296) = U := by
    rw [Bg.setL_top _ _ _ (by rw [h2]; exact Nat.mod_lt _ (by decide)), h2]; omega
  constructor
  · have := sa_limi s 0 0 (U % 4294967296) (Nat.mod_lt _ (by decide)) (by decide)
    rw [h1] at this
    exact this
  · have := sa_limi s (U % 4294967296) 1 (U / 4294967296) (by omega) (by decide)
    rw [h3] at this
    exact this
set_option maxRecDepth 20000 in
set_option maxHeartbeats 1000000 in
theorem rfromInt_z (n : Int) (h1 : -9223372036854775808 ≤ n) (h2 : n < 9223372036854775808) (w : World) :
    Calls Try.prog 40 #[.int .i64 n] w fun e w' => e = .returned (.agg (Bg.zA n)) ∧ Below w.heap.size w w' := by
  have HM := Mem.start w
  by_cases h : n < 0
  · obtain ⟨U, hU⟩ : ∃ U : Nat, n = -(U : Int) := ⟨n.natAbs, by omega⟩
    subst hU
    have hU0 : 0 < U := by omega
    obtain ⟨s1, s2⟩ := sa_two true U (by omega)
    have hw : IntKind.u64.wrap (-IntKind.u64.wrap (-(U : Int))) = (U : Int) := by rw [IntKind.wrap_u64, IntKind.wrap_u64]; omega
    have hlt : (U : Int) < 18446744073709551616 := by omega
    have hfin := Lib.hid (intA_zA true U (fun _ => by omega))
    go_enter Try.func40, Try.ntmps40
    go_upto_region 4 with (first | fail | (first | ((with_reducible refine g_ld ?_); refine a_ld HM ?_) | ((with_reducible refine g_st ?_); refine a_st HM ?_; clear HM; intro w1 HM) | ((with_reducible refine g_al ?_); refine a_al HM ?_; clear HM; intro bk w1 HM) | ((with_reducible refine g_bx ?_); refine a_bx HM ?_; clear HM; intro bk w1 HM) | ((with_reducible refine g_bld ?_); refine a_bld ?_)))
    go_upto_region 5 with (first | fail | (first | ((with_reducible refine g_ld ?_); refine a_ld HM ?_) | ((with_reducible refine g_st ?_); refine a_st HM ?_; clear HM; intro w1 HM) | ((with_reducible refine g_al ?_); refine a_al HM ?_; clear HM; intro bk w1 HM) | ((with_reducible refine g_bx ?_); refine a_bx HM ?_; clear HM; intro bk w1 HM) | ((with_reducible refine g_bld ?_); refine a_bld ?_)))
    simp only [← zA_zero] at HM
    go_wp2_with (first | fail | (first | ((with_reducible refine g_ld ?_); refine a_ld HM ?_) | ((with_reducible refine g_st ?_); refine a_st HM ?_; clear HM; intro w1 HM) | ((with_reducible refine g_al ?_); refine a_al HM ?_; clear HM; intro bk w1 HM) | ((with_reducible refine g_bx ?_); refine a_bx HM ?_; clear HM; intro bk w1 HM) | ((with_reducible refine g_bld ?_); refine a_bld ?_)))
    obtain ⟨br, rfl⟩ := HM.nm1
    rw [hfin.out] at HM
    refine bodyPost_ret (r_c (b := br) (k := 0) rfl rfl (HM.get (by ((repeat (first | exact Look.here | refine Look.there ?_)); done))) (la_z _)) rfl ⟨?_, HM.low⟩
    simp [Bg.toZ]
  · obtain ⟨U, hU⟩ : ∃ U : Nat, n = (U : Int) := ⟨n.natAbs, by omega⟩
    subst hU
    obtain ⟨s1, s2⟩ := sa_two false U (by omega)
    have hlt : (U : Int) < 9223372036854775808 := by omega
    have hfin := Lib.hid (intA_zA false U (by simp))
    go_enter Try.func40, Try.ntmps40
    go_upto_region 4 with (first | fail | (first | ((with_reducible refine g_ld ?_); refine a_ld HM ?_) | ((with_reducible refine g_st ?_); refine a_st HM ?_; clear HM; intro w1 HM) | ((with_reducible refine g_al ?_); refine a_al HM ?_; clear HM; intro bk w1 HM) | ((with_reducible refine g_bx ?_); refine a_bx HM ?_; clear HM; intro bk w1 HM) | ((with_reducible refine g_bld ?_); refine a_bld ?_)))
    go_upto_region 5 with (first | fail | (first | ((with_reducible refine g_ld ?_); refine a_ld HM ?_) | ((with_reducible refine g_st ?_); refine a_st HM ?_; clear HM; intro w1 HM) | ((with_reducible refine g_al ?_); refine a_al HM ?_; clear HM; intro bk w1 HM) | ((with_reducible refine g_bx ?_); refine a_bx HM ?_; clear HM; intro bk w1 HM) | ((with_reducible refine g_bld ?_); refine a_bld ?_)))
    simp only [← zA_zero] at HM
    go_wp2_with (first | fail | (first | ((with_reducible refine g_ld ?_); refine a_ld HM ?_) | ((with_reducible refine g_st ?_); refine a_st HM ?_; clear HM; intro w1 HM) | ((with_reducible refine g_al ?_); refine a_al HM ?_; clear HM; intro bk w1 HM) | ((with_reducible refine g_bx ?_); refine a_bx HM ?_; clear HM; intro bk w1 HM) | ((with_reducible refine g_bld ?_); refine a_bld ?_)))
    obtain ⟨br, rfl⟩ := HM.nm1
    rw [hfin.out] at HM
    refine bodyPost_ret (r_c (b := br) (k := 0) rfl rfl (HM.get (by ((repeat (first | exact Look.here | refine Look.there ?_)); done))) (la_z _)) rfl ⟨?_, HM.low⟩
    simp [Bg.toZ]
set_option maxRecDepth 20000 in
set_option maxHeartbeats 1000000 in
theorem rneg_any (s : Bool) (N : Nat) (z : Int) (hN : N < Bg.lim) (hz : Hid (z = -Bg.toZ s N)) (w : World) :
    Calls Try.prog 57 #[.agg (Bg.intA s N)] w fun e w' => e = .returned (.agg (Bg.zA z)) ∧ Below w.heap.size w w' := by
  have HM := Mem.start w
  have hz2 : Hid (z = Bg.toZ (!s) N) := Lib.hid (by rw [hz.out]; cases s <;> simp [Bg.toZ])
  go_enter Try.func57, Try.ntmps57
  go_wp2_with (first | (go_at_call 81; ((with_reducible refine (rcanon_any (!s) N z hN hz2 _).mono ?_); rintro e9 w2 ⟨rfl, hL⟩; replace HM := HM.call hL; clear hL)) | (first | ((with_reducible refine g_ld ?_); refine a_ld HM ?_) | ((with_reducible refine g_st ?_); refine a_st HM ?_; clear HM; intro w1 HM) | ((with_reducible refine g_al ?_); refine a_al HM ?_; clear HM; intro bk w1 HM) | ((with_reducible refine g_bx ?_); refine a_bx HM ?_; clear HM; intro bk w1 HM) | ((with_reducible refine g_bld ?_); refine a_bld ?_)))
  refine bodyPost_ret (r_c rfl rfl (HM.get (by ((repeat (first | exact Look.here | refine Look.there ?_)); done))) (la_z _)) rfl ⟨rfl, HM.low⟩
set_option maxRecDepth 20000 in
set_option maxHeartbeats 1000000 in
theorem rabs_any (s : Bool) (N : Nat) (z : Int) (hN : N < Bg.lim) (hz : Hid (z = (N : Nat))) (w : World) :
    Calls Try.prog 67 #[.agg (Bg.intA s N)] w fun e w' => e = .returned (.agg (Bg.zA z)) ∧ Below w.heap.size w w' := by
  have HM := Mem.start w
  have hz2 : Hid (z = Bg.toZ false N) := Lib.hid (by rw [hz.out]; simp [Bg.toZ])
  go_enter Try.func67, Try.ntmps67
  go_wp2_with (first | (go_at_call 81; ((with_reducible refine (rcanon_any false N z hN hz2 _).mono ?_); rintro e9 w2 ⟨rfl, hL⟩; replace HM := HM.call hL; clear hL)) | (first | ((with_reducible refine g_ld ?_); refine a_ld HM ?_) | ((with_reducible refine g_st ?_); refine a_st HM ?_; clear HM; intro w1 HM) | ((with_reducible refine g_al ?_); refine a_al HM ?_; clear HM; intro bk w1 HM) | ((with_reducible refine g_bx ?_); refine a_bx HM ?_; clear HM; intro bk w1 HM) | ((with_reducible refine g_bld ?_); refine a_bld ?_)))
  refine bodyPost_ret (r_c rfl rfl (HM.get (by ((repeat (first | exact Look.here | refine Look.there ?_)); done))) (la_z _)) rfl ⟨rfl, HM.low⟩
end Go.Proofs.Ytekfabhmopkapaa
