/- The document's numbers: canonical. -/
import Derived.Test.YtekfabhmopkapaaMemI
import Derived.Test.YtekfabhmopkapaaEngA
namespace Go.Proofs.Ytekfabhmopkapaa
set_option maxRecDepth 8000
open Go.RowKit
theorem zero_as (N : Nat) (t : Bool) (hN : N < Bg.lim) (h : t = decide (N = 0)) (w : World) :
    Calls Try.prog 74 #[.agg (Bg.row 32 N)] w fun e w' => e = .returned (.bool t) ∧ Below w.heap.size w w' := by
  subst h; exact zero_any N hN w
set_option maxRecDepth 20000 in
set_option maxHeartbeats 1000000 in
theorem rcanon_any (s : Bool) (N : Nat) (z : Int) (hN : N < Bg.lim) (hz : Hid (z = Bg.toZ s N)) (w : World) :
    Calls Try.prog 81 #[.bool s, .agg (Bg.row 32 N)] w fun e w' => e = .returned (.agg (Bg.zA z)) ∧ Below w.heap.size w w' := by
  have HM := Mem.start w
  obtain ⟨t, ht⟩ : ∃ t, Hid (t = decide (N = 0)) := ⟨_, rfl⟩
  obtain ⟨u, hu⟩ : ∃ u, Hid (u = (s && !t)) := ⟨_, rfl⟩
  have hz2 : Hid (Bg.intA u N = Bg.zA z) := Lib.hid (by
    rw [hz.out, zA_int, hu.out, ht.out]
    have h1 : ¬ ((N : Int) < 0) := by omega
    have h2 : (0 < N) = ¬ N = 0 := by simp; omega
    cases s <;> by_cases h : N = 0 <;> simp [Bg.toZ, h, h1, h2])
  cases s with
  | false =>
    obtain rfl : u = false := hu.out
    go_enter Try.func81, Try.ntmps81
    go_wp2_with (first | ((with_reducible refine g_ld ?_); refine a_ld HM ?_) | ((with_reducible refine g_st ?_); refine a_st HM ?_; clear HM; intro w1 HM) | ((with_reducible refine g_al ?_); refine a_al HM ?_; clear HM; intro bk w1 HM) | ((with_reducible refine g_bx ?_); refine a_bx HM ?_; clear HM; intro bk w1 HM) | ((with_reducible refine g_bld ?_); refine a_bld ?_))
    refine start_M [8] HM (by kernel_rfl) (fun w0x H9 => ?_)
    replace HM := H9; clear H9
    refine k_mv 0 (heldE HM) ?_
    refine k_mv 1 (heldE HM) ?_
    refine k_off 2 (heldE HM) ?_
    refine k_off 3 (heldE HM) ?_
    refine k_off 4 (heldE HM) ?_
    refine k_pick 5 (heldE HM) ?_
    refine k_ld 6 [7, 8] (heldE HM) ?_
    refine k_bld 7 (heldE HM) ?_
    refine j_one 8 fun K9 hK9 => ?_
    refine j_st HM ?_; clear HM; intro w1 HM
    refine hK9 _ _ heldN ?_; clear hK9 K9
    refine wpAnyL_done (by kernel_rfl) ?_ _
    go_wp2_with (first | ((with_reducible refine g_ld ?_); refine a_ld HM ?_) | ((with_reducible refine g_st ?_); refine a_st HM ?_; clear HM; intro w1 HM) | ((with_reducible refine g_al ?_); refine a_al HM ?_; clear HM; intro bk w1 HM) | ((with_reducible refine g_bx ?_); refine a_bx HM ?_; clear HM; intro bk w1 HM) | ((with_reducible refine g_bld ?_); refine a_bld ?_))
    rw [hz2.out] at HM
    refine bodyPost_ret (r_c rfl rfl (HM.get (by ((repeat (first | exact Look.here | refine Look.there ?_)); done))) (la_z _)) rfl ⟨rfl, HM.low⟩
  | true =>
    obtain rfl : u = !t := hu.out
    go_enter Try.func81, Try.ntmps81
    go_wp2_with (first | ((with_reducible refine g_ld ?_); refine a_ld HM ?_) | ((with_reducible refine g_st ?_); refine a_st HM ?_; clear HM; intro w1 HM) | ((with_reducible refine g_al ?_); refine a_al HM ?_; clear HM; intro bk w1 HM) | ((with_reducible refine g_bx ?_); refine a_bx HM ?_; clear HM; intro bk w1 HM) | ((with_reducible refine g_bld ?_); refine a_bld ?_))
    refine start_M [8] HM (by kernel_rfl) (fun w0x H9 => ?_)
    replace HM := H9; clear H9
    refine k_mv 0 (heldE HM) ?_
    refine k_mv 1 (heldE HM) ?_
    refine k_ld 2 [3, 4, 5, 7, 8] (heldE HM) ?_
    refine k_ld 6 [7, 8] (heldE HM) ?_
    refine j_one 3 fun K9 hK9 => ?_
    refine j_call1 (v := ?_) HM ?_ ?_; rotate_left 1; (focus (with_reducible (exact zero_as N t hN ht.out _))); clear HM; intro w1 HM
    refine hK9 _ _ (heldE HM) ?_; clear hK9 K9
    refine k_not 4 (heldE HM) ?_
    refine k_pick 5 (heldE HM) ?_
    refine k_bld 7 (heldE HM) ?_
    refine j_one 8 fun K9 hK9 => ?_
    refine j_st HM ?_; clear HM; intro w1 HM
    refine hK9 _ _ heldN ?_; clear hK9 K9
    refine wpAnyL_done (by kernel_rfl) ?_ _
    go_wp2_with (first | ((with_reducible refine g_ld ?_); refine a_ld HM ?_) | ((with_reducible refine g_st ?_); refine a_st HM ?_; clear HM; intro w1 HM) | ((with_reducible refine g_al ?_); refine a_al HM ?_; clear HM; intro bk w1 HM) | ((with_reducible refine g_bx ?_); refine a_bx HM ?_; clear HM; intro bk w1 HM) | ((with_reducible refine g_bld ?_); refine a_bld ?_))
    rw [hz2.out] at HM
    refine bodyPost_ret (r_c rfl rfl (HM.get (by ((repeat (first | exact Look.here | refine Look.there ?_)); done))) (la_z _)) rfl ⟨rfl, HM.low⟩
end Go.Proofs.Ytekfabhmopkapaa
