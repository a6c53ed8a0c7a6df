/- The document's Valid and negative, of canonical ratios. -/
import Derived.Test.YtekfabhmopkapaaRatD
namespace Go.Proofs.Ytekfabhmopkapaa
set_option maxRecDepth 8000
open Go.RowKit
theorem rvalid_z (p q : Int) (f : Bool) (hp : p.natAbs < Bg.lim) (hq : q.natAbs < Bg.lim) (hf : Hid (f = Rt.okz p q)) (w : World) :
    Calls Try.prog 38 #[.agg (Bg.rZ p q)] w fun r w' => r = .returned (.bool f) ∧ Below w.heap.size w w' := by
  rw [rZ_ratA]; exact rvalid_n _ _ _ _ f hp hq hf w
set_option maxHeartbeats 2000000 in
theorem rnegative_z (r u nr : Int) (hr : r.natAbs < Bg.lim) (hn : Hid (nr = -r)) (w : World) :
    Calls Try.prog 71 #[.agg (Bg.rZ r u)] w fun e w' => e = .returned (.agg (Bg.rZ nr u)) ∧ Below w.heap.size w w' := by
  have HM := Mem.start w
  have hz0 := za_rat
  have hs1 := sa_rz nr u (rZ_size 0 0)
  have k5 := la_rznum r u
  have k6 := la_rzden r u
  go_enter Try.func71, Try.ntmps71
  go_upto_region 1 with (first | fail | (first | ((with_reducible refine g_ld ?_); refine a_ld HM ?_) | ((with_reducible refine g_st ?_); refine a_st HM ?_; clear HM; intro w1 HM) | ((with_reducible refine g_al ?_); refine a_al HM ?_; clear HM; intro bk w1 HM) | ((with_reducible refine g_bx ?_); refine a_bx HM ?_; clear HM; intro bk w1 HM) | ((with_reducible refine g_bld ?_); refine a_bld ?_)))
  obtain ⟨b2, rfl⟩ := HM.nm0
  refine start_M [6] HM (by kernel_rfl) (fun w0x H9 => ?_)
  replace HM := H9; clear H9
  refine k_fa 0 (heldE HM) ?_
  refine k_ld 1 [2, 5, 6] (heldE HM) ?_
  refine k_fa 3 (heldE HM) ?_
  refine k_ld 4 [5, 6] (heldE HM) ?_
  refine j_one 2 fun K9 hK9 => ?_
  refine j_call1 (v := ?_) HM ?_ ?_; rotate_left 1; (focus (with_reducible (exact rneg_z r nr hr hn _))); clear HM; intro w1 HM
  refine hK9 _ _ (heldE HM) ?_; clear hK9 K9
  refine t_pure (i := 5) (v := .agg (Bg.rZ nr u)) rfl rfl (by kernel_rfl) (fun _ _ _ h => h) (heldE HM) (by rfl) ?_ ?_; (focus (exact h_br (by rfl) (by rfl) (by rfl))); ((try simp only [List.setIfInBounds_toArray]); (try simp only [List.set_cons_succ]); (try simp only [List.set_cons_zero]))
  refine j_one 6 fun K9 hK9 => ?_
  refine j_st HM ?_; clear HM; intro w1 HM
  refine hK9 _ _ heldN ?_; clear hK9 K9
  refine wpAnyL_done (by kernel_rfl) ?_ _
  (go_wp2_with fail; refine bodyPost_ret (r_c (b := b2) (k := 0) rfl rfl (HM.get (by ((repeat (first | exact Look.here | refine Look.there ?_)); done))) (la_rz _ _)) rfl ⟨rfl, HM.low⟩)
end Go.Proofs.Ytekfabhmopkapaa
