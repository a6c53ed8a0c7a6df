/- The sign and the magnitude of a number: bigint's split. -/
import Derived.Test.YtbkbfgedlfbbiaaBigB
namespace Go.Proofs.Ytbkbfgedlfbbiaa
open Go.RowKit
set_option maxRecDepth 20000 in
set_option maxHeartbeats 1000000 in
theorem split_any (s : Bool) (N : Nat) (hN : N < Bg.lim) (w : World) :
    Calls Try.prog 50 #[Bg.intV s N] w fun e w' => e = .returned (.tuple #[.bool (s && decide (N ≠ 0)), Bg.magV N]) ∧ Below w.heap.size w w' := by
  unfold Bg.magV Bg.intV
  have hz := Bg.zero32
  have hs2 := Bg.row_size 32 0
  obtain ⟨w1, hw1⟩ : ∃ w1, w1 = (w.alloc (.cells (Bg.intA s N) 25)).alloc (.cells (Bg.row 32 0) 57) := ⟨_, rfl⟩
  have HB := Lib.hid ((Blk.new w (Bg.intA s N) 25).alloc (.cells (Bg.row 32 0) 57))
  have HR := Lib.hid (Blk.new (w.alloc (.cells (Bg.intA s N) 25)) (Bg.row 32 0) 57)
  have HL := Lib.hid ((below_new w (.cells (Bg.intA s N) 25)).alloc (by simp) (.cells (Bg.row 32 0) 57))
  rw [alloc_size] at HR
  have HZ := Lib.hid (Blk.new w1 (Bg.row 32 0) 57)
  have hsz : w1.heap.size = w.heap.size + 2 := by rw [hw1]; simp
  rw [← hw1] at HB HR HL
  rw [hsz] at HZ
  go_enter Try.func50, Try.ntmps50
  go_wp2_with (first
    | (rw [← hw1]; refine ld_fld s N rfl _ rfl _ rfl HB.out ?_; clear hw1)
    | (refine st_mag N _ rfl _ _ rfl _ rfl rfl HZ.out hs2 ?_; generalize hq : World.setRow _ _ _ = w3))
  have HB3 := Lib.hid ((HB.out.alloc (.cells (Bg.row 32 0) 57)).farRow (g := w.heap.size + 2) (by omega) (Bg.row 32 N))
  have HR3 := Lib.hid ((HR.out.alloc (.cells (Bg.row 32 0) 57)).farRow (g := w.heap.size + 2) (by omega) (Bg.row 32 N))
  have HM3 := Lib.hid (HZ.out.setRow (Bg.row 32 N))
  have HL3 := Lib.hid (below_setRow (HL.out.alloc (by omega) (.cells (Bg.row 32 0) 57)) (g := w.heap.size + 2) (by omega) (Bg.row 32 N))
  rw [hq] at HB3 HR3 HM3 HL3
  clear hq HB HR HZ HL
  have HW := Lib.hid (fun w2 (h : Hid (w2 = w3.drew)) => (show w2.cell? ⟨w.heap.size, 0, none⟩ = some (.bool s) from h.out ▸ (HB3.out.cell 0).trans (Bg.intA_neg s N)))
  cases s with
  | false =>
    refine still_tail 9 (by kernel_rfl) (fun w2 H2 => ?_)
    simp only [List.take_succ_cons, List.take_zero, List.drop_succ_cons, List.drop_zero]
    have hc := HW.out w2 H2
    iterate 7 still_step
    refine wpStill_step (fun K hK => ?_)
    refine sl_mag N (by kernel_rfl) _ rfl _ rfl (H2.out ▸ HM3.out) ?_
    refine hK _ ?_
    clear hK K
    still_step
    refine wpStill_nil ?_
    refine st_mag N _ rfl _ _ rfl _ rfl rfl (H2.out ▸ HR3.out) hs2 ?_
    have HF := Lib.hid ((show Blk w2 (w.heap.size + 1) (Bg.row 32 0) from H2.out ▸ HR3.out).setRow (Bg.row 32 N))
    have HG := Lib.hid (below_setRow (show Below w.heap.size w w2 from H2.out ▸ HL3.out.drew) (g := w.heap.size + 1) (by omega) (Bg.row 32 N))
    generalize w2.setRow (w.heap.size + 1) (Bg.row 32 N) = w4 at HF HG ⊢
    go_wp2_with fail
    refine bodyPost_ret (res_tmp_cell rfl _ rfl (lv_mag HF.out)) rfl ⟨by simp [Act.put], HG.out⟩
  | true =>
    refine still_tail 9 (by kernel_rfl) (fun w2 H2 => ?_)
    simp only [List.take_succ_cons, List.take_zero, List.drop_succ_cons, List.drop_zero]
    have hc := HW.out w2 H2
    iterate 3 still_step
    refine wpStill_step (fun K hK => ?_)
    refine sl_mag N (by kernel_rfl) _ rfl _ rfl (H2.out ▸ HM3.out) ?_
    refine hK _ ?_
    clear hK K
    still_step
    refine wpStill_step (fun K hK => ?_)
    refine sl_neq N 0 (by kernel_rfl) _ _ _ rfl rfl rfl hN (Bg.ppos 32) ?_
    refine hK _ ?_
    clear hK K
    still_step
    refine wpStill_step (fun K hK => ?_)
    refine sl_mag N (by kernel_rfl) _ rfl _ rfl (H2.out ▸ HM3.out) ?_
    refine hK _ ?_
    clear hK K
    still_step
    refine wpStill_nil ?_
    refine st_mag N _ rfl _ _ rfl _ rfl rfl (H2.out ▸ HR3.out) hs2 ?_
    have HF := Lib.hid ((show Blk w2 (w.heap.size + 1) (Bg.row 32 0) from H2.out ▸ HR3.out).setRow (Bg.row 32 N))
    have HG := Lib.hid (below_setRow (show Below w.heap.size w w2 from H2.out ▸ HL3.out.drew) (g := w.heap.size + 1) (by omega) (Bg.row 32 N))
    generalize w2.setRow (w.heap.size + 1) (Bg.row 32 N) = w4 at HF HG ⊢
    go_wp2_with fail
    refine bodyPost_ret (res_tmp_cell rfl _ rfl (lv_mag HF.out)) rfl ⟨by simp [Act.put], HG.out⟩
end Go.Proofs.Ytbkbfgedlfbbiaa
