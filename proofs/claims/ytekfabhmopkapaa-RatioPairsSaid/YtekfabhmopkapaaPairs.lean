/- The law RatioPairs, walked: all functions at valid ratios, short and long ones. -/
import Derived.Test.YtekfabhmopkapaaRExact
import Derived.Test.YtekfabhmopkapaaRatB
import Derived.Test.YtekfabhmopkapaaFloors
import Derived.Test.YtekfabhmopkapaaField
import Derived.Test.YtekfabhmopkapaaSlicesC
namespace Go.Proofs.Ytekfabhmopkapaa
set_option maxRecDepth 8000
open Go.RowKit
theorem rexact_q (x y : Rat) (hx : Rt.Fit x) (hy : Rt.Fit y) (w : World) :
    Calls Try.prog 6 #[.agg (Rt.qA x), .agg (Rt.qA y)] w fun e w' => e = .returned (.bool true) ∧ Below w.heap.size w w' := by
  rw [qA_rZ, qA_rZ, rZ_ratA x.num, rZ_ratA y.num]
  exact rexact_any _ _ _ _ _ _ _ _ w hx.ln hx.ld hy.ln hy.ld
theorem el_ratP : elemB 47 27 66 264 = true := by kernel_rfl
/-- The three drawn ones. -/
structure Pairs3 (x y z : Rat) (cs : Array Value) : Prop where
  fx : Rt.Fit x
  fy : Rt.Fit y
  fz : Rt.Fit z
  lx : LA 27 cs 0 (.agg (Rt.qA x))
  ly : LA 27 cs 66 (.agg (Rt.qA y))
  lz : LA 27 cs 132 (.agg (Rt.qA z))
  nx : LA 25 cs 0 (.agg (Bg.zA x.num))
  ny : LA 25 cs 66 (.agg (Bg.zA y.num))
  nz : LA 25 cs 132 (.agg (Bg.zA z.num))
theorem qA_num (x : Rat) : (Rt.qA x).extract 0 (0 + 33) = Bg.zA x.num := by rw [qA_rZ, rZ_ratA, zA_int]; exact ratA_num _ _ _ _
theorem pairs3 {x y z : Rat} (fx : Rt.Fit x) (fy : Rt.Fit y) (fz : Rt.Fit z) : Pairs3 x y z (rowsOf [Rt.qA x, Rt.qA y, Rt.qA z]) := by
  have hs : ∀ c ∈ [Rt.qA x, Rt.qA y, Rt.qA z], c.size = 66 := by
    intro c hc
    simp only [List.mem_cons, List.not_mem_nil, or_false] at hc
    rcases hc with rfl | rfl | rfl <;> exact qA_size _
  exact ⟨fx, fy, fz, la_row (k := 0) (by kernel_rfl) sT_rat hs rfl, la_row (k := 1) (by kernel_rfl) sT_rat hs rfl, la_row (k := 2) (by kernel_rfl) sT_rat hs rfl,
    la_rowmid (k := 0) (a := 0) (by kernel_rfl) sT_int hs rfl (by decide) (qA_num x), la_rowmid (k := 1) (a := 0) (by kernel_rfl) sT_int hs rfl (by decide) (qA_num y), la_rowmid (k := 2) (a := 0) (by kernel_rfl) sT_int hs rfl (by decide) (qA_num z)⟩
/-- What the functions of one ratio return. -/
structure OneR (x n m : Rat) (s f : Int) : Prop where
  hn : n = -x
  hm : m = Rt.abs x
  hs : s = x.num.sign
  hf : f = x.floor
set_option maxRecDepth 100000 in
set_option maxHeartbeats 8000000 in
theorem rpairs_any (A : Option Addr) (xs : List Int) (c0 : Nat) (W : World) (hI : IntsAt W A xs) (hxl : xs.length ≤ 9223372036854775807) :
    Calls Try.prog 10 #[.slice A xs.length c0] W fun e w' => e = .returned (.bool true) ∧ Below W.heap.size W w' := by
  have HM := Mem.start W
  have HI := Lib.hid hI
  have hz0 := za_rat
  have hel := el_ratP
  clear hI
  go_enter Try.func10, Try.ntmps10
  go_upto_region 2 with (first | fail | (first | ((with_reducible refine g_ld ?_); refine a_ld HM ?_) | ((with_reducible refine g_st ?_); refine a_st HM ?_; clear HM; intro w1 HM) | ((with_reducible refine g_al ?_); refine a_al HM ?_; clear HM; intro bk w1 HM) | ((with_reducible refine g_bx ?_); refine a_bx HM ?_; clear HM; intro bk w1 HM) | ((with_reducible refine g_bld ?_); refine a_bld ?_)))
  obtain ⟨tb, rfl⟩ := HM.nm0
  have HC : Hid (TapeC W 0 #[.slice A xs.length c0, .int .i64 0]) := ⟨A, xs, c0, 0, rfl, by omega, by omega, HI.out, hxl⟩
  have H0 : Hid (Below W.heap.size W W) := Below.refl _ _
  have hle : ∀ b ∈ ([] : List Nat), W.heap.size ≤ b := by simp
  go_wp2_with fail
  (refine (ratio_any W tb _ _ (HM.tp (by ((repeat (first | exact Look.here | refine Look.there ?_)); done)) HC.out H0.out hle) (by omega)).mono ?_; rintro e9 w2 ⟨x, rfl, hx1, hx2, ⟨c1, hb1, hc1, -, -⟩, hg9⟩; replace HM := HM.put (c' := c1) (by (repeat (first | exact At.here | apply At.there))) hb1 (Only.of_grown hg9); clear hg9 hb1; replace HC := Lib.hid hc1; clear hc1)
  go_wp2_with fail
  (refine (long_any W tb _ _ (HM.tp (by ((repeat (first | exact Look.here | refine Look.there ?_)); done)) HC.out H0.out hle) (by omega)).mono ?_; rintro e9 w2 ⟨y, rfl, hy1, hy2, ⟨c1, hb1, hc1, -, -⟩, hg9⟩; replace HM := HM.put (c' := c1) (by (repeat (first | exact At.here | apply At.there))) hb1 (Only.of_grown hg9); clear hg9 hb1; replace HC := Lib.hid hc1; clear hc1)
  go_wp2_with fail
  (refine (ratio_any W tb _ _ (HM.tp (by ((repeat (first | exact Look.here | refine Look.there ?_)); done)) HC.out H0.out hle) (by omega)).mono ?_; rintro e9 w2 ⟨z, rfl, hz1, hz2, ⟨c1, hb1, hc1, -, -⟩, hg9⟩; replace HM := HM.put (c' := c1) (by (repeat (first | exact At.here | apply At.there))) hb1 (Only.of_grown hg9); clear hg9 hb1; replace HC := Lib.hid hc1; clear hc1)
  have HP := Lib.hid (pairs3 (Rt.fit_k hx1 hx2 (by decide)) (Rt.fit_k hy1 hy2 (by decide)) (Rt.fit_k hz1 hz2 (by decide)))
  clear hx1 hx2 hy1 hy2 hz1 hz2 HC
  go_wp2_with (first | ((with_reducible refine g_bs3 ?_); refine a_bs3 HM ?_; clear HM; intro bk w1 HM) | (first | ((with_reducible refine g_ld ?_); refine a_ld HM ?_) | ((with_reducible refine g_st ?_); refine a_st HM ?_; clear HM; intro w1 HM) | ((with_reducible refine g_al ?_); refine a_al HM ?_; clear HM; intro bk w1 HM) | ((with_reducible refine g_bx ?_); refine a_bx HM ?_; clear HM; intro bk w1 HM) | ((with_reducible refine g_bld ?_); refine a_bld ?_)))
  obtain ⟨bl, rfl⟩ := HM.nm0
  obtain ⟨cs, hcs⟩ : ∃ cs, cs = rowsOf [Rt.qA x, Rt.qA y, Rt.qA z] := ⟨_, rfl⟩
  rw [← hcs] at HM HP
  clear hcs
  go_loopw [5] (fun i wr => ∃ j : Int, i = .int .i64 j ∧ (j = 0 ∨ j = 1 ∨ j = 2 ∨ j = 3) ∧ Mem W [] [(bl, cs)] wr) (fun i _ => (3 - intOf i).toNat)
  case atStart => exact ⟨0, rfl, .inl rfl, HM.pick⟩
  case round =>
    obtain ⟨j, rfl, hj, HM⟩ := hrel
    have lx := HP.out.lx
    have ly := HP.out.ly
    have lz := HP.out.lz
    have nx := HP.out.nx
    have ny := HP.out.ny
    have nz := HP.out.nz
    have fx := HP.out.fx
    have fy := HP.out.fy
    have fz := HP.out.fz
    rcases hj with rfl | rfl | rfl | rfl
    · go_upto_region 6 with fail
      go_cut [55] (fun v wc => v = .bool false ∧ Mem W [] [(bl, cs)] wc)
      case first =>
        refine start_M [] HM (by kernel_rfl) (fun w0x H9 => ?_)
        replace HM := H9; clear H9
        refine k_mv 0 (heldE HM) ?_
        refine k_mv 1 (heldE HM) ?_
        refine k_ia 2 (heldE HM) ?_
        refine k_ld 3 [] (heldE HM) ?_
        refine k_mv 4 (heldE HM) ?_
        refine k_mv 5 (heldE HM) ?_
        refine k_add 6 (heldE HM) ?_
        refine k_bin 7 (heldE HM) ?_
        refine k_ia 8 (heldE HM) ?_
        refine k_ld 9 [] (heldE HM) ?_
        refine j_one 10 fun K9 hK9 => ?_
        refine j_call2 (v := ?_) HM ?_ ?_; rotate_left 1; (focus (with_reducible (first | exact rexact_q x y fx fy _ | exact valid_q x fx _))); clear HM; intro w1 HM
        refine hK9 _ _ (heldE HM) ?_; clear hK9 K9
        refine k_not 11 (heldE HM) ?_
        refine k_mv 12 (heldE HM) ?_
        refine k_mv 13 (heldE HM) ?_
        refine k_mv 14 (heldE HM) ?_
        refine k_ia 15 (heldE HM) ?_
        refine k_ld 16 [] (heldE HM) ?_
        refine j_one 17 fun K9 hK9 => ?_
        refine j_call1 (v := ?_) HM ?_ ?_; rotate_left 1; (focus (with_reducible (first | exact rexact_q x y fx fy _ | exact valid_q x fx _))); clear HM; intro w1 HM
        refine hK9 _ _ (heldE HM) ?_; clear hK9 K9
        refine k_not 18 (heldE HM) ?_
        refine k_pick 19 (heldE HM) ?_
        refine wpAnyL_done (by kernel_rfl) ?_ _
        go_wp2_with fail
        go_meet
        case rel => exact ⟨rfl, HM.pick⟩
      case rest =>
        clear HM
        obtain ⟨rfl, HM⟩ := hcut
        go_step
        (obtain ⟨n, hn⟩ : ∃ n : Rat, Hid (n = -x) := ⟨_, rfl⟩)
        (obtain ⟨m, hm⟩ : ∃ m : Rat, Hid (m = Rt.abs x) := ⟨_, rfl⟩)
        (obtain ⟨s, hs⟩ : ∃ s : Int, Hid (s = (x).num.sign) := ⟨_, rfl⟩)
        (obtain ⟨f, hf⟩ : ∃ f : Int, Hid (f = (x).floor) := ⟨_, rfl⟩)
        (have fn : Rt.Fit n := by rw [hn.out]; exact (fx).neg)
        (have fm : Rt.Fit m := by rw [hm.out]; exact (fx).abs)
        (have lf : f.natAbs < Bg.lim := by rw [hf.out]; exact Rt.floor_lt (fx).ln)
        have sn := sa_q n (rZ_size 0 0)
        have sm := sa_q m (rZ_size 0 0)
        have kn := la_q n
        have km := la_q m
        go_wp2_with (first | first | (go_at_call 41; ((with_reducible refine (neg_q x n fx hn _).mono ?_); rintro e9 w2 ⟨rfl, hL⟩; replace HM := HM.call hL; clear hL)) | (go_at_call 42; ((with_reducible refine (rneg_q x n fx hn _).mono ?_); rintro e9 w2 ⟨rfl, hL⟩; replace HM := HM.call hL; clear hL)) | (go_at_call 43; ((with_reducible refine (abs_q x m fx hm _).mono ?_); rintro e9 w2 ⟨rfl, hL⟩; replace HM := HM.call hL; clear hL)) | (go_at_call 44; ((with_reducible refine (rabs_q x m fx hm _).mono ?_); rintro e9 w2 ⟨rfl, hL⟩; replace HM := HM.call hL; clear hL)) | (go_at_call 45; ((with_reducible refine (sign_q x s fx hs _).mono ?_); rintro e9 w2 ⟨rfl, hL⟩; replace HM := HM.call hL; clear hL)) | (go_at_call 39; ((with_reducible refine (floor_q x f fx hf _).mono ?_); rintro e9 w2 ⟨rfl, hL⟩; replace HM := HM.call hL; clear hL)) | (go_at_call 47; ((with_reducible refine (rfloor_q x f fx hf _).mono ?_); rintro e9 w2 ⟨rfl, hL⟩; replace HM := HM.call hL; clear hL)) | (go_at_call 49; ((with_reducible refine (rsign_z (x).num s (fx).ln hs _).mono ?_); rintro e9 w2 ⟨rfl, hL⟩; replace HM := HM.call hL; clear hL)) | ((with_reducible refine g_bin ?_); refine a_cmpq .neq (n) (n) false (.inr rfl) (by simp) (fn) (fn) ?_) | ((with_reducible refine g_bin ?_); refine a_cmpq .neq (m) (m) false (.inr rfl) (by simp) (fm) (fm) ?_) | ((with_reducible refine g_bin ?_); refine a_cmpz .neq (f) (f) false (.inr rfl) (by simp) (lf) (lf) ?_) | (first | ((with_reducible refine g_ld ?_); refine a_ld HM ?_) | ((with_reducible refine g_st ?_); refine a_st HM ?_; clear HM; intro w1 HM) | ((with_reducible refine g_al ?_); refine a_al HM ?_; clear HM; intro bk w1 HM) | ((with_reducible refine g_bx ?_); refine a_bx HM ?_; clear HM; intro bk w1 HM) | ((with_reducible refine g_bld ?_); refine a_bld ?_)))
        go_roundw
        case rel => exact ⟨1, rfl, .inr (.inl rfl), HM.pick⟩
        case measure => simp [intOf]
    · go_upto_region 6 with fail
      go_cut [55] (fun v wc => v = .bool false ∧ Mem W [] [(bl, cs)] wc)
      case first =>
        refine start_M [] HM (by kernel_rfl) (fun w0x H9 => ?_)
        replace HM := H9; clear H9
        refine k_mv 0 (heldE HM) ?_
        refine k_mv 1 (heldE HM) ?_
        refine k_ia 2 (heldE HM) ?_
        refine k_ld 3 [] (heldE HM) ?_
        refine k_mv 4 (heldE HM) ?_
        refine k_mv 5 (heldE HM) ?_
        refine k_add 6 (heldE HM) ?_
        refine k_bin 7 (heldE HM) ?_
        refine k_ia 8 (heldE HM) ?_
        refine k_ld 9 [] (heldE HM) ?_
        refine j_one 10 fun K9 hK9 => ?_
        refine j_call2 (v := ?_) HM ?_ ?_; rotate_left 1; (focus (with_reducible (first | exact rexact_q y z fy fz _ | exact valid_q y fy _))); clear HM; intro w1 HM
        refine hK9 _ _ (heldE HM) ?_; clear hK9 K9
        refine k_not 11 (heldE HM) ?_
        refine k_mv 12 (heldE HM) ?_
        refine k_mv 13 (heldE HM) ?_
        refine k_mv 14 (heldE HM) ?_
        refine k_ia 15 (heldE HM) ?_
        refine k_ld 16 [] (heldE HM) ?_
        refine j_one 17 fun K9 hK9 => ?_
        refine j_call1 (v := ?_) HM ?_ ?_; rotate_left 1; (focus (with_reducible (first | exact rexact_q y z fy fz _ | exact valid_q y fy _))); clear HM; intro w1 HM
        refine hK9 _ _ (heldE HM) ?_; clear hK9 K9
        refine k_not 18 (heldE HM) ?_
        refine k_pick 19 (heldE HM) ?_
        refine wpAnyL_done (by kernel_rfl) ?_ _
        go_wp2_with fail
        go_meet
        case rel => exact ⟨rfl, HM.pick⟩
      case rest =>
        clear HM
        obtain ⟨rfl, HM⟩ := hcut
        go_step
        (obtain ⟨n, hn⟩ : ∃ n : Rat, Hid (n = -y) := ⟨_, rfl⟩)
        (obtain ⟨m, hm⟩ : ∃ m : Rat, Hid (m = Rt.abs y) := ⟨_, rfl⟩)
        (obtain ⟨s, hs⟩ : ∃ s : Int, Hid (s = (y).num.sign) := ⟨_, rfl⟩)
        (obtain ⟨f, hf⟩ : ∃ f : Int, Hid (f = (y).floor) := ⟨_, rfl⟩)
        (have fn : Rt.Fit n := by rw [hn.out]; exact (fy).neg)
        (have fm : Rt.Fit m := by rw [hm.out]; exact (fy).abs)
        (have lf : f.natAbs < Bg.lim := by rw [hf.out]; exact Rt.floor_lt (fy).ln)
        have sn := sa_q n (rZ_size 0 0)
        have sm := sa_q m (rZ_size 0 0)
        have kn := la_q n
        have km := la_q m
        go_wp2_with (first | first | (go_at_call 41; ((with_reducible refine (neg_q y n fy hn _).mono ?_); rintro e9 w2 ⟨rfl, hL⟩; replace HM := HM.call hL; clear hL)) | (go_at_call 42; ((with_reducible refine (rneg_q y n fy hn _).mono ?_); rintro e9 w2 ⟨rfl, hL⟩; replace HM := HM.call hL; clear hL)) | (go_at_call 43; ((with_reducible refine (abs_q y m fy hm _).mono ?_); rintro e9 w2 ⟨rfl, hL⟩; replace HM := HM.call hL; clear hL)) | (go_at_call 44; ((with_reducible refine (rabs_q y m fy hm _).mono ?_); rintro e9 w2 ⟨rfl, hL⟩; replace HM := HM.call hL; clear hL)) | (go_at_call 45; ((with_reducible refine (sign_q y s fy hs _).mono ?_); rintro e9 w2 ⟨rfl, hL⟩; replace HM := HM.call hL; clear hL)) | (go_at_call 39; ((with_reducible refine (floor_q y f fy hf _).mono ?_); rintro e9 w2 ⟨rfl, hL⟩; replace HM := HM.call hL; clear hL)) | (go_at_call 47; ((with_reducible refine (rfloor_q y f fy hf _).mono ?_); rintro e9 w2 ⟨rfl, hL⟩; replace HM := HM.call hL; clear hL)) | (go_at_call 49; ((with_reducible refine (rsign_z (y).num s (fy).ln hs _).mono ?_); rintro e9 w2 ⟨rfl, hL⟩; replace HM := HM.call hL; clear hL)) | ((with_reducible refine g_bin ?_); refine a_cmpq .neq (n) (n) false (.inr rfl) (by simp) (fn) (fn) ?_) | ((with_reducible refine g_bin ?_); refine a_cmpq .neq (m) (m) false (.inr rfl) (by simp) (fm) (fm) ?_) | ((with_reducible refine g_bin ?_); refine a_cmpz .neq (f) (f) false (.inr rfl) (by simp) (lf) (lf) ?_) | (first | ((with_reducible refine g_ld ?_); refine a_ld HM ?_) | ((with_reducible refine g_st ?_); refine a_st HM ?_; clear HM; intro w1 HM) | ((with_reducible refine g_al ?_); refine a_al HM ?_; clear HM; intro bk w1 HM) | ((with_reducible refine g_bx ?_); refine a_bx HM ?_; clear HM; intro bk w1 HM) | ((with_reducible refine g_bld ?_); refine a_bld ?_)))
        go_roundw
        case rel => exact ⟨2, rfl, .inr (.inr (.inl rfl)), HM.pick⟩
        case measure => simp [intOf]
    · go_upto_region 6 with fail
      go_cut [55] (fun v wc => v = .bool false ∧ Mem W [] [(bl, cs)] wc)
      case first =>
        refine start_M [] HM (by kernel_rfl) (fun w0x H9 => ?_)
        replace HM := H9; clear H9
        refine k_mv 0 (heldE HM) ?_
        refine k_mv 1 (heldE HM) ?_
        refine k_ia 2 (heldE HM) ?_
        refine k_ld 3 [] (heldE HM) ?_
        refine k_mv 4 (heldE HM) ?_
        refine k_mv 5 (heldE HM) ?_
        refine k_add 6 (heldE HM) ?_
        refine k_bin 7 (heldE HM) ?_
        refine k_ia 8 (heldE HM) ?_
        refine k_ld 9 [] (heldE HM) ?_
        refine j_one 10 fun K9 hK9 => ?_
        refine j_call2 (v := ?_) HM ?_ ?_; rotate_left 1; (focus (with_reducible (first | exact rexact_q z x fz fx _ | exact valid_q z fz _))); clear HM; intro w1 HM
        refine hK9 _ _ (heldE HM) ?_; clear hK9 K9
        refine k_not 11 (heldE HM) ?_
        refine k_mv 12 (heldE HM) ?_
        refine k_mv 13 (heldE HM) ?_
        refine k_mv 14 (heldE HM) ?_
        refine k_ia 15 (heldE HM) ?_
        refine k_ld 16 [] (heldE HM) ?_
        refine j_one 17 fun K9 hK9 => ?_
        refine j_call1 (v := ?_) HM ?_ ?_; rotate_left 1; (focus (with_reducible (first | exact rexact_q z x fz fx _ | exact valid_q z fz _))); clear HM; intro w1 HM
        refine hK9 _ _ (heldE HM) ?_; clear hK9 K9
        refine k_not 18 (heldE HM) ?_
        refine k_pick 19 (heldE HM) ?_
        refine wpAnyL_done (by kernel_rfl) ?_ _
        go_wp2_with fail
        go_meet
        case rel => exact ⟨rfl, HM.pick⟩
      case rest =>
        clear HM
        obtain ⟨rfl, HM⟩ := hcut
        go_step
        (obtain ⟨n, hn⟩ : ∃ n : Rat, Hid (n = -z) := ⟨_, rfl⟩)
        (obtain ⟨m, hm⟩ : ∃ m : Rat, Hid (m = Rt.abs z) := ⟨_, rfl⟩)
        (obtain ⟨s, hs⟩ : ∃ s : Int, Hid (s = (z).num.sign) := ⟨_, rfl⟩)
        (obtain ⟨f, hf⟩ : ∃ f : Int, Hid (f = (z).floor) := ⟨_, rfl⟩)
        (have fn : Rt.Fit n := by rw [hn.out]; exact (fz).neg)
        (have fm : Rt.Fit m := by rw [hm.out]; exact (fz).abs)
        (have lf : f.natAbs < Bg.lim := by rw [hf.out]; exact Rt.floor_lt (fz).ln)
        have sn := sa_q n (rZ_size 0 0)
        have sm := sa_q m (rZ_size 0 0)
        have kn := la_q n
        have km := la_q m
        go_wp2_with (first | first | (go_at_call 41; ((with_reducible refine (neg_q z n fz hn _).mono ?_); rintro e9 w2 ⟨rfl, hL⟩; replace HM := HM.call hL; clear hL)) | (go_at_call 42; ((with_reducible refine (rneg_q z n fz hn _).mono ?_); rintro e9 w2 ⟨rfl, hL⟩; replace HM := HM.call hL; clear hL)) | (go_at_call 43; ((with_reducible refine (abs_q z m fz hm _).mono ?_); rintro e9 w2 ⟨rfl, hL⟩; replace HM := HM.call hL; clear hL)) | (go_at_call 44; ((with_reducible refine (rabs_q z m fz hm _).mono ?_); rintro e9 w2 ⟨rfl, hL⟩; replace HM := HM.call hL; clear hL)) | (go_at_call 45; ((with_reducible refine (sign_q z s fz hs _).mono ?_); rintro e9 w2 ⟨rfl, hL⟩; replace HM := HM.call hL; clear hL)) | (go_at_call 39; ((with_reducible refine (floor_q z f fz hf _).mono ?_); rintro e9 w2 ⟨rfl, hL⟩; replace HM := HM.call hL; clear hL)) | (go_at_call 47; ((with_reducible refine (rfloor_q z f fz hf _).mono ?_); rintro e9 w2 ⟨rfl, hL⟩; replace HM := HM.call hL; clear hL)) | (go_at_call 49; ((with_reducible refine (rsign_z (z).num s (fz).ln hs _).mono ?_); rintro e9 w2 ⟨rfl, hL⟩; replace HM := HM.call hL; clear hL)) | ((with_reducible refine g_bin ?_); refine a_cmpq .neq (n) (n) false (.inr rfl) (by simp) (fn) (fn) ?_) | ((with_reducible refine g_bin ?_); refine a_cmpq .neq (m) (m) false (.inr rfl) (by simp) (fm) (fm) ?_) | ((with_reducible refine g_bin ?_); refine a_cmpz .neq (f) (f) false (.inr rfl) (by simp) (lf) (lf) ?_) | (first | ((with_reducible refine g_ld ?_); refine a_ld HM ?_) | ((with_reducible refine g_st ?_); refine a_st HM ?_; clear HM; intro w1 HM) | ((with_reducible refine g_al ?_); refine a_al HM ?_; clear HM; intro bk w1 HM) | ((with_reducible refine g_bx ?_); refine a_bx HM ?_; clear HM; intro bk w1 HM) | ((with_reducible refine g_bld ?_); refine a_bld ?_)))
        go_roundw
        case rel => exact ⟨3, rfl, .inr (.inr (.inr rfl)), HM.pick⟩
        case measure => simp [intOf]
    · go_wp2_with (first | (go_at_call 16; ((with_reducible refine (rknown_any _).mono ?_); rintro e9 w2 ⟨rfl, hL⟩; replace HM := HM.call hL; clear hL)) | (first | ((with_reducible refine g_ld ?_); refine a_ld HM ?_) | ((with_reducible refine g_st ?_); refine a_st HM ?_; clear HM; intro w1 HM) | ((with_reducible refine g_al ?_); refine a_al HM ?_; clear HM; intro bk w1 HM) | ((with_reducible refine g_bx ?_); refine a_bx HM ?_; clear HM; intro bk w1 HM) | ((with_reducible refine g_bld ?_); refine a_bld ?_)))
      go_ret
      exact ⟨rfl, HM.low⟩
end Go.Proofs.Ytekfabhmopkapaa
