/- The law RatioFloors, walked: Floor(r) <= r < Floor(r) + 1. -/
import Derived.Test.YtekfabhmopkapaaRatZ
namespace Go.Proofs.Ytekfabhmopkapaa
set_option maxRecDepth 8000
open Go.RowKit
theorem Rt.floor_facts (x : Rat) : ∃ g1 g2 : Int, Hid (g1 = Rt.cmp (x.floor : Rat) x) ∧ Hid (g2 = Rt.cmp x ((x.floor : Rat) + 1)) ∧ decide (g1 ≤ 0) = true ∧ decide (g2 < 0) = true := by
  refine ⟨_, _, rfl, rfl, ?_, ?_⟩
  · have h := Rat.floor_le x
    rcases Rt.cmp_cases (x.floor : Rat) x with ⟨h1, _⟩ | ⟨h1, _⟩ | ⟨_, h2⟩
    · rw [h1]; rfl
    · rw [h1]; rfl
    · grind
  · have h := Rat.lt_floor_add_one x
    rw [Rat.intCast_add, Rat.intCast_one] at h
    rw [Rt.cmp_lt.2 h]; rfl
theorem Rt.floor_lt {x : Rat} {k : Nat} (h : x.num.natAbs < k) : x.floor.natAbs < k := by
  rw [Rat.floor_def]
  exact Nat.lt_of_le_of_lt (Int.natAbs_ediv_le_natAbs _ _) h
set_option maxRecDepth 100000 in
set_option maxHeartbeats 8000000 in
theorem floors_any (A : Option Addr) (xs : List Int) (c0 : Nat) (W : World) (hI : IntsAt W A xs) (hxl : xs.length ≤ 9223372036854775807) :
    Calls Try.prog 7 #[.slice A xs.length c0] W fun e w' => e = .returned (.bool true) ∧ Below W.heap.size W w' := by
  have HM := Mem.start W
  have HI := Lib.hid hI
  have hz0 := za_rat
  clear hI
  go_enter Try.func7, Try.ntmps7
  go_upto_region 2 with (first | fail | (first | ((with_reducible refine g_ld ?_); refine a_ld HM ?_) | ((with_reducible refine g_st ?_); refine a_st HM ?_; clear HM; intro w1 HM) | ((with_reducible refine g_al ?_); refine a_al HM ?_; clear HM; intro bk w1 HM) | ((with_reducible refine g_bx ?_); refine a_bx HM ?_; clear HM; intro bk w1 HM) | ((with_reducible refine g_bld ?_); refine a_bld ?_)))
  obtain ⟨tb, rfl⟩ := HM.nm0
  have HC : Hid (TapeC W 0 #[.slice A xs.length c0, .int .i64 0]) := ⟨A, xs, c0, 0, rfl, by omega, by omega, HI.out, hxl⟩
  have H0 : Hid (Below W.heap.size W W) := Below.refl _ _
  have hle : ∀ b ∈ ([] : List Nat), W.heap.size ≤ b := by simp
  go_wp2_with fail
  (refine (ratio_any W tb _ _ (HM.tp (by ((repeat (first | exact Look.here | refine Look.there ?_)); done)) HC.out H0.out hle) (by omega)).mono ?_; rintro e9 w2 ⟨x, rfl, hx1, hx2, ⟨c1, hb1, hc1, -, -⟩, hg9⟩; replace HM := HM.put (c' := c1) (by (repeat (first | exact At.here | apply At.there))) hb1 (Only.of_grown hg9); clear hg9 hb1; replace HC := Lib.hid hc1; clear hc1)
  have hx := Rt.fit_k hx1 hx2 (by decide)
  obtain ⟨f, hf⟩ : ∃ f, Hid (f = x.floor) := ⟨_, rfl⟩
  have hf1 : f.natAbs < Bg.p2 200 := by rw [hf.out]; exact Rt.floor_lt hx1
  obtain ⟨y, hy⟩ : ∃ y : Rat, Hid (y = Rat.divInt f 1) := ⟨_, rfl⟩
  obtain ⟨o, ho⟩ : ∃ o : Rat, Hid (o = ((1 : Int) : Rat)) := ⟨_, rfl⟩
  obtain ⟨z, hz⟩ : ∃ z : Rat, Hid (z = y + o) := ⟨_, rfl⟩
  have ey : y = ((x.floor : Int) : Rat) := by rw [hy.out, hf.out, Rt.int_divInt]
  obtain ⟨g1, g2, hg1, hg2, d1, d2⟩ := Rt.floor_facts x
  have hg1' : Hid (g1 = Rt.cmp y x) := Lib.hid (by rw [ey]; exact hg1.out)
  have hg2' : Hid (g2 = Rt.cmp x z) := Lib.hid (by rw [hz.out, ey, ho.out, Rat.intCast_one]; exact hg2.out)
  have p200 : Bg.p2 200 < Bg.p2 480 := by have h1 : Bg.p2 (200 + 1) ≤ Bg.p2 480 := Bg.p2_mono (by decide); have h2 := Bg.p2_succ 200; have h3 := Bg.p2_pos 200; omega
  have lo : ((1 : Int)).natAbs < Bg.p2 480 := by have := Bg.p2_pos 200; show 1 < _; omega
  have hfy : Rt.Fit y := Rt.fit_le (q := 1) (by omega) (by omega) lo hy.out
  have hfo : Rt.Fit o := by rw [ho.out]; exact ⟨by rw [Rat.num_intCast]; omega, by rw [Rat.den_intCast]; omega⟩
  have hfz : Rt.Fit z := by
    have e : z = ((f + 1 : Int) : Rat) := by rw [hz.out, ey, ho.out, ← hf.out, Rat.intCast_add]
    rw [e]; exact ⟨by rw [Rat.num_intCast]; omega, by rw [Rat.den_intCast]; omega⟩
  have s1 := sa_q x (rZ_size 0 0)
  have s2 := sa_q y (rZ_size 0 0)
  have s3 := sa_q z (rZ_size 0 0)
  have k1 := la_q x
  have k2 := la_q y
  have k3 := la_q z
  clear hg1 hg2 ey HC
  go_upto_region 4 with (first | (go_at_call 39; ((with_reducible refine (floor_q x f hx hf _).mono ?_); rintro e9 w2 ⟨rfl, hL⟩; replace HM := HM.call hL; clear hL)) | (first | ((with_reducible refine g_ld ?_); refine a_ld HM ?_) | ((with_reducible refine g_st ?_); refine a_st HM ?_; clear HM; intro w1 HM) | ((with_reducible refine g_al ?_); refine a_al HM ?_; clear HM; intro bk w1 HM) | ((with_reducible refine g_bx ?_); refine a_bx HM ?_; clear HM; intro bk w1 HM) | ((with_reducible refine g_bld ?_); refine a_bld ?_)))
  obtain ⟨b5, rfl⟩ := HM.nm0
  obtain ⟨b4, rfl⟩ := HM.nm1
  go_cut [7, 8] (fun p e wc => ∃ b7, p = .pointer (some ⟨b7, 0, none⟩) ∧ e = .int .i64 0 ∧ Mem W [] [(b7, Rt.qA y), (b4, Rt.qA x)] wc)
  case first =>
    refine start_M [7] HM (by kernel_rfl) (fun w0x H9 => ?_)
    replace HM := H9; clear H9
    refine k_ld 0 [2, 3, 4, 5, 7, 8] (heldE HM) ?_
    refine j_two 1 6 ?_ ?_
    · refine j_call1 (v := ?_) HM ?_ ?_; rotate_left 1; (focus (with_reducible (first | exact rfromInt_z 1 (by omega) (by omega) _ | exact make_q f 1 y (by omega) (by omega) lo hy _))); clear HM; intro w1 HM
      refine ⟨(heldE HM), ?_⟩
      refine j_two 2 6 ?_ ?_
      · refine j_call2 (v := ?_) HM ?_ ?_; rotate_left 1; (focus (with_reducible (first | exact rfromInt_z 1 (by omega) (by omega) _ | exact make_q f 1 y (by omega) (by omega) lo hy _))); clear HM; intro w1 HM
        refine ⟨(heldE HM), ?_⟩
        refine k_mv 3 (heldE HM) ?_
        refine k_ext 4 (heldE HM) ?_
        refine k_ext 5 (heldE HM) ?_
        refine j_one 6 fun K9 hK9 => ?_
        refine j_al HM ?_; clear HM; intro bk w1 HM
        refine hK9 _ _ (heldE HM) ?_; clear hK9 K9
        refine j_one 7 fun K9 hK9 => ?_
        refine j_st HM ?_; clear HM; intro w1 HM
        refine hK9 _ _ heldN ?_; clear hK9 K9
        refine k_mv 8 heldN ?_
        refine wpAnyL_done (by kernel_rfl) ?_ _
        (go_wp2_with fail; go_meet; (case rel => exact ⟨_, rfl, rfl, HM.pick⟩))
      · refine j_al HM ?_; clear HM; intro bk w1 HM
        refine ⟨(heldE HM), ?_⟩
        refine j_one 2 fun K9 hK9 => ?_
        refine j_call2 (v := ?_) HM ?_ ?_; rotate_left 1; (focus (with_reducible (first | exact rfromInt_z 1 (by omega) (by omega) _ | exact make_q f 1 y (by omega) (by omega) lo hy _))); clear HM; intro w1 HM
        refine hK9 _ _ (heldE HM) ?_; clear hK9 K9
        refine k_mv 3 (heldE HM) ?_
        refine k_ext 4 (heldE HM) ?_
        refine k_ext 5 (heldE HM) ?_
        refine j_one 7 fun K9 hK9 => ?_
        refine j_st HM ?_; clear HM; intro w1 HM
        refine hK9 _ _ heldN ?_; clear hK9 K9
        refine k_mv 8 heldN ?_
        refine wpAnyL_done (by kernel_rfl) ?_ _
        (go_wp2_with fail; go_meet; (case rel => exact ⟨_, rfl, rfl, HM.pick⟩))
    · refine j_al HM ?_; clear HM; intro bk w1 HM
      refine ⟨(heldE HM), ?_⟩
      refine j_one 1 fun K9 hK9 => ?_
      refine j_call1 (v := ?_) HM ?_ ?_; rotate_left 1; (focus (with_reducible (first | exact rfromInt_z 1 (by omega) (by omega) _ | exact make_q f 1 y (by omega) (by omega) lo hy _))); clear HM; intro w1 HM
      refine hK9 _ _ (heldE HM) ?_; clear hK9 K9
      refine j_one 2 fun K9 hK9 => ?_
      refine j_call2 (v := ?_) HM ?_ ?_; rotate_left 1; (focus (with_reducible (first | exact rfromInt_z 1 (by omega) (by omega) _ | exact make_q f 1 y (by omega) (by omega) lo hy _))); clear HM; intro w1 HM
      refine hK9 _ _ (heldE HM) ?_; clear hK9 K9
      refine k_mv 3 (heldE HM) ?_
      refine k_ext 4 (heldE HM) ?_
      refine k_ext 5 (heldE HM) ?_
      refine j_one 7 fun K9 hK9 => ?_
      refine j_st HM ?_; clear HM; intro w1 HM
      refine hK9 _ _ heldN ?_; clear hK9 K9
      refine k_mv 8 heldN ?_
      refine wpAnyL_done (by kernel_rfl) ?_ _
      (go_wp2_with fail; go_meet; (case rel => exact ⟨_, rfl, rfl, HM.pick⟩))
  case rest =>
    clear HM
    obtain ⟨b7, rfl, rfl, HM⟩ := hcut
    go_upto_region 5 with fail
    go_cut [9, 10] (fun p e wc => ∃ b9, p = .pointer (some ⟨b9, 0, none⟩) ∧ e = .int .i64 0 ∧ Mem W [] [(b9, Rt.qA z), (b7, Rt.qA y), (b4, Rt.qA x)] wc)
    case first =>
      refine start_M [7] HM (by kernel_rfl) (fun w0x H9 => ?_)
      replace HM := H9; clear H9
      refine k_ld 0 [2, 3, 4, 5, 7, 8] (heldE HM) ?_
      refine j_two 1 6 ?_ ?_
      · refine j_call1 (v := ?_) HM ?_ ?_; rotate_left 1; (focus (with_reducible (first | exact whole_q 1 o (by omega) (by omega) ho _ | exact add_q y o z hfy hfo hz hfz _))); clear HM; intro w1 HM
        refine ⟨(heldE HM), ?_⟩
        refine j_two 2 6 ?_ ?_
        · refine j_call2 (v := ?_) HM ?_ ?_; rotate_left 1; (focus (with_reducible (first | exact whole_q 1 o (by omega) (by omega) ho _ | exact add_q y o z hfy hfo hz hfz _))); clear HM; intro w1 HM
          refine ⟨(heldE HM), ?_⟩
          refine k_mv 3 (heldE HM) ?_
          refine k_ext 4 (heldE HM) ?_
          refine k_ext 5 (heldE HM) ?_
          refine j_one 6 fun K9 hK9 => ?_
          refine j_al HM ?_; clear HM; intro bk w1 HM
          refine hK9 _ _ (heldE HM) ?_; clear hK9 K9
          refine j_one 7 fun K9 hK9 => ?_
          refine j_st HM ?_; clear HM; intro w1 HM
          refine hK9 _ _ heldN ?_; clear hK9 K9
          refine k_mv 8 heldN ?_
          refine wpAnyL_done (by kernel_rfl) ?_ _
          (go_wp2_with fail; go_meet; (case rel => exact ⟨_, rfl, rfl, HM.pick⟩))
        · refine j_al HM ?_; clear HM; intro bk w1 HM
          refine ⟨(heldE HM), ?_⟩
          refine j_one 2 fun K9 hK9 => ?_
          refine j_call2 (v := ?_) HM ?_ ?_; rotate_left 1; (focus (with_reducible (first | exact whole_q 1 o (by omega) (by omega) ho _ | exact add_q y o z hfy hfo hz hfz _))); clear HM; intro w1 HM
          refine hK9 _ _ (heldE HM) ?_; clear hK9 K9
          refine k_mv 3 (heldE HM) ?_
          refine k_ext 4 (heldE HM) ?_
          refine k_ext 5 (heldE HM) ?_
          refine j_one 7 fun K9 hK9 => ?_
          refine j_st HM ?_; clear HM; intro w1 HM
          refine hK9 _ _ heldN ?_; clear hK9 K9
          refine k_mv 8 heldN ?_
          refine wpAnyL_done (by kernel_rfl) ?_ _
          (go_wp2_with fail; go_meet; (case rel => exact ⟨_, rfl, rfl, HM.pick⟩))
      · refine j_al HM ?_; clear HM; intro bk w1 HM
        refine ⟨(heldE HM), ?_⟩
        refine j_one 1 fun K9 hK9 => ?_
        refine j_call1 (v := ?_) HM ?_ ?_; rotate_left 1; (focus (with_reducible (first | exact whole_q 1 o (by omega) (by omega) ho _ | exact add_q y o z hfy hfo hz hfz _))); clear HM; intro w1 HM
        refine hK9 _ _ (heldE HM) ?_; clear hK9 K9
        refine j_one 2 fun K9 hK9 => ?_
        refine j_call2 (v := ?_) HM ?_ ?_; rotate_left 1; (focus (with_reducible (first | exact whole_q 1 o (by omega) (by omega) ho _ | exact add_q y o z hfy hfo hz hfz _))); clear HM; intro w1 HM
        refine hK9 _ _ (heldE HM) ?_; clear hK9 K9
        refine k_mv 3 (heldE HM) ?_
        refine k_ext 4 (heldE HM) ?_
        refine k_ext 5 (heldE HM) ?_
        refine j_one 7 fun K9 hK9 => ?_
        refine j_st HM ?_; clear HM; intro w1 HM
        refine hK9 _ _ heldN ?_; clear hK9 K9
        refine k_mv 8 heldN ?_
        refine wpAnyL_done (by kernel_rfl) ?_ _
        (go_wp2_with fail; go_meet; (case rel => exact ⟨_, rfl, rfl, HM.pick⟩))
    case rest =>
      clear HM
      obtain ⟨b9, rfl, rfl, HM⟩ := hcut
      go_step
      go_wp2_with (first | first
        | (go_at_call 36; ((with_reducible refine (cmp_q y x g1 hfy hx hg1' _).mono ?_); rintro e9 w2 ⟨rfl, hL⟩; replace HM := HM.call hL; clear hL))
        | (go_at_call 36; ((with_reducible refine (cmp_q x z g2 hx hfz hg2' _).mono ?_); rintro e9 w2 ⟨rfl, hL⟩; replace HM := HM.call hL; clear hL))
        | (go_at_call 16; ((with_reducible refine (rknown_any _).mono ?_); rintro e9 w2 ⟨rfl, hL⟩; replace HM := HM.call hL; clear hL)) | (first | ((with_reducible refine g_ld ?_); refine a_ld HM ?_) | ((with_reducible refine g_st ?_); refine a_st HM ?_; clear HM; intro w1 HM) | ((with_reducible refine g_al ?_); refine a_al HM ?_; clear HM; intro bk w1 HM) | ((with_reducible refine g_bx ?_); refine a_bx HM ?_; clear HM; intro bk w1 HM) | ((with_reducible refine g_bld ?_); refine a_bld ?_)))
      go_ret
      exact ⟨rfl, HM.low⟩
end Go.Proofs.Ytekfabhmopkapaa
