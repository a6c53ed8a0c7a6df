/- Material of the document. -/
import Derived.Test.YteamjgifohamgaaGreatMtF
namespace Go.Proofs.YteamjgifohamgaaGreat
set_option maxRecDepth 8000
open Go.RowKit
noncomputable def Ex.vld (lo hi : Int) : Option Rat → Bool
  | none => false
  | some x => open Classical in decide ((lo : Rat) ≤ x ∧ x ≤ (hi : Rat))
theorem Ex.int_fit {n : Int} (h1 : -9223372036854775808 ≤ n) (h2 : n < 9223372036854775808) : Rt.Fit (n : Rat) := by
  have h := Bg.p2_mono (show 200 ≤ 480 by decide)
  have h3 := p64_200
  have h1' := Bg.p2_mono (show 1 ≤ 480 by decide)
  have h4 : Bg.p2 1 = 2 := by unfold Bg.p2; rfl
  refine ⟨?_, ?_⟩
  · rw [Rat.num_intCast]; omega
  · rw [Rat.den_intCast]; omega
set_option maxHeartbeats 4000000 in
theorem evalid_any (l : Option Rat) (cl : Array Value) (lo hi : Int) (f : Bool) (hv : Rt.Vc l cl) (h1 : -9223372036854775808 ≤ lo) (h2 : lo < 9223372036854775808) (h3 : -9223372036854775808 ≤ hi) (h4 : hi < 9223372036854775808) (hf : Hid (f = Ex.vld lo hi l)) (w : World) :
    Calls Tryz.prog 30 #[.agg cl, .int .i64 lo, .int .i64 hi] w fun e w' => e = .returned (.bool f) ∧ Below w.heap.size w w' := by
  have HM := Mem.start w
  have kl := la_r66 hv.size
  have V := fun w => rvalid_v l cl hv w
  have hf2 := hf.out
  cases l with
  | none =>
    obtain rfl : f = false := hf2
    clear hf hv
    go_enter Tryz.func30, Tryz.ntmps30
    go_upto_region 1 with (first | fail | (first | ((with_reducible refine g_ld ?_); refine a_ld HM ?_) | ((with_reducible refine g_st ?_); refine a_st HM ?_; clear HM; intro w1 HM) | ((with_reducible refine g_al ?_); refine a_al HM ?_; clear HM; intro bk w1 HM) | ((with_reducible refine g_bx ?_); refine a_bx HM ?_; clear HM; intro bk w1 HM) | ((with_reducible refine g_bld ?_); refine a_bld ?_)))
    refine start_M [] HM (by kernel_rfl) (fun w0x H9 => ?_)
    replace HM := H9; clear H9
    refine k_ld 0 [] (heldE HM) ?_
    refine j_one 1 fun K9 hK9 => ?_
    refine j_call1 (v := ?_) HM ?_ ?_; rotate_left 1; (focus (with_reducible (exact V _))); clear HM; intro w1 HM
    refine hK9 _ _ (heldE HM) ?_; clear hK9 K9
    refine k_mv 2 (heldE HM) ?_
    refine k_off 3 (heldE HM) ?_
    refine k_off 4 (heldE HM) ?_
    refine k_off 5 (heldE HM) ?_
    refine k_off 6 (heldE HM) ?_
    refine k_off 7 (heldE HM) ?_
    refine k_off 8 (heldE HM) ?_
    refine k_pick 9 (heldE HM) ?_
    refine k_mv 10 (heldE HM) ?_
    refine k_off 11 (heldE HM) ?_
    refine k_off 12 (heldE HM) ?_
    refine k_off 13 (heldE HM) ?_
    refine k_off 14 (heldE HM) ?_
    refine k_off 15 (heldE HM) ?_
    refine k_off 16 (heldE HM) ?_
    refine k_pick 17 (heldE HM) ?_
    refine k_mv 18 (heldE HM) ?_
    refine wpAnyL_done (by kernel_rfl) ?_ _
    go_wp2_with fail
    go_ret
    exact ⟨rfl, HM.low⟩
  | some x =>
    obtain ⟨hx, rfl⟩ := hv
    have O := fun w => of_ex x w
    obtain ⟨a, ha⟩ : ∃ a : Rat, Hid (a = (lo : Rat)) := ⟨_, Lib.hid rfl⟩
    obtain ⟨b, hb⟩ : ∃ a : Rat, Hid (a = (hi : Rat)) := ⟨_, Lib.hid rfl⟩
    have fa : Rt.Fit a := by rw [ha.out]; exact Ex.int_fit h1 h2
    have fb : Rt.Fit b := by rw [hb.out]; exact Ex.int_fit h3 h4
    have I1 := fun w => int_ex lo a h1 h2 ha w
    have I2 := fun w => int_ex hi b h3 h4 hb w
    unfold Ex.vld at hf2
    rw [← ha.out, ← hb.out] at hf2
    clear hf
    by_cases c1 : x < a
    · obtain rfl : f = false := by rw [hf2]; exact decide_eq_false (fun h => Rat.not_lt.2 h.1 c1)
      have L1 := fun w => less_ex x a true hx fa (Lib.hid (decide_eq_true c1).symm) w
      clear hf2
      go_enter Tryz.func30, Tryz.ntmps30
      go_upto_region 1 with (first | fail | (first | ((with_reducible refine g_ld ?_); refine a_ld HM ?_) | ((with_reducible refine g_st ?_); refine a_st HM ?_; clear HM; intro w1 HM) | ((with_reducible refine g_al ?_); refine a_al HM ?_; clear HM; intro bk w1 HM) | ((with_reducible refine g_bx ?_); refine a_bx HM ?_; clear HM; intro bk w1 HM) | ((with_reducible refine g_bld ?_); refine a_bld ?_)))
      refine start_M [] HM (by kernel_rfl) (fun w0x H9 => ?_)
      replace HM := H9; clear H9
      refine k_ld 0 [] (heldE HM) ?_
      refine j_one 1 fun K9 hK9 => ?_
      refine j_call1 (v := ?_) HM ?_ ?_; rotate_left 1; (focus (with_reducible (first | exact V _ | exact O _ | exact I1 _ | exact L1 _))); clear HM; intro w1 HM
      refine hK9 _ _ (heldE HM) ?_; clear hK9 K9
      refine k_mv 2 (heldE HM) ?_
      refine k_ld 3 [] (heldE HM) ?_
      refine k_mv 5 (heldE HM) ?_
      refine j_one 4 fun K9 hK9 => ?_
      refine j_call1 (v := ?_) HM ?_ ?_; rotate_left 1; (focus (with_reducible (first | exact V _ | exact O _ | exact I1 _ | exact L1 _))); clear HM; intro w1 HM
      refine hK9 _ _ (heldE HM) ?_; clear hK9 K9
      refine j_one 6 fun K9 hK9 => ?_
      refine j_call1 (v := ?_) HM ?_ ?_; rotate_left 1; (focus (with_reducible (first | exact V _ | exact O _ | exact I1 _ | exact L1 _))); clear HM; intro w1 HM
      refine hK9 _ _ (heldE HM) ?_; clear hK9 K9
      refine j_one 7 fun K9 hK9 => ?_
      refine j_call2 (v := ?_) HM ?_ ?_; rotate_left 1; (focus (with_reducible (first | exact V _ | exact O _ | exact I1 _ | exact L1 _))); clear HM; intro w1 HM
      refine hK9 _ _ (heldE HM) ?_; clear hK9 K9
      refine k_not 8 (heldE HM) ?_
      refine k_pick 9 (heldE HM) ?_
      refine k_mv 10 (heldE HM) ?_
      refine k_off 11 (heldE HM) ?_
      refine k_off 12 (heldE HM) ?_
      refine k_off 13 (heldE HM) ?_
      refine k_off 14 (heldE HM) ?_
      refine k_off 15 (heldE HM) ?_
      refine k_off 16 (heldE HM) ?_
      refine k_pick 17 (heldE HM) ?_
      refine k_mv 18 (heldE HM) ?_
      refine wpAnyL_done (by kernel_rfl) ?_ _
      go_wp2_with fail
      go_ret
      exact ⟨rfl, HM.low⟩
    · have L1 := fun w => less_ex x a false hx fa (Lib.hid (decide_eq_false c1).symm) w
      by_cases c2 : b < x
      · obtain rfl : f = false := by rw [hf2]; exact decide_eq_false (fun h => Rat.not_lt.2 h.2 c2)
        have L2 := fun w => less_ex b x true fb hx (Lib.hid (decide_eq_true c2).symm) w
        clear hf2
        go_enter Tryz.func30, Tryz.ntmps30
        go_upto_region 1 with (first | fail | (first | ((with_reducible refine g_ld ?_); refine a_ld HM ?_) | ((with_reducible refine g_st ?_); refine a_st HM ?_; clear HM; intro w1 HM) | ((with_reducible refine g_al ?_); refine a_al HM ?_; clear HM; intro bk w1 HM) | ((with_reducible refine g_bx ?_); refine a_bx HM ?_; clear HM; intro bk w1 HM) | ((with_reducible refine g_bld ?_); refine a_bld ?_)))
        refine start_M [] HM (by kernel_rfl) (fun w0x H9 => ?_)
        replace HM := H9; clear H9
        refine k_ld 0 [] (heldE HM) ?_
        refine j_one 1 fun K9 hK9 => ?_
        refine j_call1 (v := ?_) HM ?_ ?_; rotate_left 1; (focus (with_reducible (first | exact V _ | exact O _ | exact I1 _ | exact I2 _ | exact L1 _ | exact L2 _))); clear HM; intro w1 HM
        refine hK9 _ _ (heldE HM) ?_; clear hK9 K9
        refine k_mv 2 (heldE HM) ?_
        refine k_ld 3 [] (heldE HM) ?_
        refine k_mv 5 (heldE HM) ?_
        refine j_one 4 fun K9 hK9 => ?_
        refine j_call1 (v := ?_) HM ?_ ?_; rotate_left 1; (focus (with_reducible (first | exact V _ | exact O _ | exact I1 _ | exact I2 _ | exact L1 _ | exact L2 _))); clear HM; intro w1 HM
        refine hK9 _ _ (heldE HM) ?_; clear hK9 K9
        refine j_one 6 fun K9 hK9 => ?_
        refine j_call1 (v := ?_) HM ?_ ?_; rotate_left 1; (focus (with_reducible (first | exact V _ | exact O _ | exact I1 _ | exact I2 _ | exact L1 _ | exact L2 _))); clear HM; intro w1 HM
        refine hK9 _ _ (heldE HM) ?_; clear hK9 K9
        refine j_one 7 fun K9 hK9 => ?_
        refine j_call2 (v := ?_) HM ?_ ?_; rotate_left 1; (focus (with_reducible (first | exact V _ | exact O _ | exact I1 _ | exact I2 _ | exact L1 _ | exact L2 _))); clear HM; intro w1 HM
        refine hK9 _ _ (heldE HM) ?_; clear hK9 K9
        refine k_not 8 (heldE HM) ?_
        refine k_pick 9 (heldE HM) ?_
        refine k_mv 10 (heldE HM) ?_
        refine k_mv 11 (heldE HM) ?_
        refine k_ld 13 [] (heldE HM) ?_
        refine j_one 12 fun K9 hK9 => ?_
        refine j_call1 (v := ?_) HM ?_ ?_; rotate_left 1; (focus (with_reducible (first | exact V _ | exact O _ | exact I1 _ | exact I2 _ | exact L1 _ | exact L2 _))); clear HM; intro w1 HM
        refine hK9 _ _ (heldE HM) ?_; clear hK9 K9
        refine j_one 14 fun K9 hK9 => ?_
        refine j_call1 (v := ?_) HM ?_ ?_; rotate_left 1; (focus (with_reducible (first | exact V _ | exact O _ | exact I1 _ | exact I2 _ | exact L1 _ | exact L2 _))); clear HM; intro w1 HM
        refine hK9 _ _ (heldE HM) ?_; clear hK9 K9
        refine j_one 15 fun K9 hK9 => ?_
        refine j_call2 (v := ?_) HM ?_ ?_; rotate_left 1; (focus (with_reducible (first | exact V _ | exact O _ | exact I1 _ | exact I2 _ | exact L1 _ | exact L2 _))); clear HM; intro w1 HM
        refine hK9 _ _ (heldE HM) ?_; clear hK9 K9
        refine k_not 16 (heldE HM) ?_
        refine k_pick 17 (heldE HM) ?_
        refine k_mv 18 (heldE HM) ?_
        refine wpAnyL_done (by kernel_rfl) ?_ _
        go_wp2_with fail
        go_ret
        exact ⟨rfl, HM.low⟩
      · obtain rfl : f = true := by rw [hf2]; exact decide_eq_true ⟨Rat.not_lt.1 c1, Rat.not_lt.1 c2⟩
        have L2 := fun w => less_ex b x false fb hx (Lib.hid (decide_eq_false c2).symm) w
        clear hf2
        go_enter Tryz.func30, Tryz.ntmps30
        go_upto_region 1 with (first | fail | (first | ((with_reducible refine g_ld ?_); refine a_ld HM ?_) | ((with_reducible refine g_st ?_); refine a_st HM ?_; clear HM; intro w1 HM) | ((with_reducible refine g_al ?_); refine a_al HM ?_; clear HM; intro bk w1 HM) | ((with_reducible refine g_bx ?_); refine a_bx HM ?_; clear HM; intro bk w1 HM) | ((with_reducible refine g_bld ?_); refine a_bld ?_)))
        refine start_M [] HM (by kernel_rfl) (fun w0x H9 => ?_)
        replace HM := H9; clear H9
        refine k_ld 0 [] (heldE HM) ?_
        refine j_one 1 fun K9 hK9 => ?_
        refine j_call1 (v := ?_) HM ?_ ?_; rotate_left 1; (focus (with_reducible (first | exact V _ | exact O _ | exact I1 _ | exact I2 _ | exact L1 _ | exact L2 _))); clear HM; intro w1 HM
        refine hK9 _ _ (heldE HM) ?_; clear hK9 K9
        refine k_mv 2 (heldE HM) ?_
        refine k_ld 3 [] (heldE HM) ?_
        refine k_mv 5 (heldE HM) ?_
        refine j_one 4 fun K9 hK9 => ?_
        refine j_call1 (v := ?_) HM ?_ ?_; rotate_left 1; (focus (with_reducible (first | exact V _ | exact O _ | exact I1 _ | exact I2 _ | exact L1 _ | exact L2 _))); clear HM; intro w1 HM
        refine hK9 _ _ (heldE HM) ?_; clear hK9 K9
        refine j_one 6 fun K9 hK9 => ?_
        refine j_call1 (v := ?_) HM ?_ ?_; rotate_left 1; (focus (with_reducible (first | exact V _ | exact O _ | exact I1 _ | exact I2 _ | exact L1 _ | exact L2 _))); clear HM; intro w1 HM
        refine hK9 _ _ (heldE HM) ?_; clear hK9 K9
        refine j_one 7 fun K9 hK9 => ?_
        refine j_call2 (v := ?_) HM ?_ ?_; rotate_left 1; (focus (with_reducible (first | exact V _ | exact O _ | exact I1 _ | exact I2 _ | exact L1 _ | exact L2 _))); clear HM; intro w1 HM
        refine hK9 _ _ (heldE HM) ?_; clear hK9 K9
        refine k_not 8 (heldE HM) ?_
        refine k_pick 9 (heldE HM) ?_
        refine k_mv 10 (heldE HM) ?_
        refine k_mv 11 (heldE HM) ?_
        refine k_ld 13 [] (heldE HM) ?_
        refine j_one 12 fun K9 hK9 => ?_
        refine j_call1 (v := ?_) HM ?_ ?_; rotate_left 1; (focus (with_reducible (first | exact V _ | exact O _ | exact I1 _ | exact I2 _ | exact L1 _ | exact L2 _))); clear HM; intro w1 HM
        refine hK9 _ _ (heldE HM) ?_; clear hK9 K9
        refine j_one 14 fun K9 hK9 => ?_
        refine j_call1 (v := ?_) HM ?_ ?_; rotate_left 1; (focus (with_reducible (first | exact V _ | exact O _ | exact I1 _ | exact I2 _ | exact L1 _ | exact L2 _))); clear HM; intro w1 HM
        refine hK9 _ _ (heldE HM) ?_; clear hK9 K9
        refine j_one 15 fun K9 hK9 => ?_
        refine j_call2 (v := ?_) HM ?_ ?_; rotate_left 1; (focus (with_reducible (first | exact V _ | exact O _ | exact I1 _ | exact I2 _ | exact L1 _ | exact L2 _))); clear HM; intro w1 HM
        refine hK9 _ _ (heldE HM) ?_; clear hK9 K9
        refine k_not 16 (heldE HM) ?_
        refine k_pick 17 (heldE HM) ?_
        refine k_mv 18 (heldE HM) ?_
        refine wpAnyL_done (by kernel_rfl) ?_ _
        go_wp2_with fail
        go_ret
        exact ⟨rfl, HM.low⟩
noncomputable def Mt.keepO (x : Rat) : Option Rat → Bool
  | some s => decide (x < s)
  | none => true
theorem Mt.keep_eq (x : Rat) (d : Mt.D) : Mt.keep x d = Mt.keepO x (Mt.size d.ow d.oi).1 := by
  unfold Mt.keep Mt.keepO
  cases (Mt.size d.ow d.oi).1 <;> rfl
set_option maxHeartbeats 8000000 in
theorem rmaterial_any (sv : Value) (L : List Mt.D) (l : Option Rat) (cl : Array Value) (w : World) (hv : Rt.Vc l cl) (hR : RdS 135 w sv (L.map Mt.c)) (hl : L.length ≤ 12) (K : List Mt.D) (e : Int) (hr : Hid ((K, e) = Mt.mat l L)) :
    Calls Tryz.prog 14 #[sv, .agg cl] w fun r w' => ∃ s' B, r = .returned (.tuple #[s', .int .i64 e]) ∧ Hid (SlAt 135 s' (K.map Mt.c) B) ∧ Mem w [] B w' := by
  have HM := Mem.start w
  obtain ⟨A, cap, rfl⟩ := hR.form1
  have HR := Lib.hid hR
  rw [List.length_map] at HR ⊢
  have kl := la_r66 hv.size
  have h := hr.out
  have hel := Mt.el
  obtain ⟨f, hf⟩ : ∃ f, Hid (f = Ex.vld 0 1 l) := ⟨_, Lib.hid rfl⟩
  have V := fun w => evalid_any l cl 0 1 f hv (by decide) (by decide) (by decide) (by decide) hf w
  have hf2 := hf.out
  clear hR hf
  cases f with
  | false =>
    obtain ⟨rfl, rfl⟩ : K = [] ∧ e = 390 := by
      unfold Mt.mat at h
      cases l with
      | none => exact Prod.mk.inj h
      | some x =>
        simp only [] at h
        unfold Ex.vld at hf2
        rw [if_neg (show ¬ (0 ≤ x ∧ x ≤ 1) from of_decide_eq_false hf2.symm)] at h
        exact Prod.mk.inj h
    clear h hr hf2
    go_enter Tryz.func14, Tryz.ntmps14
    go_wp2_with (first | (go_at_call 30; ((with_reducible refine (V _).mono ?_); rintro e9 w2 ⟨rfl, hL⟩; replace HM := HM.call hL; clear hL)) | (first | ((with_reducible refine g_ld ?_); refine a_ld HM ?_) | ((with_reducible refine g_st ?_); refine a_st HM ?_; clear HM; intro w1 HM) | ((with_reducible refine g_al ?_); refine a_al HM ?_; clear HM; intro bk w1 HM) | ((with_reducible refine g_bx ?_); refine a_bx HM ?_; clear HM; intro bk w1 HM) | ((with_reducible refine g_bld ?_); refine a_bld ?_)))
    go_ret2
    exact ⟨_, [], rfl, Lib.hid .nil, HM.pick⟩
  | true =>
    cases l with
    | none => cases hf2
    | some x =>
      obtain ⟨hx, rfl⟩ := hv
      have HK : Hid ((K, e) = match L.find? Mt.bad with | some d => ([], (Mt.size d.ow d.oi).2) | none => (Mt.kept x L, 0)) := Lib.hid (by
        unfold Mt.mat at h
        simp only [] at h
        unfold Ex.vld at hf2
        rw [if_pos (show 0 ≤ x ∧ x ≤ 1 from of_decide_eq_true hf2.symm)] at h
        exact h)
      have zr := za_rat
      have O := fun w => of_ex x w
      clear h hr hf2
      go_enter Tryz.func14, Tryz.ntmps14
      go_wp2_with (first | (go_at_call 30; ((with_reducible refine (V _).mono ?_); rintro e9 w2 ⟨rfl, hL⟩; replace HM := HM.call hL; clear hL)) | (first | ((with_reducible refine g_ld ?_); refine a_ld HM ?_) | ((with_reducible refine g_st ?_); refine a_st HM ?_; clear HM; intro w1 HM) | ((with_reducible refine g_al ?_); refine a_al HM ?_; clear HM; intro bk w1 HM) | ((with_reducible refine g_bx ?_); refine a_bx HM ?_; clear HM; intro bk w1 HM) | ((with_reducible refine g_bld ?_); refine a_bld ?_)))
      obtain ⟨bq, rfl⟩ := HM.nm0
      go_loopw [6, 7] (fun ov iv wr => ∃ (i : Nat) (B : List (Nat × Array Value)), iv = .int .i64 (i : Nat) ∧ i ≤ L.length ∧ Hid (∀ d ∈ L.take i, Mt.bad d = false) ∧ Hid (SlAt 135 ov ((Mt.kept x (L.take i)).map Mt.c) B) ∧ Mem w [] ((bq, Rt.qA x) :: B) wr) (fun _ iv _ => L.length - (intOf iv).toNat)
      case atStart => exact ⟨0, [], rfl, by omega, Lib.hid (by simp), Lib.hid .nil, HM⟩
      case round =>
        clear HM
        obtain ⟨i, B, rfl, hi, HT, HS, HM⟩ := hrel
        by_cases hlt : i < L.length
        · obtain ⟨d, hd⟩ : ∃ d, L[i]? = some d := ⟨_, List.getElem?_eq_getElem hlt⟩
          obtain ⟨b, off, cs, rfl, HC, l0, -⟩ := HR.out.at135 hd
          have hlt1 : (i : Int) < L.length := by omega
          obtain ⟨o, e1, hs⟩ : ∃ o e, Hid ((o, e) = Mt.size d.ow d.oi) := ⟨_, _, Lib.hid rfl⟩
          have S := fun w => rsize_any d o e1 hs w
          have ld := Mt.la d
          have hcs9 := Mt.c_size d
          have so : SA 32 (Bg.rZ 0 0) 0 (.agg (Rt.outV o)) (Rt.outV o) := sa_r66 (Rt.outV_size o) (Rt.outV_one o) (rZ_size 0 0)
          have lo := la_r66 (Rt.outV_size o)
          have HBB : Mt.bad d = (decide (e1 ≠ 0) && decide (e1 ≠ 11)) := by unfold Mt.bad; rw [← hs.out]
          by_cases hb : e1 ≠ 0 ∧ e1 ≠ 11
          · obtain ⟨rfl, rfl⟩ : K = [] ∧ e = e1 := by
              have h := HK.out
              rw [Mt.find_bad HT.out hd (by rw [HBB, decide_eq_true hb.1, decide_eq_true hb.2]; rfl)] at h
              have h2 : (K, e) = ([], (Mt.size d.ow d.oi).2) := h
              rw [← hs.out] at h2
              exact Prod.mk.inj h2
            have g1 : (e == 0) = false := by simpa using hb.1
            have g2 : (e == 11) = false := by simpa using hb.2
            have g3 : (e != 0) = true := by simpa using hb.1
            have g4 : (e != 11) = true := by simpa using hb.2
            clear hd hb HBB hs
            go_wp2_with (first | (go_at_call 31; ((with_reducible refine (S _).mono ?_); rintro e9 w2 ⟨rfl, hL⟩; replace HM := HM.call hL; clear hL)) | (first | ((with_reducible refine g_ld ?_); refine a_ld HM ?_) | ((with_reducible refine g_st ?_); refine a_st HM ?_; clear HM; intro w1 HM) | ((with_reducible refine g_al ?_); refine a_al HM ?_; clear HM; intro bk w1 HM) | ((with_reducible refine g_bx ?_); refine a_bx HM ?_; clear HM; intro bk w1 HM) | ((with_reducible refine g_bld ?_); refine a_bld ?_)))
            go_ret2
            exact ⟨_, [], rfl, Lib.hid .nil, HM.pick⟩
          · have HT2 : Hid (∀ d ∈ L.take (i + 1), Mt.bad d = false) := Lib.hid (by
              intro y hy
              rw [List.take_add_one, hd] at hy
              rcases List.mem_append.1 hy with h | h
              · exact HT.out y h
              · simp at h
                rw [h, HBB]
                by_cases h5 : e1 = 0
                · simp [h5]
                · have h6 : e1 = 11 := Decidable.not_not.1 (fun h6 => hb ⟨h5, h6⟩)
                  simp [h6])
            have HKT := Lib.hid (Mt.kept_take (x := x) hd)
            have hkl := Mt.kept_len x L i
            have hcap : (((Mt.kept x (L.take i)).map Mt.c).length + [Mt.c d].length) * (568 + 1) ≤ 140737488355328 := by simp; omega
            have HKP : Hid (Mt.keep x d = Mt.keepO x o) := Lib.hid (by rw [Mt.keep_eq, ← hs.out])
            have hb2 : e1 = 0 ∨ e1 = 11 := by omega
            have hcs := Mt.size_cases hs.out
            clear hd hb HBB hs hkl
            rcases hcs with ⟨s, rfl, rfl, hfs⟩ | ⟨rfl, h0⟩
            · have O2 := fun w => of_ex s w
              replace so : SA 32 (Bg.rZ 0 0) 0 (.agg (Rt.qA s)) (Rt.qA s) := so
              replace lo : LA 32 (Rt.qA s) 0 (.agg (Rt.qA s)) := lo
              replace S : ∀ w, Calls Tryz.prog 31 #[.agg (Mt.c d)] w fun r w' => r = .returned (.tuple #[.agg (Rt.qA s), .int .i64 0]) ∧ Below w.heap.size w w' := S
              by_cases hk : x < s
              · have Ls := fun w => less_ex x s true hx hfs (Lib.hid (decide_eq_true hk).symm) w
                have HKT2 : Hid (Mt.kept x (L.take (i + 1)) = Mt.kept x (L.take i) ++ [d]) := Lib.hid (by rw [HKT.out, HKP.out, show Mt.keepO x (some s) = true from decide_eq_true hk]; rfl)
                clear HKT HKP hb2 hk
                go_upto_region 10 with (first | (go_at_call 31; ((with_reducible refine (S _).mono ?_); rintro e9 w2 ⟨rfl, hL⟩; replace HM := HM.call hL; clear hL)) | (first | ((with_reducible refine g_ld ?_); refine a_ld HM ?_) | ((with_reducible refine g_st ?_); refine a_st HM ?_; clear HM; intro w1 HM) | ((with_reducible refine g_al ?_); refine a_al HM ?_; clear HM; intro bk w1 HM) | ((with_reducible refine g_bx ?_); refine a_bx HM ?_; clear HM; intro bk w1 HM) | ((with_reducible refine g_bld ?_); refine a_bld ?_)))
                refine start_M [] HM (by kernel_rfl) (fun w0x H9 => ?_)
                replace HM := H9; clear H9
                refine k_mv 0 (heldE HM) ?_
                refine k_bin 1 (heldE HM) ?_
                refine k_mv 2 (heldE HM) ?_
                refine k_ld 3 [] (heldE HM) ?_
                refine k_ld 5 [] (heldE HM) ?_
                refine j_one 4 fun K9 hK9 => ?_
                refine j_call1 (v := ?_) HM ?_ ?_; rotate_left 1; (focus (with_reducible (first | exact O _ | exact O2 _ | exact Ls _))); clear HM; intro w1 HM
                refine hK9 _ _ (heldE HM) ?_; clear hK9 K9
                refine j_one 6 fun K9 hK9 => ?_
                refine j_call1 (v := ?_) HM ?_ ?_; rotate_left 1; (focus (with_reducible (first | exact O _ | exact O2 _ | exact Ls _))); clear HM; intro w1 HM
                refine hK9 _ _ (heldE HM) ?_; clear hK9 K9
                refine j_one 7 fun K9 hK9 => ?_
                refine j_call2 (v := ?_) HM ?_ ?_; rotate_left 1; (focus (with_reducible (first | exact O _ | exact O2 _ | exact Ls _))); clear HM; intro w1 HM
                refine hK9 _ _ (heldE HM) ?_; clear hK9 K9
                refine k_pick 8 (heldE HM) ?_
                refine wpAnyL_done (by kernel_rfl) ?_ _
                replace HM := HM.pick (K := (bq, Rt.qA x) :: B)
                go_wp2_with (first | first
                  | ((with_reducible refine g_bs1 ?_); refine a_bs1 (c0 := Mt.c d) HM ?_; clear HM; intro bx w1 HM)
                  | ((with_reducible refine g_app ?_); refine a_app (m := [Mt.c d]) (F := fun B => (bq, Rt.qA x) :: B) HM HS.out ((SlAt.made1 bx (Mt.c_size d)).rd HM (by simp)) ?_ (Mt.c_ones [d]) (hlen := hcap); clear HM; intro s2 B2 w1 HS2 HM) | (first | ((with_reducible refine g_ld ?_); refine a_ld HM ?_) | ((with_reducible refine g_st ?_); refine a_st HM ?_; clear HM; intro w1 HM) | ((with_reducible refine g_al ?_); refine a_al HM ?_; clear HM; intro bk w1 HM) | ((with_reducible refine g_bx ?_); refine a_bx HM ?_; clear HM; intro bk w1 HM) | ((with_reducible refine g_bld ?_); refine a_bld ?_)))
                go_roundw
                case rel => exact ⟨i + 1, B2, by go_num, by omega, HT2, Lib.hid (by rw [HKT2.out, List.map_append]; exact HS2), HM.pick⟩
                case measure => simp [intOf]; omega
              · have Ls := fun w => less_ex x s false hx hfs (Lib.hid (decide_eq_false hk).symm) w
                have HKT2 : Hid (Mt.kept x (L.take (i + 1)) = Mt.kept x (L.take i)) := Lib.hid (by rw [HKT.out, HKP.out, show Mt.keepO x (some s) = false from decide_eq_false hk]; exact List.append_nil _)
                clear HKT HKP hb2 hk
                go_upto_region 10 with (first | (go_at_call 31; ((with_reducible refine (S _).mono ?_); rintro e9 w2 ⟨rfl, hL⟩; replace HM := HM.call hL; clear hL)) | (first | ((with_reducible refine g_ld ?_); refine a_ld HM ?_) | ((with_reducible refine g_st ?_); refine a_st HM ?_; clear HM; intro w1 HM) | ((with_reducible refine g_al ?_); refine a_al HM ?_; clear HM; intro bk w1 HM) | ((with_reducible refine g_bx ?_); refine a_bx HM ?_; clear HM; intro bk w1 HM) | ((with_reducible refine g_bld ?_); refine a_bld ?_)))
                refine start_M [] HM (by kernel_rfl) (fun w0x H9 => ?_)
                replace HM := H9; clear H9
                refine k_mv 0 (heldE HM) ?_
                refine k_bin 1 (heldE HM) ?_
                refine k_mv 2 (heldE HM) ?_
                refine k_ld 3 [] (heldE HM) ?_
                refine k_ld 5 [] (heldE HM) ?_
                refine j_one 4 fun K9 hK9 => ?_
                refine j_call1 (v := ?_) HM ?_ ?_; rotate_left 1; (focus (with_reducible (first | exact O _ | exact O2 _ | exact Ls _))); clear HM; intro w1 HM
                refine hK9 _ _ (heldE HM) ?_; clear hK9 K9
                refine j_one 6 fun K9 hK9 => ?_
                refine j_call1 (v := ?_) HM ?_ ?_; rotate_left 1; (focus (with_reducible (first | exact O _ | exact O2 _ | exact Ls _))); clear HM; intro w1 HM
                refine hK9 _ _ (heldE HM) ?_; clear hK9 K9
                refine j_one 7 fun K9 hK9 => ?_
                refine j_call2 (v := ?_) HM ?_ ?_; rotate_left 1; (focus (with_reducible (first | exact O _ | exact O2 _ | exact Ls _))); clear HM; intro w1 HM
                refine hK9 _ _ (heldE HM) ?_; clear hK9 K9
                refine k_pick 8 (heldE HM) ?_
                refine wpAnyL_done (by kernel_rfl) ?_ _
                go_wp2_with fail
                go_roundw
                case rel => exact ⟨i + 1, B, by go_num, by omega, HT2, Lib.hid (by rw [HKT2.out]; exact HS.out), HM.pick⟩
                case measure => simp [intOf]; omega
            · obtain rfl : e1 = 11 := hb2.resolve_left h0
              have HKT2 : Hid (Mt.kept x (L.take (i + 1)) = Mt.kept x (L.take i) ++ [d]) := Lib.hid (by rw [HKT.out, HKP.out, show Mt.keepO x none = true from rfl]; rfl)
              replace so : SA 32 (Bg.rZ 0 0) 0 (.agg (Bg.rZ 0 0)) (Bg.rZ 0 0) := so
              replace S : ∀ w, Calls Tryz.prog 31 #[.agg (Mt.c d)] w fun r w' => r = .returned (.tuple #[.agg (Bg.rZ 0 0), .int .i64 11]) ∧ Below w.heap.size w w' := S
              clear HKT HKP hb2 h0
              go_upto_region 10 with (first | (go_at_call 31; ((with_reducible refine (S _).mono ?_); rintro e9 w2 ⟨rfl, hL⟩; replace HM := HM.call hL; clear hL)) | (first | ((with_reducible refine g_ld ?_); refine a_ld HM ?_) | ((with_reducible refine g_st ?_); refine a_st HM ?_; clear HM; intro w1 HM) | ((with_reducible refine g_al ?_); refine a_al HM ?_; clear HM; intro bk w1 HM) | ((with_reducible refine g_bx ?_); refine a_bx HM ?_; clear HM; intro bk w1 HM) | ((with_reducible refine g_bld ?_); refine a_bld ?_)))
              refine start_M [] HM (by kernel_rfl) (fun w0x H9 => ?_)
              replace HM := H9; clear H9
              refine k_mv 0 (heldE HM) ?_
              refine k_bin 1 (heldE HM) ?_
              refine k_mv 2 (heldE HM) ?_
              refine k_off 3 (heldE HM) ?_
              refine k_off 4 (heldE HM) ?_
              refine k_off 5 (heldE HM) ?_
              refine k_off 6 (heldE HM) ?_
              refine k_off 7 (heldE HM) ?_
              refine k_pick 8 (heldE HM) ?_
              refine wpAnyL_done (by kernel_rfl) ?_ _
              replace HM := HM.pick (K := (bq, Rt.qA x) :: B)
              go_wp2_with (first | first
                | ((with_reducible refine g_bs1 ?_); refine a_bs1 (c0 := Mt.c d) HM ?_; clear HM; intro bx w1 HM)
                | ((with_reducible refine g_app ?_); refine a_app (m := [Mt.c d]) (F := fun B => (bq, Rt.qA x) :: B) HM HS.out ((SlAt.made1 bx (Mt.c_size d)).rd HM (by simp)) ?_ (Mt.c_ones [d]) (hlen := hcap); clear HM; intro s2 B2 w1 HS2 HM) | (first | ((with_reducible refine g_ld ?_); refine a_ld HM ?_) | ((with_reducible refine g_st ?_); refine a_st HM ?_; clear HM; intro w1 HM) | ((with_reducible refine g_al ?_); refine a_al HM ?_; clear HM; intro bk w1 HM) | ((with_reducible refine g_bx ?_); refine a_bx HM ?_; clear HM; intro bk w1 HM) | ((with_reducible refine g_bld ?_); refine a_bld ?_)))
              go_roundw
              case rel => exact ⟨i + 1, B2, by go_num, by omega, HT2, Lib.hid (by rw [HKT2.out, List.map_append]; exact HS2), HM.pick⟩
              case measure => simp [intOf]; omega
        · obtain rfl : i = L.length := by omega
          have hT := HT.out
          rw [List.take_length] at hT HS
          obtain ⟨rfl, rfl⟩ : K = Mt.kept x L ∧ e = 0 := by
            have h := HK.out
            rw [Mt.find_no hT] at h
            exact Prod.mk.inj h
          clear hT HT HK
          go_wp2_with fail
          go_ret2
          exact ⟨_, B, rfl, HS, HM.tail⟩
end Go.Proofs.YteamjgifohamgaaGreat
