/- The law RatioField, walked: small ratios form a field. -/
import Derived.Test.YtekfabhmopkapaaRatB
import Derived.Test.YtekfabhmopkapaaCells
namespace Go.Proofs.Ytekfabhmopkapaa
set_option maxRecDepth 8000
open Go.RowKit
theorem qA_one (x : Rat) : (Rt.qA x).all (·.oneCell') = true := by rw [qA_rZ, rZ_ratA]; exact ratA_one _ _ _ _
/-- The first of the three ratios are drawn. -/
def FieldC (j : Nat) (cs : Array Value) : Prop := ∃ l : List Rat, l.length = j ∧ (∀ x ∈ l, Rt.Bd x 30 20) ∧ cs = rowsOf (l.map Rt.qA ++ List.replicate (3 - j) (Bg.rZ 0 0))
theorem FieldC.rows {l : List Rat} {m : Nat} : ∀ c ∈ l.map Rt.qA ++ List.replicate m (Bg.rZ 0 0), c.size = 66 := by
  intro c hc
  rcases List.mem_append.1 hc with h | h
  · obtain ⟨x, _, rfl⟩ := List.mem_map.1 h; exact qA_size x
  · rw [List.eq_of_mem_replicate h]; exact rZ_size 0 0
theorem FieldC.put {j : Nat} {cs : Array Value} (h : FieldC j cs) (hj : j < 3) {x : Rat} (hx : Rt.Bd x 30 20) : ∃ cs', FieldC (j + 1) cs' ∧ SA 27 cs (j * 66) (.agg (Rt.qA x)) cs' := by
  obtain ⟨l, hl, hb, rfl⟩ := h
  have hr : 3 - j = (3 - (j + 1)) + 1 := by omega
  refine ⟨_, ⟨l ++ [x], by simp [hl], ?_, rfl⟩, ?_⟩
  · intro y hy
    rcases List.mem_append.1 hy with h | h
    · exact hb y h
    · rw [List.mem_singleton.1 h]; exact hx
  · have hk : (l.map Rt.qA ++ List.replicate (3 - j) (Bg.rZ 0 0))[j]? = some (Bg.rZ 0 0) := by
      rw [List.getElem?_append_right (by simp [hl]), hr]; simp [hl]
    have hs := sa_row sT_rat FieldC.rows hk (qA_size x) (qA_one x)
    have e : (l.map Rt.qA ++ List.replicate (3 - j) (Bg.rZ 0 0)).set j (Rt.qA x) = (l ++ [x]).map Rt.qA ++ List.replicate (3 - (j + 1)) (Bg.rZ 0 0) := by
      rw [List.set_append_right _ _ (by simp [hl]), hr]
      simp [hl, List.replicate_succ]
    rwa [e] at hs
theorem FieldC.zero : FieldC 0 (rowsOf [Bg.rZ 0 0, Bg.rZ 0 0, Bg.rZ 0 0]) := ⟨[], rfl, by simp, rfl⟩
theorem FieldC.get {cs : Array Value} (h : FieldC 3 cs) : ∃ a b c : Rat, Rt.Bd a 30 20 ∧ Rt.Bd b 30 20 ∧ Rt.Bd c 30 20 ∧ LA 27 cs 0 (.agg (Rt.qA a)) ∧ LA 27 cs 66 (.agg (Rt.qA b)) ∧ LA 27 cs 132 (.agg (Rt.qA c)) := by
  obtain ⟨l, hl, hb, rfl⟩ := h
  match l, hl with
  | [a, b, c], _ =>
    refine ⟨a, b, c, hb a (by simp), hb b (by simp), hb c (by simp), ?_, ?_, ?_⟩
    · exact la_row (k := 0) (by kernel_rfl) sT_rat FieldC.rows rfl
    · exact la_row (k := 1) (by kernel_rfl) sT_rat FieldC.rows rfl
    · exact la_row (k := 2) (by kernel_rfl) sT_rat FieldC.rows rfl
theorem za_tri : ZA 40 (rowsOf [Bg.rZ 0 0, Bg.rZ 0 0, Bg.rZ 0 0]) := ⟨.agg (rowsOf [Bg.rZ 0 0, Bg.rZ 0 0, Bg.rZ 0 0]), rfl, fun w => by rw [← rZ_zero]; unfold Bg.ratA; rw [← Bg.zeroInt]; kernel_rfl⟩
theorem run_build_tri (w : World) : (Instr.build 40 #[]).run Try.prog w = .ok (.agg (rowsOf [Bg.rZ 0 0, Bg.rZ 0 0, Bg.rZ 0 0])) w := by
  rw [← rZ_zero]; unfold Bg.ratA; rw [← Bg.zeroInt]; kernel_rfl
theorem rows_one {l : List (Array Value)} (h : ∀ c ∈ l, c.all (·.oneCell') = true) : (rowsOf l).all (·.oneCell') = true := by
  induction l with
  | nil => simp [rowsOf]
  | cons c l ih => rw [rowsOf, Array.all_append, h c List.mem_cons_self, ih (fun d hd => h d (List.mem_cons_of_mem _ hd))]; rfl
theorem rZ_one (n d : Int) : (Bg.rZ n d).all (·.oneCell') = true := by rw [rZ_ratA]; exact ratA_one _ _ _ _
theorem tri_size : (rowsOf [Bg.rZ 0 0, Bg.rZ 0 0, Bg.rZ 0 0]).size = 198 := rows_size (n := 66) (by simp [rZ_size])
theorem sa_tri : SA 40 (rowsOf [Bg.rZ 0 0, Bg.rZ 0 0, Bg.rZ 0 0]) 0 (.agg (rowsOf [Bg.rZ 0 0, Bg.rZ 0 0, Bg.rZ 0 0])) (rowsOf [Bg.rZ 0 0, Bg.rZ 0 0, Bg.rZ 0 0]) :=
  SA.whole (by rw [tri_size]; kernel_rfl) (rows_one (by intro c hc; simp only [List.mem_cons, List.not_mem_nil, or_false, or_self] at hc; rw [hc]; exact rZ_one 0 0)) rfl
theorem h_btri {o : Oper} {a : Act} (ho : o.op = .build 40 #[]) : ∀ w, (execOp a.eval o).run Try.prog w = .ok (.value (.agg (rowsOf [Bg.rZ 0 0, Bg.rZ 0 0, Bg.rZ 0 0]))) w := fun w => by
  unfold execOp
  simp only [ho, Sem.run_bind, List.map_toArray, List.map_nil, run_build_tri, Result.andThen_ok, Sem.run_pure]
theorem rzero_q (w : World) : Calls Try.prog 26 #[] w fun r w' => r = .returned (.agg (Rt.qA 0)) ∧ Below w.heap.size w w' := by
  have HM := Mem.start w
  have hz0 := za_rat
  have hs := sa_q 0 (rZ_size 0 0)
  obtain ⟨x, hx⟩ : ∃ x : Rat, Hid (x = ((0 : Int) : Rat)) := ⟨_, rfl⟩
  obtain rfl : x = 0 := hx.out
  go_enter Try.func26, Try.ntmps26
  go_wp2_with (first | (go_at_call 18; ((with_reducible refine (rwhole_q 0 0 (by omega) (by omega) hx _).mono ?_); rintro e9 w2 ⟨rfl, hL⟩; replace HM := HM.call hL; clear hL)) | (first | ((with_reducible refine g_ld ?_); refine a_ld HM ?_) | ((with_reducible refine g_st ?_); refine a_st HM ?_; clear HM; intro w1 HM) | ((with_reducible refine g_al ?_); refine a_al HM ?_; clear HM; intro bk w1 HM) | ((with_reducible refine g_bx ?_); refine a_bx HM ?_; clear HM; intro bk w1 HM) | ((with_reducible refine g_bld ?_); refine a_bld ?_)))
  refine bodyPost_ret (r_c rfl rfl (HM.get (by ((repeat (first | exact Look.here | refine Look.there ?_)); done))) (la_q _)) rfl ⟨rfl, HM.low⟩
set_option maxRecDepth 100000 in
set_option maxHeartbeats 8000000 in
theorem rfield_any (A : Option Addr) (xs : List Int) (c0 : Nat) (W : World) (hI : IntsAt W A xs) (hxl : xs.length ≤ 9223372036854775807) :
    Calls Try.prog 4 #[.slice A xs.length c0] W fun e w' => e = .returned (.bool true) ∧ Below W.heap.size W w' := by
  have HM := Mem.start W
  have HI := Lib.hid hI
  have hz0 := za_rat
  have hz1 := za_tri
  have st := sa_tri
  clear hI
  go_enter Try.func4, Try.ntmps4
  go_upto_region 2 with (first | fail | (first | ((with_reducible refine g_ld ?_); refine a_ld HM ?_) | ((with_reducible refine g_st ?_); refine a_st HM ?_; clear HM; intro w1 HM) | ((with_reducible refine g_al ?_); refine a_al HM ?_; clear HM; intro bk w1 HM) | ((with_reducible refine g_bx ?_); refine a_bx HM ?_; clear HM; intro bk w1 HM) | ((with_reducible refine g_bld ?_); refine a_bld ?_)))
  obtain ⟨tb, rfl⟩ := HM.nm0
  have HC : Hid (TapeC W 0 #[.slice A xs.length c0, .int .i64 0]) := ⟨A, xs, c0, 0, rfl, by omega, by omega, HI.out, hxl⟩
  have H0 : Hid (Below W.heap.size W W) := Below.refl _ _
  have hle : ∀ b ∈ ([] : List Nat), W.heap.size ≤ b := by simp
  go_wp2_with (first | ((with_reducible refine g_bld ?_); refine a_bld ?_ (hy := h_btri rfl)) | (first | ((with_reducible refine g_ld ?_); refine a_ld HM ?_) | ((with_reducible refine g_st ?_); refine a_st HM ?_; clear HM; intro w1 HM) | ((with_reducible refine g_al ?_); refine a_al HM ?_; clear HM; intro bk w1 HM) | ((with_reducible refine g_bx ?_); refine a_bx HM ?_; clear HM; intro bk w1 HM) | ((with_reducible refine g_bld ?_); refine a_bld ?_)))
  obtain ⟨b4, rfl⟩ := HM.nm0
  go_loopw [5] (fun i wr => ∃ (j q : Nat) (c cs : Array Value), i = .int .i64 (j : Nat) ∧ j ≤ 3 ∧ q ≤ 3 * j ∧ Hid (TapeC W q c) ∧ FieldC j cs ∧ Mem W [] [(b4, cs), (tb, c)] wr) (fun i _ => 3 - (intOf i).toNat)
  case atStart => exact ⟨0, 0, _, _, rfl, by omega, by omega, HC, FieldC.zero, HM⟩
  case round =>
    obtain ⟨j, q, c, cs, rfl, hj, hq, HC, hF, HM⟩ := hrel
    by_cases hlt : j < 3
    · go_wp2_with (first | fail | (first | ((with_reducible refine g_ld ?_); refine a_ld HM ?_) | ((with_reducible refine g_st ?_); refine a_st HM ?_; clear HM; intro w1 HM) | ((with_reducible refine g_al ?_); refine a_al HM ?_; clear HM; intro bk w1 HM) | ((with_reducible refine g_bx ?_); refine a_bx HM ?_; clear HM; intro bk w1 HM) | ((with_reducible refine g_bld ?_); refine a_bld ?_)))
      (refine (range_any W tb _ (-1000) (1000) _ (HM.tp (by ((repeat (first | exact Look.here | refine Look.there ?_)); done)) HC.out H0.out hle) (by omega) (by omega) (by omega) (by omega)).mono ?_; rintro e9 w2 ⟨v, rfl, h1v, h2v, ⟨c1, hb1, hc1, -, -⟩, hg⟩; replace HM := HM.put (c' := c1) (by (repeat (first | exact At.here | apply At.there))) hb1 (Only.of_grown hg); clear hg hb1; replace HC := Lib.hid hc1; clear hc1)
      go_wp2_with fail
      (refine (pick_new (tb := tb) (W := W) HM (by ((repeat (first | exact Look.here | refine Look.there ?_)); done)) HC.out H0.out (by first | exact hle | simpa using hle) [1, 1000003] _ (by omega) (by simp) (by simp)).mono ?_; rintro e9 w2 ⟨v1, c1, rfl, hv, hc1, hb1, hg⟩; replace HM := HM.put (c' := c1) (by (repeat (first | exact At.here | apply At.there))) hb1 hg; clear hg hb1; replace HC := Lib.hid hc1; clear hc1)
      obtain ⟨u, hu⟩ : ∃ u, v * v1 = u := ⟨_, rfl⟩
      have hub : -1000003000 ≤ u ∧ u ≤ 1000003000 := by
        simp only [List.mem_cons, List.not_mem_nil, or_false] at hv
        rcases hv with rfl | rfl <;> omega
      obtain ⟨hu1, hu2⟩ := hub
      have hw : IntKind.i64.wrap (v * v1) = u := by rw [hu]; exact IntWalk.i64_in _ (by omega)
      clear hv
      go_wp2_with fail
      (refine (pick_new (tb := tb) (W := W) HM (by ((repeat (first | exact Look.here | refine Look.there ?_)); done)) HC.out H0.out (by first | exact hle | simpa using hle) [1, 2, 3, 7, 12, 100, 365, 366, 1000003] _ (by omega) (by simp) (by simp)).mono ?_; rintro e9 w2 ⟨v1, c1, rfl, hv, hc1, hb1, hg⟩; replace HM := HM.put (c' := c1) (by (repeat (first | exact At.here | apply At.there))) hb1 hg; clear hg hb1; replace HC := Lib.hid hc1; clear hc1)
      have hdb : 1 ≤ v1 ∧ v1 ≤ 1000003 := by
        simp only [List.mem_cons, List.not_mem_nil, or_false] at hv
        omega
      obtain ⟨hd1, hd2⟩ := hdb
      clear hv hw hu
      obtain ⟨x, hx⟩ : ∃ x : Rat, Hid (x = Rat.divInt u v1) := ⟨_, rfl⟩
      have hB : Rt.Bd x 30 20 := by rw [hx.out]; exact .divInt (by omega) (Bg.p2_small 30 1073741824 (by unfold Bg.p2; rfl) (by omega)) (Bg.p2_small 20 1048576 (by unfold Bg.p2; rfl) (by omega))
      obtain ⟨cs2, hF2, hs⟩ := hF.put hlt hB
      clear hF
      go_wp2_with (first | (go_at_call 19; ((with_reducible refine (mkof_q u v1 x (by omega) (by omega) (by omega) (by omega) (by omega) hx _).mono ?_); rintro e9 w2 ⟨rfl, hL⟩; replace HM := HM.call hL; clear hL)) | (first | ((with_reducible refine g_ld ?_); refine a_ld HM ?_) | ((with_reducible refine g_st ?_); refine a_st HM ?_; clear HM; intro w1 HM) | ((with_reducible refine g_al ?_); refine a_al HM ?_; clear HM; intro bk w1 HM) | ((with_reducible refine g_bx ?_); refine a_bx HM ?_; clear HM; intro bk w1 HM) | ((with_reducible refine g_bld ?_); refine a_bld ?_)))
      go_roundw
      case rel => exact ⟨j + 1, _, _, _, by go_num, by omega, by omega, HC, hF2, HM⟩
      case measure => simp [intOf]; omega
    · obtain rfl : j = 3 := by omega
      obtain ⟨a, b, c1, Ba, Bb, Bc, l0, l1, l2⟩ := hF.get
      clear hF HC
      have fa := Ba.fit
      have fb := Bb.fit
      have fc := Bc.fit
      have sa := sa_q a (rZ_size 0 0)
      have sb := sa_q b (rZ_size 0 0)
      have sc := sa_q c1 (rZ_size 0 0)
      have ka := la_q a
      have kb := la_q b
      have kc := la_q c1
      go_upto_region 7 with fail
      go_cut [6, 7, 8] (fun p q r wc => ∃ b6 b7 b8, p = .pointer (some ⟨b6, 0, none⟩) ∧ q = .pointer (some ⟨b7, 0, none⟩) ∧ r = .pointer (some ⟨b8, 0, none⟩) ∧ Mem W [] [(b8, Rt.qA c1), (b7, Rt.qA b), (b6, Rt.qA a)] wc)
      case first =>
        refine start_M2 [] HM ((Sub.keep Sub.nil)) (by kernel_rfl) (fun w0x H9 => ?_)
        replace HM := H9; clear H9
        refine k_ia 0 (heldE HM) ?_
        refine k_ld 1 [] (heldE HM) ?_
        refine k_ia 2 (heldE HM) ?_
        refine k_ld 3 [] (heldE HM) ?_
        refine k_ia 4 (heldE HM) ?_
        refine k_ld 5 [] (heldE HM) ?_
        refine three_L (i := 6) (j := 7) (k := 8) (by kernel_rfl) (op_L rfl (by rfl) ?_) (op_L rfl (by rfl) ?_) (op_L rfl (by rfl) ?_)
        · refine j_al HM ?_; clear HM; intro bk w1 HM
          refine ⟨(heldE HM), ?_⟩
          refine j_two 7 8 ?_ ?_
          · refine j_al HM ?_; clear HM; intro bk w1 HM
            refine ⟨(heldE HM), ?_⟩
            refine j_one 8 fun K9 hK9 => ?_
            refine j_al HM ?_; clear HM; intro bk w1 HM
            refine hK9 _ _ (heldE HM) ?_; clear hK9 K9
            refine j_one 9 fun K9 hK9 => ?_
            refine j_st HM ?_; clear HM; intro w1 HM
            refine hK9 _ _ (heldE HM) ?_; clear hK9 K9
            refine j_one 10 fun K9 hK9 => ?_
            refine j_st HM ?_; clear HM; intro w1 HM
            refine hK9 _ _ (heldE HM) ?_; clear hK9 K9
            refine j_one 11 fun K9 hK9 => ?_
            refine j_st HM ?_; clear HM; intro w1 HM
            refine hK9 _ _ (heldE HM) ?_; clear hK9 K9
            refine wpAnyL_done (by kernel_rfl) ?_ _
            (go_wp2_with fail; go_meet; (case rel => exact ⟨_, _, _, rfl, rfl, rfl, HM.pick⟩))
          · refine j_al HM ?_; clear HM; intro bk w1 HM
            refine ⟨(heldE HM), ?_⟩
            refine j_one 7 fun K9 hK9 => ?_
            refine j_al HM ?_; clear HM; intro bk w1 HM
            refine hK9 _ _ (heldE HM) ?_; clear hK9 K9
            refine j_one 9 fun K9 hK9 => ?_
            refine j_st HM ?_; clear HM; intro w1 HM
            refine hK9 _ _ (heldE HM) ?_; clear hK9 K9
            refine j_one 10 fun K9 hK9 => ?_
            refine j_st HM ?_; clear HM; intro w1 HM
            refine hK9 _ _ (heldE HM) ?_; clear hK9 K9
            refine j_one 11 fun K9 hK9 => ?_
            refine j_st HM ?_; clear HM; intro w1 HM
            refine hK9 _ _ (heldE HM) ?_; clear hK9 K9
            refine wpAnyL_done (by kernel_rfl) ?_ _
            (go_wp2_with fail; go_meet; (case rel => exact ⟨_, _, _, rfl, rfl, rfl, HM.pick⟩))
        · refine j_al HM ?_; clear HM; intro bk w1 HM
          refine ⟨(heldE HM), ?_⟩
          refine j_two 6 8 ?_ ?_
          · refine j_al HM ?_; clear HM; intro bk w1 HM
            refine ⟨(heldE HM), ?_⟩
            refine j_one 8 fun K9 hK9 => ?_
            refine j_al HM ?_; clear HM; intro bk w1 HM
            refine hK9 _ _ (heldE HM) ?_; clear hK9 K9
            refine j_one 9 fun K9 hK9 => ?_
            refine j_st HM ?_; clear HM; intro w1 HM
            refine hK9 _ _ (heldE HM) ?_; clear hK9 K9
            refine j_one 10 fun K9 hK9 => ?_
            refine j_st HM ?_; clear HM; intro w1 HM
            refine hK9 _ _ (heldE HM) ?_; clear hK9 K9
            refine j_one 11 fun K9 hK9 => ?_
            refine j_st HM ?_; clear HM; intro w1 HM
            refine hK9 _ _ (heldE HM) ?_; clear hK9 K9
            refine wpAnyL_done (by kernel_rfl) ?_ _
            (go_wp2_with fail; go_meet; (case rel => exact ⟨_, _, _, rfl, rfl, rfl, HM.pick⟩))
          · refine j_al HM ?_; clear HM; intro bk w1 HM
            refine ⟨(heldE HM), ?_⟩
            refine j_one 6 fun K9 hK9 => ?_
            refine j_al HM ?_; clear HM; intro bk w1 HM
            refine hK9 _ _ (heldE HM) ?_; clear hK9 K9
            refine j_one 9 fun K9 hK9 => ?_
            refine j_st HM ?_; clear HM; intro w1 HM
            refine hK9 _ _ (heldE HM) ?_; clear hK9 K9
            refine j_one 10 fun K9 hK9 => ?_
            refine j_st HM ?_; clear HM; intro w1 HM
            refine hK9 _ _ (heldE HM) ?_; clear hK9 K9
            refine j_one 11 fun K9 hK9 => ?_
            refine j_st HM ?_; clear HM; intro w1 HM
            refine hK9 _ _ (heldE HM) ?_; clear hK9 K9
            refine wpAnyL_done (by kernel_rfl) ?_ _
            (go_wp2_with fail; go_meet; (case rel => exact ⟨_, _, _, rfl, rfl, rfl, HM.pick⟩))
        · refine j_al HM ?_; clear HM; intro bk w1 HM
          refine ⟨(heldE HM), ?_⟩
          refine j_two 6 7 ?_ ?_
          · refine j_al HM ?_; clear HM; intro bk w1 HM
            refine ⟨(heldE HM), ?_⟩
            refine j_one 7 fun K9 hK9 => ?_
            refine j_al HM ?_; clear HM; intro bk w1 HM
            refine hK9 _ _ (heldE HM) ?_; clear hK9 K9
            refine j_one 9 fun K9 hK9 => ?_
            refine j_st HM ?_; clear HM; intro w1 HM
            refine hK9 _ _ (heldE HM) ?_; clear hK9 K9
            refine j_one 10 fun K9 hK9 => ?_
            refine j_st HM ?_; clear HM; intro w1 HM
            refine hK9 _ _ (heldE HM) ?_; clear hK9 K9
            refine j_one 11 fun K9 hK9 => ?_
            refine j_st HM ?_; clear HM; intro w1 HM
            refine hK9 _ _ (heldE HM) ?_; clear hK9 K9
            refine wpAnyL_done (by kernel_rfl) ?_ _
            (go_wp2_with fail; go_meet; (case rel => exact ⟨_, _, _, rfl, rfl, rfl, HM.pick⟩))
          · refine j_al HM ?_; clear HM; intro bk w1 HM
            refine ⟨(heldE HM), ?_⟩
            refine j_one 6 fun K9 hK9 => ?_
            refine j_al HM ?_; clear HM; intro bk w1 HM
            refine hK9 _ _ (heldE HM) ?_; clear hK9 K9
            refine j_one 9 fun K9 hK9 => ?_
            refine j_st HM ?_; clear HM; intro w1 HM
            refine hK9 _ _ (heldE HM) ?_; clear hK9 K9
            refine j_one 10 fun K9 hK9 => ?_
            refine j_st HM ?_; clear HM; intro w1 HM
            refine hK9 _ _ (heldE HM) ?_; clear hK9 K9
            refine j_one 11 fun K9 hK9 => ?_
            refine j_st HM ?_; clear HM; intro w1 HM
            refine hK9 _ _ (heldE HM) ?_; clear hK9 K9
            refine wpAnyL_done (by kernel_rfl) ?_ _
            (go_wp2_with fail; go_meet; (case rel => exact ⟨_, _, _, rfl, rfl, rfl, HM.pick⟩))
      case rest =>
        clear HM l0 l1 l2
        obtain ⟨b6, b7, b8, rfl, rfl, rfl, HM⟩ := hcut
        obtain ⟨s1, hs1⟩ : ∃ x, Hid (x = a + b) := ⟨_, rfl⟩
        have Bs1 := Ba.add Bb; rw [← hs1.out] at Bs1
        have fs1 := Bs1.fit
        have ss1' := sa_q s1 (rZ_size 0 0)
        have ks1 := la_q s1
        obtain ⟨s2, hs2⟩ : ∃ x, Hid (x = b + c1) := ⟨_, rfl⟩
        have Bs2 := Bb.add Bc; rw [← hs2.out] at Bs2
        have fs2 := Bs2.fit
        have ss2' := sa_q s2 (rZ_size 0 0)
        have ks2 := la_q s2
        obtain ⟨s3, hs3⟩ : ∃ x, Hid (x = s1 + c1) := ⟨_, rfl⟩
        have Bs3 := Bs1.add Bc; rw [← hs3.out] at Bs3
        have fs3 := Bs3.fit
        have ss3' := sa_q s3 (rZ_size 0 0)
        have ks3 := la_q s3
        obtain ⟨p, hp⟩ : ∃ x, Hid (x = a * b) := ⟨_, rfl⟩
        have Bp := Ba.mul Bb; rw [← hp.out] at Bp
        have fp := Bp.fit
        have sp' := sa_q p (rZ_size 0 0)
        have kp := la_q p
        obtain ⟨r, hr⟩ : ∃ x, Hid (x = b * c1) := ⟨_, rfl⟩
        have Br := Bb.mul Bc; rw [← hr.out] at Br
        have fr := Br.fit
        have sr' := sa_q r (rZ_size 0 0)
        have kr := la_q r
        obtain ⟨m, hm⟩ : ∃ x, Hid (x = p * c1) := ⟨_, rfl⟩
        have Bm := Bp.mul Bc; rw [← hm.out] at Bm
        have fm := Bm.fit
        have sm' := sa_q m (rZ_size 0 0)
        have km := la_q m
        obtain ⟨d, hd⟩ : ∃ x, Hid (x = a * s2) := ⟨_, rfl⟩
        have Bd := Ba.mul Bs2; rw [← hd.out] at Bd
        have fd := Bd.fit
        have sd' := sa_q d (rZ_size 0 0)
        have kd := la_q d
        obtain ⟨e, he⟩ : ∃ x, Hid (x = a * c1) := ⟨_, rfl⟩
        have Be := Ba.mul Bc; rw [← he.out] at Be
        have fe := Be.fit
        have se' := sa_q e (rZ_size 0 0)
        have ke := la_q e
        have h1 : Hid (s3 = a + s2) := Lib.hid (by rw [hs3.out, hs1.out, hs2.out]; grind)
        have h2 : Hid (m = a * r) := Lib.hid (by rw [hm.out, hp.out, hr.out]; grind)
        have h3 : Hid (d = p + e) := Lib.hid (by rw [hd.out, hs2.out, hp.out, he.out]; grind)
        have h4 : Hid (a = s1 - b) := Lib.hid (by rw [hs1.out]; grind)
        have h5 : Hid (s1 = b + a) := Lib.hid (by rw [hs1.out]; grind)
        go_step
        obtain ⟨f, hf⟩ : ∃ f : Bool, f = decide (b = 0) := ⟨_, rfl⟩
        go_upto_region 23 with (first | first
          | (go_at_call 22; ((with_reducible refine (add_q a b s1 fa fb hs1 fs1 _).mono ?_); rintro e9 w2 ⟨rfl, hL⟩; replace HM := HM.call hL; clear hL))
          | (go_at_call 22; ((with_reducible refine (add_q b c1 s2 fb fc hs2 fs2 _).mono ?_); rintro e9 w2 ⟨rfl, hL⟩; replace HM := HM.call hL; clear hL))
          | (go_at_call 22; ((with_reducible refine (add_q s1 c1 s3 fs1 fc hs3 fs3 _).mono ?_); rintro e9 w2 ⟨rfl, hL⟩; replace HM := HM.call hL; clear hL))
          | (go_at_call 22; ((with_reducible refine (add_q a s2 s3 fa fs2 h1 fs3 _).mono ?_); rintro e9 w2 ⟨rfl, hL⟩; replace HM := HM.call hL; clear hL))
          | (go_at_call 22; ((with_reducible refine (add_q p e d fp fe h3 fd _).mono ?_); rintro e9 w2 ⟨rfl, hL⟩; replace HM := HM.call hL; clear hL))
          | (go_at_call 22; ((with_reducible refine (add_q b a s1 fb fa h5 fs1 _).mono ?_); rintro e9 w2 ⟨rfl, hL⟩; replace HM := HM.call hL; clear hL))
          | (go_at_call 23; ((with_reducible refine (mul_q a b p fa fb hp fp _).mono ?_); rintro e9 w2 ⟨rfl, hL⟩; replace HM := HM.call hL; clear hL))
          | (go_at_call 23; ((with_reducible refine (mul_q b c1 r fb fc hr fr _).mono ?_); rintro e9 w2 ⟨rfl, hL⟩; replace HM := HM.call hL; clear hL))
          | (go_at_call 23; ((with_reducible refine (mul_q p c1 m fp fc hm fm _).mono ?_); rintro e9 w2 ⟨rfl, hL⟩; replace HM := HM.call hL; clear hL))
          | (go_at_call 23; ((with_reducible refine (mul_q a r m fa fr h2 fm _).mono ?_); rintro e9 w2 ⟨rfl, hL⟩; replace HM := HM.call hL; clear hL))
          | (go_at_call 23; ((with_reducible refine (mul_q a s2 d fa fs2 hd fd _).mono ?_); rintro e9 w2 ⟨rfl, hL⟩; replace HM := HM.call hL; clear hL))
          | (go_at_call 23; ((with_reducible refine (mul_q a c1 e fa fc he fe _).mono ?_); rintro e9 w2 ⟨rfl, hL⟩; replace HM := HM.call hL; clear hL))
          | (go_at_call 24; ((with_reducible refine (sub_q s1 b a fs1 fb h4 fa _).mono ?_); rintro e9 w2 ⟨rfl, hL⟩; replace HM := HM.call hL; clear hL))
          | ((with_reducible refine g_bin ?_); refine a_cmpq .neq (s3) (s3) false (.inr rfl) (by simp) (fs3) (fs3) ?_) | ((with_reducible refine g_bin ?_); refine a_cmpq .neq (s1) (s1) false (.inr rfl) (by simp) (fs1) (fs1) ?_) | ((with_reducible refine g_bin ?_); refine a_cmpq .neq (m) (m) false (.inr rfl) (by simp) (fm) (fm) ?_) | ((with_reducible refine g_bin ?_); refine a_cmpq .neq (d) (d) false (.inr rfl) (by simp) (fd) (fd) ?_) | ((with_reducible refine g_bin ?_); refine a_cmpq .neq (a) (a) false (.inr rfl) (by simp) (fa) (fa) ?_) | (first | ((with_reducible refine g_ld ?_); refine a_ld HM ?_) | ((with_reducible refine g_st ?_); refine a_st HM ?_; clear HM; intro w1 HM) | ((with_reducible refine g_al ?_); refine a_al HM ?_; clear HM; intro bk w1 HM) | ((with_reducible refine g_bx ?_); refine a_bx HM ?_; clear HM; intro bk w1 HM) | ((with_reducible refine g_bld ?_); refine a_bld ?_)))
        cases f with
        | true =>
          have hb0 : b = 0 := by simpa using hf.symm
          have sz := sa_rz 0 0 (rZ_size 0 0)
          clear hf
          subst hb0
          go_upto_region 24 with (first | (go_at_call 25; ((with_reducible refine (quo_0 p fp _).mono ?_); rintro e9 w2 ⟨rfl, hL⟩; replace HM := HM.call hL; clear hL)) | (first | ((with_reducible refine g_ld ?_); refine a_ld HM ?_) | ((with_reducible refine g_st ?_); refine a_st HM ?_; clear HM; intro w1 HM) | ((with_reducible refine g_al ?_); refine a_al HM ?_; clear HM; intro bk w1 HM) | ((with_reducible refine g_bx ?_); refine a_bx HM ?_; clear HM; intro bk w1 HM) | ((with_reducible refine g_bld ?_); refine a_bld ?_)))
          refine start_M [] HM (by kernel_rfl) (fun w0x H9 => ?_)
          replace HM := H9; clear H9
          refine k_ld 0 [] (heldE HM) ?_
          refine j_one 1 fun K9 hK9 => ?_
          refine j_call0 (v := ?_) HM ?_ ?_; rotate_left 1; (focus (with_reducible (exact rzero_q _))); clear HM; intro w1 HM
          refine hK9 _ _ (heldE HM) ?_; clear hK9 K9
          refine t_eq (i := 2) (v := ?_) [] rfl rfl rfl (by kernel_rfl) (fun _ _ _ h => h) (heldE HM) ?_ ?_; rotate_left 1; (focus ((refine y_cmpq .eql (0) (0) true (.inl rfl) (by simp) (fb) (fb) (x := ?_) (y := ?_) (t := ?_) ?_ ?_ ?_ ?_; rotate_left 3; (focus rfl); (focus rfl); (focus ((conv => lhs; whnf) <;> rfl)); ((conv => lhs; whnf) <;> rfl)))); ((try simp only [List.setIfInBounds_toArray]); (try simp only [List.set_cons_succ]); (try simp only [List.set_cons_zero]))
          refine wpAnyL_done (by kernel_rfl) ?_ _
          go_wp2_with (first | (go_at_call 16; ((with_reducible refine (rknown_any _).mono ?_); rintro e9 w2 ⟨rfl, hL⟩; replace HM := HM.call hL; clear hL)) | (first | ((with_reducible refine g_ld ?_); refine a_ld HM ?_) | ((with_reducible refine g_st ?_); refine a_st HM ?_; clear HM; intro w1 HM) | ((with_reducible refine g_al ?_); refine a_al HM ?_; clear HM; intro bk w1 HM) | ((with_reducible refine g_bx ?_); refine a_bx HM ?_; clear HM; intro bk w1 HM) | ((with_reducible refine g_bld ?_); refine a_bld ?_)))
          go_ret
          exact ⟨rfl, HM.low⟩
        | false =>
          have hb0 : b ≠ 0 := by simpa using hf.symm
          have h6 : Hid (a = p / b) := Lib.hid (by rw [hp.out]; grind)
          have hbd : Hid (decide (b = 0) = false) := Lib.hid hf.symm
          clear hf
          go_upto_region 24 with (first | (go_at_call 25; ((with_reducible refine (quo_q p b a fp fb hb0 h6 fa _).mono ?_); rintro e9 w2 ⟨rfl, hL⟩; replace HM := HM.call hL; clear hL)) | (first | ((with_reducible refine g_ld ?_); refine a_ld HM ?_) | ((with_reducible refine g_st ?_); refine a_st HM ?_; clear HM; intro w1 HM) | ((with_reducible refine g_al ?_); refine a_al HM ?_; clear HM; intro bk w1 HM) | ((with_reducible refine g_bx ?_); refine a_bx HM ?_; clear HM; intro bk w1 HM) | ((with_reducible refine g_bld ?_); refine a_bld ?_)))
          refine start_M [] HM (by kernel_rfl) (fun w0x H9 => ?_)
          replace HM := H9; clear H9
          refine k_ld 0 [] (heldE HM) ?_
          refine j_one 1 fun K9 hK9 => ?_
          refine j_call0 (v := ?_) HM ?_ ?_; rotate_left 1; (focus (with_reducible (exact rzero_q _))); clear HM; intro w1 HM
          refine hK9 _ _ (heldE HM) ?_; clear hK9 K9
          refine t_eq (i := 2) (v := ?_) [] rfl rfl rfl (by kernel_rfl) (fun _ _ _ h => h) (heldE HM) ?_ ?_; rotate_left 1; (focus ((refine y_cmpq .eql (b) (0) false (.inl rfl) (by simp [hbd.out]) (fb) (Rt.fit_zero) (x := ?_) (y := ?_) (t := ?_) ?_ ?_ ?_ ?_; rotate_left 3; (focus rfl); (focus rfl); (focus ((conv => lhs; whnf) <;> rfl)); ((conv => lhs; whnf) <;> rfl)))); ((try simp only [List.setIfInBounds_toArray]); (try simp only [List.set_cons_succ]); (try simp only [List.set_cons_zero]))
          refine wpAnyL_done (by kernel_rfl) ?_ _
          go_wp2_with (first | first | (go_at_call 16; ((with_reducible refine (rknown_any _).mono ?_); rintro e9 w2 ⟨rfl, hL⟩; replace HM := HM.call hL; clear hL)) | ((with_reducible refine g_bin ?_); refine a_cmpq .eql (a) (a) true (.inl rfl) (by simp) (fa) (fa) ?_) | (first | ((with_reducible refine g_ld ?_); refine a_ld HM ?_) | ((with_reducible refine g_st ?_); refine a_st HM ?_; clear HM; intro w1 HM) | ((with_reducible refine g_al ?_); refine a_al HM ?_; clear HM; intro bk w1 HM) | ((with_reducible refine g_bx ?_); refine a_bx HM ?_; clear HM; intro bk w1 HM) | ((with_reducible refine g_bld ?_); refine a_bld ?_)))
          go_ret
          exact ⟨rfl, HM.low⟩
end Go.Proofs.Ytekfabhmopkapaa
