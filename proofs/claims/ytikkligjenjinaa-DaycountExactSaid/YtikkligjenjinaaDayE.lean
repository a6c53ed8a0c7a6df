/- The chapter's examples of periods; DaycountExact, walked. -/
import Derived.Test.YtikkligjenjinaaDayD
namespace Go.Proofs.Ytikkligjenjinaa
set_option maxRecDepth 8000
open Go.RowKit
theorem fc_2024 (w : World) : Calls Try.prog 21 #[.int .i64 2024, .int .i64 1, .int .i64 1] w fun e w' => e = .returned (.tuple #[.int .i64 8766, .int .i64 0]) ∧ Below w.heap.size w w' := by
  have h := bel (rfromCivil_yes 2024 1 1 w (by decide) (by decide) (by decide) (by decide) (by decide) (by decide))
  rwa [show Dt.dby 2024 + Dt.cum 2024 1 + 1 - 1 = 8766 from by decide] at h
theorem fc_2025 (w : World) : Calls Try.prog 21 #[.int .i64 2025, .int .i64 1, .int .i64 1] w fun e w' => e = .returned (.tuple #[.int .i64 9132, .int .i64 0]) ∧ Below w.heap.size w w' := by
  have h := bel (rfromCivil_yes 2025 1 1 w (by decide) (by decide) (by decide) (by decide) (by decide) (by decide))
  rwa [show Dt.dby 2025 + Dt.cum 2025 1 + 1 - 1 = 9132 from by decide] at h
theorem ok_ex : Dy.Ok 2 8766 9132 := ⟨by decide, by decide, by decide, by decide, by decide⟩
theorem frac_ex (w : World) (h : Rat) (hh : Hid (h = Rat.divInt 366 365)) : Calls Try.prog 8 #[.int .i64 2, .int .i64 8766, .int .i64 9132] w fun r w' => r = .returned (.tuple #[.agg (Rt.qA h), .int .i64 0]) ∧ Below w.heap.size w w' := by
  have h1 := fraction_any 2 8766 9132 w
  rwa [Dy.fc_ok ok_ex, Dy.err_zero.2 ok_ex, Dy.frac_of (by decide), Dy.days_ok ok_ex, if_neg (by decide), if_pos rfl, show (9132 : Int) - 8766 = 366 from rfl, ← hh.out] at h1
theorem days_ex (w : World) : Calls Try.prog 10 #[.int .i64 4, .int .i64 8795, .int .i64 8796] w fun r w' => r = .returned (.tuple #[.int .i64 0, .int .i64 0]) ∧ Below w.heap.size w w' := by
  have hk : Dy.Ok 4 8795 8796 := ⟨by decide, by decide, by decide, by decide, by decide⟩
  have h1 := bel (days_any 4 8795 8796 w)
  have c1 : Dt.isCiv 8795 2024 1 30 := ⟨by decide, by decide, by decide, by decide, by decide, by decide, by decide⟩
  have c2 : Dt.isCiv 8796 2024 1 31 := ⟨by decide, by decide, by decide, by decide, by decide, by decide, by decide⟩
  rwa [Dy.err_zero.2 hk, Dy.days_ok hk, if_pos rfl, Dy.pos_of c1, Dy.pos_of c2, show (360 * 2024 + 30 * 1 + min 31 30 - (360 * 2024 + 30 * 1 + min 30 30) : Int) = 0 from by decide] at h1
theorem format_3 (w : World) : Calls Try.prog 25 #[.int .i64 3] w fun r w' => r = .returned (.tuple #[.string { data := #[97, 99, 116, 97, 99, 116] }, .int .i64 0]) ∧ Below w.heap.size w w' := format_any 3 w
set_option maxHeartbeats 4000000 in
theorem dknown_any (w : World) : Calls Try.prog 12 #[] w fun e w' => e = .returned (.bool true) ∧ Below w.heap.size w w' := by
  have HM := Mem.start w
  have hz0 := za_rat
  obtain ⟨h, hh⟩ : ∃ h : Rat, Hid (h = Rat.divInt 366 365) := ⟨_, rfl⟩
  have fh : Rt.Fit h := by rw [hh.out]; exact (small_bd (c := 366) (k := 365) (by decide) (by decide) (by decide) (by decide)).fit
  have sh := sa_q h (rZ_size 0 0)
  have kh := la_q h
  go_enter Try.func12, Try.ntmps12
  go_upto_region 6 with (first | first | (go_at_call 21; ((with_reducible refine (fc_2024 _).mono ?_); rintro e9 w2 ⟨rfl, hL⟩; replace HM := HM.call hL; clear hL)) | (go_at_call 21; ((with_reducible refine (fc_2025 _).mono ?_); rintro e9 w2 ⟨rfl, hL⟩; replace HM := HM.call hL; clear hL)) | (go_at_call 8; ((with_reducible refine (frac_ex _ h hh).mono ?_); rintro e9 w2 ⟨rfl, hL⟩; replace HM := HM.call hL; clear hL)) | (go_at_call 10; ((with_reducible refine (days_ex _).mono ?_); rintro e9 w2 ⟨rfl, hL⟩; replace HM := HM.call hL; clear hL)) | (go_at_call 25; ((with_reducible refine (format_3 _).mono ?_); rintro e9 w2 ⟨rfl, hL⟩; replace HM := HM.call hL; clear hL)) | (first | ((with_reducible refine g_ld ?_); refine a_ld HM ?_) | ((with_reducible refine g_st ?_); refine a_st HM ?_; clear HM; intro w1 HM) | ((with_reducible refine g_al ?_); refine a_al HM ?_; clear HM; intro bk w1 HM) | ((with_reducible refine g_bx ?_); refine a_bx HM ?_; clear HM; intro bk w1 HM) | ((with_reducible refine g_bld ?_); refine a_bld ?_)))
  refine start_M [] HM (by kernel_rfl) (fun w0x H9 => ?_)
  replace HM := H9; clear H9
  refine k_mv 0 (heldE HM) ?_
  refine k_bin 1 (heldE HM) ?_
  refine k_mv 2 (heldE HM) ?_
  refine k_ld 3 [] (heldE HM) ?_
  refine j_one 4 fun K9 hK9 => ?_
  refine j_call2 (v := ?_) HM ?_ ?_; rotate_left 1; (focus (with_reducible (exact mkof_q 366 365 h (by decide) (by decide) (by decide) (by decide) (by decide) hh _))); clear HM; intro w1 HM
  refine hK9 _ _ (heldE HM) ?_; clear hK9 K9
  refine t_eq (i := 5) (v := ?_) [] rfl rfl rfl (by kernel_rfl) (fun _ _ _ h => h) (heldE HM) ?_ ?_; rotate_left 1; (focus ((refine y_cmpq .eql (h) (h) true (.inl rfl) (by simp) (fh) (fh) (x := ?_) (y := ?_) (t := ?_) ?_ ?_ ?_ ?_; rotate_left 3; (focus rfl); (focus rfl); (focus ((conv => lhs; whnf) <;> rfl)); ((conv => lhs; whnf) <;> rfl)))); ((try simp only [List.setIfInBounds_toArray]); (try simp only [List.set_cons_succ]); (try simp only [List.set_cons_zero]))
  refine k_pick 6 (heldE HM) ?_
  refine k_mv 7 (heldE HM) ?_
  refine k_mv 8 (heldE HM) ?_
  refine k_bin 9 (heldE HM) ?_
  refine k_pick 10 (heldE HM) ?_
  refine k_mv 11 (heldE HM) ?_
  refine k_mv 12 (heldE HM) ?_
  refine k_bin 13 (heldE HM) ?_
  refine k_pick 14 (heldE HM) ?_
  refine k_mv 15 (heldE HM) ?_
  refine k_mv 16 (heldE HM) ?_
  refine k_bin 17 (heldE HM) ?_
  refine k_pick 18 (heldE HM) ?_
  refine k_mv 19 (heldE HM) ?_
  refine k_mv 20 (heldE HM) ?_
  refine k_bin 21 (heldE HM) ?_
  refine k_pick 22 (heldE HM) ?_
  refine k_mv 23 (heldE HM) ?_
  refine wpAnyL_done (by kernel_rfl) ?_ _
  go_wp2_with fail
  go_ret
  exact ⟨rfl, HM.low⟩
section
variable {ops : Array Oper} {rest : List Oper} {a a2 : Act} {w : World} {Q : Exit → Act → World → Prop} {d : Option Tmp} {ty t : TypeId} {ps : String} {af : Array Edge} {g : Option (Nat × Bool)} {x y : Operand}
/-- A ratio compared with itself. -/
theorem a_same (op : BinOp) (c : Array Value) (v : Bool) (he : op = .eql ∨ op = .neq) (hv : v = if op = .eql then true else false) (hc : ∃ n d : Int, c = Bg.rZ n d ∧ n.natAbs < Bg.lim ∧ d.natAbs < Bg.lim) (h : wpList Try.prog ops Q rest a2 w) (hw : WantT ops { dst := d, op := .binOp op 27 x y t, type := ty, pos := ps, after := af, guard := g } a := by first | exact Or.inl rfl | exact Or.inr ⟨_, _, _, rfl, rfl, rfl⟩) (hx : a.eval x = .agg c := by (conv => lhs; whnf) <;> rfl) (hy : a.eval y = .agg c := by (conv => lhs; whnf) <;> rfl) (ha : a.put d (.bool v) = a2 := by ((try simp only [Act.put, List.setIfInBounds_toArray, List.set_cons_succ, List.set_cons_zero]) <;> rfl)) : OpG ops Q rest a w { dst := d, op := .binOp op 27 x y t, type := ty, pos := ps, after := af, guard := g } := by
  obtain ⟨n, d1, rfl, h1, h2⟩ := hc
  exact m_cmpr op n d1 n d1 v he (by rw [hv]; simp) h1 h2 h1 h2 hw hx hy (ha ▸ h)
end
theorem Dy.fc_rZ (b f t : Int) : ∃ n d : Int, Dy.fc b f t = Bg.rZ n d ∧ n.natAbs < Bg.lim ∧ d.natAbs < Bg.lim := by
  by_cases h : Dy.err b f t = 0
  · have hk := Dy.err_zero.1 h
    have hf := (Dy.frac_bd hk).fit
    exact ⟨_, _, by rw [Dy.fc_ok hk, qA_rZ], hf.ln, hf.ld⟩
  · exact ⟨0, 0, by unfold Dy.fc; rw [if_neg h], Bg.ppos 32, Bg.ppos 32⟩
set_option maxRecDepth 100000 in
set_option maxHeartbeats 4000000 in
theorem dexact_any (b f t : Int) (w : World) (_h1 : -9223372036854775808 ≤ b) (_h2 : b < 9223372036854775808) (_h3 : -9223372036854775808 ≤ f) (_h4 : f < 9223372036854775808) (_h5 : -9223372036854775808 ≤ t) (_h6 : t < 9223372036854775808) :
    Calls Try.prog 3 #[.int .i64 b, .int .i64 f, .int .i64 t] w fun e w' => e = .returned (.bool true) ∧ Below w.heap.size w w' := by
  have HM := Mem.start w
  have hz0 := za_rat
  have H1 : ∀ w, Hid (Calls Try.prog 8 #[.int .i64 b, .int .i64 f, .int .i64 t] w fun r w' => r = .returned (.tuple #[.agg (Dy.fc b f t), .int .i64 (Dy.err b f t)]) ∧ Below w.heap.size w w') := fun w => Lib.hid (fraction_any b f t w)
  have H2 : ∀ w, Hid (Calls Try.prog 9 #[.int .i64 b, .int .i64 f, .int .i64 t] w fun r w' => r = .returned (.tuple #[.agg (Dy.fc b f t), .int .i64 (Dy.err b f t)]) ∧ Below w.heap.size w w') := fun w => Lib.hid (rfraction_any b f t w)
  have H3 : ∀ w, Hid (Calls Try.prog 10 #[.int .i64 b, .int .i64 f, .int .i64 t] w fun r w' => r = .returned (.tuple #[.int .i64 (Dy.days b f t), .int .i64 (Dy.err b f t)]) ∧ Below w.heap.size w w') := fun w => Lib.hid (bel (days_any b f t w))
  have H4 : ∀ w, Hid (Calls Try.prog 11 #[.int .i64 b, .int .i64 f, .int .i64 t] w fun r w' => r = .returned (.tuple #[.int .i64 (Dy.days b f t), .int .i64 (Dy.err b f t)]) ∧ Below w.heap.size w w') := fun w => Lib.hid (bel (rdaysP_any b f t w))
  have HC := Lib.hid (Dy.fc_rZ b f t)
  obtain ⟨c, hc⟩ : ∃ c, c = Dy.fc b f t := ⟨_, rfl⟩
  rw [← hc] at H1 H2 HC
  generalize Dy.err b f t = e at *
  generalize Dy.days b f t = n at *
  have hcs : c.size = 66 := by obtain ⟨n, d, rfl, _⟩ := HC.out; exact rZ_size n d
  have sc : SA 27 (Bg.rZ 0 0) 0 (.agg c) c := by obtain ⟨n, d, rfl, _⟩ := HC.out; exact sa_rz n d (rZ_size 0 0)
  have kc : LA 27 c 0 (.agg c) := by obtain ⟨n, d, rfl, _⟩ := HC.out; exact la_rz n d
  have G1 := Lib.hid H1
  have G2 := Lib.hid H2
  have G3 := Lib.hid H3
  have G4 := Lib.hid H4
  clear H1 H2 H3 H4 hc hcs
  go_enter Try.func3, Try.ntmps3
  go_wp2_with (first | first | (go_at_call 8; ((with_reducible refine ((G1.out _).out).mono ?_); rintro e9 w2 ⟨rfl, hL⟩; replace HM := HM.call hL; clear hL)) | (go_at_call 9; ((with_reducible refine ((G2.out _).out).mono ?_); rintro e9 w2 ⟨rfl, hL⟩; replace HM := HM.call hL; clear hL)) | (go_at_call 10; ((with_reducible refine ((G3.out _).out).mono ?_); rintro e9 w2 ⟨rfl, hL⟩; replace HM := HM.call hL; clear hL)) | (go_at_call 11; ((with_reducible refine ((G4.out _).out).mono ?_); rintro e9 w2 ⟨rfl, hL⟩; replace HM := HM.call hL; clear hL)) | (go_at_call 12; ((with_reducible refine (dknown_any _).mono ?_); rintro e9 w2 ⟨rfl, hL⟩; replace HM := HM.call hL; clear hL)) | ((with_reducible refine g_bin ?_); refine a_same .eql c true (.inl rfl) rfl HC.out ?_) | (first | ((with_reducible refine g_ld ?_); refine a_ld HM ?_) | ((with_reducible refine g_st ?_); refine a_st HM ?_; clear HM; intro w1 HM) | ((with_reducible refine g_al ?_); refine a_al HM ?_; clear HM; intro bk w1 HM) | ((with_reducible refine g_bx ?_); refine a_bx HM ?_; clear HM; intro bk w1 HM) | ((with_reducible refine g_bld ?_); refine a_bld ?_)))
  go_ret
  exact ⟨rfl, HM.low⟩
end Go.Proofs.Ytikkligjenjinaa
