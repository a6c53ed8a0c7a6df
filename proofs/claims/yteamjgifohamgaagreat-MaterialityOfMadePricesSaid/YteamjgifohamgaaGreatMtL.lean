/- The sanity check of the chapter. -/
import Derived.Test.YteamjgifohamgaaGreatMtK
namespace Go.Proofs.YteamjgifohamgaaGreat
set_option maxRecDepth 8000
open Go.RowKit
set_option maxHeartbeats 8000000 in
theorem mawake_any (w : World) : Calls Tryz.prog 18 #[] w fun e w' => e = .returned (.bool true) ∧ Below w.heap.size w w' := by
  have HM := Mem.start w
  obtain ⟨d1, h1⟩ : ∃ d, d = Mt.d1 := ⟨_, rfl⟩
  obtain ⟨d2, h2⟩ : ∃ d, d = Mt.d2 := ⟨_, rfl⟩
  obtain ⟨q, hq⟩ : ∃ q, Hid (q = Rat.divInt 1 100) := ⟨_, Lib.hid rfl⟩
  obtain ⟨z, hz0⟩ : ∃ q, Hid (q = Rat.divInt 0 1) := ⟨_, Lib.hid rfl⟩
  have fq : Rt.Fit q := by rw [hq.out]; exact Mt.fit_100
  have fz : Rt.Fit z := by rw [hz0.out]; exact Mt.fit_i 0 (by decide) (by decide)
  have D1 : ∀ w, Calls Tryz.prog 33 #[.int .i64 9, .int .i64 101, .int .i64 100] w fun r w' => r = .returned (.agg (Mt.c d1)) ∧ Below w.heap.size w w' := fun w => by
    rw [h1]; exact diff_any 9 101 100 _ _ (Mt.fit_i _ (by decide) (by decide)) (Mt.fit_i _ (by decide) (by decide)) (by decide) (by decide) (by decide) (by decide) (Lib.hid rfl) (Lib.hid rfl) w
  have D2 : ∀ w, Calls Tryz.prog 33 #[.int .i64 7, .int .i64 103, .int .i64 100] w fun r w' => r = .returned (.agg (Mt.c d2)) ∧ Below w.heap.size w w' := fun w => by
    rw [h2]; exact diff_any 7 103 100 _ _ (Mt.fit_i _ (by decide) (by decide)) (Mt.fit_i _ (by decide) (by decide)) (by decide) (by decide) (by decide) (by decide) (Lib.hid rfl) (Lib.hid rfl) w
  have R1 := fun w => sratio_any 1 100 q (by decide) (by decide) (by decide) (by decide) hq w
  have R0 := fun w => sratio_any 0 1 z (by decide) (by decide) (by decide) (by decide) hz0 w
  have S1 : ∀ w, Calls Tryz.prog 26 #[.agg (Mt.c d1)] w fun r w' => r = .returned (.tuple #[.agg (Rt.qA q), .int .i64 0]) ∧ Below w.heap.size w w' := size_any d1 (some q) 0 (Lib.hid (by rw [h1, hq.out]; exact Mt.s1.symm))
  have M1 := fun sv w h => material_any sv [d1, d2] (some q) (Rt.qA q) w ⟨fq, rfl⟩ h (by simp) [d2] 0 (Lib.hid (by rw [h1, h2, hq.out]; exact Mt.mat_100.symm))
  have F0 := fun sv w h => first_any sv [d1, d2] (some z) (Rt.qA z) w ⟨fz, rfl⟩ h (by simp) [d1, d2] 0 (Lib.hid (by rw [h1, h2, hz0.out]; exact Mt.mat_0.symm)) 7 true 0 (Lib.hid (by rw [h1, h2]; exact Mt.fst_0.symm))
  have c1 := Mt.c_size d1
  have c2 := Mt.c_size d2
  have E := Mt.eq_self d2
  have el := Mt.el
  have zr := za_rat
  have sq := sa_q q (rZ_size 0 0)
  have kq := la_q q
  have l0 : LA 42 (rowsOf [Mt.c d1, Mt.c d2]) 0 (.agg (Mt.c d1)) := by
    have := la_row (T := 42) (n := 135) (k := 0) (l := [Mt.c d1, Mt.c d2]) (by kernel_rfl) (by kernel_rfl) (by simp [c1, c2]) rfl
    rwa [Nat.zero_mul] at this
  have l1 : LA 42 (rowsOf [Mt.c d1, Mt.c d2]) 135 (.agg (Mt.c d2)) := by
    have := la_row (T := 42) (n := 135) (k := 1) (l := [Mt.c d1, Mt.c d2]) (by kernel_rfl) (by kernel_rfl) (by simp [c1, c2]) rfl
    rwa [Nat.one_mul] at this
  have HSL := fun b => SlAt.made (n := 135) b [Mt.c d1, Mt.c d2] (by simp [c1, c2])
  clear h1 h2
  go_enter Tryz.func18, Tryz.ntmps18
  go_upto_region 5 with (first | first
    | (go_at_call 33; ((with_reducible refine (D1 _).mono ?_); rintro e9 w2 ⟨rfl, hL⟩; replace HM := HM.call hL; clear hL))
    | (go_at_call 33; ((with_reducible refine (D2 _).mono ?_); rintro e9 w2 ⟨rfl, hL⟩; replace HM := HM.call hL; clear hL))
    | (go_at_call 11; ((with_reducible refine (R1 _).mono ?_); rintro e9 w2 ⟨rfl, hL⟩; replace HM := HM.call hL; clear hL))
    | (go_at_call 11; ((with_reducible refine (R0 _).mono ?_); rintro e9 w2 ⟨rfl, hL⟩; replace HM := HM.call hL; clear hL))
    | (go_at_call 26; ((with_reducible refine (S1 _).mono ?_); rintro e9 w2 ⟨rfl, hL⟩; replace HM := HM.call hL; clear hL))
    | ((with_reducible refine g_bs2 ?_); refine a_bs2 (c0 := Mt.c d1) (c1 := Mt.c d2) HM ?_; clear HM; intro bx w1 HM)
    | (go_at_call 13; (with_reducible refine (M1 _ _ ((HSL bx).rd HM (by intro p hp; (repeat (first | exact hp | exact List.mem_append_left _ hp | exact (List.mem_singleton.1 hp) ▸ List.mem_cons_self | apply List.mem_append_right | apply List.mem_cons_of_mem)); done))).mono ?_); rintro e9 w2 ⟨s1, B1, rfl, HS1, HM1⟩; replace HM := HM.join HM1; clear HM1)
    | (go_at_call 15; ((with_reducible refine (F0 _ _ ((HSL bx).rd HM (by intro p hp; (repeat (first | exact hp | exact List.mem_append_left _ hp | exact (List.mem_singleton.1 hp) ▸ List.mem_cons_self | apply List.mem_append_right | apply List.mem_cons_of_mem)); done))).mono ?_); rintro e9 w2 ⟨rfl, hL⟩; replace HM := HM.call hL; clear hL)) | (first | ((with_reducible refine g_ld ?_); refine a_ld HM ?_) | ((with_reducible refine g_st ?_); refine a_st HM ?_; clear HM; intro w1 HM) | ((with_reducible refine g_al ?_); refine a_al HM ?_; clear HM; intro bk w1 HM) | ((with_reducible refine g_bx ?_); refine a_bx HM ?_; clear HM; intro bk w1 HM) | ((with_reducible refine g_bld ?_); refine a_bld ?_)))
  obtain ⟨b, sp, e1, e2, hsz⟩ := SlAt.inv HS1.out (by simp)
  subst e1 e2
  replace HM : Mem w [] [(b, rowsOf ([Mt.c d2] ++ sp)), (bk, Rt.qA q), (bx, rowsOf [Mt.c d1, Mt.c d2])] w2 := HM
  have l2 : LA 42 (rowsOf ([Mt.c d2] ++ sp)) 0 (.agg (Mt.c d2)) := by
    have := la_row (T := 42) (n := 135) (k := 0) (l := [Mt.c d2] ++ sp) (by kernel_rfl) (by kernel_rfl) hsz rfl
    rwa [Nat.zero_mul] at this
  clear HS1 hsz D1 D2 R0 S1 M1 F0 HSL l0
  refine start_M [] HM (by kernel_rfl) (fun w0x H9 => ?_)
  replace HM := H9; clear H9
  refine k_mv 0 (heldE HM) ?_
  refine k_bin 1 (heldE HM) ?_
  refine k_mv 2 (heldE HM) ?_
  refine k_mv 3 (heldE HM) ?_
  refine k_bin 4 (heldE HM) ?_
  refine k_pick 5 (heldE HM) ?_
  refine k_mv 6 (heldE HM) ?_
  refine k_mv 7 (heldE HM) ?_
  refine k_bin 8 (heldE HM) ?_
  refine k_pick 9 (heldE HM) ?_
  refine k_mv 10 (heldE HM) ?_
  refine k_ld 11 [] (heldE HM) ?_
  refine j_one 12 fun K9 hK9 => ?_
  refine j_call2 (v := ?_) HM ?_ ?_; rotate_left 1; (focus (with_reducible (exact R1 _))); clear HM; intro w1 HM
  refine hK9 _ _ (heldE HM) ?_; clear hK9 K9
  refine t_eq (i := 13) (v := ?_) [] rfl rfl rfl (by kernel_rfl) (fun _ _ _ h => h) (heldE HM) ?_ ?_; rotate_left 1; (focus ((refine y_cmpq .eql (q) (q) true (.inl rfl) (by simp) (fq) (fq) (x := ?_) (y := ?_) (t := ?_) ?_ ?_ ?_ ?_; rotate_left 3; (focus rfl); (focus rfl); (focus ((conv => lhs; whnf) <;> rfl)); ((conv => lhs; whnf) <;> rfl)))); ((try simp only [List.setIfInBounds_toArray]); (try simp only [List.set_cons_succ]); (try simp only [List.set_cons_zero]))
  refine k_pick 14 (heldE HM) ?_
  refine k_mv 15 (heldE HM) ?_
  refine k_mv 16 (heldE HM) ?_
  refine k_pv 17 (heldE HM) ?_
  refine k_bin 18 (heldE HM) ?_
  refine k_pick 19 (heldE HM) ?_
  refine k_mv 20 (heldE HM) ?_
  refine k_mv 21 (heldE HM) ?_
  refine k_ia 22 (heldE HM) ?_
  refine k_ld 23 [] (heldE HM) ?_
  refine k_mv 24 (heldE HM) ?_
  refine k_ia 25 (heldE HM) ?_
  refine k_ld 26 [] (heldE HM) ?_
  refine t_eq (i := 27) (v := ?_) [] rfl rfl rfl (by kernel_rfl) (fun _ _ _ h => h) (heldE HM) ?_ ?_; rotate_left 1; (focus ((refine y_cmps .eql true (.inl rfl) (E) rfl (by kernel_rfl) (x := ?_) (y := ?_) (t := ?_) ?_ ?_ ?_ ?_; rotate_left 3; (focus rfl); (focus rfl); (focus ((conv => lhs; whnf) <;> rfl)); ((conv => lhs; whnf) <;> rfl)))); ((try simp only [List.setIfInBounds_toArray]); (try simp only [List.set_cons_succ]); (try simp only [List.set_cons_zero]))
  refine k_pick 28 (heldE HM) ?_
  refine k_mv 29 (heldE HM) ?_
  refine k_mv 30 (heldE HM) ?_
  refine k_bin 31 (heldE HM) ?_
  refine k_pick 32 (heldE HM) ?_
  refine k_mv 33 (heldE HM) ?_
  refine k_mv 34 (heldE HM) ?_
  refine k_pick 35 (heldE HM) ?_
  refine k_mv 36 (heldE HM) ?_
  refine wpAnyL_done (by kernel_rfl) ?_ _
  go_wp2_with fail
  go_ret
  exact ⟨rfl, HM.low⟩
end Go.Proofs.YteamjgifohamgaaGreat
