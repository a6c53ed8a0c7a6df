/- The law BigintTexts, walked. -/
import Derived.Test.YtnfojnlcclccbaaTxtE
import Derived.Test.YtnfojnlcclccbaaTxtRound
import Derived.Test.YtnfojnlcclccbaaBigX
namespace Go.Proofs.Ytnfojnlcclccbaa
set_option maxRecDepth 8000
open Go.RowKit
theorem Tx.prs_lim {L : List Nat} {g : Bool} {z e : Int} (h : (z, e) = Tx.prs L g) : z.natAbs < Bg.lim := by
  have h0 : (0 : Int).natAbs < Bg.lim := Bg.ppos 32
  unfold Tx.prs at h
  split at h
  · obtain ⟨rfl, _⟩ := Prod.mk.inj h; exact h0
  · split at h
    · split at h
      · obtain ⟨rfl, _⟩ := Prod.mk.inj h; rw [Bg.toZ_abs]; assumption
      · obtain ⟨rfl, _⟩ := Prod.mk.inj h; exact h0
    · obtain ⟨rfl, _⟩ := Prod.mk.inj h; exact h0
theorem format_t (s : Bool) (N : Nat) (T : ByteArray) (hN : N < Bg.lim) (hT : Hid (T = Tx.txt s N)) (w : World) :
    Calls Try.prog 7 #[.agg (Bg.intA s N)] w fun r w' => r = .returned (.string T) ∧ Below w.heap.size w w' := by
  rw [hT.out]; exact format_any s N hN w
theorem rformat_t (s : Bool) (N : Nat) (T : ByteArray) (hN : N < Bg.lim) (hT : Hid (T = Tx.txt s N)) (w : World) :
    Calls Try.prog 9 #[.agg (Bg.intA s N)] w fun r w' => r = .returned (.string T) ∧ Below w.heap.size w w' := by
  rw [hT.out]; exact rformat_any s N hN w
theorem rneg_zz (z y : Int) (hz : z.natAbs < Bg.lim) (hy : Hid (y = -z)) (w : World) :
    Calls Try.prog 10 #[.agg (Bg.zA z)] w fun e w' => e = .returned (.agg (Bg.zA y)) ∧ Below w.heap.size w w' := by
  rw [zA_int z]
  exact rneg_any _ _ y hz (Lib.hid (by rw [Bg.toZ_iv]; exact hy.out)) w
set_option maxRecDepth 100000 in
set_option maxHeartbeats 4000000 in
theorem texts_any (s : Bool) (N : Nat) (str : ByteArray) (w : World) (hN : N < Bg.lim) (_h : str.size ≤ maxLen) :
    Calls Try.prog 3 #[.agg (Bg.intA s N), .string str] w fun e w' => e = .returned (.bool true) ∧ Below w.heap.size w w' := by
  have HM := Mem.start w
  obtain ⟨D, g, hD⟩ : ∃ D g, Hid ((D, g) = Tx.cut str) := ⟨_, _, Lib.hid rfl⟩
  obtain ⟨n, e, hr⟩ : ∃ n e, Hid ((n, e) = Tx.prs (Tx.ns D) g) := ⟨_, _, Lib.hid rfl⟩
  obtain ⟨T, hT⟩ : ∃ T, Hid (T = Tx.txt s N) := ⟨_, Lib.hid rfl⟩
  obtain ⟨D2, g2, hD2⟩ : ∃ D g, Hid ((D, g) = Tx.cut T) := ⟨_, _, Lib.hid rfl⟩
  obtain ⟨z, hz⟩ : ∃ z, Hid (z = Bg.toZ s N) := ⟨_, Lib.hid rfl⟩
  have hr2 : Hid ((z, (0 : Int)) = Tx.prs (Tx.ns D2) g2) := Lib.hid (by
    have h := Tx.prs_txt s N hN
    rw [← hT.out, ← hD2.out, ← hz.out] at h
    exact h.symm)
  obtain ⟨y, hy⟩ : ∃ y, Hid (y = -Bg.toZ s N) := ⟨_, Lib.hid rfl⟩
  have hy2 : Hid (z = -y) := Lib.hid (by rw [hy.out, hz.out]; omega)
  have ln : n.natAbs < Bg.lim := Tx.prs_lim hr.out
  have lz : z.natAbs < Bg.lim := by rw [hz.out, Bg.toZ_abs]; exact hN
  have ly : y.natAbs < Bg.lim := by rw [hy.out, Int.natAbs_neg, Bg.toZ_abs]; exact hN
  go_enter Try.func3, Try.ntmps3
  go_upto_region 5 with (first | first
    | (go_at_call 5; ((with_reducible refine (parse_any str D g hD n e hr _).mono ?_); rintro e9 w2 ⟨rfl, hL⟩; replace HM := HM.call hL; clear hL))
    | (go_at_call 5; ((with_reducible refine (parse_any T D2 g2 hD2 z 0 hr2 _).mono ?_); rintro e9 w2 ⟨rfl, hL⟩; replace HM := HM.call hL; clear hL))
    | (go_at_call 6; ((with_reducible refine (rparse_any str D g hD n e hr _).mono ?_); rintro e9 w2 ⟨rfl, hL⟩; replace HM := HM.call hL; clear hL))
    | (go_at_call 7; ((with_reducible refine (format_t s N T hN hT _).mono ?_); rintro e9 w2 ⟨rfl, hL⟩; replace HM := HM.call hL; clear hL)) | (first | ((with_reducible refine g_ld ?_); refine a_ld HM ?_) | ((with_reducible refine g_st ?_); refine a_st HM ?_; clear HM; intro w1 HM) | ((with_reducible refine g_al ?_); refine a_al HM ?_; clear HM; intro bk w1 HM) | ((with_reducible refine g_bx ?_); refine a_bx HM ?_; clear HM; intro bk w1 HM) | ((with_reducible refine g_bld ?_); refine a_bld ?_)))
  refine start_M [] HM (by kernel_rfl) (fun w0x H9 => ?_)
  replace HM := H9; clear H9
  refine j_one 0 fun K9 hK9 => ?_
  refine j_call0 (v := ?_) HM ?_ ?_; rotate_left 1; (focus (with_reducible (first | exact known_any _ | exact rformat_t s N T hN hT _ | exact rneg_zz y z ly hy2 _ | exact rneg_any s N y hN hy _))); clear HM; intro w1 HM
  refine hK9 _ _ (heldE HM) ?_; clear hK9 K9
  refine k_mv 1 (heldE HM) ?_
  refine k_ld 2 [] (heldE HM) ?_
  refine k_ld 3 [] (heldE HM) ?_
  refine t_eq (i := 4) (v := ?_) [] rfl rfl rfl (by kernel_rfl) (fun _ _ _ h => h) (heldE HM) ?_ ?_; rotate_left 1; (focus ((refine y_cmpz .eql (n) (n) true (.inl rfl) (by simp) (ln) (ln) (x := ?_) (y := ?_) (t := ?_) ?_ ?_ ?_ ?_; rotate_left 3; (focus rfl); (focus rfl); (focus ((conv => lhs; whnf) <;> rfl)); ((conv => lhs; whnf) <;> rfl)))); ((try simp only [List.setIfInBounds_toArray]); (try simp only [List.set_cons_succ]); (try simp only [List.set_cons_zero]))
  refine k_pick 5 (heldE HM) ?_
  refine k_mv 6 (heldE HM) ?_
  refine k_mv 7 (heldE HM) ?_
  refine k_mv 8 (heldE HM) ?_
  refine k_bin 9 (heldE HM) ?_
  refine k_pick 10 (heldE HM) ?_
  refine k_mv 11 (heldE HM) ?_
  refine k_mv 12 (heldE HM) ?_
  refine k_ld 13 [] (heldE HM) ?_
  refine j_one 14 fun K9 hK9 => ?_
  refine j_call1 (v := ?_) HM ?_ ?_; rotate_left 1; (focus (with_reducible (first | exact known_any _ | exact rformat_t s N T hN hT _ | exact rneg_zz y z ly hy2 _ | exact rneg_any s N y hN hy _))); clear HM; intro w1 HM
  refine hK9 _ _ (heldE HM) ?_; clear hK9 K9
  refine k_bin 15 (heldE HM) ?_
  refine k_pick 16 (heldE HM) ?_
  refine k_mv 17 (heldE HM) ?_
  refine k_mv 18 (heldE HM) ?_
  refine k_bin 19 (heldE HM) ?_
  refine k_pick 20 (heldE HM) ?_
  refine k_mv 21 (heldE HM) ?_
  refine k_ld 22 [] (heldE HM) ?_
  refine k_ld 23 [] (heldE HM) ?_
  refine j_one 24 fun K9 hK9 => ?_
  refine j_call1 (v := ?_) HM ?_ ?_; rotate_left 1; (focus (with_reducible (first | exact known_any _ | exact rformat_t s N T hN hT _ | exact rneg_zz y z ly hy2 _ | exact rneg_any s N y hN hy _))); clear HM; intro w1 HM
  refine hK9 _ _ (heldE HM) ?_; clear hK9 K9
  refine j_one 25 fun K9 hK9 => ?_
  refine j_call1 (v := ?_) HM ?_ ?_; rotate_left 1; (focus (with_reducible (first | exact known_any _ | exact rformat_t s N T hN hT _ | exact rneg_zz y z ly hy2 _ | exact rneg_any s N y hN hy _))); clear HM; intro w1 HM
  refine hK9 _ _ (heldE HM) ?_; clear hK9 K9
  refine t_eq (i := 26) (v := ?_) [] rfl rfl rfl (by kernel_rfl) (fun _ _ _ h => h) (heldE HM) ?_ ?_; rotate_left 1; (focus ((refine y_cmpz .eql (z) (z) true (.inl rfl) (by simp) (lz) (lz) (x := ?_) (y := ?_) (t := ?_) ?_ ?_ ?_ ?_; rotate_left 3; (focus rfl); (focus rfl); (focus ((conv => lhs; whnf) <;> rfl)); ((conv => lhs; whnf) <;> rfl)))); ((try simp only [List.setIfInBounds_toArray]); (try simp only [List.set_cons_succ]); (try simp only [List.set_cons_zero]))
  refine k_pick 27 (heldE HM) ?_
  refine k_mv 28 (heldE HM) ?_
  refine wpAnyL_done (by kernel_rfl) ?_ _
  go_wp2_with fail
  go_ret
  exact ⟨rfl, HM.low⟩
end Go.Proofs.Ytnfojnlcclccbaa
