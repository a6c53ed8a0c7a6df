/- The law RatioSingles, walked: the functions of one ratio. -/
import Derived.Test.YtekfabhmopkapaaRatF
import Derived.Test.YtekfabhmopkapaaRatL
namespace Go.Proofs.Ytekfabhmopkapaa
set_option maxRecDepth 8000
open Go.RowKit
set_option maxRecDepth 100000 in
set_option maxHeartbeats 8000000 in
theorem singles_any (s : Bool) (M : Nat) (t : Bool) (N : Nat) (w : World) (hM : M < Bg.lim) (hN : N < Bg.lim) :
    Calls Try.prog 8 #[.agg (Bg.ratA s M t N)] w fun e w' => e = .returned (.bool true) ∧ Below w.heap.size w w' := by
  have HM := Mem.start w
  obtain ⟨n1, d1, e1, h1⟩ : ∃ n d e : Int, Hid ((n, d, e) = if Rt.ok s M t N then (-Bg.toZ s M, Bg.toZ t N, 0) else (0, 0, 20)) := ⟨_, _, _, rfl⟩
  obtain ⟨n2, d2, e2, h2⟩ : ∃ n d e : Int, Hid ((n, d, e) = if Rt.ok s M t N then ((M : Int), Bg.toZ t N, 0) else (0, 0, 20)) := ⟨_, _, _, rfl⟩
  obtain ⟨n3, e3, h3⟩ : ∃ n e : Int, Hid ((n, e) = if Rt.ok s M t N then ((Bg.toZ s M).sign, 0) else (0, 20)) := ⟨_, _, rfl⟩
  obtain ⟨n4, e4, h4⟩ : ∃ n e : Int, Hid ((n, e) = if Rt.ok s M t N then (Bg.toZ s M / Bg.toZ t N, 0) else (0, 20)) := ⟨_, _, rfl⟩
  have l0 : ((0 : Int)).natAbs < Bg.lim := Bg.ppos 32
  have lM : (Bg.toZ s M).natAbs < Bg.lim := by rw [Bg.toZ_abs]; exact hM
  have lN : (Bg.toZ t N).natAbs < Bg.lim := by rw [Bg.toZ_abs]; exact hN
  have b1 : n1.natAbs < Bg.lim ∧ d1.natAbs < Bg.lim := by
    have h := h1.out
    split at h <;> simp at h <;> obtain ⟨rfl, rfl, _⟩ := h
    · exact ⟨by rw [Int.natAbs_neg]; exact lM, lN⟩
    · exact ⟨l0, l0⟩
  have b2 : n2.natAbs < Bg.lim ∧ d2.natAbs < Bg.lim := by
    have h := h2.out
    split at h <;> simp at h <;> obtain ⟨rfl, rfl, _⟩ := h
    · exact ⟨by rw [Int.natAbs_natCast]; exact hM, lN⟩
    · exact ⟨l0, l0⟩
  have b4 : n4.natAbs < Bg.lim := by
    have h := h4.out
    split at h <;> simp at h <;> obtain ⟨rfl, _⟩ := h
    · exact ediv_lt lM
    · exact l0
  obtain ⟨l1, l2⟩ := b1
  obtain ⟨l3, l4⟩ := b2
  have hz0 := za_rat
  have s1 := sa_rz n1 d1 (rZ_size 0 0)
  have s2 := sa_rz n2 d2 (rZ_size 0 0)
  have k0 := la_rat s M t N
  have k1 := la_rz n1 d1
  have k2 := la_rz n2 d2
  clear lM lN
  go_enter Try.func8, Try.ntmps8
  go_wp2_with (first | first
    | (go_at_call 41; ((with_reducible refine (Neg_g s M t N n1 d1 e1 h1 hM hN _).mono ?_); rintro e9 w2 ⟨rfl, hL⟩; replace HM := HM.call hL; clear hL))
    | (go_at_call 42; ((with_reducible refine (rNeg_g s M t N n1 d1 e1 h1 hM hN _).mono ?_); rintro e9 w2 ⟨rfl, hL⟩; replace HM := HM.call hL; clear hL))
    | (go_at_call 43; ((with_reducible refine (Abs_g s M t N n2 d2 e2 h2 hM hN _).mono ?_); rintro e9 w2 ⟨rfl, hL⟩; replace HM := HM.call hL; clear hL))
    | (go_at_call 44; ((with_reducible refine (rAbs_g s M t N n2 d2 e2 h2 hM hN _).mono ?_); rintro e9 w2 ⟨rfl, hL⟩; replace HM := HM.call hL; clear hL))
    | (go_at_call 45; ((with_reducible refine (Sign_g s M t N n3 e3 h3 hM hN _).mono ?_); rintro e9 w2 ⟨rfl, hL⟩; replace HM := HM.call hL; clear hL))
    | (go_at_call 46; ((with_reducible refine (rSign_g s M t N n3 e3 h3 hM hN _).mono ?_); rintro e9 w2 ⟨rfl, hL⟩; replace HM := HM.call hL; clear hL))
    | (go_at_call 39; ((with_reducible refine (Floor_g s M t N n4 e4 h4 hM hN _).mono ?_); rintro e9 w2 ⟨rfl, hL⟩; replace HM := HM.call hL; clear hL))
    | (go_at_call 47; ((with_reducible refine (rFloor_g s M t N n4 e4 h4 hM hN _).mono ?_); rintro e9 w2 ⟨rfl, hL⟩; replace HM := HM.call hL; clear hL))
    | (go_at_call 16; ((with_reducible refine (rknown_any _).mono ?_); rintro e9 w2 ⟨rfl, hL⟩; replace HM := HM.call hL; clear hL))
    | ((with_reducible refine m_cmpr .eql (n1) (d1) (n1) (d1) true (.inl rfl) (by simp) (l1) (l2) (l1) (l2) ?_ ?_ ?_ ?_); (focus (first | exact Or.inl rfl | exact Or.inr ⟨_, _, _, rfl, rfl, rfl⟩)); (focus ((conv => lhs; whnf) <;> rfl)); (focus ((conv => lhs; whnf) <;> rfl)); ((try simp only [Act.put]); (try simp only [List.setIfInBounds_toArray]); (try simp only [List.set_cons_succ]); (try simp only [List.set_cons_zero])))
    | ((with_reducible refine m_cmpr .eql (n2) (d2) (n2) (d2) true (.inl rfl) (by simp) (l3) (l4) (l3) (l4) ?_ ?_ ?_ ?_); (focus (first | exact Or.inl rfl | exact Or.inr ⟨_, _, _, rfl, rfl, rfl⟩)); (focus ((conv => lhs; whnf) <;> rfl)); (focus ((conv => lhs; whnf) <;> rfl)); ((try simp only [Act.put]); (try simp only [List.setIfInBounds_toArray]); (try simp only [List.set_cons_succ]); (try simp only [List.set_cons_zero])))
    | ((with_reducible refine m_cmpz .eql (n4) (n4) true (.inl rfl) (by simp) (b4) (b4) ?_ ?_ ?_ ?_); (focus (first | exact Or.inl rfl | exact Or.inr ⟨_, _, _, rfl, rfl, rfl⟩)); (focus ((conv => lhs; whnf) <;> rfl)); (focus ((conv => lhs; whnf) <;> rfl)); ((try simp only [Act.put]); (try simp only [List.setIfInBounds_toArray]); (try simp only [List.set_cons_succ]); (try simp only [List.set_cons_zero]))) | (first | ((with_reducible refine m_ld (b := ?_) (k := ?_) (c := ?_) (v := ?_) ?_ ?_ ?_ ?_ ?_); rotate_left 4; (focus (first | exact Or.inl rfl | exact Or.inr ⟨_, _, _, rfl, rfl, rfl⟩)); (focus ((conv => lhs; whnf) <;> rfl)); (focus (first | (refine HM.get ?_; ((repeat (first | exact Look.here | refine Look.there ?_)); done)) | (refine HM.ro (Hid.out ?_) ?_; (focus assumption); (focus simp)))); (focus (first | (with_reducible assumption) | exact la_z _ | exact la_i _ _ | exact la_mag _ | exact la_arr _ | exact la_fldz _ | exact la_fld _ _ | exact la_negz _ | exact la_neg _ _ | assumption | exact LA.one (by kernel_rfl) rfl)); ((try simp only [Act.put]); (try simp only [List.setIfInBounds_toArray]); (try simp only [List.set_cons_succ]); (try simp only [List.set_cons_zero]))) | ((with_reducible refine m_st (b := ?_) (k := ?_) (c := ?_) (c' := ?_) (L' := ?_) (v := ?_) HM ?_ ?_ ?_ ?_ ?_ ?_); rotate_left 6; (focus (first | exact Or.inl rfl | exact Or.inr ⟨_, _, _, rfl, rfl, rfl⟩)); (focus ((conv => lhs; whnf) <;> rfl)); (focus ((conv => lhs; whnf) <;> rfl)); (focus (repeat (first | exact At.here | (refine At.there (L' := ?_) ?_; rotate_left 1)))); (focus (first | (with_reducible assumption) | ((first | refine sa_z _ ?_ | refine sa_i _ _ ?_ | refine sa_mag _ ?_ | refine sa_arr _ ?_); (first | exact zA_size _ | exact Bg.intA_size _ _ | exact Bg.row_size _ _)) | exact sa_neg _ _ _ | assumption)); clear HM; intro w1 HM; ((try simp only [Act.put]); (try simp only [List.setIfInBounds_toArray]); (try simp only [List.set_cons_succ]); (try simp only [List.set_cons_zero]))) | ((with_reducible refine m_al (c := ?_) HM ?_ ?_ ?_); rotate_left 1; (focus (first | exact Or.inl rfl | exact Or.inr ⟨_, _, _, rfl, rfl, rfl⟩)); (focus (first | (with_reducible assumption) | exact za_int | exact za_mag | exact za_arr | assumption)); clear HM; intro bk w1 HM; ((try simp only [Act.put]); (try simp only [List.setIfInBounds_toArray]); (try simp only [List.set_cons_succ]); (try simp only [List.set_cons_zero]))) | ((with_reducible refine m_bx (c := ?_) (v := ?_) HM ?_ ?_ ?_ ?_); rotate_left 2; (focus (first | exact Or.inl rfl | exact Or.inr ⟨_, _, _, rfl, rfl, rfl⟩)); (focus ((conv => lhs; whnf) <;> rfl)); (focus ((conv => lhs; whnf) <;> rfl)); clear HM; intro bk w1 HM; ((try simp only [Act.put]); (try simp only [List.setIfInBounds_toArray]); (try simp only [List.set_cons_succ]); (try simp only [List.set_cons_zero]))) | ((with_reducible refine m_bld (v := ?_) ?_ ?_ ?_); rotate_left 1; (focus (first | exact Or.inl rfl | exact Or.inr ⟨_, _, _, rfl, rfl, rfl⟩)); (focus (first | (refine h_bi (x := ?_) (y := ?_) (s := ?_) (N := ?_) ?_ ?_ ?_; rotate_left 4; (focus rfl); (focus rfl); (focus rfl)) | (refine h_b0 ?_; rfl))); ((try simp only [Act.put]); (try simp only [List.setIfInBounds_toArray]); (try simp only [List.set_cons_succ]); (try simp only [List.set_cons_zero])))))
  go_ret
  exact ⟨rfl, HM.low⟩
end Go.Proofs.Ytekfabhmopkapaa
