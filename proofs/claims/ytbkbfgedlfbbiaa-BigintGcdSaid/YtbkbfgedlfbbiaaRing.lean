/- The law BigintRing, walked: numbers of at most 330 bits form a commutative ring. -/
import Derived.Test.YtbkbfgedlfbbiaaMakeI
import Derived.Test.YtbkbfgedlfbbiaaBigX
namespace Go.Proofs.Ytbkbfgedlfbbiaa
open Go.RowKit
theorem add_f (p d z : Int) (hp : p.natAbs < Bg.lim) (hd : d.natAbs < Bg.lim) (hz : Hid (z = p + d)) (hl : z.natAbs < Bg.lim) (w : World) :
    Calls Try.prog 28 #[.agg (Bg.zA p), .agg (Bg.zA d)] w fun r w' => r = .returned (.tuple #[.agg (Bg.zA z), .int .i64 0]) ∧ Below w.heap.size w w' :=
  add_z p d z 0 z hp hd hz (Lib.hid (by unfold Bg.resZ; rw [if_pos hl])) (Lib.hid (by unfold Bg.resE; rw [if_pos hl])) w
theorem mul_f (p d z : Int) (hp : p.natAbs < Bg.lim) (hd : d.natAbs < Bg.lim) (hz : Hid (z = p * d)) (hl : z.natAbs < Bg.lim) (w : World) :
    Calls Try.prog 27 #[.agg (Bg.zA p), .agg (Bg.zA d)] w fun r w' => r = .returned (.tuple #[.agg (Bg.zA z), .int .i64 0]) ∧ Below w.heap.size w w' :=
  mul_z p d z 0 z hp hd hz (Lib.hid (by unfold Bg.resZ; rw [if_pos hl])) (Lib.hid (by unfold Bg.resE; rw [if_pos hl])) w
theorem sub_f (p d z : Int) (hp : p.natAbs < Bg.lim) (hd : d.natAbs < Bg.lim) (hz : Hid (z = p - d)) (hl : z.natAbs < Bg.lim) (w : World) :
    Calls Try.prog 29 #[.agg (Bg.zA p), .agg (Bg.zA d)] w fun r w' => r = .returned (.tuple #[.agg (Bg.zA z), .int .i64 0]) ∧ Below w.heap.size w w' := by
  rw [zA_int p, zA_int d, zA_int z, ← zA_int z, ← Bg.resV_yes hl]
  exact sub_any0 _ _ _ _ hp hd z (Lib.hid (by rw [Bg.toZ_iv, Bg.toZ_iv]; exact hz.out)) w
theorem Bg.p2_990 {z : Int} (h : z.natAbs < Bg.p2 1024) : z.natAbs < Bg.lim := by rwa [Bg.p2_lim] at h
theorem Bg.add_bits {p d : Int} {i : Nat} (hp : p.natAbs < Bg.p2 i) (hd : d.natAbs < Bg.p2 i) : (p + d).natAbs < Bg.p2 (i + 1) := by
  rw [Bg.p2_succ]; omega
theorem Bg.mul_bits {p d : Int} {i j : Nat} (hp : p.natAbs < Bg.p2 i) (hd : d.natAbs < Bg.p2 j) : (p * d).natAbs < Bg.p2 (i + j) := by
  rw [Int.natAbs_mul, Bg.p2_add]
  exact Nat.mul_lt_mul'' hp hd
theorem Bg.up {z : Int} {i : Nat} (h : z.natAbs < Bg.p2 i) (hi : i ≤ 1024) : z.natAbs < Bg.lim := by
  have := Bg.p2_mono hi
  rw [Bg.p2_lim] at this
  omega
set_option maxRecDepth 100000 in
set_option maxHeartbeats 4000000 in
theorem ring_any (A : Option Addr) (xs : List Int) (c0 : Nat) (W : World) (hI : IntsAt W A xs) (hxl : xs.length ≤ 9223372036854775807) :
    Calls Try.prog 6 #[.slice A xs.length c0] W fun e w' => e = .returned (.bool true) ∧ Below W.heap.size W w' := by
  have HM := Mem.start W
  have HI := Lib.hid hI
  clear hI
  go_enter Try.func6, Try.ntmps6
  go_upto_region 2 with (first | fail | (first | ((with_reducible refine m_ld (b := ?_) (k := ?_) (c := ?_) (v := ?_) ?_ ?_ ?_ ?_ ?_); rotate_left 4; (focus (first | exact Or.inl rfl | exact Or.inr ⟨_, _, _, rfl, rfl, rfl⟩)); (focus ((conv => lhs; whnf) <;> rfl)); (focus (first | (refine HM.get ?_; ((repeat (first | exact Look.here | refine Look.there ?_)); done)) | (refine HM.ro (Hid.out ?_) ?_; (focus assumption); (focus simp)))); (focus (first | exact la_z _ | exact la_i _ _ | exact la_mag _ | exact la_arr _ | exact la_fldz _ | exact la_fld _ _ | exact la_negz _ | exact la_neg _ _ | assumption | exact LA.one (by kernel_rfl) rfl)); ((try simp only [Act.put]); (try simp only [List.setIfInBounds_toArray]); (try simp only [List.set_cons_succ]); (try simp only [List.set_cons_zero]))) | ((with_reducible refine m_st (b := ?_) (k := ?_) (c := ?_) (c' := ?_) (L' := ?_) (v := ?_) HM ?_ ?_ ?_ ?_ ?_ ?_); rotate_left 6; (focus (first | exact Or.inl rfl | exact Or.inr ⟨_, _, _, rfl, rfl, rfl⟩)); (focus ((conv => lhs; whnf) <;> rfl)); (focus ((conv => lhs; whnf) <;> rfl)); (focus (repeat (first | exact At.here | (refine At.there (L' := ?_) ?_; rotate_left 1)))); (focus (first | (refine sa_z _ ?_; (first | exact zA_size _ | exact Bg.intA_size _ _ | exact Bg.row_size _ _)) | (refine sa_i _ _ ?_; (first | exact zA_size _ | exact Bg.intA_size _ _ | exact Bg.row_size _ _)) | (refine sa_mag _ ?_; (first | exact zA_size _ | exact Bg.intA_size _ _ | exact Bg.row_size _ _)) | (refine sa_arr _ ?_; (first | exact zA_size _ | exact Bg.intA_size _ _ | exact Bg.row_size _ _)) | exact sa_neg _ _ _ | assumption)); clear HM; intro w1 HM; ((try simp only [Act.put]); (try simp only [List.setIfInBounds_toArray]); (try simp only [List.set_cons_succ]); (try simp only [List.set_cons_zero]))) | ((with_reducible refine m_al (c := ?_) HM ?_ ?_ ?_); rotate_left 1; (focus (first | exact Or.inl rfl | exact Or.inr ⟨_, _, _, rfl, rfl, rfl⟩)); (focus (first | exact za_int | exact za_mag | exact za_arr | assumption)); clear HM; intro bk w1 HM; ((try simp only [Act.put]); (try simp only [List.setIfInBounds_toArray]); (try simp only [List.set_cons_succ]); (try simp only [List.set_cons_zero]))) | ((with_reducible refine m_bx (c := ?_) (v := ?_) HM ?_ ?_ ?_ ?_); rotate_left 2; (focus (first | exact Or.inl rfl | exact Or.inr ⟨_, _, _, rfl, rfl, rfl⟩)); (focus ((conv => lhs; whnf) <;> rfl)); (focus ((conv => lhs; whnf) <;> rfl)); clear HM; intro bk w1 HM; ((try simp only [Act.put]); (try simp only [List.setIfInBounds_toArray]); (try simp only [List.set_cons_succ]); (try simp only [List.set_cons_zero]))) | ((with_reducible refine m_bld (v := ?_) ?_ ?_ ?_); rotate_left 1; (focus (first | exact Or.inl rfl | exact Or.inr ⟨_, _, _, rfl, rfl, rfl⟩)); (focus (first | (refine h_bi (x := ?_) (y := ?_) (s := ?_) (N := ?_) ?_ ?_ ?_; rotate_left 4; (focus rfl); (focus rfl); (focus rfl)) | (refine h_b0 ?_; rfl))); ((try simp only [Act.put]); (try simp only [List.setIfInBounds_toArray]); (try simp only [List.set_cons_succ]); (try simp only [List.set_cons_zero])))))
  obtain ⟨tb, rfl⟩ := HM.nm0
  have HC : Hid (TapeC W 0 #[.slice A xs.length c0, .int .i64 0]) := ⟨A, xs, c0, 0, rfl, by omega, by omega, HI.out, hxl⟩
  have H0 : Hid (Below W.heap.size W W) := Below.refl _ _
  have hle : ∀ b ∈ ([] : List Nat), W.heap.size ≤ b := by simp
  go_wp2_with fail
  (refine (int_any W tb _ 330 _ (HM.tp (by ((repeat (first | exact Look.here | refine Look.there ?_)); done)) HC.out H0.out hle) (by omega) (by omega) (by omega)).mono ?_; rintro e9 w2 ⟨ia, rfl, ha, ⟨c1, hb1, hc1, -, -⟩, hg9⟩; replace HM := HM.put (c' := c1) (by (repeat (first | exact At.here | apply At.there))) hb1 (Only.of_grown hg9); clear hg9 hb1; replace HC := Lib.hid hc1; clear hc1)
  go_wp2_with fail
  (refine (int_any W tb _ 330 _ (HM.tp (by ((repeat (first | exact Look.here | refine Look.there ?_)); done)) HC.out H0.out hle) (by omega) (by omega) (by omega)).mono ?_; rintro e9 w2 ⟨ib, rfl, hb, ⟨c1, hb1, hc1, -, -⟩, hg9⟩; replace HM := HM.put (c' := c1) (by (repeat (first | exact At.here | apply At.there))) hb1 (Only.of_grown hg9); clear hg9 hb1; replace HC := Lib.hid hc1; clear hc1)
  go_wp2_with fail
  (refine (int_any W tb _ 330 _ (HM.tp (by ((repeat (first | exact Look.here | refine Look.there ?_)); done)) HC.out H0.out hle) (by omega) (by omega) (by omega)).mono ?_; rintro e9 w2 ⟨ic, rfl, hc, ⟨c1, hb1, hc1, -, -⟩, hg9⟩; replace HM := HM.put (c' := c1) (by (repeat (first | exact At.here | apply At.there))) hb1 (Only.of_grown hg9); clear hg9 hb1; replace HC := Lib.hid hc1; clear hc1)
  obtain ⟨S1, hS1⟩ : ∃ S1, Hid (S1 = ia + ib) := ⟨_, rfl⟩
  obtain ⟨S2, hS2⟩ : ∃ S2, Hid (S2 = ib + ic) := ⟨_, rfl⟩
  obtain ⟨S3, hS3⟩ : ∃ S3, Hid (S3 = S1 + ic) := ⟨_, rfl⟩
  obtain ⟨P, hP⟩ : ∃ P, Hid (P = ia * ib) := ⟨_, rfl⟩
  obtain ⟨R, hR⟩ : ∃ R, Hid (R = ib * ic) := ⟨_, rfl⟩
  obtain ⟨T, hT⟩ : ∃ T, Hid (T = P * ic) := ⟨_, rfl⟩
  obtain ⟨D, hD⟩ : ∃ D, Hid (D = ia * S2) := ⟨_, rfl⟩
  obtain ⟨C, hC⟩ : ∃ C, Hid (C = ia * ic) := ⟨_, rfl⟩
  have hS3' : Hid (S3 = ia + S2) := Lib.hid (by rw [hS3.out, hS1.out, hS2.out]; omega)
  have hP' : Hid (P = ib * ia) := Lib.hid (by rw [hP.out, Int.mul_comm])
  have hT' : Hid (T = ia * R) := Lib.hid (by rw [hT.out, hP.out, hR.out, Int.mul_assoc])
  have hD' : Hid (D = P + C) := Lib.hid (by rw [hD.out, hS2.out, hP.out, hC.out, Int.mul_add])
  have hB' : Hid (ia = S1 - ib) := Lib.hid (by rw [hS1.out]; omega)
  have hS1' : Hid (S1 = ib + ia) := Lib.hid (by rw [hS1.out]; omega)
  have b1 : S1.natAbs < Bg.p2 331 := by rw [hS1.out]; exact Bg.add_bits ha hb
  have b2 : S2.natAbs < Bg.p2 331 := by rw [hS2.out]; exact Bg.add_bits hb hc
  have b4 : P.natAbs < Bg.p2 660 := by rw [hP.out]; exact Bg.mul_bits ha hb
  have b5 : R.natAbs < Bg.p2 660 := by rw [hR.out]; exact Bg.mul_bits hb hc
  have b8 : C.natAbs < Bg.p2 660 := by rw [hC.out]; exact Bg.mul_bits ha hc
  have b6 : T.natAbs < Bg.p2 990 := by rw [hT.out]; exact Bg.mul_bits b4 hc
  have b7 : D.natAbs < Bg.p2 661 := by rw [hD.out]; exact Bg.mul_bits ha b2
  have lc' := Nat.lt_of_lt_of_le hc (Bg.p2_mono (show 330 ≤ 331 by decide))
  have l3 : S3.natAbs < Bg.lim := by rw [hS3.out]; exact Bg.up (Bg.add_bits b1 lc') (by decide)
  have la := Bg.up ha (by decide)
  have lb := Bg.up hb (by decide)
  have lc := Bg.up hc (by decide)
  have l1 := Bg.up b1 (by decide)
  have l2 := Bg.up b2 (by decide)
  have l4 := Bg.up b4 (by decide)
  have l5 := Bg.up b5 (by decide)
  have l6 := Bg.up b6 (by decide)
  have l7 := Bg.up b7 (by decide)
  have l8 := Bg.up b8 (by decide)
  clear b1 b2 b4 b5 b6 b7 b8 lc' ha hb hc HC
  go_wp2_with (first | first
    | (go_at_call 28; ((with_reducible refine (add_f ia ib S1 la lb hS1 l1 _).mono ?_); rintro e9 w2 ⟨rfl, hL⟩; replace HM := HM.call hL; clear hL))
    | (go_at_call 28; ((with_reducible refine (add_f ib ic S2 lb lc hS2 l2 _).mono ?_); rintro e9 w2 ⟨rfl, hL⟩; replace HM := HM.call hL; clear hL))
    | (go_at_call 28; ((with_reducible refine (add_f S1 ic S3 l1 lc hS3 l3 _).mono ?_); rintro e9 w2 ⟨rfl, hL⟩; replace HM := HM.call hL; clear hL))
    | (go_at_call 28; ((with_reducible refine (add_f ia S2 S3 la l2 hS3' l3 _).mono ?_); rintro e9 w2 ⟨rfl, hL⟩; replace HM := HM.call hL; clear hL))
    | (go_at_call 28; ((with_reducible refine (add_f ib ia S1 lb la hS1' l1 _).mono ?_); rintro e9 w2 ⟨rfl, hL⟩; replace HM := HM.call hL; clear hL))
    | (go_at_call 28; ((with_reducible refine (add_f P C D l4 l8 hD' l7 _).mono ?_); rintro e9 w2 ⟨rfl, hL⟩; replace HM := HM.call hL; clear hL))
    | (go_at_call 27; ((with_reducible refine (mul_f ia ib P la lb hP l4 _).mono ?_); rintro e9 w2 ⟨rfl, hL⟩; replace HM := HM.call hL; clear hL))
    | (go_at_call 27; ((with_reducible refine (mul_f ib ia P lb la hP' l4 _).mono ?_); rintro e9 w2 ⟨rfl, hL⟩; replace HM := HM.call hL; clear hL))
    | (go_at_call 27; ((with_reducible refine (mul_f P ic T l4 lc hT l6 _).mono ?_); rintro e9 w2 ⟨rfl, hL⟩; replace HM := HM.call hL; clear hL))
    | (go_at_call 27; ((with_reducible refine (mul_f ib ic R lb lc hR l5 _).mono ?_); rintro e9 w2 ⟨rfl, hL⟩; replace HM := HM.call hL; clear hL))
    | (go_at_call 27; ((with_reducible refine (mul_f ia R T la l5 hT' l6 _).mono ?_); rintro e9 w2 ⟨rfl, hL⟩; replace HM := HM.call hL; clear hL))
    | (go_at_call 27; ((with_reducible refine (mul_f ia S2 D la l2 hD l7 _).mono ?_); rintro e9 w2 ⟨rfl, hL⟩; replace HM := HM.call hL; clear hL))
    | (go_at_call 27; ((with_reducible refine (mul_f ia ic C la lc hC l8 _).mono ?_); rintro e9 w2 ⟨rfl, hL⟩; replace HM := HM.call hL; clear hL))
    | (go_at_call 29; ((with_reducible refine (sub_f S1 ib ia l1 lb hB' la _).mono ?_); rintro e9 w2 ⟨rfl, hL⟩; replace HM := HM.call hL; clear hL))
    | (go_at_call 15; ((with_reducible refine (known_any _).mono ?_); rintro e9 w2 ⟨rfl, hL⟩; replace HM := HM.call hL; clear hL))
    | ((with_reducible refine m_cmpz .eql (S3) (S3) true (.inl rfl) (by simp) (l3) (l3) ?_ ?_ ?_ ?_); (focus (first | exact Or.inl rfl | exact Or.inr ⟨_, _, _, rfl, rfl, rfl⟩)); (focus ((conv => lhs; whnf) <;> rfl)); (focus ((conv => lhs; whnf) <;> rfl)); ((try simp only [Act.put]); (try simp only [List.setIfInBounds_toArray]); (try simp only [List.set_cons_succ]); (try simp only [List.set_cons_zero]))) | ((with_reducible refine m_cmpz .eql (S1) (S1) true (.inl rfl) (by simp) (l1) (l1) ?_ ?_ ?_ ?_); (focus (first | exact Or.inl rfl | exact Or.inr ⟨_, _, _, rfl, rfl, rfl⟩)); (focus ((conv => lhs; whnf) <;> rfl)); (focus ((conv => lhs; whnf) <;> rfl)); ((try simp only [Act.put]); (try simp only [List.setIfInBounds_toArray]); (try simp only [List.set_cons_succ]); (try simp only [List.set_cons_zero]))) | ((with_reducible refine m_cmpz .eql (P) (P) true (.inl rfl) (by simp) (l4) (l4) ?_ ?_ ?_ ?_); (focus (first | exact Or.inl rfl | exact Or.inr ⟨_, _, _, rfl, rfl, rfl⟩)); (focus ((conv => lhs; whnf) <;> rfl)); (focus ((conv => lhs; whnf) <;> rfl)); ((try simp only [Act.put]); (try simp only [List.setIfInBounds_toArray]); (try simp only [List.set_cons_succ]); (try simp only [List.set_cons_zero])))
    | ((with_reducible refine m_cmpz .eql (T) (T) true (.inl rfl) (by simp) (l6) (l6) ?_ ?_ ?_ ?_); (focus (first | exact Or.inl rfl | exact Or.inr ⟨_, _, _, rfl, rfl, rfl⟩)); (focus ((conv => lhs; whnf) <;> rfl)); (focus ((conv => lhs; whnf) <;> rfl)); ((try simp only [Act.put]); (try simp only [List.setIfInBounds_toArray]); (try simp only [List.set_cons_succ]); (try simp only [List.set_cons_zero]))) | ((with_reducible refine m_cmpz .eql (D) (D) true (.inl rfl) (by simp) (l7) (l7) ?_ ?_ ?_ ?_); (focus (first | exact Or.inl rfl | exact Or.inr ⟨_, _, _, rfl, rfl, rfl⟩)); (focus ((conv => lhs; whnf) <;> rfl)); (focus ((conv => lhs; whnf) <;> rfl)); ((try simp only [Act.put]); (try simp only [List.setIfInBounds_toArray]); (try simp only [List.set_cons_succ]); (try simp only [List.set_cons_zero]))) | ((with_reducible refine m_cmpz .eql (ia) (ia) true (.inl rfl) (by simp) (la) (la) ?_ ?_ ?_ ?_); (focus (first | exact Or.inl rfl | exact Or.inr ⟨_, _, _, rfl, rfl, rfl⟩)); (focus ((conv => lhs; whnf) <;> rfl)); (focus ((conv => lhs; whnf) <;> rfl)); ((try simp only [Act.put]); (try simp only [List.setIfInBounds_toArray]); (try simp only [List.set_cons_succ]); (try simp only [List.set_cons_zero]))) | (first | ((with_reducible refine m_ld (b := ?_) (k := ?_) (c := ?_) (v := ?_) ?_ ?_ ?_ ?_ ?_); rotate_left 4; (focus (first | exact Or.inl rfl | exact Or.inr ⟨_, _, _, rfl, rfl, rfl⟩)); (focus ((conv => lhs; whnf) <;> rfl)); (focus (first | (refine HM.get ?_; ((repeat (first | exact Look.here | refine Look.there ?_)); done)) | (refine HM.ro (Hid.out ?_) ?_; (focus assumption); (focus simp)))); (focus (first | exact la_z _ | exact la_i _ _ | exact la_mag _ | exact la_arr _ | exact la_fldz _ | exact la_fld _ _ | exact la_negz _ | exact la_neg _ _ | assumption | exact LA.one (by kernel_rfl) rfl)); ((try simp only [Act.put]); (try simp only [List.setIfInBounds_toArray]); (try simp only [List.set_cons_succ]); (try simp only [List.set_cons_zero]))) | ((with_reducible refine m_st (b := ?_) (k := ?_) (c := ?_) (c' := ?_) (L' := ?_) (v := ?_) HM ?_ ?_ ?_ ?_ ?_ ?_); rotate_left 6; (focus (first | exact Or.inl rfl | exact Or.inr ⟨_, _, _, rfl, rfl, rfl⟩)); (focus ((conv => lhs; whnf) <;> rfl)); (focus ((conv => lhs; whnf) <;> rfl)); (focus (repeat (first | exact At.here | (refine At.there (L' := ?_) ?_; rotate_left 1)))); (focus (first | (refine sa_z _ ?_; (first | exact zA_size _ | exact Bg.intA_size _ _ | exact Bg.row_size _ _)) | (refine sa_i _ _ ?_; (first | exact zA_size _ | exact Bg.intA_size _ _ | exact Bg.row_size _ _)) | (refine sa_mag _ ?_; (first | exact zA_size _ | exact Bg.intA_size _ _ | exact Bg.row_size _ _)) | (refine sa_arr _ ?_; (first | exact zA_size _ | exact Bg.intA_size _ _ | exact Bg.row_size _ _)) | exact sa_neg _ _ _ | assumption)); clear HM; intro w1 HM; ((try simp only [Act.put]); (try simp only [List.setIfInBounds_toArray]); (try simp only [List.set_cons_succ]); (try simp only [List.set_cons_zero]))) | ((with_reducible refine m_al (c := ?_) HM ?_ ?_ ?_); rotate_left 1; (focus (first | exact Or.inl rfl | exact Or.inr ⟨_, _, _, rfl, rfl, rfl⟩)); (focus (first | exact za_int | exact za_mag | exact za_arr | assumption)); clear HM; intro bk w1 HM; ((try simp only [Act.put]); (try simp only [List.setIfInBounds_toArray]); (try simp only [List.set_cons_succ]); (try simp only [List.set_cons_zero]))) | ((with_reducible refine m_bx (c := ?_) (v := ?_) HM ?_ ?_ ?_ ?_); rotate_left 2; (focus (first | exact Or.inl rfl | exact Or.inr ⟨_, _, _, rfl, rfl, rfl⟩)); (focus ((conv => lhs; whnf) <;> rfl)); (focus ((conv => lhs; whnf) <;> rfl)); clear HM; intro bk w1 HM; ((try simp only [Act.put]); (try simp only [List.setIfInBounds_toArray]); (try simp only [List.set_cons_succ]); (try simp only [List.set_cons_zero]))) | ((with_reducible refine m_bld (v := ?_) ?_ ?_ ?_); rotate_left 1; (focus (first | exact Or.inl rfl | exact Or.inr ⟨_, _, _, rfl, rfl, rfl⟩)); (focus (first | (refine h_bi (x := ?_) (y := ?_) (s := ?_) (N := ?_) ?_ ?_ ?_; rotate_left 4; (focus rfl); (focus rfl); (focus rfl)) | (refine h_b0 ?_; rfl))); ((try simp only [Act.put]); (try simp only [List.setIfInBounds_toArray]); (try simp only [List.set_cons_succ]); (try simp only [List.set_cons_zero])))))
  go_ret
  exact ⟨rfl, HM.low⟩
end Go.Proofs.Ytbkbfgedlfbbiaa
