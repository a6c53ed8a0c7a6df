/- Walks, and plain facts for them. -/
import Derived.Test.YtmbjaaaeekacfaaGreatDoorPb05
import Derived.Test.YtmbjaaaeekacfaaGreatDoorPb14
import Derived.Test.YtmbjaaaeekacfaaGreatDoorPb16
import Derived.Test.YtmbjaaaeekacfaaGreatDoorPb19
import Derived.Test.YtmbjaaaeekacfaaGreatDoorPb18
namespace Go.Proofs.YtmbjaaaeekacfaaGreatDoor
set_option maxRecDepth 8000
open Go.RowKit
theorem below_eq {f : FuncId} {args : Array Value} {P : Ending → Prop} {w : World} (h : Calls Tryz.prog f args w fun e w' => P e ∧ w = w') : Calls Tryz.prog f args w fun e w' => P e ∧ Below w.heap.size w w' := h.mono (by rintro e w' ⟨h, rfl⟩; exact ⟨h, Below.refl _ _⟩)
def Ac.p10 (n : Nat) : Int := ((10 ^ n : Nat) : Int)
theorem Ac.p10_succ (n : Nat) : Ac.p10 (n + 1) = Ac.p10 n * 10 := by unfold Ac.p10; rw [Nat.pow_succ]; omega
theorem Ac.p10_pos (n : Nat) : 1 ≤ Ac.p10 n := by unfold Ac.p10; have := Nat.pow_pos (n := n) (show 0 < 10 by decide); omega
theorem Ac.p10_le {n : Nat} (h : n ≤ 9) : Ac.p10 n ≤ 1000000000 := by
 unfold Ac.p10
 have := Nat.pow_le_pow_right (show 0 < 10 by decide) h
 have e : (10 : Nat) ^ 9 = 1000000000 := by decide
 omega
set_option maxHeartbeats 1000000 in
theorem power_any (n : Nat) (hn : n ≤ 9) (w : World) :
    Calls Tryz.prog 145 #[.int .i64 (n : Nat)] w fun e w' => e = .returned (.int .i64 (Ac.p10 n)) ∧ w = w' := by
 go_enter Tryz.func145, Tryz.ntmps145
 go_wp2
 go_loop [3, 5] (fun p i => ∃ k : Nat, p = .int .i64 (Ac.p10 k) ∧ i = .int .i64 (k : Nat) ∧ k ≤ n) (fun _ i => n - (intOf i).toNat)
 case atStart => exact ⟨0, rfl, rfl, by omega⟩
 case round =>
  obtain ⟨k, rfl, rfl, hk⟩ := hrel
  by_cases hlt : k < n
  ·have hlt1 : (k : Int) < n := by omega
   have h1 := Ac.p10_pos k
   have h2 := Ac.p10_le (show k ≤ 9 by omega)
   have h3 := Lib.hid (Ac.p10_succ k)
   generalize Ac.p10 k = p at h1 h2 h3 ⊢
   go_wp2
   go_round
   case rel => exact ⟨k + 1, by rw [h3.out], by go_num, by omega⟩
   case measure => simp [intOf]; omega
  ·obtain rfl : k = n := by omega
   go_wp2
   go_ret
   exact ⟨rfl, rfl⟩
theorem Ac.p10_bits {n : Nat} (h : n ≤ 9) : (Ac.p10 n).natAbs < Bg.p2 30 := by
 have h1 := Ac.p10_le h
 have h2 := Ac.p10_pos n
 have e : Bg.p2 30 = 1073741824 := by unfold Bg.p2; rfl
 omega
theorem Ac.mul_lim {x n : Int} (hx : x.natAbs < Bg.p2 480) (hn : n.natAbs < Bg.p2 30) : (x * n).natAbs < Bg.p2 510 := by
 rw [Int.natAbs_mul]
 have e : Bg.p2 510 = Bg.p2 480 * Bg.p2 30 := by rw [← Bg.p2_add]
 rw [e]
 exact Nat.mul_lt_mul'' hx hn
theorem Ac.lim_of {z : Int} {k : Nat} (h : z.natAbs < Bg.p2 k) (hk : k ≤ 1024) : z.natAbs < Bg.lim := by
 have := Bg.p2_mono hk
 rw [Bg.p2_lim] at this
 omega
theorem Ac.resZ {z : Int} (h : z.natAbs < Bg.lim) : z = Bg.resZ z := by unfold Bg.resZ; rw [if_pos h]
theorem Ac.resE {z : Int} (h : z.natAbs < Bg.lim) : 0 = Bg.resE z := by unfold Bg.resE; rw [if_pos h]
theorem Ac.nl {x : Rat} (h : Rt.Fit x) : x.num.natAbs < Bg.lim := Ac.lim_of h.1 (by decide)
theorem Ac.dl {x : Rat} (h : Rt.Fit x) : ((x.den : Nat) : Int).natAbs < Bg.lim := by rw [Int.natAbs_natCast]; exact Ac.lim_of (z := (x.den : Nat)) (by rw [Int.natAbs_natCast]; exact h.2) (by decide)
theorem Ac.ediv_abs {a : Int} {d : Int} (hd : 0 < d) : (a / d).natAbs ≤ a.natAbs + 1 := by
 rcases Int.le_total 0 a with h | h
 ·have h1 : 0 ≤ a / d := Int.ediv_nonneg h (Int.le_of_lt hd)
  have h2 : a / d ≤ a := Int.ediv_le_self _ h
  omega
 ·have h1 : a ≤ a / d := by
    refine Int.le_ediv_of_mul_le hd ?_
    obtain ⟨k, rfl⟩ : ∃ k, d = k + 1 := ⟨d - 1, by omega⟩
    have := Int.mul_le_mul_of_nonneg_right h (show 0 ≤ k by omega)
    rw [Int.mul_add, Int.mul_one]
    omega
  have h2 : a / d ≤ 0 := by
   have := Int.ediv_le_ediv hd h
   simpa using this
  omega
def Ac.lo (x : Rat) (n : Nat) : Int := x.num * Ac.p10 n / x.den
def Ac.re (x : Rat) (n : Nat) : Int := x.num * Ac.p10 n % x.den
theorem Ac.lo_lim {x : Rat} (h : Rt.Fit x) {n : Nat} (hn : n ≤ 9) : (Ac.lo x n).natAbs < Bg.p2 511 := by
 have h1 := Ac.mul_lim h.1 (Ac.p10_bits hn)
 have h2 := Ac.ediv_abs (a := x.num * Ac.p10 n) (Ac.den_pos x)
 have e : Bg.p2 511 = Bg.p2 510 * 2 := by rw [show (511 : Nat) = 510 + 1 from rfl, Bg.p2_add]; rw [show Bg.p2 1 = 2 by unfold Bg.p2; rfl]
 unfold Ac.lo
 omega
theorem Ac.re_in (x : Rat) (n : Nat) : 0 ≤ Ac.re x n ∧ Ac.re x n < x.den := ⟨Int.emod_nonneg _ (Int.ne_of_gt (Ac.den_pos x)), Int.emod_lt_of_pos _ (Ac.den_pos x)⟩
theorem Ac.re_lim {x : Rat} (h : Rt.Fit x) (n : Nat) : (Ac.re x n).natAbs < Bg.p2 480 := by
 have h1 := Ac.re_in x n
 have h2 := h.2
 omega
set_option maxHeartbeats 2000000 in
theorem scaled_any (x : Rat) (n : Nat) (hx : Rt.Fit x) (hn : n ≤ 9) (w : World) :
    Calls Tryz.prog 119 #[.agg (Rt.qA x), .int .i64 (n : Nat)] w fun e w' => e = .returned (.tuple #[.agg (Bg.zA (Ac.lo x n)), .agg (Bg.zA (Ac.re x n))]) ∧ Below w.heap.size w w' := by
 have HM := Mem.start w
 have zi := za_int
 have k1 := la_qnum x
 have k2 := la_qden x
 have hz := Ac.lim_of (Ac.mul_lim hx.1 (Ac.p10_bits hn)) (show 510 ≤ 1024 by decide)
 obtain ⟨p, hp⟩ : ∃ p, Hid (p = Ac.p10 n) := ⟨_, Lib.hid rfl⟩
 have hp0 := Ac.p10_pos n
 have hp1 := Ac.p10_le hn
 obtain ⟨z, hzz⟩ : ∃ z, Hid (z = x.num * p) := ⟨_, Lib.hid rfl⟩
 have PW := fun w => below_eq (power_any n hn w)
 rw [← hp.out] at PW hz hp0 hp1
 rw [← hzz.out] at hz
 have hpl : p.natAbs < Bg.lim := small_lim (by omega)
 have FI := fun w => fromInt_z p (by omega) (by omega) w
 have ML := fun w => mul_z x.num p z 0 z (Ac.nl hx) hpl hzz (Lib.hid (Ac.resZ hz)) (Lib.hid (Ac.resE hz)) w
 obtain ⟨q, hq⟩ : ∃ q, Hid (q = Ac.lo x n) := ⟨_, Lib.hid rfl⟩
 obtain ⟨r, hr⟩ : ∃ r, Hid (r = Ac.re x n) := ⟨_, Lib.hid rfl⟩
 have DM := fun w => divMod_f z x.den q r hz (Ac.dl hx) (Int.ne_of_gt (Ac.den_pos x)) (Lib.hid (by rw [hq.out, hzz.out, hp.out]; rfl)) (Lib.hid (by rw [hr.out, hzz.out, hp.out]; rfl)) w
 rw [← hq.out, ← hr.out]
 have s1 := sa_z z (c := Bg.zA 0) (zA_size 0)
 have s2 := sa_z q (c := Bg.zA 0) (zA_size 0)
 have s3 := sa_z r (c := Bg.zA 0) (zA_size 0)
 have s4 := sa_z q (c := Bg.zA q) (zA_size q)
 have s5 := sa_z r (c := Bg.zA r) (zA_size r)
 clear hp hzz hq hr
 go_enter Tryz.func119, Tryz.ntmps119
 go_upto_region 1 with (first | ((with_reducible refine g_ld ?_); refine a_ld HM ?_) | ((with_reducible refine g_st ?_); refine a_st HM ?_; clear HM; intro w1 HM) | ((with_reducible refine g_al ?_); refine a_al HM ?_; clear HM; intro bk w1 HM) | ((with_reducible refine g_bx ?_); refine a_bx HM ?_; clear HM; intro bk w1 HM))
 obtain ⟨b5, rfl⟩ := HM.nm0
 obtain ⟨b4, rfl⟩ := HM.nm1
 obtain ⟨b2, rfl⟩ := HM.nm2
 go_cut [6] (fun p wc => ∃ b6, p = .pointer (some ⟨b6, 0, none⟩) ∧ Mem w [] [(b6, Bg.zA z), (b5, Bg.zA 0), (b4, Bg.zA 0), (b2, Rt.qA x)] wc)
 case first =>
  refine start_M [10] HM (by kernel_rfl) (fun w0x H9 => ?_)
  replace HM := H9; clear H9
  refine k_fa 0 (heldE HM) ?_
  refine k_ld 1 [5, 6, 7, 8, 10, 11] (heldE HM) ?_
  refine k_mv 2 (heldE HM) ?_
  refine j_two 3 9 ?_ ?_
  ·refine j_call1 (v := ?_) HM ?_ ?_; rotate_left 1; (focus (with_reducible (first | exact PW _ | exact FI _ | exact ML _))); clear HM; intro w1 HM
   refine ⟨(heldE HM), ?_⟩
   refine j_two 4 9 ?_ ?_
   ·refine j_call1 (v := ?_) HM ?_ ?_; rotate_left 1; (focus (with_reducible (first | exact PW _ | exact FI _ | exact ML _))); clear HM; intro w1 HM
    refine ⟨(heldE HM), ?_⟩
    refine j_two 5 9 ?_ ?_
    ·refine j_call2 (v := ?_) HM ?_ ?_; rotate_left 1; (focus (with_reducible (first | exact PW _ | exact FI _ | exact ML _))); clear HM; intro w1 HM
     refine ⟨(heldE HM), ?_⟩
     refine k_mv 6 (heldE HM) ?_
     refine k_ext 7 (heldE HM) ?_
     refine k_ext 8 (heldE HM) ?_
     refine j_one 9 fun K9 hK9 => ?_
     refine j_al HM ?_; clear HM; intro bk w1 HM
     refine hK9 _ _ (heldE HM) ?_; clear hK9 K9
     refine j_one 10 fun K9 hK9 => ?_
     refine j_st HM ?_; clear HM; intro w1 HM
     refine hK9 _ _ heldN ?_; clear hK9 K9
     refine k_mv 11 heldN ?_
     refine wpAnyL_done (by kernel_rfl) ?_ _
     (go_wp2_with fail; go_meet; (case rel => exact ⟨_, rfl, HM.pick⟩))
    ·refine j_al HM ?_; clear HM; intro bk w1 HM
     refine ⟨(heldE HM), ?_⟩
     refine j_one 5 fun K9 hK9 => ?_
     refine j_call2 (v := ?_) HM ?_ ?_; rotate_left 1; (focus (with_reducible (first | exact PW _ | exact FI _ | exact ML _))); clear HM; intro w1 HM
     refine hK9 _ _ (heldE HM) ?_; clear hK9 K9
     refine k_mv 6 (heldE HM) ?_
     refine k_ext 7 (heldE HM) ?_
     refine k_ext 8 (heldE HM) ?_
     refine j_one 10 fun K9 hK9 => ?_
     refine j_st HM ?_; clear HM; intro w1 HM
     refine hK9 _ _ heldN ?_; clear hK9 K9
     refine k_mv 11 heldN ?_
     refine wpAnyL_done (by kernel_rfl) ?_ _
     (go_wp2_with fail; go_meet; (case rel => exact ⟨_, rfl, HM.pick⟩))
   ·refine j_al HM ?_; clear HM; intro bk w1 HM
    refine ⟨(heldE HM), ?_⟩
    refine j_one 4 fun K9 hK9 => ?_
    refine j_call1 (v := ?_) HM ?_ ?_; rotate_left 1; (focus (with_reducible (first | exact PW _ | exact FI _ | exact ML _))); clear HM; intro w1 HM
    refine hK9 _ _ (heldE HM) ?_; clear hK9 K9
    refine j_one 5 fun K9 hK9 => ?_
    refine j_call2 (v := ?_) HM ?_ ?_; rotate_left 1; (focus (with_reducible (first | exact PW _ | exact FI _ | exact ML _))); clear HM; intro w1 HM
    refine hK9 _ _ (heldE HM) ?_; clear hK9 K9
    refine k_mv 6 (heldE HM) ?_
    refine k_ext 7 (heldE HM) ?_
    refine k_ext 8 (heldE HM) ?_
    refine j_one 10 fun K9 hK9 => ?_
    refine j_st HM ?_; clear HM; intro w1 HM
    refine hK9 _ _ heldN ?_; clear hK9 K9
    refine k_mv 11 heldN ?_
    refine wpAnyL_done (by kernel_rfl) ?_ _
    (go_wp2_with fail; go_meet; (case rel => exact ⟨_, rfl, HM.pick⟩))
  ·refine j_al HM ?_; clear HM; intro bk w1 HM
   refine ⟨(heldE HM), ?_⟩
   refine j_one 3 fun K9 hK9 => ?_
   refine j_call1 (v := ?_) HM ?_ ?_; rotate_left 1; (focus (with_reducible (first | exact PW _ | exact FI _ | exact ML _))); clear HM; intro w1 HM
   refine hK9 _ _ (heldE HM) ?_; clear hK9 K9
   refine j_one 4 fun K9 hK9 => ?_
   refine j_call1 (v := ?_) HM ?_ ?_; rotate_left 1; (focus (with_reducible (first | exact PW _ | exact FI _ | exact ML _))); clear HM; intro w1 HM
   refine hK9 _ _ (heldE HM) ?_; clear hK9 K9
   refine j_one 5 fun K9 hK9 => ?_
   refine j_call2 (v := ?_) HM ?_ ?_; rotate_left 1; (focus (with_reducible (first | exact PW _ | exact FI _ | exact ML _))); clear HM; intro w1 HM
   refine hK9 _ _ (heldE HM) ?_; clear hK9 K9
   refine k_mv 6 (heldE HM) ?_
   refine k_ext 7 (heldE HM) ?_
   refine k_ext 8 (heldE HM) ?_
   refine j_one 10 fun K9 hK9 => ?_
   refine j_st HM ?_; clear HM; intro w1 HM
   refine hK9 _ _ heldN ?_; clear hK9 K9
   refine k_mv 11 heldN ?_
   refine wpAnyL_done (by kernel_rfl) ?_ _
   (go_wp2_with fail; go_meet; (case rel => exact ⟨_, rfl, HM.pick⟩))
 case rest =>
  clear HM
  obtain ⟨b6, rfl, HM⟩ := hcut
  go_step
  go_upto_region 3 with (first | (go_at_call 133; ((with_reducible refine (DM _).mono ?_); rintro e9 w2 ⟨rfl, hL⟩; replace HM := HM.call hL; clear hL)) | (first | ((with_reducible refine g_ld ?_); refine a_ld HM ?_) | ((with_reducible refine g_st ?_); refine a_st HM ?_; clear HM; intro w1 HM) | ((with_reducible refine g_al ?_); refine a_al HM ?_; clear HM; intro bk w1 HM) | ((with_reducible refine g_bx ?_); refine a_bx HM ?_; clear HM; intro bk w1 HM)))
  refine start_M [2, 3] HM (by kernel_rfl) (fun w0x H9 => ?_)
  replace HM := H9; clear H9
  refine k_ld 0 [2, 3] (heldE HM) ?_
  refine j_two 1 2 ?_ ?_
  ·refine j_ld HM ?_
   refine ⟨(heldE HM), ?_⟩
   refine j_one 2 fun K9 hK9 => ?_
   refine j_st HM ?_; clear HM; intro w1 HM
   refine hK9 _ _ heldN ?_; clear hK9 K9
   refine j_one 3 fun K9 hK9 => ?_
   refine j_st HM ?_; clear HM; intro w1 HM
   refine hK9 _ _ heldN ?_; clear hK9 K9
   refine wpAnyL_done (by kernel_rfl) ?_ _
   (go_wp2_with fail; refine bodyPost_ret (r_cc (b := b4) (b2 := b5) (k := 0) (k2 := 0) rfl rfl rfl (HM.get (by ((repeat (first | exact Look.here | refine Look.there ?_)); done))) (la_z _) (HM.get (by ((repeat (first | exact Look.here | refine Look.there ?_)); done))) (la_z _)) rfl ⟨rfl, HM.low⟩)
  ·refine j_st HM ?_; clear HM; intro w1 HM
   refine ⟨heldN, ?_⟩
   refine j_one 1 fun K9 hK9 => ?_
   refine j_ld HM ?_
   refine hK9 _ _ heldN ?_; clear hK9 K9
   refine j_one 3 fun K9 hK9 => ?_
   refine j_st HM ?_; clear HM; intro w1 HM
   refine hK9 _ _ heldN ?_; clear hK9 K9
   refine wpAnyL_done (by kernel_rfl) ?_ _
   (go_wp2_with fail; refine bodyPost_ret (r_cc (b := b4) (b2 := b5) (k := 0) (k2 := 0) rfl rfl rfl (HM.get (by ((repeat (first | exact Look.here | refine Look.there ?_)); done))) (la_z _) (HM.get (by ((repeat (first | exact Look.here | refine Look.there ?_)); done))) (la_z _)) rfl ⟨rfl, HM.low⟩)
end Go.Proofs.YtmbjaaaeekacfaaGreatDoor
namespace Go.Proofs.YtmbjaaaeekacfaaGreatDoor
set_option maxRecDepth 8000
open Go.RowKit
theorem check_q (x : Rat) (n : Nat) (hx : Rt.Fit x) (hn : n ≤ 9) (w : World) :
    Calls Tryz.prog 118 #[.agg (Rt.qA x), .int .i64 (n : Nat)] w fun e w' => e = .returned (.int .i64 0) ∧ Below w.heap.size w w' := by
 have HM := Mem.start w
 have k0 := la_q x
 have V := fun w => valid_q x hx w
 have hn1 : (n : Int) ≤ 9 := by omega
 have hn2 : ¬ (9 : Int) < n := by omega
 go_enter Tryz.func118, Tryz.ntmps118
 go_wp2_with (first | (go_at_call 73; ((with_reducible refine (V _).mono ?_); rintro e9 w2 ⟨rfl, hL⟩; replace HM := HM.call hL; clear hL)) | (first | ((with_reducible refine g_ld ?_); refine a_ld HM ?_) | ((with_reducible refine g_bx ?_); refine a_bx HM ?_; clear HM; intro bk w1 HM)))
 go_ret
 exact ⟨rfl, HM.low⟩
def Bw.c (l h : Int) (n : Bool) : Array Value := rowsOf [Bg.zA l, #[.int .i64 h], #[.bool n]]
theorem Bw.size (l h : Int) (n : Bool) : (Bw.c l h n).size = 35 := by unfold Bw.c; simp [rowsOf, zA_size]
theorem Bw.la (l h : Int) (n : Bool) : LA 168 (Bw.c l h n) 0 (.agg (Bw.c l h n)) := LA.whole (by kernel_rfl) (by rw [Bw.size]; kernel_rfl)
theorem Bw.fh (l h : Int) (n : Bool) : FA 3 (Bw.c l h n) 33 (.int .i64 h) := fa_one (l := [Bg.zA l, #[.int .i64 h], #[.bool n]]) 1 (by kernel_rfl) rfl (by simp [offs, zA_size])
theorem Bw.limb (l h : Int) (n : Bool) : LA 22 (Bw.c l h n) 1 (.int .u32 (Bg.limb l.natAbs 0 : Nat)) := by
 refine LA.one (by kernel_rfl) ?_
 unfold Bw.c
 have e : (Bg.zA l)[1]? = some (.int .u32 (Bg.limb l.natAbs 0 : Nat)) := by
  rw [zA_int]
  have := Bg.intA_at (decide (l < 0)) l.natAbs 0 (by decide)
  rw [Nat.add_comm] at this
  exact this
 have e2 : (rowsOf [Bg.zA l, #[.int .i64 h], #[.bool n]])[1]? = (Bg.zA l ++ (#[.int .i64 h] ++ #[.bool n]))[1]? := by simp [rowsOf]
 rw [e2, Array.getElem?_append_left (by rw [zA_size]; decide)]
 exact e
theorem Bw.zeroC : Bw.c 0 0 false = Bg.intA false 0 ++ #[.int .i64 0, .bool false] := by unfold Bw.c; rw [zA_zero]; simp [rowsOf]
theorem Bw.zeroF : (zeroValue 168).run Tryz.prog = fun w => .ok (.agg (Bw.c 0 0 false)) w := by
 rw [Bw.zeroC, ← Bg.zeroInt]; kernel_rfl
theorem Bw.und : Tryz.prog.underlying 168 = some (.struct (Tryz.prog.fieldsOf 168)) := by kernel_rfl
theorem Bw.shape : shapeOf [Bg.zA 0, #[Value.int .i64 0], #[Value.bool false]] = [(0, 33), (33, 1), (34, 1)] := by
 simp [shapeOf, offs, zA_size, List.range, List.range.loop]
theorem Bw.places (w : World) : ((Tryz.prog.fieldsOf 168).mapM (fun f => do pure (f.offset, ← sizeOf f.type)) : Sem (Array (Nat × Nat))).run Tryz.prog w = .ok [(0, 33), (33, 1), (34, 1)].toArray w := by kernel_rfl
theorem Bw.build (l h : Int) (n : Bool) (w : World) : (Instr.build 168 #[(0, .agg (Bg.zA l)), (1, .int .i64 h), (2, .bool n)]).run Tryz.prog w = .ok (.agg (Bw.c l h n)) w :=
 run_build_flds Bw.und (fun w => by rw [Bw.zeroF]; rfl) Bw.places Bw.shape (by simp [Value.cells, zA_size]) rfl w
theorem Bg.limb_two (N : Nat) : Bg.limb N 0 % 2 = N % 2 := by
 unfold Bg.limb; rw [Bg.pw_zero, Nat.div_one]; omega
def Ac.up (l h : Int) : Bool := if h = 0 then decide (l.natAbs % 2 = 1) else decide (0 < h)
theorem halfEven_any (l h : Int) (n : Bool) (v : Bool) (hv : Hid (v = Ac.up l h)) (w : World) :
    Calls Tryz.prog 192 #[.agg (Bw.c l h n)] w fun e w' => e = .returned (.bool v) ∧ Below w.heap.size w w' := by
 have HM := Mem.start w
 have k0 := Bw.la l h n
 have k1 := (Bw.fh l h n).la
 have k2 := Bw.limb l h n
 go_enter Tryz.func192, Tryz.ntmps192
 by_cases h0 : h = 0
 ·subst h0
  have h2 := Bg.limb_two l.natAbs
  have h3 : Bg.limb l.natAbs 0 < 4294967296 := by unfold Bg.limb; exact Nat.mod_lt _ (by decide)
  have hv2 : v = decide (l.natAbs % 2 = 1) := hv.out
  rw [← h2] at hv2
  generalize Bg.limb l.natAbs 0 = m at k2 h3 hv2
  obtain ⟨c, hc⟩ : ∃ c : Nat, m % 2 = c := ⟨_, rfl⟩
  have hc2 : c = 0 ∨ c = 1 := by omega
  have hm : ((m : Nat) : Int).tmod 2 = c := by rw [Int.tmod_eq_emod_of_nonneg (by omega)]; omega
  rw [hc] at hv2
  clear hc h2 hv
  rcases hc2 with rfl | rfl
  all_goals
   subst hv2
   go_wp2_with (first | ((with_reducible refine g_ld ?_); refine a_ld HM ?_) | ((with_reducible refine g_bx ?_); refine a_bx HM ?_; clear HM; intro bk w1 HM))
   go_ret
   exact ⟨rfl, HM.low⟩
 ·have hv2 : v = decide (0 < h) := by rw [hv.out]; unfold Ac.up; rw [if_neg h0]
  subst hv2
  clear hv
  go_wp2_with (first | ((with_reducible refine g_ld ?_); refine a_ld HM ?_) | ((with_reducible refine g_bx ?_); refine a_bx HM ?_; clear HM; intro bk w1 HM))
  go_ret
  exact ⟨rfl, HM.low⟩
theorem mode_any (l h : Int) (n : Bool) (w : World) :
    Calls Tryz.prog 168 #[.agg (Bw.c l h n), .int .i64 6] w fun e w' => e = .returned (.func (.func 192) #[.agg (Bw.c l h n)] #[]) ∧ Below w.heap.size w w' := by
 have HM := Mem.start w
 have k0 := Bw.la l h n
 go_enter Tryz.func168, Tryz.ntmps168
 go_wp2_with (first | ((with_reducible refine g_ld ?_); refine a_ld HM ?_) | ((with_reducible refine g_bx ?_); refine a_bx HM ?_; clear HM; intro bk w1 HM))
 go_ret
 exact ⟨rfl, HM.low⟩
theorem fn_nil (f : FuncId) (c : Array Value) (w : World) : (binOp .eql 39 (.func (.func f) #[.agg c] #[]) .nilFunc).run Tryz.prog w = .ok (.bool false) w := by kernel_rfl
theorem h_bl3 {o : Oper} {a : Act} {T : TypeId} {r : Array Value} {i j k : Nat} {x y z : Operand} {v u t : Value} (ho : o.op = .build T #[(i, x), (j, y), (k, z)]) (hx : a.eval x = v) (hy : a.eval y = u) (hz : a.eval z = t) (hb : ∀ w, (Instr.build T #[(i, v), (j, u), (k, t)]).run Tryz.prog w = .ok (.agg r) w) : ∀ w, (execOp a.eval o).run Tryz.prog w = .ok (.value (.agg r)) w := fun w => by
 unfold execOp
 simp only [ho, Sem.run_bind, List.map_toArray, List.map_cons, List.map_nil, hx, hy, hz, hb, Result.andThen_ok, Sem.run_pure]
theorem Ac.lo0 (x : Rat) : Ac.lo x 0 = Ac.fl x := by
 unfold Ac.lo Ac.fl Ac.p10
 rw [show ((10 ^ 0 : Nat) : Int) = 1 from rfl, Int.mul_one]
theorem Ac.re0 (x : Rat) : Ac.re x 0 = Ac.rm x := by
 unfold Ac.re Ac.rm Ac.p10
 rw [show ((10 ^ 0 : Nat) : Int) = 1 from rfl, Int.mul_one]
def Ac.hf (x : Rat) : Int := (2 * Ac.rm x - x.den).sign
theorem Ac.rhe_low {x : Rat} (h : Ac.rm x = 0) : Ac.rhe x = Ac.fl x := by
 have := Ac.den_pos x
 unfold Ac.rhe; rw [if_pos (by omega)]
theorem Ac.rhe_up {x : Rat} (h0 : 0 ≤ Ac.fl x) : Ac.rhe x = if Ac.up (Ac.fl x) (Ac.hf x) then Ac.fl x + 1 else Ac.fl x := by
 unfold Ac.rhe Ac.up Ac.hf
 rcases Int.lt_trichotomy (2 * Ac.rm x - x.den) 0 with h | h | h
 ·rw [Int.sign_eq_neg_one_of_neg h, if_pos (by omega)]; rfl
 ·rw [h, if_neg (by omega), if_neg (by omega)]
  show _ = if decide ((Ac.fl x).natAbs % 2 = 1) = true then _ else _
  by_cases hp : Ac.fl x % 2 = 1
  ·rw [if_pos hp, if_pos (decide_eq_true (by omega))]
  ·rw [if_neg hp, if_neg (by simp; omega)]
 ·rw [Int.sign_eq_one_of_pos h, if_neg (by omega), if_pos (by omega)]; rfl
theorem check_0 (x : Rat) (hx : Rt.Fit x) (w : World) :
    Calls Tryz.prog 118 #[.agg (Rt.qA x), .int .i64 0] w fun e w' => e = .returned (.int .i64 0) ∧ Below w.heap.size w w' := check_q x 0 hx (by decide) w
theorem check_6 (x : Rat) (hx : Rt.Fit x) (w : World) :
    Calls Tryz.prog 118 #[.agg (Rt.qA x), .int .i64 6] w fun e w' => e = .returned (.int .i64 0) ∧ Below w.heap.size w w' := check_q x 6 hx (by decide) w
theorem scaled_0 (x : Rat) (hx : Rt.Fit x) (w : World) :
    Calls Tryz.prog 119 #[.agg (Rt.qA x), .int .i64 0] w fun e w' => e = .returned (.tuple #[.agg (Bg.zA (Ac.lo x 0)), .agg (Bg.zA (Ac.re x 0))]) ∧ Below w.heap.size w w' := scaled_any x 0 hx (by decide) w
theorem scaled_6 (x : Rat) (hx : Rt.Fit x) (w : World) :
    Calls Tryz.prog 119 #[.agg (Rt.qA x), .int .i64 6] w fun e w' => e = .returned (.tuple #[.agg (Bg.zA (Ac.lo x 6)), .agg (Bg.zA (Ac.re x 6))]) ∧ Below w.heap.size w w' := scaled_any x 6 hx (by decide) w
set_option maxHeartbeats 4000000 in
theorem round_any (x : Rat) (hx : Rt.Fit x) (h0 : 0 ≤ x) (w : World) :
    Calls Tryz.prog 138 #[.agg (Rt.qA x), .int .i64 0, .int .i64 6] w fun e w' => e = .returned (.tuple #[.agg (Bg.zA (Ac.rhe x)), .int .i64 0]) ∧ Below w.heap.size w w' := by
 have HM := Mem.start w
 have zi := za_int
 have k0 := la_q x
 have k1 := la_qnum x
 have k2 := la_qden x
 have CK := fun w => check_0 x hx w
 have SC := fun w => scaled_0 x hx w
 rw [Ac.lo0, Ac.re0] at SC
 have hlo := Ac.lo_lim hx (n := 0) (by decide)
 have hre := Ac.re_lim hx 0
 have hri := Ac.rm_in x
 rw [Ac.lo0] at hlo
 rw [Ac.re0] at hre
 have hfn : 0 ≤ Ac.fl x := by
  have := Ac.fl_mono h0
  have e : Ac.fl 0 = 0 := Ac.fl_int 0
  omega
 have hup := Ac.rhe_up (x := x) hfn
 have hlow := Ac.rhe_low (x := x)
 have hhf : Hid (Ac.hf x = (2 * Ac.rm x - x.den).sign) := Lib.hid rfl
 generalize Ac.hf x = f at *
 generalize Ac.rhe x = y at *
 generalize Ac.fl x = l at *
 generalize Ac.rm x = r at *
 have hl := Ac.lim_of hlo (by decide)
 have hrl := Ac.lim_of hre (by decide)
 obtain ⟨t, ht⟩ : ∃ t, Hid (t = r + r) := ⟨_, Lib.hid rfl⟩
 have e481 : Bg.p2 481 = Bg.p2 480 * 2 := by rw [show (481 : Nat) = 480 + 1 from rfl, Bg.p2_add]; rw [show Bg.p2 1 = 2 by unfold Bg.p2; rfl]
 have htl : t.natAbs < Bg.lim := Ac.lim_of (k := 481) (by rw [ht.out, e481]; omega) (by decide)
 have AD := fun w => add_z r r t 0 t hrl hrl ht (Lib.hid (Ac.resZ htl)) (Lib.hid (Ac.resE htl)) w
 have CM := fun w => cmp_z t x.den f htl (Ac.dl hx) (Lib.hid (by rw [hhf.out, ht.out]; congr 1; omega)) w
 have hs0 : (0 : Int) ≤ x.num.sign := by
  have h2 : (0 : Int) ≤ x.num := Rat.num_nonneg.2 h0
  rcases Int.lt_trichotomy x.num 0 with h | h | h
  ·omega
  ·rw [h]; decide
  ·rw [Int.sign_eq_one_of_pos h]; decide
 obtain ⟨s, hs⟩ : ∃ s, Hid (s = x.num.sign) := ⟨_, Lib.hid rfl⟩
 rw [← hs.out] at hs0
 have SG := fun w => sign_z x.num s (Ac.nl hx) hs w
 have hsn : decide (s < 0) = false := decide_eq_false (by omega)
 have sl := sa_z l (c := Bg.zA 0) (zA_size 0)
 have sr := sa_z r (c := Bg.zA 0) (zA_size 0)
 have st := sa_z t (c := Bg.zA 0) (zA_size 0)
 have MD := fun w => mode_any l f false w
 have HE := fun w => halfEven_any l f false (Ac.up l f) (Lib.hid rfl) w
 have HBD := fun w => Bw.build l f false w
 generalize hu : Ac.up l f = u at *
 have HFF := Lib.hid hhf.out
 have HLO := Lib.hid hlo
 clear hhf hs ht e481 hlo hre hu
 go_enter Tryz.func138, Tryz.ntmps138
 go_upto_region 6 with (first | (go_at_call 118; ((with_reducible refine (CK _).mono ?_); rintro e9 w2 ⟨rfl, hL⟩; replace HM := HM.call hL; clear hL)) | (go_at_call 119; ((with_reducible refine (SC _).mono ?_); rintro e9 w2 ⟨rfl, hL⟩; replace HM := HM.call hL; clear hL)) | (go_at_call 137; ((with_reducible refine (AD _).mono ?_); rintro e9 w2 ⟨rfl, hL⟩; replace HM := HM.call hL; clear hL)) | (first | ((with_reducible refine g_ld ?_); refine a_ld HM ?_) | ((with_reducible refine g_st ?_); refine a_st HM ?_; clear HM; intro w1 HM) | ((with_reducible refine g_al ?_); refine a_al HM ?_; clear HM; intro bk w1 HM) | ((with_reducible refine g_bx ?_); refine a_bx HM ?_; clear HM; intro bk w1 HM) | ((with_reducible refine g_bld ?_); refine a_bld ?_)))
 obtain ⟨b11, rfl⟩ := HM.nm0
 obtain ⟨b10, rfl⟩ := HM.nm1
 obtain ⟨b9, rfl⟩ := HM.nm2
 obtain ⟨b6, rfl⟩ := HM.nm3
 obtain ⟨b3, rfl⟩ := HM.nm4
 refine start_M [] HM (by kernel_rfl) (fun w0x H9 => ?_)
 replace HM := H9; clear H9
 refine k_ld 0 [] (heldE HM) ?_
 refine k_ld 1 [] (heldE HM) ?_
 refine k_fa 2 (heldE HM) ?_
 refine k_ld 3 [] (heldE HM) ?_
 refine k_fa 5 (heldE HM) ?_
 refine k_ld 6 [] (heldE HM) ?_
 refine k_mv 10 (heldE HM) ?_
 refine j_one 4 fun K9 hK9 => ?_
 refine j_call2 (v := ?_) HM ?_ ?_; rotate_left 1; (focus (with_reducible (first | exact CM _ | exact SG _ | exact MD _))); clear HM; intro w1 HM
 refine hK9 _ _ (heldE HM) ?_; clear hK9 K9
 refine j_one 7 fun K9 hK9 => ?_
 refine j_call1 (v := ?_) HM ?_ ?_; rotate_left 1; (focus (with_reducible (first | exact CM _ | exact SG _ | exact MD _))); clear HM; intro w1 HM
 refine hK9 _ _ (heldE HM) ?_; clear hK9 K9
 refine k_bin 8 (heldE HM) ?_
 refine t_pure (i := 9) (v := .agg (Bw.c l f false)) rfl rfl (by kernel_rfl) (fun _ _ _ h => h) (heldE HM) (by rfl) ?_ ?_; (focus (exact h_bl3 rfl (by (conv => lhs; whnf) <;> rfl) (by (conv => lhs; whnf) <;> rfl) (by (conv => lhs; whnf) <;> rfl) HBD)); ((try simp only [List.setIfInBounds_toArray]); (try simp only [List.set_cons_succ]); (try simp only [List.set_cons_zero]))
 refine j_one 11 fun K9 hK9 => ?_
 refine j_call2 (v := ?_) HM ?_ ?_; rotate_left 1; (focus (with_reducible (first | exact CM _ | exact SG _ | exact MD _))); clear HM; intro w1 HM
 refine hK9 _ _ (heldE HM) ?_; clear hK9 K9
 refine k_mv 12 (heldE HM) ?_
 refine wpAnyL_done (by kernel_rfl) ?_ _
 have q0 := fn_nil 192 (Bw.c l f false)
 by_cases hr0 : r = 0
 ·obtain rfl := hlow hr0
  have SR := fun w => sign_z r 0 hrl (Lib.hid (by rw [hr0]; rfl)) w
  clear hup hlow hr0 CM SG MD HE AD
  go_wp2_with (first | (go_at_call 85; ((with_reducible refine (SR _).mono ?_); rintro e9 w2 ⟨rfl, hL⟩; replace HM := HM.call hL; clear hL)) | (first | ((with_reducible refine g_ld ?_); refine a_ld HM ?_) | ((with_reducible refine g_st ?_); refine a_st HM ?_; clear HM; intro w1 HM) | ((with_reducible refine g_al ?_); refine a_al HM ?_; clear HM; intro bk w1 HM) | ((with_reducible refine g_bx ?_); refine a_bx HM ?_; clear HM; intro bk w1 HM) | ((with_reducible refine g_bld ?_); refine a_bld ?_)))
  refine bodyPost_ret (r_ct (b := b6) (k := 0) rfl rfl (HM.get (by ((repeat (first | exact Look.here | refine Look.there ?_)); done))) (la_z _)) rfl ⟨rfl, HM.low⟩
 ·obtain ⟨g, hg⟩ : ∃ g, Hid (g = r.sign) := ⟨_, Lib.hid rfl⟩
  have hg0 : (g == 0) = false := beq_eq_false_iff_ne.2 (by
   rw [hg.out]
   intro e
   exact hr0 (Int.sign_eq_zero_iff_zero.1 e))
  have SR := fun w => sign_z r g hrl hg w
  cases u with
  | false =>
   obtain rfl : y = l := hup
   clear hlow hr0 CM SG MD AD
   go_wp2_with (first | (go_at_call 85; ((with_reducible refine (SR _).mono ?_); rintro e9 w2 ⟨rfl, hL⟩; replace HM := HM.call hL; clear hL)) | (go_at_call 192; ((with_reducible refine (HE _).mono ?_); rintro e9 w2 ⟨rfl, hL⟩; replace HM := HM.call hL; clear hL)) | (first | ((with_reducible refine g_ld ?_); refine a_ld HM ?_) | ((with_reducible refine g_st ?_); refine a_st HM ?_; clear HM; intro w1 HM) | ((with_reducible refine g_al ?_); refine a_al HM ?_; clear HM; intro bk w1 HM) | ((with_reducible refine g_bx ?_); refine a_bx HM ?_; clear HM; intro bk w1 HM) | ((with_reducible refine g_bld ?_); refine a_bld ?_)))
   refine bodyPost_ret (r_ct (b := b6) (k := 0) rfl rfl (HM.get (by ((repeat (first | exact Look.here | refine Look.there ?_)); done))) (la_z _)) rfl ⟨rfl, HM.low⟩
  | true =>
   obtain rfl : y = l + 1 := hup
   obtain ⟨n, hn⟩ : ∃ n, Hid (n = l + 1) := ⟨_, Lib.hid rfl⟩
   have hnl : n.natAbs < Bg.lim := by
    have := Bg.p2_mono (show 512 ≤ 1024 by decide)
    rw [Bg.p2_lim] at this
    have e : Bg.p2 512 = Bg.p2 511 * 2 := by rw [show (512 : Nat) = 511 + 1 from rfl, Bg.p2_add]; rw [show Bg.p2 1 = 2 by unfold Bg.p2; rfl]
    have h2 := HLO.out
    rw [hn.out]
    omega
   have HN := Lib.hid hn.out
   have h1l : (1 : Int).natAbs < Bg.lim := small_lim (by decide)
   have F1 := fun w => fromInt_z 1 (by decide) (by decide) w
   have A1 := fun w => add_z l 1 n 0 n hl h1l hn (Lib.hid (Ac.resZ hnl)) (Lib.hid (Ac.resE hnl)) w
   have sn := sa_z n (c := Bg.zA 0) (zA_size 0)
   clear hlow hr0 CM SG MD AD hn
   go_upto_region 11 with (first | (go_at_call 85; ((with_reducible refine (SR _).mono ?_); rintro e9 w2 ⟨rfl, hL⟩; replace HM := HM.call hL; clear hL)) | (go_at_call 192; ((with_reducible refine (HE _).mono ?_); rintro e9 w2 ⟨rfl, hL⟩; replace HM := HM.call hL; clear hL)) | (first | ((with_reducible refine g_ld ?_); refine a_ld HM ?_) | ((with_reducible refine g_st ?_); refine a_st HM ?_; clear HM; intro w1 HM) | ((with_reducible refine g_al ?_); refine a_al HM ?_; clear HM; intro bk w1 HM) | ((with_reducible refine g_bx ?_); refine a_bx HM ?_; clear HM; intro bk w1 HM) | ((with_reducible refine g_bld ?_); refine a_bld ?_)))
   go_cut [14] (fun p wc => ∃ b14, p = .pointer (some ⟨b14, 0, none⟩) ∧ Mem w [] [(b14, Bg.zA n), (b6, Bg.zA 0)] wc)
   case first =>
    refine start_M [7] HM (by kernel_rfl) (fun w0x H9 => ?_)
    replace HM := H9; clear H9
    refine k_ld 0 [2, 3, 4, 5, 7, 8] (heldE HM) ?_
    refine j_two 1 6 ?_ ?_
    ·refine j_call1 (v := ?_) HM ?_ ?_; rotate_left 1; (focus (with_reducible (first | exact F1 _ | exact A1 _))); clear HM; intro w1 HM
     refine ⟨(heldE HM), ?_⟩
     refine j_two 2 6 ?_ ?_
     ·refine j_call2 (v := ?_) HM ?_ ?_; rotate_left 1; (focus (with_reducible (first | exact F1 _ | exact A1 _))); clear HM; intro w1 HM
      refine ⟨(heldE HM), ?_⟩
      refine k_mv 3 (heldE HM) ?_
      refine k_ext 4 (heldE HM) ?_
      refine k_ext 5 (heldE HM) ?_
      refine j_one 6 fun K9 hK9 => ?_
      refine j_al HM ?_; clear HM; intro bk w1 HM
      refine hK9 _ _ (heldE HM) ?_; clear hK9 K9
      refine j_one 7 fun K9 hK9 => ?_
      refine j_st HM ?_; clear HM; intro w1 HM
      refine hK9 _ _ heldN ?_; clear hK9 K9
      refine k_mv 8 heldN ?_
      refine wpAnyL_done (by kernel_rfl) ?_ _
      (go_wp2_with fail; go_meet; (case rel => exact ⟨_, rfl, HM.pick⟩))
     ·refine j_al HM ?_; clear HM; intro bk w1 HM
      refine ⟨(heldE HM), ?_⟩
      refine j_one 2 fun K9 hK9 => ?_
      refine j_call2 (v := ?_) HM ?_ ?_; rotate_left 1; (focus (with_reducible (first | exact F1 _ | exact A1 _))); clear HM; intro w1 HM
      refine hK9 _ _ (heldE HM) ?_; clear hK9 K9
      refine k_mv 3 (heldE HM) ?_
      refine k_ext 4 (heldE HM) ?_
      refine k_ext 5 (heldE HM) ?_
      refine j_one 7 fun K9 hK9 => ?_
      refine j_st HM ?_; clear HM; intro w1 HM
      refine hK9 _ _ heldN ?_; clear hK9 K9
      refine k_mv 8 heldN ?_
      refine wpAnyL_done (by kernel_rfl) ?_ _
      (go_wp2_with fail; go_meet; (case rel => exact ⟨_, rfl, HM.pick⟩))
    ·refine j_al HM ?_; clear HM; intro bk w1 HM
     refine ⟨(heldE HM), ?_⟩
     refine j_one 1 fun K9 hK9 => ?_
     refine j_call1 (v := ?_) HM ?_ ?_; rotate_left 1; (focus (with_reducible (first | exact F1 _ | exact A1 _))); clear HM; intro w1 HM
     refine hK9 _ _ (heldE HM) ?_; clear hK9 K9
     refine j_one 2 fun K9 hK9 => ?_
     refine j_call2 (v := ?_) HM ?_ ?_; rotate_left 1; (focus (with_reducible (first | exact F1 _ | exact A1 _))); clear HM; intro w1 HM
     refine hK9 _ _ (heldE HM) ?_; clear hK9 K9
     refine k_mv 3 (heldE HM) ?_
     refine k_ext 4 (heldE HM) ?_
     refine k_ext 5 (heldE HM) ?_
     refine j_one 7 fun K9 hK9 => ?_
     refine j_st HM ?_; clear HM; intro w1 HM
     refine hK9 _ _ heldN ?_; clear hK9 K9
     refine k_mv 8 heldN ?_
     refine wpAnyL_done (by kernel_rfl) ?_ _
     (go_wp2_with fail; go_meet; (case rel => exact ⟨_, rfl, HM.pick⟩))
   case rest =>
    clear HM
    obtain ⟨b14, rfl, HM⟩ := hcut
    go_step
    go_wp2_with (first | ((with_reducible refine g_ld ?_); refine a_ld HM ?_) | ((with_reducible refine g_st ?_); refine a_st HM ?_; clear HM; intro w1 HM) | ((with_reducible refine g_al ?_); refine a_al HM ?_; clear HM; intro bk w1 HM) | ((with_reducible refine g_bx ?_); refine a_bx HM ?_; clear HM; intro bk w1 HM) | ((with_reducible refine g_bld ?_); refine a_bld ?_))
    refine bodyPost_ret (r_ct (b := b6) (k := 0) rfl rfl (HM.get (by ((repeat (first | exact Look.here | refine Look.there ?_)); done))) (la_z _)) rfl ⟨by rw [HN.out]; rfl, HM.low⟩
set_option maxHeartbeats 2000000 in
theorem roundInt_any (x : Rat) (hx : Rt.Fit x) (h0 : 0 ≤ x) (h1 : x ≤ ((1000000000000000 : Int) : Rat)) (n : Int) (hn : Hid (n = Ac.rhe x)) (w : World) :
    Calls Tryz.prog 94 #[.agg (Rt.qA x), .int .i64 0, .int .i64 6] w fun e w' => e = .returned (.tuple #[.int .i64 n, .int .i64 0]) ∧ Below w.heap.size w w' := by
 have HM := Mem.start w
 have zi := za_int
 have k0 := la_q x
 have R := fun w => round_any x hx h0 w
 rw [← hn.out] at R
 have hn0 : 0 ≤ n := by rw [hn.out]; exact Ac.rhe_nonneg h0
 have hn1 : n ≤ 1000000000000000 := by rw [hn.out]; exact Ac.rhe_le h1
 have hnl : n.natAbs < Bg.lim := small_lim (by omega)
 have TI := fun w => toInt_z n n true hnl (Lib.hid (by unfold Bg.fits64; rw [decide_eq_true (by omega), decide_eq_true (by omega)]; rfl)) (Lib.hid rfl) w
 have sn := sa_z n (c := Bg.zA 0) (zA_size 0)
 clear hn
 go_enter Tryz.func94, Tryz.ntmps94
 go_wp2_with (first | (go_at_call 138; ((with_reducible refine (R _).mono ?_); rintro e9 w2 ⟨rfl, hL⟩; replace HM := HM.call hL; clear hL)) | (go_at_call 139; ((with_reducible refine (TI _).mono ?_); rintro e9 w2 ⟨rfl, hL⟩; replace HM := HM.call hL; clear hL)) | (first | ((with_reducible refine g_ld ?_); refine a_ld HM ?_) | ((with_reducible refine g_st ?_); refine a_st HM ?_; clear HM; intro w1 HM) | ((with_reducible refine g_al ?_); refine a_al HM ?_; clear HM; intro bk w1 HM) | ((with_reducible refine g_bx ?_); refine a_bx HM ?_; clear HM; intro bk w1 HM)))
 go_ret2
 exact ⟨rfl, HM.low⟩
end Go.Proofs.YtmbjaaaeekacfaaGreatDoor
namespace Go.Proofs.YtmbjaaaeekacfaaGreatDoor
set_option maxRecDepth 8000
open Go.RowKit
def Ac.TxtOf (r : Int) (n : Nat) : Prop := r = 0 ∧ n ≤ 21
def Ac.Txt (x : Rat) : Prop := Ac.TxtOf (Ac.re x 6) (Tx.txt false (Ac.lo x 6).natAbs).size
def Ac.Yes (e : Int) (P : Prop) : Prop := e = 0 ↔ P
theorem Ac.yes_t {P : Prop} (h : P) : Ac.Yes 0 P := ⟨fun _ => h, fun _ => rfl⟩
theorem Ac.yes_f {P : Prop} {e : Int} (h : ¬ P) (he : e ≠ 0) : Ac.Yes e P := ⟨fun h2 => absurd h2 he, fun h2 => absurd h2 h⟩
theorem Tx.txt_head (N : Nat) : ∃ c l, c < 10 ∧ Tx.txt false N = Tx.str (c :: l) ∧ l.length + 1 = (Tx.txt false N).size := by
 unfold Tx.txt
 by_cases h : N = 0
 ·rw [if_pos h]
  exact ⟨0, [], by decide, rfl, by rw [Tx.str_len]; rfl⟩
 ·rw [if_neg h, if_neg Bool.false_ne_true]
  obtain ⟨c, l, e, _⟩ := Tx.dig_head h
  have hc : c ∈ Tx.dig N := by
   have : c ∈ (Tx.dig N).reverse := by rw [e]; exact List.mem_cons_self
   simpa using this
  exact ⟨c, l, Tx.dig_lt N c hc, by rw [e], by rw [e, Tx.str_len]; rfl⟩
theorem Tx.txt_cut (N : Nat) : Tx.cut (Tx.txt false N) = (Tx.txt false N, false) := by
 obtain ⟨c, l, hc, e, _⟩ := Tx.txt_head N
 rw [e]; exact Tx.cut_str c l hc
theorem Tx.txt_size {N : Nat} (h : N < Bg.lim) : 1 ≤ (Tx.txt false N).size ∧ (Tx.txt false N).size ≤ 309 := by
 refine ⟨by obtain ⟨c, l, hc, e, h1⟩ := Tx.txt_head N; omega, ?_⟩
 unfold Tx.txt
 by_cases h0 : N = 0
 ·rw [if_pos h0, Tx.str_len]; decide
 ·rw [if_neg h0, if_neg Bool.false_ne_true, Tx.str_len, List.length_reverse]
  exact Tx.lim_len h
theorem Ac.wl_iff (n : Nat) : 15 < Ac.wl n ↔ 21 < n := by unfold Ac.wl; split <;> omega
set_option maxHeartbeats 4000000 in
theorem text_any (x : Rat) (hx : Rt.Fit x) (h0 : 0 ≤ x.num) (w : World) :
    Calls Tryz.prog 75 #[.agg (Rt.qA x), .int .i64 6] w fun r w' => (∃ (s : ByteArray) (e : Int), r = .returned (.tuple #[.string s, .int .i64 e]) ∧ Hid (Ac.Yes e (Ac.Txt x)) ∧ s.size ≤ 1000) ∧ Below w.heap.size w w' := by
 have HM := Mem.start w
 have zi := za_int
 have k0 := la_q x
 have CK := fun w => check_6 x hx w
 have SC := fun w => scaled_6 x hx w
 have hlo := Ac.lim_of (Ac.lo_lim hx (n := 6) (by decide)) (show 511 ≤ 1024 by decide)
 have hre := Ac.lim_of (Ac.re_lim hx 6) (show 480 ≤ 1024 by decide)
 have hl0 : 0 ≤ Ac.lo x 6 := Int.ediv_nonneg (Int.mul_nonneg h0 (by have := Ac.p10_pos 6; omega)) (Int.le_of_lt (Ac.den_pos x))
 have HT : Hid (Ac.Txt x = Ac.TxtOf (Ac.re x 6) (Tx.txt false (Ac.lo x 6).natAbs).size) := Lib.hid rfl
 generalize Ac.lo x 6 = l at *
 generalize Ac.re x 6 = r at *
 have sl := sa_z l (c := Bg.zA 0) (zA_size 0)
 have sr := sa_z r (c := Bg.zA 0) (zA_size 0)
 obtain ⟨g, hg⟩ : ∃ g, Hid (g = r.sign) := ⟨_, Lib.hid rfl⟩
 have SR := fun w => sign_z r g hre hg w
 by_cases hr0 : r = 0
 case neg =>
  have hg0 : (g == 0) = false := beq_eq_false_iff_ne.2 (by
   rw [hg.out]
   intro e
   exact hr0 (Int.sign_eq_zero_iff_zero.1 e))
  have HE := Lib.hid (Ac.yes_f (e := 32) (P := Ac.Txt x) (by rw [HT.out]; exact fun h => hr0 h.1) (by decide))
  clear hr0
  go_enter Tryz.func75, Tryz.ntmps75
  go_wp2_with (first | (go_at_call 118; ((with_reducible refine (CK _).mono ?_); rintro e9 w2 ⟨rfl, hL⟩; replace HM := HM.call hL; clear hL)) | (go_at_call 119; ((with_reducible refine (SC _).mono ?_); rintro e9 w2 ⟨rfl, hL⟩; replace HM := HM.call hL; clear hL)) | (go_at_call 85; ((with_reducible refine (SR _).mono ?_); rintro e9 w2 ⟨rfl, hL⟩; replace HM := HM.call hL; clear hL)) | (first | ((with_reducible refine g_ld ?_); refine a_ld HM ?_) | ((with_reducible refine g_st ?_); refine a_st HM ?_; clear HM; intro w1 HM) | ((with_reducible refine g_al ?_); refine a_al HM ?_; clear HM; intro bk w1 HM) | ((with_reducible refine g_bx ?_); refine a_bx HM ?_; clear HM; intro bk w1 HM)))
  go_ret2
  exact ⟨⟨_, 32, rfl, HE, by decide⟩, HM.low⟩
 case pos =>
 subst hr0
 obtain rfl : g = 0 := hg.out
 obtain ⟨n, rfl⟩ : ∃ n : Nat, l = n := ⟨l.toNat, by omega⟩
 rw [Int.natAbs_natCast] at HT hlo
 have FM := fun w => bformat_any false n hlo w
 have ezn : Bg.intA false n = Bg.zA (n : Nat) := by rw [zA_int, Int.natAbs_natCast, decide_eq_false (by omega)]
 rw [ezn] at FM
 have hsz := Tx.txt_size hlo
 have hct := Tx.txt_cut n
 generalize Tx.txt false n = T at *
 obtain ⟨hs1, hs2⟩ := hsz
 have CP := fun w => belt (cp_any T T false (Lib.hid hct.symm) w)
 have PT := fun w => point_any T hs1 (by omega) w
 have HWL := Lib.hid (Ac.wl_iff T.size)
 have hwb : Ac.wl T.size ≤ 309 := by unfold Ac.wl; split <;> omega
 have HWB := Lib.hid hwb
 clear hct ezn hg hl0 h0 hwb
 go_enter Tryz.func75, Tryz.ntmps75
 go_upto_region 9 with (first | (go_at_call 118; ((with_reducible refine (CK _).mono ?_); rintro e9 w2 ⟨rfl, hL⟩; replace HM := HM.call hL; clear hL)) | (go_at_call 119; ((with_reducible refine (SC _).mono ?_); rintro e9 w2 ⟨rfl, hL⟩; replace HM := HM.call hL; clear hL)) | (go_at_call 85; ((with_reducible refine (SR _).mono ?_); rintro e9 w2 ⟨rfl, hL⟩; replace HM := HM.call hL; clear hL)) | (go_at_call 121; ((with_reducible refine (FM _).mono ?_); rintro e9 w2 ⟨rfl, hL⟩; replace HM := HM.call hL; clear hL)) | (go_at_call 120; ((with_reducible refine (CP _).mono ?_); rintro e9 w2 ⟨rfl, hL⟩; replace HM := HM.call hL; clear hL)) | (go_at_call 122; refine (PT _).mono ?_; rintro e9 w2 ⟨⟨a, b, rfl, HA, hb⟩, hL⟩; replace HM := HM.call hL; clear hL) | (first | ((with_reducible refine g_ld ?_); refine a_ld HM ?_) | ((with_reducible refine g_st ?_); refine a_st HM ?_; clear HM; intro w1 HM) | ((with_reducible refine g_al ?_); refine a_al HM ?_; clear HM; intro bk w1 HM) | ((with_reducible refine g_bx ?_); refine a_bx HM ?_; clear HM; intro bk w1 HM)))
 by_cases h15 : 15 < a.size
 ·have h16 : (15 : Int) < a.size := by omega
  have HE := Lib.hid (Ac.yes_f (e := 32) (P := Ac.Txt x) (by rw [HT.out]; intro h; have := HWL.out.1 (by rw [← HA.out]; exact h15); have := h.2; omega) (by decide))
  clear h15
  go_wp2_with (first | ((with_reducible refine g_ld ?_); refine a_ld HM ?_) | ((with_reducible refine g_st ?_); refine a_st HM ?_; clear HM; intro w1 HM) | ((with_reducible refine g_al ?_); refine a_al HM ?_; clear HM; intro bk w1 HM) | ((with_reducible refine g_bx ?_); refine a_bx HM ?_; clear HM; intro bk w1 HM))
  go_ret2
  exact ⟨⟨_, 32, rfl, HE, by decide⟩, HM.low⟩
 ·have h16 : ¬ (15 : Int) < a.size := by omega
  have HE := Lib.hid (Ac.yes_t (P := Ac.Txt x) (by
   rw [HT.out]
   have h2 : ¬ 21 < T.size := fun h => h15 (by rw [HA.out]; exact HWL.out.2 h)
   exact ⟨rfl, by omega⟩))
  have ha : a.size ≤ 309 := by rw [HA.out]; exact HWB.out
  have TR := fun w => below_eq (tr_any b (by omega) w)
  clear h15
  go_upto_region 12 with (first | (go_at_call 123; refine (TR _).mono ?_; rintro e9 w2 ⟨⟨c, rfl, hc⟩, hL⟩; replace HM := HM.call hL; clear hL) | (first | ((with_reducible refine g_ld ?_); refine a_ld HM ?_) | ((with_reducible refine g_st ?_); refine a_st HM ?_; clear HM; intro w1 HM) | ((with_reducible refine g_al ?_); refine a_al HM ?_; clear HM; intro bk w1 HM) | ((with_reducible refine g_bx ?_); refine a_bx HM ?_; clear HM; intro bk w1 HM)))
  have hc6 : c.size ≤ 6 := by omega
  by_cases he : c.toList = []
  ·have h1 : c.toList.isEmpty = true := by rw [he]; rfl
   clear he
   go_wp2_with (first | ((with_reducible refine g_ld ?_); refine a_ld HM ?_) | ((with_reducible refine g_st ?_); refine a_st HM ?_; clear HM; intro w1 HM) | ((with_reducible refine g_al ?_); refine a_al HM ?_; clear HM; intro bk w1 HM) | ((with_reducible refine g_bx ?_); refine a_bx HM ?_; clear HM; intro bk w1 HM))
   go_ret2
   exact ⟨⟨_, 0, rfl, HE, by omega⟩, HM.low⟩
  ·have h1 : c.toList.isEmpty = false := by cases h : c.toList with | nil => exact absurd h he | cons a l => rfl
   clear he
   go_wp2_with (first | ((with_reducible refine g_ld ?_); refine a_ld HM ?_) | ((with_reducible refine g_st ?_); refine a_st HM ?_; clear HM; intro w1 HM) | ((with_reducible refine g_al ?_); refine a_al HM ?_; clear HM; intro bk w1 HM) | ((with_reducible refine g_bx ?_); refine a_bx HM ?_; clear HM; intro bk w1 HM))
   go_ret2
   exact ⟨⟨_, 0, rfl, HE, by rw [ByteArray.size_append, ByteArray.size_append]; show a.size + (1 + c.size) ≤ 1000; omega⟩, HM.low⟩
def Ac.Pct : Option Rat → Prop
 | none => False
 | some x => Rt.Fit (x * ((100 : Int) : Rat)) ∧ 0 ≤ x ∧ Ac.Txt (x * ((100 : Int) : Rat))
theorem la_qneg' (x : Rat) : LA 4 (Rt.qA x) 0 (.bool (decide (x.num < 0))) := by
 rw [qA_rZ, rZ_ratA]
 exact la_rnneg _ _ _ _
theorem Ac.num100 {x : Rat} (h : 0 ≤ x) : 0 ≤ (x * ((100 : Int) : Rat)).num := by
 have h1 : (0 : Rat) ≤ ((100 : Int) : Rat) := by decide
 exact Rat.num_nonneg.2 (Rat.mul_nonneg h h1)
set_option maxHeartbeats 4000000 in
theorem pct_any (o : Option Rat) (c : Array Value) (hv : Rt.Vc o c) (w : World) :
    Calls Tryz.prog 38 #[.agg c] w fun r w' => (∃ (s : ByteArray) (e : Int), r = .returned (.tuple #[.string s, .int .i64 e]) ∧ Hid (Ac.Yes e (Ac.Pct o))) ∧ Below w.heap.size w w' := by
 have HM := Mem.start w
 have zr := za_rat
 cases o with
 | none =>
  obtain ⟨s, M, t, N, hM, hN, hb, rfl⟩ := hv
  have k0 := la_rat s M t N
  have V := fun w => valid_n s M t N false hM hN (Lib.hid hb.symm) w
  have HE := Lib.hid (Ac.yes_f (e := 20) (P := Ac.Pct none) (fun h => h) (by decide))
  clear hb
  go_enter Tryz.func38, Tryz.ntmps38
  go_wp2_with (first | (go_at_call 73; ((with_reducible refine (V _).mono ?_); rintro e9 w2 ⟨rfl, hL⟩; replace HM := HM.call hL; clear hL)) | (first | ((with_reducible refine g_ld ?_); refine a_ld HM ?_) | ((with_reducible refine g_st ?_); refine a_st HM ?_; clear HM; intro w1 HM) | ((with_reducible refine g_al ?_); refine a_al HM ?_; clear HM; intro bk w1 HM) | ((with_reducible refine g_bx ?_); refine a_bx HM ?_; clear HM; intro bk w1 HM)))
  go_ret2
  exact ⟨⟨_, 20, rfl, HE⟩, HM.low⟩
 | some x =>
  obtain ⟨hx, rfl⟩ := hv
  have k0 := la_q x
  have k1 := la_qneg' x
  have V := fun w => valid_q x hx w
  obtain ⟨y, hy⟩ : ∃ y : Rat, Hid (y = x * ((100 : Int) : Rat)) := ⟨_, Lib.hid rfl⟩
  have f100 : Rt.Fit ((100 : Int) : Rat) := by
   rw [Rt.int_divInt]
   exact (Rt.Bd.divInt (i := 20) (j := 1) (by decide) (Bg.p2_small 20 1048576 (by unfold Bg.p2; rfl) (by decide)) (Bg.p2_small 1 2 (by unfold Bg.p2; rfl) (by decide))).fit
  obtain ⟨h, hh⟩ : ∃ h : Rat, Hid (h = ((100 : Int) : Rat)) := ⟨_, Lib.hid rfl⟩
  have WH := fun w => whole_q 100 h (by decide) (by decide) hh w
  rw [← hh.out] at f100 hy
  obtain ⟨d, e, hde⟩ : ∃ (d : Array Value) (e : Int), Hid ((d, e) = Rt.res y) := ⟨_, _, Lib.hid rfl⟩
  have ML := fun w => mul_r x h d e hx f100 (Lib.hid (by rw [← hy.out]; exact hde.out)) w
  by_cases hf : Rt.Fit y
  case neg =>
   obtain ⟨rfl, rfl⟩ : d = Bg.rZ 0 0 ∧ e = 10 := by
    have := hde.out
    unfold Rt.res at this
    rw [if_neg hf] at this
    exact Prod.mk.inj this
   have sd := sa_r66 (c := Bg.rZ 0 0) (rZ_size 0 0) (rZ_one 0 0) (rZ_size 0 0)
   have HE := Lib.hid (Ac.yes_f (e := 32) (P := Ac.Pct (some x)) (fun h9 => hf (by rw [hy.out, hh.out]; exact h9.1)) (by decide))
   clear hf hde hy hh
   go_enter Tryz.func38, Tryz.ntmps38
   go_upto_region 3 with (first | (go_at_call 73; ((with_reducible refine (V _).mono ?_); rintro e9 w2 ⟨rfl, hL⟩; replace HM := HM.call hL; clear hL)) | (first | ((with_reducible refine g_ld ?_); refine a_ld HM ?_) | ((with_reducible refine g_st ?_); refine a_st HM ?_; clear HM; intro w1 HM) | ((with_reducible refine g_al ?_); refine a_al HM ?_; clear HM; intro bk w1 HM) | ((with_reducible refine g_bx ?_); refine a_bx HM ?_; clear HM; intro bk w1 HM)))
   obtain ⟨b1, rfl⟩ := HM.nm0
   refine start_M [7] HM (by kernel_rfl) (fun w0x H9 => ?_)
   replace HM := H9; clear H9
   refine k_ld 0 [2, 3, 4, 5, 7, 8] (heldE HM) ?_
   refine j_two 1 6 ?_ ?_
   ·refine j_call1 (v := ?_) HM ?_ ?_; rotate_left 1; (focus (with_reducible (first | exact WH _ | exact ML _))); clear HM; intro w1 HM
    refine ⟨(heldE HM), ?_⟩
    refine j_two 2 6 ?_ ?_
    ·refine j_call2 (v := ?_) HM ?_ ?_; rotate_left 1; (focus (with_reducible (first | exact WH _ | exact ML _))); clear HM; intro w1 HM
     refine ⟨(heldE HM), ?_⟩
     refine k_mv 3 (heldE HM) ?_
     refine k_ext 4 (heldE HM) ?_
     refine k_ext 5 (heldE HM) ?_
     refine j_one 6 fun K9 hK9 => ?_
     refine j_al HM ?_; clear HM; intro bk w1 HM
     refine hK9 _ _ (heldE HM) ?_; clear hK9 K9
     refine j_one 7 fun K9 hK9 => ?_
     refine j_st HM ?_; clear HM; intro w1 HM
     refine hK9 _ _ heldN ?_; clear hK9 K9
     refine k_mv 8 heldN ?_
     refine wpAnyL_done (by kernel_rfl) ?_ _
     (go_wp2_with (first | ((with_reducible refine g_ld ?_); refine a_ld HM ?_) | ((with_reducible refine g_st ?_); refine a_st HM ?_; clear HM; intro w1 HM) | ((with_reducible refine g_al ?_); refine a_al HM ?_; clear HM; intro bk w1 HM) | ((with_reducible refine g_bx ?_); refine a_bx HM ?_; clear HM; intro bk w1 HM)); go_ret2; exact ⟨⟨_, 32, rfl, HE⟩, HM.low⟩)
    ·refine j_al HM ?_; clear HM; intro bk w1 HM
     refine ⟨(heldE HM), ?_⟩
     refine j_one 2 fun K9 hK9 => ?_
     refine j_call2 (v := ?_) HM ?_ ?_; rotate_left 1; (focus (with_reducible (first | exact WH _ | exact ML _))); clear HM; intro w1 HM
     refine hK9 _ _ (heldE HM) ?_; clear hK9 K9
     refine k_mv 3 (heldE HM) ?_
     refine k_ext 4 (heldE HM) ?_
     refine k_ext 5 (heldE HM) ?_
     refine j_one 7 fun K9 hK9 => ?_
     refine j_st HM ?_; clear HM; intro w1 HM
     refine hK9 _ _ heldN ?_; clear hK9 K9
     refine k_mv 8 heldN ?_
     refine wpAnyL_done (by kernel_rfl) ?_ _
     (go_wp2_with (first | ((with_reducible refine g_ld ?_); refine a_ld HM ?_) | ((with_reducible refine g_st ?_); refine a_st HM ?_; clear HM; intro w1 HM) | ((with_reducible refine g_al ?_); refine a_al HM ?_; clear HM; intro bk w1 HM) | ((with_reducible refine g_bx ?_); refine a_bx HM ?_; clear HM; intro bk w1 HM)); go_ret2; exact ⟨⟨_, 32, rfl, HE⟩, HM.low⟩)
   ·refine j_al HM ?_; clear HM; intro bk w1 HM
    refine ⟨(heldE HM), ?_⟩
    refine j_one 1 fun K9 hK9 => ?_
    refine j_call1 (v := ?_) HM ?_ ?_; rotate_left 1; (focus (with_reducible (first | exact WH _ | exact ML _))); clear HM; intro w1 HM
    refine hK9 _ _ (heldE HM) ?_; clear hK9 K9
    refine j_one 2 fun K9 hK9 => ?_
    refine j_call2 (v := ?_) HM ?_ ?_; rotate_left 1; (focus (with_reducible (first | exact WH _ | exact ML _))); clear HM; intro w1 HM
    refine hK9 _ _ (heldE HM) ?_; clear hK9 K9
    refine k_mv 3 (heldE HM) ?_
    refine k_ext 4 (heldE HM) ?_
    refine k_ext 5 (heldE HM) ?_
    refine j_one 7 fun K9 hK9 => ?_
    refine j_st HM ?_; clear HM; intro w1 HM
    refine hK9 _ _ heldN ?_; clear hK9 K9
    refine k_mv 8 heldN ?_
    refine wpAnyL_done (by kernel_rfl) ?_ _
    (go_wp2_with (first | ((with_reducible refine g_ld ?_); refine a_ld HM ?_) | ((with_reducible refine g_st ?_); refine a_st HM ?_; clear HM; intro w1 HM) | ((with_reducible refine g_al ?_); refine a_al HM ?_; clear HM; intro bk w1 HM) | ((with_reducible refine g_bx ?_); refine a_bx HM ?_; clear HM; intro bk w1 HM)); go_ret2; exact ⟨⟨_, 32, rfl, HE⟩, HM.low⟩)
  case pos =>
   obtain ⟨rfl, rfl⟩ : d = Rt.qA y ∧ e = 0 := by
    have := hde.out
    unfold Rt.res at this
    rw [if_pos hf] at this
    exact Prod.mk.inj this
   have sd := sa_r66 (c := Bg.rZ 0 0) (qA_size y) (qA_one y) (rZ_size 0 0)
   have ly := la_q y
   by_cases hn : x.num < 0
   ·have HE := Lib.hid (Ac.yes_f (e := 32) (P := Ac.Pct (some x)) (fun h9 => by have := Rat.num_nonneg.2 h9.2.1; omega) (by decide))
    clear hf hde hy hh
    go_enter Tryz.func38, Tryz.ntmps38
    go_upto_region 3 with (first | (go_at_call 73; ((with_reducible refine (V _).mono ?_); rintro e9 w2 ⟨rfl, hL⟩; replace HM := HM.call hL; clear hL)) | (first | ((with_reducible refine g_ld ?_); refine a_ld HM ?_) | ((with_reducible refine g_st ?_); refine a_st HM ?_; clear HM; intro w1 HM) | ((with_reducible refine g_al ?_); refine a_al HM ?_; clear HM; intro bk w1 HM) | ((with_reducible refine g_bx ?_); refine a_bx HM ?_; clear HM; intro bk w1 HM)))
    obtain ⟨b1, rfl⟩ := HM.nm0
    refine start_M [7] HM (by kernel_rfl) (fun w0x H9 => ?_)
    replace HM := H9; clear H9
    refine k_ld 0 [2, 3, 4, 5, 7, 8] (heldE HM) ?_
    refine j_two 1 6 ?_ ?_
    ·refine j_call1 (v := ?_) HM ?_ ?_; rotate_left 1; (focus (with_reducible (first | exact WH _ | exact ML _))); clear HM; intro w1 HM
     refine ⟨(heldE HM), ?_⟩
     refine j_two 2 6 ?_ ?_
     ·refine j_call2 (v := ?_) HM ?_ ?_; rotate_left 1; (focus (with_reducible (first | exact WH _ | exact ML _))); clear HM; intro w1 HM
      refine ⟨(heldE HM), ?_⟩
      refine k_mv 3 (heldE HM) ?_
      refine k_ext 4 (heldE HM) ?_
      refine k_ext 5 (heldE HM) ?_
      refine j_one 6 fun K9 hK9 => ?_
      refine j_al HM ?_; clear HM; intro bk w1 HM
      refine hK9 _ _ (heldE HM) ?_; clear hK9 K9
      refine j_one 7 fun K9 hK9 => ?_
      refine j_st HM ?_; clear HM; intro w1 HM
      refine hK9 _ _ heldN ?_; clear hK9 K9
      refine k_mv 8 heldN ?_
      refine wpAnyL_done (by kernel_rfl) ?_ _
      (go_wp2_with (first | ((with_reducible refine g_ld ?_); refine a_ld HM ?_) | ((with_reducible refine g_st ?_); refine a_st HM ?_; clear HM; intro w1 HM) | ((with_reducible refine g_al ?_); refine a_al HM ?_; clear HM; intro bk w1 HM) | ((with_reducible refine g_bx ?_); refine a_bx HM ?_; clear HM; intro bk w1 HM)); go_ret2; exact ⟨⟨_, 32, rfl, HE⟩, HM.low⟩)
     ·refine j_al HM ?_; clear HM; intro bk w1 HM
      refine ⟨(heldE HM), ?_⟩
      refine j_one 2 fun K9 hK9 => ?_
      refine j_call2 (v := ?_) HM ?_ ?_; rotate_left 1; (focus (with_reducible (first | exact WH _ | exact ML _))); clear HM; intro w1 HM
      refine hK9 _ _ (heldE HM) ?_; clear hK9 K9
      refine k_mv 3 (heldE HM) ?_
      refine k_ext 4 (heldE HM) ?_
      refine k_ext 5 (heldE HM) ?_
      refine j_one 7 fun K9 hK9 => ?_
      refine j_st HM ?_; clear HM; intro w1 HM
      refine hK9 _ _ heldN ?_; clear hK9 K9
      refine k_mv 8 heldN ?_
      refine wpAnyL_done (by kernel_rfl) ?_ _
      (go_wp2_with (first | ((with_reducible refine g_ld ?_); refine a_ld HM ?_) | ((with_reducible refine g_st ?_); refine a_st HM ?_; clear HM; intro w1 HM) | ((with_reducible refine g_al ?_); refine a_al HM ?_; clear HM; intro bk w1 HM) | ((with_reducible refine g_bx ?_); refine a_bx HM ?_; clear HM; intro bk w1 HM)); go_ret2; exact ⟨⟨_, 32, rfl, HE⟩, HM.low⟩)
    ·refine j_al HM ?_; clear HM; intro bk w1 HM
     refine ⟨(heldE HM), ?_⟩
     refine j_one 1 fun K9 hK9 => ?_
     refine j_call1 (v := ?_) HM ?_ ?_; rotate_left 1; (focus (with_reducible (first | exact WH _ | exact ML _))); clear HM; intro w1 HM
     refine hK9 _ _ (heldE HM) ?_; clear hK9 K9
     refine j_one 2 fun K9 hK9 => ?_
     refine j_call2 (v := ?_) HM ?_ ?_; rotate_left 1; (focus (with_reducible (first | exact WH _ | exact ML _))); clear HM; intro w1 HM
     refine hK9 _ _ (heldE HM) ?_; clear hK9 K9
     refine k_mv 3 (heldE HM) ?_
     refine k_ext 4 (heldE HM) ?_
     refine k_ext 5 (heldE HM) ?_
     refine j_one 7 fun K9 hK9 => ?_
     refine j_st HM ?_; clear HM; intro w1 HM
     refine hK9 _ _ heldN ?_; clear hK9 K9
     refine k_mv 8 heldN ?_
     refine wpAnyL_done (by kernel_rfl) ?_ _
     (go_wp2_with (first | ((with_reducible refine g_ld ?_); refine a_ld HM ?_) | ((with_reducible refine g_st ?_); refine a_st HM ?_; clear HM; intro w1 HM) | ((with_reducible refine g_al ?_); refine a_al HM ?_; clear HM; intro bk w1 HM) | ((with_reducible refine g_bx ?_); refine a_bx HM ?_; clear HM; intro bk w1 HM)); go_ret2; exact ⟨⟨_, 32, rfl, HE⟩, HM.low⟩)
   ·have hx0 : 0 ≤ x := Rat.num_nonneg.1 (by omega)
    have hyn : 0 ≤ y.num := by rw [hy.out, hh.out]; exact Ac.num100 hx0
    have TX := fun w => text_any y hf hyn w
    have HP := Lib.hid (show (Ac.Txt y → Ac.Pct (some x)) ∧ (Ac.Pct (some x) → Ac.Txt y) by
     constructor
     ·intro h9
      exact ⟨by rw [← hh.out, ← hy.out]; exact hf, hx0, by rw [← hh.out, ← hy.out]; exact h9⟩
     ·intro h9
      rw [hy.out, hh.out]
      exact h9.2.2)
    clear hf hde hy hh hx0 hyn
    go_enter Tryz.func38, Tryz.ntmps38
    go_upto_region 3 with (first | (go_at_call 73; ((with_reducible refine (V _).mono ?_); rintro e9 w2 ⟨rfl, hL⟩; replace HM := HM.call hL; clear hL)) | (first | ((with_reducible refine g_ld ?_); refine a_ld HM ?_) | ((with_reducible refine g_st ?_); refine a_st HM ?_; clear HM; intro w1 HM) | ((with_reducible refine g_al ?_); refine a_al HM ?_; clear HM; intro bk w1 HM) | ((with_reducible refine g_bx ?_); refine a_bx HM ?_; clear HM; intro bk w1 HM)))
    obtain ⟨b1, rfl⟩ := HM.nm0
    go_cut [4, 5] (fun p q wc => ∃ b4, p = .pointer (some ⟨b4, 0, none⟩) ∧ q = .int .i64 0 ∧ Mem w [] [(b4, Rt.qA y), (b1, Rt.qA x)] wc)
    case first =>
     refine start_M [7] HM (by kernel_rfl) (fun w0x H9 => ?_)
     replace HM := H9; clear H9
     refine k_ld 0 [2, 3, 4, 5, 7, 8] (heldE HM) ?_
     refine j_two 1 6 ?_ ?_
     ·refine j_call1 (v := ?_) HM ?_ ?_; rotate_left 1; (focus (with_reducible (first | exact WH _ | exact ML _))); clear HM; intro w1 HM
      refine ⟨(heldE HM), ?_⟩
      refine j_two 2 6 ?_ ?_
      ·refine j_call2 (v := ?_) HM ?_ ?_; rotate_left 1; (focus (with_reducible (first | exact WH _ | exact ML _))); clear HM; intro w1 HM
       refine ⟨(heldE HM), ?_⟩
       refine k_mv 3 (heldE HM) ?_
       refine k_ext 4 (heldE HM) ?_
       refine k_ext 5 (heldE HM) ?_
       refine j_one 6 fun K9 hK9 => ?_
       refine j_al HM ?_; clear HM; intro bk w1 HM
       refine hK9 _ _ (heldE HM) ?_; clear hK9 K9
       refine j_one 7 fun K9 hK9 => ?_
       refine j_st HM ?_; clear HM; intro w1 HM
       refine hK9 _ _ heldN ?_; clear hK9 K9
       refine k_mv 8 heldN ?_
       refine wpAnyL_done (by kernel_rfl) ?_ _
       (go_wp2_with fail; go_meet; (case rel => exact ⟨_, rfl, rfl, HM.pick⟩))
      ·refine j_al HM ?_; clear HM; intro bk w1 HM
       refine ⟨(heldE HM), ?_⟩
       refine j_one 2 fun K9 hK9 => ?_
       refine j_call2 (v := ?_) HM ?_ ?_; rotate_left 1; (focus (with_reducible (first | exact WH _ | exact ML _))); clear HM; intro w1 HM
       refine hK9 _ _ (heldE HM) ?_; clear hK9 K9
       refine k_mv 3 (heldE HM) ?_
       refine k_ext 4 (heldE HM) ?_
       refine k_ext 5 (heldE HM) ?_
       refine j_one 7 fun K9 hK9 => ?_
       refine j_st HM ?_; clear HM; intro w1 HM
       refine hK9 _ _ heldN ?_; clear hK9 K9
       refine k_mv 8 heldN ?_
       refine wpAnyL_done (by kernel_rfl) ?_ _
       (go_wp2_with fail; go_meet; (case rel => exact ⟨_, rfl, rfl, HM.pick⟩))
     ·refine j_al HM ?_; clear HM; intro bk w1 HM
      refine ⟨(heldE HM), ?_⟩
      refine j_one 1 fun K9 hK9 => ?_
      refine j_call1 (v := ?_) HM ?_ ?_; rotate_left 1; (focus (with_reducible (first | exact WH _ | exact ML _))); clear HM; intro w1 HM
      refine hK9 _ _ (heldE HM) ?_; clear hK9 K9
      refine j_one 2 fun K9 hK9 => ?_
      refine j_call2 (v := ?_) HM ?_ ?_; rotate_left 1; (focus (with_reducible (first | exact WH _ | exact ML _))); clear HM; intro w1 HM
      refine hK9 _ _ (heldE HM) ?_; clear hK9 K9
      refine k_mv 3 (heldE HM) ?_
      refine k_ext 4 (heldE HM) ?_
      refine k_ext 5 (heldE HM) ?_
      refine j_one 7 fun K9 hK9 => ?_
      refine j_st HM ?_; clear HM; intro w1 HM
      refine hK9 _ _ heldN ?_; clear hK9 K9
      refine k_mv 8 heldN ?_
      refine wpAnyL_done (by kernel_rfl) ?_ _
      (go_wp2_with fail; go_meet; (case rel => exact ⟨_, rfl, rfl, HM.pick⟩))
    case rest =>
     clear HM
     obtain ⟨b4, rfl, rfl, HM⟩ := hcut
     go_step
     go_upto_region 7 with (first | (go_at_call 75; refine (TX _).mono ?_; rintro e9 w2 ⟨⟨s, e, rfl, HE, hs⟩, hL⟩; replace HM := HM.call hL; clear hL) | (first | ((with_reducible refine g_ld ?_); refine a_ld HM ?_) | ((with_reducible refine g_st ?_); refine a_st HM ?_; clear HM; intro w1 HM) | ((with_reducible refine g_al ?_); refine a_al HM ?_; clear HM; intro bk w1 HM) | ((with_reducible refine g_bx ?_); refine a_bx HM ?_; clear HM; intro bk w1 HM)))
     by_cases he : e = 0
     ·have HE2 : Hid (Ac.Yes 0 (Ac.Pct (some x))) := Lib.hid (Ac.yes_t (HP.out.1 (HE.out.1 he)))
      subst he
      go_wp2_with (first | ((with_reducible refine g_ld ?_); refine a_ld HM ?_) | ((with_reducible refine g_st ?_); refine a_st HM ?_; clear HM; intro w1 HM) | ((with_reducible refine g_al ?_); refine a_al HM ?_; clear HM; intro bk w1 HM) | ((with_reducible refine g_bx ?_); refine a_bx HM ?_; clear HM; intro bk w1 HM))
      go_ret2
      exact ⟨⟨_, 0, rfl, HE2⟩, HM.low⟩
     ·have HE2 : Hid (Ac.Yes e (Ac.Pct (some x))) := Lib.hid (Ac.yes_f (fun h9 => he (HE.out.2 (HP.out.2 h9))) he)
      have he0 : (e == 0) = false := beq_eq_false_iff_ne.2 he
      clear he
      go_wp2_with (first | ((with_reducible refine g_ld ?_); refine a_ld HM ?_) | ((with_reducible refine g_st ?_); refine a_st HM ?_; clear HM; intro w1 HM) | ((with_reducible refine g_al ?_); refine a_al HM ?_; clear HM; intro bk w1 HM) | ((with_reducible refine g_bx ?_); refine a_bx HM ?_; clear HM; intro bk w1 HM))
      go_ret2
      exact ⟨⟨_, e, rfl, HE2⟩, HM.low⟩
end Go.Proofs.YtmbjaaaeekacfaaGreatDoor
