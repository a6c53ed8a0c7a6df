/- Walks. -/
import Derived.Test.YtkiempioeffhbaaGreatDoorPt05
import Derived.Test.YtkiempioeffhbaaGreatDoorPt14
import Derived.Test.YtkiempioeffhbaaGreatDoorPt16
namespace Go.Proofs.YtkiempioeffhbaaGreatDoor
set_option maxHeartbeats 16000000
open Go.RowKit
set_option maxRecDepth 8000
section
theorem z9_57 {P : Prop} (h : P := by
 refine ⟨(heldE HM), ?_⟩
 refine k_mv 6 (heldE HM) ?_
 refine k_ext 7 (heldE HM) ?_
 refine k_ext 8 (heldE HM) ?_
 refine j_one 9 fun K9 hK9 => ?_
 refine j_al HM ?_; clear HM; intro bk w1 HM
 refine hK9 _ _ (heldE HM) ?_; clear hK9 K9
 refine j_one 10 fun K9 hK9 => ?_
 refine j_st HM ?_; clear HM; intro w1 HM
 refine hK9 _ _ heldN ?_; clear hK9 K9
 refine k_mv 11 heldN ?_
 refine wpAnyL_done Zk ?_ _
 (go_wp2_with fail; go_meet; (case rel => exact ⟨_, rfl, HM.pick⟩))) : P := h
theorem z9_58 {P : Prop} (h : P := by
 refine j_one 5 fun K9 hK9 => ?_
 refine j_call2 (v := ?_) HM ?_ ?_; rotate_left 1; (focus (with_reducible (first | exact PW _ | exact FI _ | exact ML _))); clear HM; intro w1 HM
 refine hK9 _ _ (heldE HM) ?_; clear hK9 K9
 refine k_mv 6 (heldE HM) ?_
 refine k_ext 7 (heldE HM) ?_
 refine k_ext 8 (heldE HM) ?_
 refine j_one 10 fun K9 hK9 => ?_
 refine j_st HM ?_; clear HM; intro w1 HM
 refine hK9 _ _ heldN ?_; clear hK9 K9
 refine k_mv 11 heldN ?_
 refine wpAnyL_done Zk ?_ _
 (go_wp2_with fail; go_meet; (case rel => exact ⟨_, rfl, HM.pick⟩))) : P := h
theorem z9_59 {P : Prop} (h : P := by
 refine j_one 4 fun K9 hK9 => ?_
 refine j_call1 (v := ?_) HM ?_ ?_; rotate_left 1; (focus (with_reducible (first | exact PW _ | exact FI _ | exact ML _))); clear HM; intro w1 HM
 refine hK9 _ _ (heldE HM) ?_; clear hK9 K9
 refine j_one 5 fun K9 hK9 => ?_
 refine j_call2 (v := ?_) HM ?_ ?_; rotate_left 1; (focus (with_reducible (first | exact PW _ | exact FI _ | exact ML _))); clear HM; intro w1 HM
 refine hK9 _ _ (heldE HM) ?_; clear hK9 K9
 refine k_mv 6 (heldE HM) ?_
 refine k_ext 7 (heldE HM) ?_
 refine k_ext 8 (heldE HM) ?_
 refine j_one 10 fun K9 hK9 => ?_
 refine j_st HM ?_; clear HM; intro w1 HM
 refine hK9 _ _ heldN ?_; clear hK9 K9
 refine k_mv 11 heldN ?_
 refine wpAnyL_done Zk ?_ _
 (go_wp2_with fail; go_meet; (case rel => exact ⟨_, rfl, HM.pick⟩))) : P := h
theorem z9_60 {P : Prop} (h : P := by
 refine hK9 _ _ heldN ?_; clear hK9 K9
 refine j_one 3 fun K9 hK9 => ?_
 refine j_st HM ?_; clear HM; intro w1 HM
 refine hK9 _ _ heldN ?_; clear hK9 K9
 refine wpAnyL_done Zk ?_ _
 (go_wp2_with fail; refine bodyPost_ret (r_cc (b := b4) (b2 := b5) (k := 0) (k2 := 0) rfl rfl rfl (HM.get Zl) (la_z _) (HM.get Zl) (la_z _)) rfl ⟨rfl, HM.low⟩)) : P := h
end
section
theorem below_eq {f : FuncId} {args : Array Value} {P : Ending → Prop} {w : World} (h : Calls Tryz.prog f args w fun e w' => P e ∧ w = w') : Calls Tryz.prog f args w fun e w' => P e ∧ Below w.heap.size w w' := h.mono (by rintro e w' ⟨h, rfl⟩; exact ⟨h, Below.refl _ _⟩)
def Ac.p10 (n : Nat) : Int := ((10 ^ n : Nat) : Int)
theorem Ac.p10_succ (n : Nat) : Ac.p10 (n + 1) = Ac.p10 n * 10 := by unfold Ac.p10; rw [Nat.pow_succ]; omega
theorem Ac.p10_pos (n : Nat) : 1 ≤ Ac.p10 n := by unfold Ac.p10; have := Nat.pow_pos (n := n) (show 0 < 10 by decide); omega
theorem Ac.p10_le {n : Nat} (h : n ≤ 9) : Ac.p10 n ≤ 1000000000 := by
 unfold Ac.p10
 have := Nat.pow_le_pow_right (show 0 < 10 by decide) h
 have e : (10 : Nat) ^ 9 = 1000000000 := by decide
 omega
theorem power_any (n : Nat) (hn : n ≤ 9) (w : World) :
    Calls Tryz.prog 186 #[.int .i64 (n : Nat)] w fun e w' => e = .returned (.int .i64 (Ac.p10 n)) ∧ w = w' := by
 go_enter Tryz.func186, Tryz.ntmps186
 go_wp2
 go_loop [3, 5] (fun p i => ∃ k : Nat, p = .int .i64 (Ac.p10 k) ∧ i = .int .i64 (k : Nat) ∧ k ≤ n) (fun _ i => n - (intOf i).toNat)
 case atStart => exact ⟨0, rfl, rfl, by omega⟩
 case round =>
  obtain ⟨k, rfl, rfl, hk⟩ := hrel
  by_cases hlt : k < n
  ·have hlt1 : (k : Int) < n := by omega
   have h1 := Ac.p10_pos k
   have h2 := Ac.p10_le (show k ≤ 9 by omega)
   have h3 := Zi (Ac.p10_succ k)
   generalize Ac.p10 k = p at h1 h2 h3 ⊢
   go_wp2
   go_round
   case rel => exact ⟨k + 1, by rw [h3.out], by go_num, by omega⟩
   case measure => simp [intOf]; omega
  ·obtain rfl : k = n := by omega
   go_wp2
   go_ret
   exact ⟨rfl, rfl⟩
theorem Ac.p10_bits {n : Nat} (h : n ≤ 9) : (Ac.p10 n).natAbs < Bg.p2 30 := by
 have h1 := Ac.p10_le h
 have h2 := Ac.p10_pos n
 have e : Bg.p2 30 = 1073741824 := by unfold Bg.p2; rfl
 omega
theorem Ac.mul_lim {x n : Int} (hx : x.natAbs < Bg.p2 480) (hn : n.natAbs < Bg.p2 30) : (x * n).natAbs < Bg.p2 510 := by
 rw [Int.natAbs_mul]
 have e : Bg.p2 510 = Bg.p2 480 * Bg.p2 30 := by rw [← Bg.p2_add]
 rw [e]
 exact Nat.mul_lt_mul'' hx hn
theorem Ac.lim_of {z : Int} {k : Nat} (h : z.natAbs < Bg.p2 k) (hk : k ≤ 1024) : z.natAbs < Bg.lim := by
 have := Bg.p2_mono hk
 rw [Bg.p2_lim] at this
 omega
theorem Ac.resZ {z : Int} (h : z.natAbs < Bg.lim) : z = Bg.resZ z := by unfold Bg.resZ; rw [if_pos h]
theorem Ac.resE {z : Int} (h : z.natAbs < Bg.lim) : 0 = Bg.resE z := by unfold Bg.resE; rw [if_pos h]
theorem Ac.nl {x : Rat} (h : Rt.Fit x) : x.num.natAbs < Bg.lim := Ac.lim_of h.1 Zd
theorem Ac.dl {x : Rat} (h : Rt.Fit x) : ((x.den : Nat) : Int).natAbs < Bg.lim := by rw [Int.natAbs_natCast]; exact Ac.lim_of (z := (x.den : Nat)) (by rw [Int.natAbs_natCast]; exact h.2) Zd
theorem Ac.ediv_abs {a : Int} {d : Int} (hd : 0 < d) : (a / d).natAbs ≤ a.natAbs + 1 := by
 rcases Int.le_total 0 a with h | h
 ·have h1 : 0 ≤ a / d := Int.ediv_nonneg h (Int.le_of_lt hd)
  have h2 : a / d ≤ a := Int.ediv_le_self _ h
  omega
 ·have h1 : a ≤ a / d := by
    refine Int.le_ediv_of_mul_le hd ?_
    obtain ⟨k, rfl⟩ : ∃ k, d = k + 1 := ⟨d - 1, by omega⟩
    have := Int.mul_le_mul_of_nonneg_right h (show 0 ≤ k by omega)
    rw [Int.mul_add, Int.mul_one]
    omega
  have h2 : a / d ≤ 0 := by
   have := Int.ediv_le_ediv hd h
   simpa using this
  omega
def Ac.lo (x : Rat) (n : Nat) : Int := x.num * Ac.p10 n / x.den
def Ac.re (x : Rat) (n : Nat) : Int := x.num * Ac.p10 n % x.den
theorem Ac.lo_lim {x : Rat} (h : Rt.Fit x) {n : Nat} (hn : n ≤ 9) : (Ac.lo x n).natAbs < Bg.p2 511 := by
 have h1 := Ac.mul_lim h.1 (Ac.p10_bits hn)
 have h2 := Ac.ediv_abs (a := x.num * Ac.p10 n) (Ac.den_pos x)
 have e : Bg.p2 511 = Bg.p2 510 * 2 := by rw [show (511 : Nat) = 510 + 1 from rfl, Bg.p2_add]; rw [show Bg.p2 1 = 2 by unfold Bg.p2; rfl]
 unfold Ac.lo
 omega
theorem Ac.re_in (x : Rat) (n : Nat) : 0 ≤ Ac.re x n ∧ Ac.re x n < x.den := ⟨Int.emod_nonneg _ (Int.ne_of_gt (Ac.den_pos x)), Int.emod_lt_of_pos _ (Ac.den_pos x)⟩
theorem Ac.re_lim {x : Rat} (h : Rt.Fit x) (n : Nat) : (Ac.re x n).natAbs < Bg.p2 480 := by
 have h1 := Ac.re_in x n
 have h2 := h.2
 omega
theorem scaled_any (x : Rat) (n : Nat) (hx : Rt.Fit x) (hn : n ≤ 9) (w : World) :
    Calls Tryz.prog 162 #[.agg (Rt.qA x), .int .i64 (n : Nat)] w fun e w' => e = .returned (.tuple #[.agg (Bg.zA (Ac.lo x n)), .agg (Bg.zA (Ac.re x n))]) ∧ Below w.heap.size w w' := by
 have HM := Mem.start w
 have zi := za_int
 have k1 := la_qnum x
 have k2 := la_qden x
 have hz := Ac.lim_of (Ac.mul_lim hx.1 (Ac.p10_bits hn)) (show 510 ≤ 1024 by decide)
 obtain ⟨p, hp⟩ := Zh (Ac.p10 n)
 have hp0 := Ac.p10_pos n
 have hp1 := Ac.p10_le hn
 obtain ⟨z, hzz⟩ := Zh (x.num * p)
 have PW := fun w => below_eq (power_any n hn w)
 rw [← hp.out] at PW hz hp0 hp1
 rw [← hzz.out] at hz
 have hpl : p.natAbs < Bg.lim := small_lim Zo
 have FI := fun w => fromInt_z p Zo Zo w
 have ML := fun w => mul_z x.num p z 0 z (Ac.nl hx) hpl hzz (Zi (Ac.resZ hz)) (Zi (Ac.resE hz)) w
 obtain ⟨q, hq⟩ := Zh (Ac.lo x n)
 obtain ⟨r, hr⟩ := Zh (Ac.re x n)
 have DM := fun w => divMod_f z x.den q r hz (Ac.dl hx) (Int.ne_of_gt (Ac.den_pos x)) (Zi (by rw [hq.out, hzz.out, hp.out]; rfl)) (Zi (by rw [hr.out, hzz.out, hp.out]; rfl)) w
 rw [← hq.out, ← hr.out]
 have s1 := sa_z z (c := Bg.zA 0) (zA_size 0)
 have s2 := sa_z q (c := Bg.zA 0) (zA_size 0)
 have s3 := sa_z r (c := Bg.zA 0) (zA_size 0)
 have s4 := sa_z q (c := Bg.zA q) (zA_size q)
 have s5 := sa_z r (c := Bg.zA r) (zA_size r)
 clear hp hzz hq hr
 go_enter Tryz.func162, Tryz.ntmps162
 go_upto_region 1 with (first | ((with_reducible refine g_al ?_); refine a_al HM ?_; clear HM; intro bk w1 HM) | ((with_reducible refine g_bx ?_); refine a_bx HM ?_; clear HM; intro bk w1 HM))
 obtain ⟨b5, rfl⟩ := HM.nm0
 obtain ⟨b4, rfl⟩ := HM.nm1
 obtain ⟨b2, rfl⟩ := HM.nm2
 go_cut [6] (fun p wc => ∃ b6, p = .pointer (some ⟨b6, 0, none⟩) ∧ Mem w [] [(b6, Bg.zA z), (b5, Bg.zA 0), (b4, Bg.zA 0), (b2, Rt.qA x)] wc)
 case first =>
  refine start_M [10] HM Zk (fun w0x H9 => ?_)
  replace HM := H9; clear H9
  refine k_fa 0 (heldE HM) ?_
  refine k_ld 1 [5, 6, 7, 8, 10, 11] (heldE HM) ?_
  refine k_mv 2 (heldE HM) ?_
  refine j_two 3 9 ?_ ?_
  ·refine j_call1 (v := ?_) HM ?_ ?_; rotate_left 1; (focus (with_reducible (first | exact PW _ | exact FI _ | exact ML _))); clear HM; intro w1 HM
   refine ⟨(heldE HM), ?_⟩
   refine j_two 4 9 ?_ ?_
   ·refine j_call1 (v := ?_) HM ?_ ?_; rotate_left 1; (focus (with_reducible (first | exact PW _ | exact FI _ | exact ML _))); clear HM; intro w1 HM
    refine ⟨(heldE HM), ?_⟩
    refine j_two 5 9 ?_ ?_
    ·refine j_call2 (v := ?_) HM ?_ ?_; rotate_left 1; (focus (with_reducible (first | exact PW _ | exact FI _ | exact ML _))); clear HM; intro w1 HM
     exact z9_57
    ·refine j_al HM ?_; clear HM; intro bk w1 HM
     refine ⟨(heldE HM), ?_⟩
     exact z9_58
   ·refine j_al HM ?_; clear HM; intro bk w1 HM
    refine ⟨(heldE HM), ?_⟩
    exact z9_59
  ·refine j_al HM ?_; clear HM; intro bk w1 HM
   refine ⟨(heldE HM), ?_⟩
   refine j_one 3 fun K9 hK9 => ?_
   refine j_call1 (v := ?_) HM ?_ ?_; rotate_left 1; (focus (with_reducible (first | exact PW _ | exact FI _ | exact ML _))); clear HM; intro w1 HM
   refine hK9 _ _ (heldE HM) ?_; clear hK9 K9
   exact z9_59
 case rest =>
  clear HM
  obtain ⟨b6, rfl, HM⟩ := hcut
  go_step
  go_upto_region 3 with (first | (go_at_call 187; (with_reducible refine Zc HM (DM _) ?_; clear HM; intro w2 HM)) | ((with_reducible refine g_ld ?_); refine a_ld HM ?_) | ((with_reducible refine g_st ?_); refine a_st HM ?_; clear HM; intro w1 HM))
  refine start_M [2, 3] HM Zk (fun w0x H9 => ?_)
  replace HM := H9; clear H9
  refine k_ld 0 [2, 3] (heldE HM) ?_
  refine j_two 1 2 ?_ ?_
  ·refine j_ld HM ?_
   refine ⟨(heldE HM), ?_⟩
   refine j_one 2 fun K9 hK9 => ?_
   refine j_st HM ?_; clear HM; intro w1 HM
   exact z9_60
  ·refine j_st HM ?_; clear HM; intro w1 HM
   refine ⟨heldN, ?_⟩
   refine j_one 1 fun K9 hK9 => ?_
   refine j_ld HM ?_
   exact z9_60
end
section
theorem z9_61 {P : Prop} (h : P := by
 go_enter Tryz.func161, Tryz.ntmps161
 go_wp2_with (first | (go_at_call 167; (with_reducible refine Zc HM (V _) ?_; clear HM; intro w2 HM)) | ((with_reducible refine g_ld ?_); refine a_ld HM ?_) | ((with_reducible refine g_bx ?_); refine a_bx HM ?_; clear HM; intro bk w1 HM))
 go_ret
 exact ⟨rfl, HM.low⟩) : P := h
end
section
theorem check_q (x : Rat) (n : Nat) (hx : Rt.Fit x) (hn : n ≤ 9) (w : World) :
    Calls Tryz.prog 161 #[.agg (Rt.qA x), .int .i64 (n : Nat)] w fun e w' => e = .returned (.int .i64 0) ∧ Below w.heap.size w w' := by
 have HM := Mem.start w
 have k0 := la_q x
 have V := fun w => valid_q x hx w
 have hn1 : (n : Int) ≤ 9 := by omega
 have hn2 : ¬ (9 : Int) < n := by omega
 exact z9_61
def Bw.c (l h : Int) (n : Bool) : Array Value := rowsOf [Bg.zA l, #[.int .i64 h], #[.bool n]]
def Ac.up (l h : Int) : Bool := if h = 0 then decide (l.natAbs % 2 = 1) else decide (0 < h)
def Ac.hf (x : Rat) : Int := (2 * Ac.rm x - x.den).sign
theorem check_6 (x : Rat) (hx : Rt.Fit x) (w : World) :
    Calls Tryz.prog 161 #[.agg (Rt.qA x), .int .i64 6] w fun e w' => e = .returned (.int .i64 0) ∧ Below w.heap.size w w' := check_q x 6 hx Zd w
theorem scaled_6 (x : Rat) (hx : Rt.Fit x) (w : World) :
    Calls Tryz.prog 162 #[.agg (Rt.qA x), .int .i64 6] w fun e w' => e = .returned (.tuple #[.agg (Bg.zA (Ac.lo x 6)), .agg (Bg.zA (Ac.re x 6))]) ∧ Below w.heap.size w w' := scaled_any x 6 hx Zd w
end
section
def Ac.TxtOf (r : Int) (n : Nat) : Prop := r = 0 ∧ n ≤ 21
def Ac.Txt (x : Rat) : Prop := Ac.TxtOf (Ac.re x 6) (Tx.txt false (Ac.lo x 6).natAbs).size
def Ac.Yes (e : Int) (P : Prop) : Prop := e = 0 ↔ P
theorem Ac.yes_t {P : Prop} (h : P) : Ac.Yes 0 P := ⟨fun _ => h, fun _ => rfl⟩
theorem Ac.yes_f {P : Prop} {e : Int} (h : ¬ P) (he : e ≠ 0) : Ac.Yes e P := ⟨fun h2 => absurd h2 he, fun h2 => absurd h2 h⟩
theorem Tx.txt_head (N : Nat) : ∃ c l, c < 10 ∧ Tx.txt false N = Tx.str (c :: l) ∧ l.length + 1 = (Tx.txt false N).size := by
 unfold Tx.txt
 by_cases h : N = 0
 ·rw [if_pos h]
  exact ⟨0, [], by decide, rfl, by rw [Tx.str_len]; rfl⟩
 ·rw [if_neg h, if_neg Bool.false_ne_true]
  obtain ⟨c, l, e, _⟩ := Tx.dig_head h
  have hc : c ∈ Tx.dig N := by
   have : c ∈ (Tx.dig N).reverse := by rw [e]; exact List.mem_cons_self
   simpa using this
  exact ⟨c, l, Tx.dig_lt N c hc, by rw [e], by rw [e, Tx.str_len]; rfl⟩
theorem Tx.txt_cut (N : Nat) : Tx.cut (Tx.txt false N) = (Tx.txt false N, false) := by
 obtain ⟨c, l, hc, e, _⟩ := Tx.txt_head N
 rw [e]; exact Tx.cut_str c l hc
theorem Tx.txt_size {N : Nat} (h : N < Bg.lim) : 1 ≤ (Tx.txt false N).size ∧ (Tx.txt false N).size ≤ 309 := by
 refine ⟨by obtain ⟨c, l, hc, e, h1⟩ := Tx.txt_head N; omega, ?_⟩
 unfold Tx.txt
 by_cases h0 : N = 0
 ·rw [if_pos h0, Tx.str_len]; decide
 ·rw [if_neg h0, if_neg Bool.false_ne_true, Tx.str_len, List.length_reverse]
  exact Tx.lim_len h
theorem Ac.wl_iff (n : Nat) : 15 < Ac.wl n ↔ 21 < n := by unfold Ac.wl; split <;> omega
theorem text_any (x : Rat) (hx : Rt.Fit x) (h0 : 0 ≤ x.num) (w : World) :
    Calls Tryz.prog 141 #[.agg (Rt.qA x), .int .i64 6] w fun r w' => (∃ (s : ByteArray) (e : Int), r = .returned (.tuple #[.string s, .int .i64 e]) ∧ Hid (Ac.Yes e (Ac.Txt x)) ∧ s.size ≤ 1000) ∧ Below w.heap.size w w' := by
 have HM := Mem.start w
 have zi := za_int
 have k0 := la_q x
 have CK := fun w => check_6 x hx w
 have SC := fun w => scaled_6 x hx w
 have hlo := Ac.lim_of (Ac.lo_lim hx (n := 6) Zd) (show 511 ≤ 1024 by decide)
 have hre := Ac.lim_of (Ac.re_lim hx 6) (show 480 ≤ 1024 by decide)
 have hl0 : 0 ≤ Ac.lo x 6 := Int.ediv_nonneg (Int.mul_nonneg h0 (by have := Ac.p10_pos 6; omega)) (Int.le_of_lt (Ac.den_pos x))
 have HT : Hid (Ac.Txt x = Ac.TxtOf (Ac.re x 6) (Tx.txt false (Ac.lo x 6).natAbs).size) := Zi rfl
 generalize Ac.lo x 6 = l at *
 generalize Ac.re x 6 = r at *
 have sl := sa_z l (c := Bg.zA 0) (zA_size 0)
 have sr := sa_z r (c := Bg.zA 0) (zA_size 0)
 obtain ⟨g, hg⟩ := Zh (r.sign)
 have SR := fun w => sign_z r g hre hg w
 by_cases hr0 : r = 0
 case neg =>
  have hg0 : (g == 0) = false := Zb (by
   rw [hg.out]
   intro e
   exact hr0 (Int.sign_eq_zero_iff_zero.1 e))
  have HE := Zi (Ac.yes_f (e := 32) (P := Ac.Txt x) (by rw [HT.out]; exact fun h => hr0 h.1) Zd)
  clear hr0
  go_enter Tryz.func141, Tryz.ntmps141
  go_wp2_with (first | ((first | (go_at_call 161; with_reducible refine (CK _).mono ?_) | (go_at_call 162; with_reducible refine (SC _).mono ?_) | (go_at_call 116; with_reducible refine (SR _).mono ?_)); rintro e9 w2 ⟨rfl, hL⟩; replace HM := HM.call hL; clear hL) | ((with_reducible refine g_ld ?_); refine a_ld HM ?_) | ((with_reducible refine g_st ?_); refine a_st HM ?_; clear HM; intro w1 HM) | ((with_reducible refine g_al ?_); refine a_al HM ?_; clear HM; intro bk w1 HM) | ((with_reducible refine g_bx ?_); refine a_bx HM ?_; clear HM; intro bk w1 HM))
  go_ret2
  exact ⟨⟨_, 32, rfl, HE, by decide⟩, HM.low⟩
 case pos =>
 subst hr0
 obtain rfl : g = 0 := hg.out
 obtain ⟨n, rfl⟩ : ∃ n : Nat, l = n := ⟨l.toNat, by omega⟩
 rw [Int.natAbs_natCast] at HT hlo
 have FM := fun w => bformat_any false n hlo w
 have ezn : Bg.intA false n = Bg.zA (n : Nat) := by rw [zA_int, Int.natAbs_natCast, Zf Zo]
 rw [ezn] at FM
 have hsz := Tx.txt_size hlo
 have hct := Tx.txt_cut n
 generalize Tx.txt false n = T at *
 obtain ⟨hs1, hs2⟩ := hsz
 have CP := fun w => belt (cp_any T T false (Zi hct.symm) w)
 have PT := fun w => point_any T hs1 Zo w
 have HWL := Zi (Ac.wl_iff T.size)
 have hwb : Ac.wl T.size ≤ 309 := by unfold Ac.wl; split <;> omega
 have HWB := Zi hwb
 clear hct ezn hg hl0 h0 hwb
 go_enter Tryz.func141, Tryz.ntmps141
 go_upto_region 9 with (first | ((first | (go_at_call 161; with_reducible refine (CK _).mono ?_) | (go_at_call 162; with_reducible refine (SC _).mono ?_) | (go_at_call 116; with_reducible refine (SR _).mono ?_) | (go_at_call 164; with_reducible refine (FM _).mono ?_) | (go_at_call 163; with_reducible refine (CP _).mono ?_)); rintro e9 w2 ⟨rfl, hL⟩; replace HM := HM.call hL; clear hL) | (go_at_call 165; refine (PT _).mono ?_; rintro e9 w2 ⟨⟨a, b, rfl, HA, hb⟩, hL⟩; replace HM := HM.call hL; clear hL) | ((with_reducible refine g_ld ?_); refine a_ld HM ?_) | ((with_reducible refine g_st ?_); refine a_st HM ?_; clear HM; intro w1 HM) | ((with_reducible refine g_al ?_); refine a_al HM ?_; clear HM; intro bk w1 HM) | ((with_reducible refine g_bx ?_); refine a_bx HM ?_; clear HM; intro bk w1 HM))
 by_cases h15 : 15 < a.size
 ·have h16 : (15 : Int) < a.size := by omega
  have HE := Zi (Ac.yes_f (e := 32) (P := Ac.Txt x) (by rw [HT.out]; intro h; have := HWL.out.1 (by rw [← HA.out]; exact h15); have := h.2; omega) Zd)
  clear h15
  go_wp2_with fail
  go_ret2
  exact ⟨⟨_, 32, rfl, HE, by decide⟩, HM.low⟩
 ·have h16 : ¬ (15 : Int) < a.size := by omega
  have HE := Zi (Ac.yes_t (P := Ac.Txt x) (by
   rw [HT.out]
   have h2 : ¬ 21 < T.size := fun h => h15 (by rw [HA.out]; exact HWL.out.2 h)
   exact ⟨rfl, by omega⟩))
  have ha : a.size ≤ 309 := by rw [HA.out]; exact HWB.out
  have TR := fun w => below_eq (tr_any b Zo w)
  clear h15
  go_upto_region 12 with (go_at_call 166; refine (TR _).mono ?_; rintro e9 w2 ⟨⟨c, rfl, hc⟩, hL⟩; replace HM := HM.call hL; clear hL)
  have hc6 : c.size ≤ 6 := by omega
  by_cases he : c.toList = []
  ·have h1 : c.toList.isEmpty = true := by rw [he]; rfl
   clear he
   go_wp2_with fail
   go_ret2
   exact ⟨⟨_, 0, rfl, HE, by omega⟩, HM.low⟩
  ·have h1 : c.toList.isEmpty = false := by cases h : c.toList with | nil => exact absurd h he | cons a l => rfl
   clear he
   go_wp2_with fail
   go_ret2
   exact ⟨⟨_, 0, rfl, HE, by rw [ByteArray.size_append, ByteArray.size_append]; show a.size + (1 + c.size) ≤ 1000; omega⟩, HM.low⟩
def Ac.Pct : Option Rat → Prop
 | none => False
 | some x => Rt.Fit (x * ((100 : Int) : Rat)) ∧ 0 ≤ x ∧ Ac.Txt (x * ((100 : Int) : Rat))
end
section
theorem z9_62 {P : Prop} (h : P := by
 refine j_one 5 fun K9 hK9 => ?_
 refine j_call2 (v := ?_) HM ?_ ?_; rotate_left 1; (focus (with_reducible (first | exact PW _ | exact ML _))); clear HM; intro w1 HM
 refine hK9 _ _ (heldE HM) ?_; clear hK9 K9
 refine k_mv 6 (heldE HM) ?_
 refine k_ext 7 (heldE HM) ?_
 refine k_ext 8 (heldE HM) ?_
 refine j_one 10 fun K9 hK9 => ?_
 refine j_st HM ?_; clear HM; intro w1 HM
 refine hK9 _ _ heldN ?_; clear hK9 K9
 refine k_mv 11 heldN ?_
 refine wpAnyL_done Zk ?_ _
 (go_wp2_with fail; go_meet; (case rel => exact ⟨_, rfl, HM.pick⟩))) : P := h
theorem z9_63 {P : Prop} (h : P := by
 refine hK9 _ _ heldN ?_; clear hK9 K9
 refine j_one 4 fun K9 hK9 => ?_
 refine j_st HM ?_; clear HM; intro w1 HM
 refine hK9 _ _ heldN ?_; clear hK9 K9
 refine wpAnyL_done Zk ?_ _
 (go_wp2_with fail; refine bodyPost_ret (r_cc (b := b4) (b2 := b5) (k := 0) (k2 := 0) rfl rfl rfl (HM.get Zl) (la_z _) (HM.get Zl) (la_z _)) rfl ⟨rfl, HM.low⟩)) : P := h
theorem z9_64 {P : Prop} (h : P := by
 refine bodyPost_ret (r_ct (b := b6) (k := 0) rfl rfl (HM.get Zl) (la_z _)) rfl ⟨rfl, HM.low⟩) : P := h
end
section
theorem Rt.und : Tryz.prog.underlying 43 = some (.struct (Tryz.prog.fieldsOf 43)) := by kernel_rfl
theorem fa_qnum (x : Rat) : FA 41 (Rt.qA x) 0 (.agg (Bg.zA x.num)) := by
 rw [qA_rZ, rZ_ratA, zA_int]
 exact .inr ⟨by kernel_rfl, _, by rw [Bg.intA_size]; exact sT_int, by rw [Bg.intA_size, ratA_size]; omega, by rw [Bg.intA_size]; exact ratA_num _ _ _ _, rfl⟩
theorem la_limz0 (z : Int) : LA 38 (Bg.zA z) 1 (.int .u32 (Bg.limb z.natAbs 0 : Nat)) := by
 rw [zA_int]
 exact la_limi (decide (z < 0)) z.natAbs 0 Zd
theorem placesOK_any (n : Nat) (hn : n ≤ 9) (w : World) :
    Calls Tryz.prog 203 #[.int .i64 (n : Nat)] w fun e w' => e = .returned (.bool true) ∧ w = w' := by
 have h1 : (n : Int) ≤ 9 := by omega
 go_enter Tryz.func203, Tryz.ntmps203
 go_wp2
 go_ret
 exact ⟨rfl, rfl⟩
theorem Ac.p10_num (n : Nat) : ((Ac.p10 n : Int) : Rat).num = Ac.p10 n := Rat.num_intCast _
theorem rpower_any (n : Nat) (hn : n ≤ 9) (w : World) :
    Calls Tryz.prog 212 #[.int .i64 (n : Nat)] w fun e w' => e = .returned (.agg (Rt.qA ((Ac.p10 n : Int) : Rat))) ∧ Below w.heap.size w w' := by
 have HM := Mem.start w
 have zr := za_rat
 go_enter Tryz.func212, Tryz.ntmps212
 go_upto_region 1 with ((with_reducible refine g_al ?_); refine a_al HM ?_; clear HM; intro bk w1 HM)
 obtain ⟨b2, rfl⟩ := HM.nm0
 go_wp2_with fail
 go_loopw [3, 4] (fun p i wr => ∃ k : Nat, p = .int .i64 (Ac.p10 k) ∧ i = .int .i64 (k : Nat) ∧ k ≤ n ∧ Mem w [] [(b2, Bg.rZ 0 0)] wr) (fun _ i _ => n - (intOf i).toNat)
 case atStart => exact ⟨0, rfl, rfl, by omega, HM⟩
 case round =>
  clear HM
  obtain ⟨k, rfl, rfl, hk, HM⟩ := hrel
  have h1 := Ac.p10_pos k
  have h2 := Ac.p10_le (show k ≤ 9 by omega)
  by_cases hlt : k < n
  ·have hlt1 : (k : Int) < n := by omega
   have h3 := Zi (Ac.p10_succ k)
   generalize Ac.p10 k = p at h1 h2 h3 ⊢
   go_wp2_with fail
   go_roundw
   case rel => exact ⟨k + 1, by rw [h3.out], by go_num, by omega, HM⟩
   case measure => simp [intOf]; omega
  ·obtain rfl : k = n := by omega
   obtain ⟨y, hy⟩ : ∃ y : Rat, Hid (y = ((Ac.p10 k : Int) : Rat)) := ⟨_, Zi rfl⟩
   have WH := fun w => rwhole_q (Ac.p10 k) y Zo Zo hy w
   have sy := sa_q y (rZ_size 0 0)
   clear h1 h2
   go_wp2_with (first | (go_at_call 158; (with_reducible refine Zc HM (WH _) ?_; clear HM; intro w2 HM)) | ((with_reducible refine g_st ?_); refine a_st HM ?_; clear HM; intro w1 HM))
   refine bodyPost_ret (r_c (b := b2) (k := 0) rfl rfl (HM.get Zl) (la_q y)) rfl ⟨by rw [hy.out], HM.low⟩
theorem rscaled_any (x : Rat) (n : Nat) (hx : Rt.Fit x) (hn : n ≤ 9) (w : World) :
    Calls Tryz.prog 204 #[.agg (Rt.qA x), .int .i64 (n : Nat)] w fun e w' => e = .returned (.tuple #[.agg (Bg.zA (x.num * Ac.p10 n)), .agg (Bg.zA x.den)]) ∧ Below w.heap.size w w' := by
 have HM := Mem.start w
 have zi := za_int
 have k1 := la_qnum x
 have k2 := la_qden x
 have hz := Ac.lim_of (Ac.mul_lim hx.1 (Ac.p10_bits hn)) (show 510 ≤ 1024 by decide)
 obtain ⟨p, hp⟩ := Zh (Ac.p10 n)
 have hp0 := Ac.p10_pos n
 have hp1 := Ac.p10_le hn
 obtain ⟨z, hzz⟩ := Zh (x.num * p)
 have PW := fun w => rpower_any n hn w
 have FF := fa_qnum ((Ac.p10 n : Int) : Rat)
 rw [Ac.p10_num] at FF
 rw [← hp.out] at PW hz hp0 hp1 FF
 rw [← hp.out, ← hzz.out]
 rw [← hzz.out] at hz
 have hpl : p.natAbs < Bg.lim := small_lim Zo
 have ML := fun w => rmul_zz x.num p z z 0 (Ac.nl hx) hpl hzz (Zi (Ac.resZ hz)) (Zi (Ac.resE hz)) w
 have s1 := sa_z z (c := Bg.zA 0) (zA_size 0)
 have s3 := sa_z (x.den : Int) (c := Bg.zA 0) (zA_size 0)
 obtain ⟨y, hy⟩ : ∃ y : Rat, Hid (y = (p : Rat)) := ⟨_, Zi rfl⟩
 rw [← hy.out] at PW FF
 clear hp hzz hy
 go_enter Tryz.func204, Tryz.ntmps204
 go_upto_region 1 with (first | ((with_reducible refine g_al ?_); refine a_al HM ?_; clear HM; intro bk w1 HM) | ((with_reducible refine g_bx ?_); refine a_bx HM ?_; clear HM; intro bk w1 HM))
 obtain ⟨b5, rfl⟩ := HM.nm0
 obtain ⟨b4, rfl⟩ := HM.nm1
 obtain ⟨b2, rfl⟩ := HM.nm2
 go_cut [6] (fun p wc => ∃ b6, p = .pointer (some ⟨b6, 0, none⟩) ∧ Mem w [] [(b6, Bg.zA z), (b5, Bg.zA 0), (b4, Bg.zA 0), (b2, Rt.qA x)] wc)
 case first =>
  refine start_M [10] HM Zk (fun w0x H9 => ?_)
  replace HM := H9; clear H9
  refine k_fa 0 (heldE HM) ?_
  refine k_ld 1 [5, 6, 7, 8, 10, 11] (heldE HM) ?_
  refine k_mv 2 (heldE HM) ?_
  refine j_two 3 9 ?_ ?_
  ·refine j_call1 (v := ?_) HM ?_ ?_; rotate_left 1; (focus (with_reducible (first | exact PW _ | exact ML _))); clear HM; intro w1 HM
   refine ⟨(heldE HM), ?_⟩
   refine t_pure (i := 4) (v := .agg (Bg.zA p)) rfl rfl Zk (fun _ _ _ h => h) (heldE HM) (by rfl) ?_ ?_; (focus (refine h_fld rfl ?_ Rt.und Zk FF; ((conv => lhs; whnf) <;> rfl))); ((try simp only [Za]); (try simp only [Zx]); (try simp only [Zy]))
   refine j_two 5 9 ?_ ?_
   ·refine j_call2 (v := ?_) HM ?_ ?_; rotate_left 1; (focus (with_reducible (first | exact PW _ | exact ML _))); clear HM; intro w1 HM
    exact z9_57
   ·refine j_al HM ?_; clear HM; intro bk w1 HM
    refine ⟨(heldE HM), ?_⟩
    exact z9_62
  ·refine j_al HM ?_; clear HM; intro bk w1 HM
   refine ⟨(heldE HM), ?_⟩
   refine j_one 3 fun K9 hK9 => ?_
   refine j_call1 (v := ?_) HM ?_ ?_; rotate_left 1; (focus (with_reducible (first | exact PW _ | exact ML _))); clear HM; intro w1 HM
   refine hK9 _ _ (heldE HM) ?_; clear hK9 K9
   refine t_pure (i := 4) (v := .agg (Bg.zA p)) rfl rfl Zk (fun _ _ _ h => h) (heldE HM) (by rfl) ?_ ?_; (focus (refine h_fld rfl ?_ Rt.und Zk FF; ((conv => lhs; whnf) <;> rfl))); ((try simp only [Za]); (try simp only [Zx]); (try simp only [Zy]))
   exact z9_62
 case rest =>
  clear HM
  obtain ⟨b6, rfl, HM⟩ := hcut
  go_step
  go_upto_region 2 with fail
  refine start_M [3, 4] HM Zk (fun w0x H9 => ?_)
  replace HM := H9; clear H9
  refine k_ld 0 [3, 4] (heldE HM) ?_
  refine k_fa 1 (heldE HM) ?_
  refine j_two 2 3 ?_ ?_
  ·refine j_ld HM ?_
   refine ⟨(heldE HM), ?_⟩
   refine j_one 3 fun K9 hK9 => ?_
   refine j_st HM ?_; clear HM; intro w1 HM
   exact z9_63
  ·refine j_st HM ?_; clear HM; intro w1 HM
   refine ⟨heldN, ?_⟩
   refine j_one 2 fun K9 hK9 => ?_
   refine j_ld HM ?_
   exact z9_63
theorem above1_any (n o : Bool) (h : Int) (w : World) :
    Calls Tryz.prog 206 #[.int .i64 1, .bool n, .int .i64 h, .bool o] w fun e w' => e = .returned (.bool n) ∧ w = w' := by
 go_enter Tryz.func206, Tryz.ntmps206
 go_wp2
 go_ret
 exact ⟨rfl, rfl⟩
theorem placesOK_6 (w : World) : Calls Tryz.prog 203 #[.int .i64 6] w fun e w' => e = .returned (.bool true) ∧ Below w.heap.size w w' := below_eq (placesOK_any 6 Zd w)
theorem rscaled_6 (x : Rat) (hx : Rt.Fit x) (w : World) :
    Calls Tryz.prog 204 #[.agg (Rt.qA x), .int .i64 6] w fun e w' => e = .returned (.tuple #[.agg (Bg.zA (x.num * Ac.p10 6)), .agg (Bg.zA x.den)]) ∧ Below w.heap.size w w' := rscaled_any x 6 hx Zd w
theorem exact6_any (x : Rat) (hx : Rt.Fit x) (v : Bool) (hv : Hid (v = decide (Ac.re x 6 = 0))) (w : World) :
    Calls Tryz.prog 177 #[.agg (Rt.qA x), .int .i64 6] w fun e w' => e = .returned (.tuple #[.bool v, .int .i64 0]) ∧ Below w.heap.size w w' := by
 have HM := Mem.start w
 have zi := za_int
 have k0 := la_q x
 have V := fun w => rvalid_q x hx w
 have SC := fun w => rscaled_6 x hx w
 have hz := Ac.lim_of (Ac.mul_lim hx.1 (Ac.p10_bits (show 6 ≤ 9 by decide))) (show 510 ≤ 1024 by decide)
 have hre := Ac.lim_of (Ac.re_lim hx 6) (show 480 ≤ 1024 by decide)
 obtain ⟨q, hq⟩ := Zh (Ac.lo x 6)
 obtain ⟨r, hr⟩ := Zh (Ac.re x 6)
 have DM := fun w => rdivMod_zz (x.num * Ac.p10 6) x.den q r hz (Ac.dl hx) (Int.ne_of_gt (Ac.den_pos x)) (Zi (by rw [hq.out]; rfl)) (Zi (by rw [hr.out]; rfl)) w
 rw [← hr.out] at hv hre
 obtain ⟨g, hg⟩ := Zh (r.sign)
 have SR := fun w => rsign_z r g hre hg w
 have hgv : (g == 0) = v := by
  rw [hv.out, hg.out]
  by_cases h : r = 0
  ·rw [h]; rfl
  ·rw [Zf h]
   exact Zb (fun e => h (Int.sign_eq_zero_iff_zero.1 e))
 generalize x.num * Ac.p10 6 = z at SC DM hz
 have s1 := sa_z z (c := Bg.zA 0) (zA_size 0)
 have s2 := sa_z (x.den : Int) (c := Bg.zA 0) (zA_size 0)
 have s3 := sa_z q (c := Bg.zA 0) (zA_size 0)
 have s4 := sa_z r (c := Bg.zA 0) (zA_size 0)
 clear hq hr hg hv
 go_enter Tryz.func177, Tryz.ntmps177
 go_wp2_with (first | ((first | (go_at_call 181; with_reducible refine (V _).mono ?_) | (go_at_call 203; with_reducible refine (placesOK_6 _).mono ?_) | (go_at_call 204; with_reducible refine (SC _).mono ?_) | (go_at_call 125; with_reducible refine (DM _).mono ?_) | (go_at_call 123; with_reducible refine (SR _).mono ?_)); rintro e9 w2 ⟨rfl, hL⟩; replace HM := HM.call hL; clear hL) | ((with_reducible refine g_ld ?_); refine a_ld HM ?_) | ((with_reducible refine g_st ?_); refine a_st HM ?_; clear HM; intro w1 HM) | ((with_reducible refine g_al ?_); refine a_al HM ?_; clear HM; intro bk w1 HM) | ((with_reducible refine g_bx ?_); refine a_bx HM ?_; clear HM; intro bk w1 HM))
 go_ret2
 exact ⟨by rw [← hgv]; rfl, HM.low⟩
theorem rround6_any (x : Rat) (hx : Rt.Fit x) (h0 : 0 ≤ x) (l : Int) (hl0 : Hid (l = Ac.lo x 6)) (w : World) :
    Calls Tryz.prog 178 #[.agg (Rt.qA x), .int .i64 6, .int .i64 1] w fun e w' => e = .returned (.tuple #[.agg (Bg.zA l), .int .i64 0]) ∧ Below w.heap.size w w' := by
 have HM := Mem.start w
 have zi := za_int
 have k0 := la_q x
 have V := fun w => rvalid_q x hx w
 have SC := fun w => rscaled_6 x hx w
 have hz := Ac.lim_of (Ac.mul_lim hx.1 (Ac.p10_bits (show 6 ≤ 9 by decide))) (show 510 ≤ 1024 by decide)
 have hlo := Ac.lo_lim hx (n := 6) Zd
 have hre := Ac.re_lim hx 6
 have hn0 : (0 : Int) ≤ x.num := Rat.num_nonneg.2 h0
 have hzn : (0 : Int) ≤ x.num * Ac.p10 6 := Int.mul_nonneg hn0 (by have := Ac.p10_pos 6; omega)
 obtain ⟨r, hr⟩ := Zh (Ac.re x 6)
 rw [← hl0.out] at hlo
 rw [← hr.out] at hre
 have DM := fun w => rdivMod_zz (x.num * Ac.p10 6) x.den l r hz (Ac.dl hx) (Int.ne_of_gt (Ac.den_pos x)) (Zi (by rw [hl0.out]; rfl)) (Zi (by rw [hr.out]; rfl)) w
 generalize x.num * Ac.p10 6 = z at SC DM hz hzn
 have hl := Ac.lim_of hlo Zd
 have hrl := Ac.lim_of hre Zd
 obtain ⟨t, ht⟩ := Zh (r + r)
 have e481 : Bg.p2 481 = Bg.p2 480 * 2 := by rw [show (481 : Nat) = 480 + 1 from rfl, Bg.p2_add]; rw [show Bg.p2 1 = 2 by unfold Bg.p2; rfl]
 have htl : t.natAbs < Bg.lim := Ac.lim_of (k := 481) (by rw [ht.out, e481]; omega) Zd
 have AD := fun w => radd_zz r r t t 0 hrl hrl ht (Zi (Ac.resZ htl)) (Zi (Ac.resE htl)) w
 obtain ⟨f, hf⟩ := Zh ((t - (x.den : Int)).sign)
 have CM := fun w => rcmp_z t x.den f htl (Ac.dl hx) (Zi (by rw [hf.out])) w
 have hs0 : (0 : Int) ≤ z.sign := by
  rcases Int.lt_trichotomy z 0 with h | h | h
  ·omega
  ·rw [h]; decide
  ·rw [Int.sign_eq_one_of_pos h]; decide
 obtain ⟨s, hs⟩ := Zh (z.sign)
 rw [← hs.out] at hs0
 have SG := fun w => rsign_z z s hz hs w
 have hsn : decide (s < 0) = false := Zf Zo
 have sl := sa_z l (c := Bg.zA 0) (zA_size 0)
 have sr := sa_z r (c := Bg.zA 0) (zA_size 0)
 have st := sa_z t (c := Bg.zA 0) (zA_size 0)
 have sx := sa_z z (c := Bg.zA 0) (zA_size 0)
 have sd := sa_z (x.den : Int) (c := Bg.zA 0) (zA_size 0)
 have lm := la_limz0 l
 have hm3 : Bg.limb l.natAbs 0 < 4294967296 := by unfold Bg.limb; exact Nat.mod_lt _ Zd
 generalize Bg.limb l.natAbs 0 = m at lm hm3
 obtain ⟨c, hc⟩ : ∃ c : Nat, Hid (m % 2 = c) := ⟨_, Zi rfl⟩
 have hm : ((m : Nat) : Int).tmod 2 = c := by have := hc.out; rw [Int.tmod_eq_emod_of_nonneg Zo]; omega
 clear hn0 e481 hlo hre hr hl0 ht hf hzn
 by_cases hr0 : r = 0
 ·have SR := fun w => rsign_z r 0 hrl (Zi (by rw [hr0]; rfl)) w
  clear hr0 CM SG AD hs hm hc
  go_enter Tryz.func178, Tryz.ntmps178
  go_wp2_with (first | ((first | (go_at_call 181; with_reducible refine (V _).mono ?_) | (go_at_call 203; with_reducible refine (placesOK_6 _).mono ?_) | (go_at_call 204; with_reducible refine (SC _).mono ?_) | (go_at_call 125; with_reducible refine (DM _).mono ?_) | (go_at_call 123; with_reducible refine (SR _).mono ?_)); rintro e9 w2 ⟨rfl, hL⟩; replace HM := HM.call hL; clear hL) | ((with_reducible refine g_ld ?_); refine a_ld HM ?_) | ((with_reducible refine g_st ?_); refine a_st HM ?_; clear HM; intro w1 HM) | ((with_reducible refine g_al ?_); refine a_al HM ?_; clear HM; intro bk w1 HM) | ((with_reducible refine g_bx ?_); refine a_bx HM ?_; clear HM; intro bk w1 HM))
  obtain ⟨b6, rfl⟩ := HM.nm4
  exact z9_64
 ·obtain ⟨g, hg⟩ := Zh (r.sign)
  have hg0 : (g == 0) = false := Zb (by
   rw [hg.out]
   intro e
   exact hr0 (Int.sign_eq_zero_iff_zero.1 e))
  have SR := fun w => rsign_z r g hrl hg w
  clear hs hr0
  go_enter Tryz.func178, Tryz.ntmps178
  go_upto_region 12 with (first | ((first | (go_at_call 181; with_reducible refine (V _).mono ?_) | (go_at_call 203; with_reducible refine (placesOK_6 _).mono ?_) | (go_at_call 204; with_reducible refine (SC _).mono ?_) | (go_at_call 125; with_reducible refine (DM _).mono ?_) | (go_at_call 123; with_reducible refine (SR _).mono ?_) | (go_at_call 205; with_reducible refine (AD _).mono ?_)); rintro e9 w2 ⟨rfl, hL⟩; replace HM := HM.call hL; clear hL) | ((with_reducible refine g_ld ?_); refine a_ld HM ?_) | ((with_reducible refine g_st ?_); refine a_st HM ?_; clear HM; intro w1 HM) | ((with_reducible refine g_al ?_); refine a_al HM ?_; clear HM; intro bk w1 HM) | ((with_reducible refine g_bx ?_); refine a_bx HM ?_; clear HM; intro bk w1 HM))
  obtain ⟨b13, rfl⟩ := HM.nm0
  obtain ⟨b11, rfl⟩ := HM.nm1
  obtain ⟨b10, rfl⟩ := HM.nm2
  obtain ⟨b9, rfl⟩ := HM.nm3
  obtain ⟨b8, rfl⟩ := HM.nm4
  obtain ⟨b6, rfl⟩ := HM.nm5
  obtain ⟨o, ho⟩ : ∃ o : Bool, Hid (o = ((c : Int) == 1)) := ⟨_, Zi rfl⟩
  have AB := fun w => below_eq (above1_any (decide (s < 0)) o f w)
  rw [hsn] at AB
  refine start_M [] HM Zk (fun w0x H9 => ?_)
  replace HM := H9; clear H9
  refine k_mv 0 (heldE HM) ?_
  refine k_ld 1 [] (heldE HM) ?_
  refine k_ld 4 [] (heldE HM) ?_
  refine k_ld 5 [] (heldE HM) ?_
  refine k_fa 7 (heldE HM) ?_
  refine k_ia 8 (heldE HM) ?_
  refine k_ld 9 [] (heldE HM) ?_
  refine t_pure (i := 10) (v := .int .u32 (c : Nat)) rfl rfl Zk (fun _ _ _ h => h) (heldE HM) (by rfl) ?_ ?_; (focus (exact h_bin (by rfl) (by rfl) (by rfl) (by intro w9; go_simp))); ((try simp only [Za]); (try simp only [Zx]); (try simp only [Zy]))
  refine t_pure (i := 11) (v := .bool o) rfl rfl Zk (fun _ _ _ h => h) (heldE HM) (by rfl) ?_ ?_; (focus (exact h_bin (by rfl) (by rfl) (by rfl) (by intro w9; go_simp; rw [ho.out]))); ((try simp only [Za]); (try simp only [Zx]); (try simp only [Zy]))
  refine j_one 2 fun K9 hK9 => ?_
  refine j_call1 (v := ?_) HM ?_ ?_; rotate_left 1; (focus (with_reducible (first | exact CM _ | exact SG _ | exact AB _))); clear HM; intro w1 HM
  refine hK9 _ _ (heldE HM) ?_; clear hK9 K9
  refine k_bin 3 (heldE HM) ?_
  refine j_one 6 fun K9 hK9 => ?_
  refine j_call2 (v := ?_) HM ?_ ?_; rotate_left 1; (focus (with_reducible (first | exact CM _ | exact SG _ | exact AB _))); clear HM; intro w1 HM
  refine hK9 _ _ (heldE HM) ?_; clear hK9 K9
  refine j_one 12 fun K9 hK9 => ?_
  refine j_call4 (v := ?_) HM ?_ ?_; rotate_left 1; (focus (with_reducible (first | exact CM _ | exact SG _ | exact AB _))); clear HM; intro w1 HM
  refine hK9 _ _ (heldE HM) ?_; clear hK9 K9
  refine wpAnyL_done Zk ?_ _
  go_wp2_with (first | ((with_reducible refine g_ld ?_); refine a_ld HM ?_) | ((with_reducible refine g_st ?_); refine a_st HM ?_; clear HM; intro w1 HM))
  exact z9_64
end
section
theorem z9_65 {P : Prop} (h : P := by
 rcases hR.out with hr | ⟨F, hr, _, _, hf⟩
 ·rw [hr]; decide
 ·rw [hr, List.length_cons]; omega) : P := h
theorem z9_66 {P : Prop} (h : P := by
 rw [hb.out, Tx.ns_ext, h.out, hn.out, List.take_of_length_le (by rw [List.length_append, ← hn.out]; omega), List.drop_left]) : P := h
theorem z9_67 {P : Prop} (h : P := by
 rw [hc.out, Tx.ns_ext, HB.out, hr, List.take_of_length_le (by rw [List.length_cons, hm.out]; omega)]; rfl) : P := h
theorem z9_68 {P : Prop} (h : P := by
 rw [ht, Tx.ns_app, HA.out]
 intro d hd
 rcases List.mem_append.1 hd with hd | hd
 ·exact HW.out.dg d hd
 ·exact HC.out d hd) : P := h
theorem z9_69 {P : Prop} (h : P := by
 have hlt2 : (k : Int) < t.size := by omega
 have hd := HT.out _ (List.mem_of_getElem? (Tx.ns_get t hlt))
 have h3 : (48 : Int) ≤ (t[k].toNat : Nat) := by have := hd.1; omega
 have h4 : ((t[k].toNat : Nat) : Int) ≤ 57 := by have := hd.2; omega
 obtain ⟨z1, hz1⟩ := Zh (((X : Nat) : Int) * 10)
 obtain ⟨z2, hz2⟩ := Zh (z1 + (((t[k].toNat : Nat) : Int) - 48))
 have hb1 : z1.natAbs < Bg.lim := by rw [hz1.out]; omega
 have hb2 : z2.natAbs < Bg.lim := by rw [hz2.out, hz1.out]; omega
 obtain ⟨Y, hY⟩ : ∃ Y : Nat, Hid (z2 = (Y : Nat)) := ⟨z2.toNat, Zi (by rw [hz2.out, hz1.out]; omega)⟩
 have HY : Hid (Y < 10 ^ (k + 1)) := Zi (by
  have e1 := hY.out
  rw [hz2.out, hz1.out] at e1
  rw [Nat.pow_succ]
  omega)
 have l10 : (10 : Int).natAbs < Bg.lim := small_lim Zd
 have lc : (((t[k].toNat : Nat) : Int) - 48).natAbs < Bg.lim := small_lim Zo
 have hwr : Hid (IntKind.i64.wrap (IntKind.u8.wrap (((t[k].toNat : Nat) : Int) - 48)) = ((t[k].toNat : Nat) : Int) - 48) := Zi (by
  rw [IntWalk.u8_in _ Zo, IntWalk.i64_in _ Zo])
 clear hd l22 hp hX0
 go_upto_region 21 with fail
 go_cut [16, 17] (fun p e wc => ∃ b16, p = .pointer (some ⟨b16, 0, none⟩) ∧ e = .int .i64 0 ∧ Mem w [] [(b16, Bg.zA z1), (b13, Bg.zA (X : Nat)), (b6, Bg.rZ 0 0)] wc)
 case first =>
  refine start_M [7] HM Zk (fun w0x H9 => ?_)
  replace HM := H9; clear H9
  refine k_ld 0 [2, 3, 4, 5, 7, 8] (heldE HM) ?_
  refine j_two 1 6 ?_ ?_
  ·refine j_call1 (v := ?_) HM ?_ ?_; rotate_left 1; (focus (with_reducible (first | exact rfromInt_z 10 Zo Zo _ | exact rmul_zz _ _ z1 z1 0 lX l10 hz1 (Zi (Ac.resZ hb1)) (Zi (Ac.resE hb1)) _))); clear HM; intro w1 HM
   refine ⟨(heldE HM), ?_⟩
   refine j_two 2 6 ?_ ?_
   ·refine j_call2 (v := ?_) HM ?_ ?_; rotate_left 1; (focus (with_reducible (first | exact rfromInt_z 10 Zo Zo _ | exact rmul_zz _ _ z1 z1 0 lX l10 hz1 (Zi (Ac.resZ hb1)) (Zi (Ac.resE hb1)) _))); clear HM; intro w1 HM
    refine ⟨(heldE HM), ?_⟩
    refine k_mv 3 (heldE HM) ?_
    refine k_ext 4 (heldE HM) ?_
    refine k_ext 5 (heldE HM) ?_
    refine j_one 6 fun K9 hK9 => ?_
    refine j_al HM ?_; clear HM; intro bk w1 HM
    refine hK9 _ _ (heldE HM) ?_; clear hK9 K9
    refine j_one 7 fun K9 hK9 => ?_
    refine j_st HM ?_; clear HM; intro w1 HM
    refine hK9 _ _ heldN ?_; clear hK9 K9
    refine k_mv 8 heldN ?_
    refine wpAnyL_done Zk ?_ _
    (go_wp2_with fail; go_meet; (case rel => exact ⟨_, rfl, rfl, HM.pick⟩))
   ·refine j_al HM ?_; clear HM; intro bk w1 HM
    refine ⟨(heldE HM), ?_⟩
    refine j_one 2 fun K9 hK9 => ?_
    refine j_call2 (v := ?_) HM ?_ ?_; rotate_left 1; (focus (with_reducible (first | exact rfromInt_z 10 Zo Zo _ | exact rmul_zz _ _ z1 z1 0 lX l10 hz1 (Zi (Ac.resZ hb1)) (Zi (Ac.resE hb1)) _))); clear HM; intro w1 HM
    refine hK9 _ _ (heldE HM) ?_; clear hK9 K9
    refine k_mv 3 (heldE HM) ?_
    refine k_ext 4 (heldE HM) ?_
    refine k_ext 5 (heldE HM) ?_
    refine j_one 7 fun K9 hK9 => ?_
    refine j_st HM ?_; clear HM; intro w1 HM
    refine hK9 _ _ heldN ?_; clear hK9 K9
    refine k_mv 8 heldN ?_
    refine wpAnyL_done Zk ?_ _
    (go_wp2_with fail; go_meet; (case rel => exact ⟨_, rfl, rfl, HM.pick⟩))
  ·refine j_al HM ?_; clear HM; intro bk w1 HM
   refine ⟨(heldE HM), ?_⟩
   refine j_one 1 fun K9 hK9 => ?_
   refine j_call1 (v := ?_) HM ?_ ?_; rotate_left 1; (focus (with_reducible (first | exact rfromInt_z 10 Zo Zo _ | exact rmul_zz _ _ z1 z1 0 lX l10 hz1 (Zi (Ac.resZ hb1)) (Zi (Ac.resE hb1)) _))); clear HM; intro w1 HM
   refine hK9 _ _ (heldE HM) ?_; clear hK9 K9
   refine j_one 2 fun K9 hK9 => ?_
   refine j_call2 (v := ?_) HM ?_ ?_; rotate_left 1; (focus (with_reducible (first | exact rfromInt_z 10 Zo Zo _ | exact rmul_zz _ _ z1 z1 0 lX l10 hz1 (Zi (Ac.resZ hb1)) (Zi (Ac.resE hb1)) _))); clear HM; intro w1 HM
   refine hK9 _ _ (heldE HM) ?_; clear hK9 K9
   refine k_mv 3 (heldE HM) ?_
   refine k_ext 4 (heldE HM) ?_
   refine k_ext 5 (heldE HM) ?_
   refine j_one 7 fun K9 hK9 => ?_
   refine j_st HM ?_; clear HM; intro w1 HM
   refine hK9 _ _ heldN ?_; clear hK9 K9
   refine k_mv 8 heldN ?_
   refine wpAnyL_done Zk ?_ _
   (go_wp2_with fail; go_meet; (case rel => exact ⟨_, rfl, rfl, HM.pick⟩))
 case rest =>
  clear HM
  obtain ⟨b16, rfl, rfl, HM⟩ := hcut
  go_upto_region 22 with fail
  have s2 := sa_z z2 (c := Bg.zA (X : Nat)) (zA_size X)
  refine start_M [11] HM Zk (fun w0x H9 => ?_)
  replace HM := H9; clear H9
  refine k_ld 0 [7, 8, 9, 10, 11] (heldE HM) ?_
  refine k_mv 1 (heldE HM) ?_
  refine k_mv 2 (heldE HM) ?_
  refine k_pv 3 (heldE HM) ?_
  refine k_sub 4 (heldE HM) ?_
  refine k_cv 5 (heldE HM) ?_
  refine j_one 6 fun K9 hK9 => ?_
  refine j_call1 (v := ?_) HM ?_ ?_; rotate_left 1; (focus (with_reducible (first | exact rfromInt_w _ _ hwr Zo Zo _ | exact radd_zz _ _ z2 z2 0 hb1 lc hz2 (Zi (Ac.resZ hb2)) (Zi (Ac.resE hb2)) _))); clear HM; intro w1 HM
  refine hK9 _ _ (heldE HM) ?_; clear hK9 K9
  refine j_one 7 fun K9 hK9 => ?_
  refine j_call2 (v := ?_) HM ?_ ?_; rotate_left 1; (focus (with_reducible (first | exact rfromInt_w _ _ hwr Zo Zo _ | exact radd_zz _ _ z2 z2 0 hb1 lc hz2 (Zi (Ac.resZ hb2)) (Zi (Ac.resE hb2)) _))); clear HM; intro w1 HM
  refine hK9 _ _ (heldE HM) ?_; clear hK9 K9
  refine k_mv 8 (heldE HM) ?_
  refine k_ext 9 (heldE HM) ?_
  refine k_ext 10 (heldE HM) ?_
  refine j_one 11 fun K9 hK9 => ?_
  refine j_st HM ?_; clear HM; intro w1 HM
  refine hK9 _ _ heldN ?_; clear hK9 K9
  refine wpAnyL_done Zk ?_ _
  go_wp2_with fail
  go_roundw
  case rel => exact ⟨k + 1, Y, by go_num, by omega, HY, by rw [hY.out] at HM; exact HM.pick⟩
  case measure => simp [intOf]; omega) : P := h
theorem z9_70 {P : Prop} (h : P := by
 refine start_M [9] HM Zk (fun w0x H9 => ?_)
 replace HM := H9; clear H9
 refine k_ld 0 [4, 5, 6, 7, 9, 10] (heldE HM) ?_
 refine k_mv 1 (heldE HM) ?_
 refine j_two 2 8 ?_ ?_
 ·refine j_call1 (v := ?_) HM ?_ ?_; rotate_left 1; (focus (with_reducible (first | exact PW _ | exact MK _))); clear HM; intro w1 HM
  refine ⟨(heldE HM), ?_⟩
  refine t_pure (i := 3) (v := .agg (Bg.zA q.num)) rfl rfl Zk (fun _ _ _ h => h) (heldE HM) (by rfl) ?_ ?_; (focus (refine h_fld rfl ?_ Rt.und Zk fq; ((conv => lhs; whnf) <;> rfl))); ((try simp only [Za]); (try simp only [Zx]); (try simp only [Zy]))
  refine j_two 4 8 ?_ ?_
  ·refine j_call2 (v := ?_) HM ?_ ?_; rotate_left 1; (focus (with_reducible (first | exact PW _ | exact MK _))); clear HM; intro w1 HM
   refine ⟨(heldE HM), ?_⟩
   refine k_mv 5 (heldE HM) ?_
   refine k_ext 6 (heldE HM) ?_
   refine k_ext 7 (heldE HM) ?_
   refine j_one 8 fun K9 hK9 => ?_
   refine j_al HM ?_; clear HM; intro bk w1 HM
   refine hK9 _ _ (heldE HM) ?_; clear hK9 K9
   refine j_one 9 fun K9 hK9 => ?_
   refine j_st HM ?_; clear HM; intro w1 HM
   refine hK9 _ _ heldN ?_; clear hK9 K9
   refine k_mv 10 heldN ?_
   refine wpAnyL_done Zk ?_ _
   (go_wp2_with fail; go_meet; (case rel => exact ⟨_, rfl, HM.pick⟩))
  ·refine j_al HM ?_; clear HM; intro bk w1 HM
   refine ⟨(heldE HM), ?_⟩
   refine j_one 4 fun K9 hK9 => ?_
   refine j_call2 (v := ?_) HM ?_ ?_; rotate_left 1; (focus (with_reducible (first | exact PW _ | exact MK _))); clear HM; intro w1 HM
   refine hK9 _ _ (heldE HM) ?_; clear hK9 K9
   refine k_mv 5 (heldE HM) ?_
   refine k_ext 6 (heldE HM) ?_
   refine k_ext 7 (heldE HM) ?_
   refine j_one 9 fun K9 hK9 => ?_
   refine j_st HM ?_; clear HM; intro w1 HM
   refine hK9 _ _ heldN ?_; clear hK9 K9
   refine k_mv 10 heldN ?_
   refine wpAnyL_done Zk ?_ _
   (go_wp2_with fail; go_meet; (case rel => exact ⟨_, rfl, HM.pick⟩))
 ·refine j_al HM ?_; clear HM; intro bk w1 HM
  refine ⟨(heldE HM), ?_⟩
  refine j_one 2 fun K9 hK9 => ?_
  refine j_call1 (v := ?_) HM ?_ ?_; rotate_left 1; (focus (with_reducible (first | exact PW _ | exact MK _))); clear HM; intro w1 HM
  refine hK9 _ _ (heldE HM) ?_; clear hK9 K9
  refine t_pure (i := 3) (v := .agg (Bg.zA q.num)) rfl rfl Zk (fun _ _ _ h => h) (heldE HM) (by rfl) ?_ ?_; (focus (refine h_fld rfl ?_ Rt.und Zk fq; ((conv => lhs; whnf) <;> rfl))); ((try simp only [Za]); (try simp only [Zx]); (try simp only [Zy]))
  refine j_one 4 fun K9 hK9 => ?_
  refine j_call2 (v := ?_) HM ?_ ?_; rotate_left 1; (focus (with_reducible (first | exact PW _ | exact MK _))); clear HM; intro w1 HM
  refine hK9 _ _ (heldE HM) ?_; clear hK9 K9
  refine k_mv 5 (heldE HM) ?_
  refine k_ext 6 (heldE HM) ?_
  refine k_ext 7 (heldE HM) ?_
  refine j_one 9 fun K9 hK9 => ?_
  refine j_st HM ?_; clear HM; intro w1 HM
  refine hK9 _ _ heldN ?_; clear hK9 K9
  refine k_mv 10 heldN ?_
  refine wpAnyL_done Zk ?_ _
  (go_wp2_with fail; go_meet; (case rel => exact ⟨_, rfl, HM.pick⟩))) : P := h
end
section
theorem Tx.ns_app (a b : ByteArray) : Tx.ns (a ++ b) = Tx.ns a ++ Tx.ns b := by
 unfold Tx.ns
 rw [ByteArray.data_append, Array.toList_append, List.map_append]
theorem Tx.ns_ext (s : ByteArray) (i j : Nat) : Tx.ns (s.extract i j) = ((Tx.ns s).take j).drop i := by
 unfold Tx.ns
 rw [ByteArray.data_extract, Array.toList_extract, List.extract_eq_take_drop, List.map_take, List.map_drop, List.drop_take]
theorem Tx.ns_at {s : ByteArray} {L : List Nat} (h : Tx.ns s = L) {k c : Nat} (hc : L[k]? = some c) : ∃ h : k < s.size, s[k].toNat = c := by
 have h1 : k < L.length := (List.getElem?_eq_some_iff.1 hc).1
 have h2 : k < s.size := by rw [← Tx.ns_len, h]; exact h1
 refine ⟨h2, ?_⟩
 have h3 := Tx.ns_get s h2
 rw [h, hc] at h3
 exact (Option.some.inj h3).symm
def Ac.Dgs (L : List Nat) : Prop := ∀ c ∈ L, Tx.isd c
def Ac.Dot (R : List Nat) : Prop := R = [] ∨ ∃ F, R = 46 :: F
theorem digits_any (s : ByteArray) (W R : List Nat) (h : Hid (Tx.ns s = W ++ R)) (hW : Hid (Ac.Dgs W)) (hR : Hid (Ac.Dot R)) (hs : s.size ≤ 400) (w : World) :
    Calls Tryz.prog 210 #[.string s] w fun e w' => e = .returned (.int .i64 (W.length : Nat)) ∧ w = w' := by
 have hsz : s.size = W.length + R.length := by rw [← Tx.ns_len, h.out, List.length_append]
 go_enter Tryz.func210, Tryz.ntmps210
 go_wp2
 go_loopw [3] (fun i wr => wr = w ∧ ∃ k : Nat, i = .int .i64 (k : Nat) ∧ k ≤ W.length) (fun i _ => W.length - (intOf i).toNat)
 case atStart => exact ⟨by trivial, 0, rfl, by omega⟩
 case round =>
  obtain ⟨rfl, k, rfl, hk⟩ := hrel
  by_cases hlt : k < W.length
  ·have hc : (W ++ R)[k]? = some W[k] := by rw [List.getElem?_append_left hlt, List.getElem?_eq_getElem hlt]
   obtain ⟨hks, hv⟩ := Tx.ns_at h.out hc
   have hd := hW.out _ (List.getElem_mem hlt)
   rw [← hv] at hd
   have h2 : (k : Int) < s.size := by omega
   have h3 : (48 : Int) ≤ (s[k].toNat : Nat) := by have := hd.1; omega
   have h4 : ((s[k].toNat : Nat) : Int) ≤ 57 := by have := hd.2; omega
   clear hc hv hd
   go_wp2
   go_roundw
   case rel => exact ⟨by trivial, k + 1, by go_num, by omega⟩
   case measure => simp [intOf]; omega
  ·obtain rfl : k = W.length := by omega
   rcases hR.out with hr | ⟨F, hr⟩
   ·have h2 : ¬ (W.length : Int) < s.size := by rw [hsz, hr]; simp
    clear hsz hr hlt
    go_wp2
    go_ret
    exact ⟨rfl, rfl⟩
   ·have hc : (W ++ R)[W.length]? = some 46 := by rw [hr, List.getElem?_append_right (Nat.le_refl _), Nat.sub_self]; rfl
    obtain ⟨hks, hv⟩ := Tx.ns_at h.out hc
    have h2 : (W.length : Int) < s.size := by omega
    have h3 : ¬ (48 : Int) ≤ (s[W.length].toNat : Nat) := by omega
    clear hc hv hr hlt
    go_wp2
    go_ret
    exact ⟨rfl, rfl⟩
structure Ac.Wh (W : List Nat) : Prop where
 dg : Ac.Dgs W
 pos : 0 < W.length
 top : 1 < W.length → W[0]? ≠ some 48
 len : W.length ≤ 320
theorem Ac.ten_lim : 10 ^ 22 < Bg.lim := by
 have h := Bg.p2_mono (show 80 ≤ 1024 by decide)
 rw [Bg.p2_lim] at h
 have e : Bg.p2 80 = 1208925819614629174706176 := by unfold Bg.p2; rfl
 omega
theorem Ac.dgs_len {s : ByteArray} {L : List Nat} (h : Tx.ns s = L) : s.size = L.length := by rw [← Tx.ns_len, h]
set_option maxRecDepth 20000 in
theorem rread_any (s : ByteArray) (W R : List Nat) (h : Hid (Tx.ns s = W ++ R)) (hW : Hid (Ac.Wh W)) (hR : Hid (R = [] ∨ ∃ F, R = 46 :: F ∧ Ac.Dgs F ∧ 0 < F.length ∧ F.length ≤ 6)) (g : Bool) (hg : Hid (g = decide (W.length ≤ 15))) (w : World) :
    Calls Tryz.prog 180 #[.string s, .int .i64 6, .bool true] w fun e w' => (∃ n d : Int, e = .returned (.tuple #[.agg (Bg.rZ n d), .bool g])) ∧ Below w.heap.size w w' := by
 have HW := Zi hW.out
 have HM := Mem.start w
 have zr := za_rat
 have zi := za_int
 have sz := sa_rz 0 0 (c := Bg.rZ 0 0) (rZ_size 0 0)
 have hsz : s.size = W.length + R.length := by rw [← Tx.ns_len, h.out, List.length_append]
 have hRl : R.length ≤ 7 := by
  exact z9_65
 have hWl := hW.out.len
 have hWp := hW.out.pos
 have hss : s.size ≤ 400 := by omega
 obtain ⟨n, hn⟩ := Zh (W.length)
 have hc0 : (W ++ R)[0]? = some W[0] := by rw [List.getElem?_append_left hWp, List.getElem?_eq_getElem hWp]
 obtain ⟨hk0, hv0⟩ := Tx.ns_at h.out hc0
 have hd0 := hW.out.dg _ (List.getElem_mem hWp)
 have hp0 : (0 : Int) < s.size := by omega
 have h45 : (((s[0].toNat : Nat) : Int) == 45) = false := Zb (by have := hd0.1; omega)
 have hDot : Ac.Dot R := by
  rcases hR.out with hr | ⟨F, hr, _⟩
  ·exact .inl hr
  ·exact .inr ⟨F, hr⟩
 have DG := fun w => below_eq (digits_any s W R h (Zi hW.out.dg) (Zi hDot) hss w)
 rw [← hn.out] at DG hsz hWl hWp hg
 have hn0 : ((n : Int) == 0) = false := Zb Zo
 have hn2 : Hid (1 < n → ¬ ((s[0].toNat : Nat) : Int) = 48) := Zi (by
  intro h1 h2
  rw [hn.out] at h1
  refine hW.out.top h1 ?_
  rw [List.getElem?_eq_getElem hW.out.pos]
  congr 1
  omega)
 clear hc0 hv0 hd0 hDot
 go_enter Tryz.func180, Tryz.ntmps180
 by_cases h15 : n ≤ 15
 case neg =>
  obtain rfl : g = false := by rw [hg.out]; exact Zf h15
  have h15i : (15 : Int) < n := by omega
  clear h15 hWl hg
  go_upto_region 6 with (first | (go_at_call 210; (with_reducible refine Zc HM (DG _) ?_; clear HM; intro w2 HM)) | ((with_reducible refine g_al ?_); refine a_al HM ?_; clear HM; intro bk w1 HM))
  obtain ⟨b6, rfl⟩ := HM.nm0
  have ez : (Value.agg Tryz.zeroCells43) = .agg (Bg.rZ 0 0) := by kernel_rfl
  have sz0 := sz
  rw [← ez] at sz0
  go_wp2_with ((with_reducible refine g_st ?_); refine a_st HM ?_; clear HM; intro w1 HM)
  refine bodyPost_ret (r_ct (b := b6) (k := 0) rfl rfl (HM.get Zl) (la_rz 0 0)) rfl (by exact ⟨⟨_, _, rfl⟩, HM.low⟩)
 case pos =>
  obtain rfl : g = true := by rw [hg.out]; exact Zt h15
  have h15i : ¬ (15 : Int) < n := by omega
  obtain ⟨a, ha⟩ := Zh (s.extract 0 n)
  obtain ⟨b, hb⟩ := Zh (s.extract n s.size)
  have haW : Tx.ns a = W := by
   rw [ha.out, Tx.ns_ext, h.out, hn.out, List.drop_zero, List.take_left]
  have hbR : Tx.ns b = R := by
   exact z9_66
  have has : a.size = n := by rw [Ac.dgs_len haW, hn.out]
  have hbs : b.size = R.length := Ac.dgs_len hbR
  have HA := Zi haW
  have HB := Zi hbR
  clear haW hbR
  by_cases h1 : 1 < n
  case' pos =>
   have h1i : (1 : Int) < n := by omega
   have h48 : (((s[0].toNat : Nat) : Int) == 48) = false := Zb (hn2.out h1)
   clear h1 h15 hg
   go_upto_region 7 with (first | (go_at_call 210; (with_reducible refine Zc HM (DG _) ?_; clear HM; intro w2 HM)) | ((with_reducible refine g_al ?_); refine a_al HM ?_; clear HM; intro bk w1 HM))
   clear h48 h1i
  case' neg =>
   have h1i : ¬ (1 : Int) < n := by omega
   clear h1 h15 hg
   go_upto_region 7 with (first | (go_at_call 210; (with_reducible refine Zc HM (DG _) ?_; clear HM; intro w2 HM)) | ((with_reducible refine g_al ?_); refine a_al HM ?_; clear HM; intro bk w1 HM))
   clear h1i
  all_goals
   obtain ⟨b6, rfl⟩ := HM.nm0
   clear DG h45 hn0 h15i hn2 hp0
   refine start_M [] HM Zk (fun w0x H9 => ?_)
   replace HM := H9; clear H9
   refine k_mv 0 (heldE HM) ?_
   refine k_mv 1 (heldE HM) ?_
   refine t_pure (i := 2) (v := .string a) rfl rfl Zk (fun _ _ _ h => h) (heldE HM) (by rfl) ?_ ?_; (focus ((rw [ha.out]; intro w9; first | (go_simp; done) | (go_simp; rfl) | (go_simp; intro h9; omega)))); ((try simp only [Za]); (try simp only [Zx]); (try simp only [Zy]))
   refine k_mv 3 (heldE HM) ?_
   refine k_mv 4 (heldE HM) ?_
   refine t_pure (i := 5) (v := .string b) rfl rfl Zk (fun _ _ _ h => h) (heldE HM) (by rfl) ?_ ?_; (focus ((rw [hb.out]; intro w9; first | (go_simp; done) | (go_simp; rfl) | (go_simp; intro h9; omega)))); ((try simp only [Za]); (try simp only [Zx]); (try simp only [Zy]))
   refine k_mv 6 (heldE HM) ?_
   refine k_mv 7 (heldE HM) ?_
   refine wpAnyL_done Zk ?_ _
   go_upto_region 8 with fail
   rcases hR.out with hr | ⟨F, hr, hF, hF1, hF6⟩
   case' inl =>
    have hb0 : b.size = 0 := by rw [hbs, hr]; rfl
    have hc6 : b.size ≤ 6 := by omega
    have HC : Hid (Ac.Dgs (Tx.ns b)) := Zi (by rw [HB.out, hr]; intro c hc; cases hc)
    clear hbs hr
    go_upto_region 16 with fail
    obtain ⟨c, hc⟩ : ∃ c, c = b := ⟨_, rfl⟩
    rw [← hc] at HC hc6 ⊢
    obtain ⟨q, hq⟩ : ∃ q : Rat, Hid (q = ((Ac.p10 0 : Int) : Rat)) := ⟨_, Zi rfl⟩
    have hql : q.num.natAbs < Bg.lim := by rw [hq.out, Ac.p10_num]; exact small_lim Zd
    have PW : ∀ w, Calls Tryz.prog 212 #[.int .i64 0] w fun e w' => e = .returned (.agg (Rt.qA q)) ∧ Below w.heap.size w w' := fun w => by rw [hq.out]; exact rpower_any 0 Zd w
    clear hq hc hb0
   case' inr =>
    obtain ⟨m, hm⟩ := Zh (F.length)
    have hb0 : b.size = m + 1 := by rw [hbs, hr, hm.out]; rfl
    obtain ⟨hkb, hvb⟩ := Tx.ns_at HB.out (k := 0) (c := 46) (by rw [hr]; rfl)
    obtain ⟨c, hc⟩ := Zh (b.extract 1 (m + 1))
    have hcF : Tx.ns c = F := by
     exact z9_67
    have hcs : c.size = m := by rw [Ac.dgs_len hcF, hm.out]
    have HC : Hid (Ac.Dgs (Tx.ns c)) := Zi (by rw [hcF]; exact hF)
    have DG := fun w => below_eq (digits_any c F [] (Zi (by rw [hcF, List.append_nil])) (Zi hF) (Zi (.inl rfl)) (by rw [hcs, hm.out]; omega) w)
    have h46 : (((b[0].toNat : Nat) : Int) != 46) = false := by
     have e : ((b[0].toNat : Nat) : Int) = 46 := by omega
     rw [e]; rfl
    have hbp : (0 : Int) < b.size := by omega
    rw [← hm.out] at DG hF1 hF6
    have hc0 : ((m : Int) == 0) = false := Zb Zo
    have hc6i : ¬ (6 : Int) < m := by omega
    have hc6 : c.size ≤ 6 := by omega
    clear hbs hr hF hcF hvb
    go_upto_region 13 with fail
    rw [← hc.out]
    go_upto_region 16 with (go_at_call 210; (with_reducible refine Zc HM (DG _) ?_; clear HM; intro w2 HM))
    obtain ⟨q, hq⟩ : ∃ q : Rat, Hid (q = ((Ac.p10 m : Int) : Rat)) := ⟨_, Zi rfl⟩
    have hql : q.num.natAbs < Bg.lim := by rw [hq.out, Ac.p10_num]; exact Ac.lim_of (Ac.p10_bits (show m ≤ 9 by omega)) Zd
    have PW : ∀ w, Calls Tryz.prog 212 #[.int .i64 (m : Nat)] w fun e w' => e = .returned (.agg (Rt.qA q)) ∧ Below w.heap.size w w' := fun w => by rw [hq.out]; exact rpower_any m Zo w
    clear hq hc DG h46 hc0
   all_goals
    obtain ⟨t, ht⟩ : ∃ t, t = a ++ c := ⟨_, rfl⟩
    have hts : t.size ≤ 21 := by rw [ht, ByteArray.size_append]; omega
    have htd : Ac.Dgs (Tx.ns t) := by
     exact z9_68
    have HT := Zi htd
    have ha15 : a.size ≤ 15 := by omega
    clear htd
    go_upto_region 18 with (first | ((with_reducible refine g_st ?_); refine a_st HM ?_; clear HM; intro w1 HM) | ((with_reducible refine g_al ?_); refine a_al HM ?_; clear HM; intro bk w1 HM) | ((with_reducible refine g_bld ?_); refine a_bld ?_))
    rw [← ht]
    clear ht HC ha15 hc6
    obtain ⟨b13, rfl⟩ := HM.nm0
    go_wp2_with fail
    go_loopw [15] (fun i wr => ∃ (k X : Nat), i = .int .i64 (k : Nat) ∧ k ≤ t.size ∧ Hid (X < 10 ^ k) ∧ Mem w [] [(b13, Bg.zA (X : Nat)), (b6, Bg.rZ 0 0)] wr) (fun i _ => t.size - (intOf i).toNat)
    case atStart => exact ⟨0, 0, rfl, by omega, Zi Zd, HM⟩
    case round =>
     clear HM
     obtain ⟨k, X, rfl, hk, HX, HM⟩ := hrel
     have hp : 10 ^ k ≤ 10 ^ 21 := Nat.pow_le_pow_right Zd Zo
     have hX0 := HX.out
     have l22 := Ac.ten_lim
     have lX : ((X : Nat) : Int).natAbs < Bg.lim := by rw [Int.natAbs_natCast]; omega
     by_cases hlt : k < t.size
     ·exact z9_69
     ·obtain rfl : k = t.size := by omega
      obtain ⟨n9, d9, e9, hr9⟩ : ∃ n d e : Int, Hid ((n, d, e) = Rt.mk ((X : Nat) : Int) q.num) := ⟨_, _, _, Zi rfl⟩
      have MK := fun w => rmake_z _ _ n9 d9 e9 lX hql hr9 w
      have sq := sa_rz n9 d9 (c := Bg.rZ 0 0) (rZ_size 0 0)
      have lq := la_rz n9 d9
      have fq := fa_qnum q
      clear hX0 hp l22
      go_upto_region 27 with fail
      go_cut [18] (fun p wc => ∃ b18, p = .pointer (some ⟨b18, 0, none⟩) ∧ Mem w [] [(b18, Bg.rZ n9 d9), (b6, Bg.rZ 0 0)] wc)
      case first =>
       exact z9_70
      case rest =>
       clear HM
       obtain ⟨b18, rfl, HM⟩ := hcut
       go_step
       go_wp2_with (first | ((with_reducible refine g_ld ?_); refine a_ld HM ?_) | ((with_reducible refine g_st ?_); refine a_st HM ?_; clear HM; intro w1 HM))
       refine bodyPost_ret (r_ct (b := b6) (k := 0) rfl rfl (HM.get Zl) (la_rz _ _)) rfl (by exact ⟨⟨_, _, rfl⟩, HM.low⟩)
end
end Go.Proofs.YtkiempioeffhbaaGreatDoor
