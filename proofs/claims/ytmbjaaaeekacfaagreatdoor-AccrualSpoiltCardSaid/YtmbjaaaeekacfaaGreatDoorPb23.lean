/- Walks, and plain facts for them. -/
import Derived.Test.YtmbjaaaeekacfaaGreatDoorPb22
import Derived.Test.YtmbjaaaeekacfaaGreatDoorPb17
namespace Go.Proofs.YtmbjaaaeekacfaaGreatDoor
set_option maxRecDepth 8000
open Go.RowKit
theorem Ac.Wr.size {s : ByteArray} {n : Nat} (h : Ac.Wr s n) : 0 < s.size := by
 obtain ⟨W, F, e, _⟩ := h.ex
 rw [Ac.dgs_len e, List.length_append, List.length_cons]; omega
theorem Ac.ns_last {s : ByteArray} {L : List Nat} {c q : Nat} (h : Tx.ns s = L ++ [c]) (hq : s.size = q + 1) : (∃ h : q < s.size, s[q].toNat = c) ∧ Tx.ns (s.extract 0 q) = L := by
 have hl := Ac.dgs_len h
 rw [List.length_append, List.length_singleton] at hl
 have hL : L.length = q := by omega
 refine ⟨Tx.ns_at h (by rw [← hL, List.getElem?_append_right (Nat.le_refl _), Nat.sub_self]; rfl), ?_⟩
 rw [Tx.ns_ext, h, List.drop_zero, ← hL, List.take_left]
theorem Ac.Wr.trim {s : ByteArray} {n q : Nat} (h : Ac.Wr s n) (hq : s.size = q + 1) (h48 : ∀ h : q < s.size, s[q].toNat = 48) : Ac.Wr (s.extract 0 q) n := by
 obtain ⟨W, F, e, hW, hn, hF, hF6⟩ := h.ex
 rcases List.eq_nil_or_concat F with rfl | ⟨G, c, rfl⟩
 ·obtain ⟨⟨h1, h2⟩, _⟩ := Ac.ns_last (L := W) (c := 46) (by rw [e]) hq
  have := h48 h1
  omega
 ·rw [List.concat_eq_append] at *
  obtain ⟨_, h3⟩ := Ac.ns_last (L := W ++ 46 :: G) (c := c) (by rw [e]; simp) hq
  rw [List.length_append] at hF6
  exact ⟨W, G, h3, hW, hn, fun d hd => hF d (List.mem_append_left _ hd), by omega⟩
structure Ac.Rd (s : ByteArray) (W R : List Nat) (n : Nat) : Prop where
 eq : Tx.ns s = W ++ R
 wh : Ac.Wh W
 len : W.length = n
 rest : R = [] ∨ ∃ F, R = 46 :: F ∧ Ac.Dgs F ∧ 0 < F.length ∧ F.length ≤ 6
theorem Ac.Wr.dot {s : ByteArray} {n q : Nat} (h : Ac.Wr s n) (hq : s.size = q + 1) (h46 : ∀ h : q < s.size, s[q].toNat = 46) : ∃ W R, Ac.Rd (s.extract 0 q) W R n := by
 obtain ⟨W, F, e, hW, hn, hF, hF6⟩ := h.ex
 rcases List.eq_nil_or_concat F with rfl | ⟨G, c, rfl⟩
 ·obtain ⟨_, h3⟩ := Ac.ns_last (L := W) (c := 46) (by rw [e]) hq
  exact ⟨W, [], by rw [h3, List.append_nil], hW, hn, .inl rfl⟩
 ·rw [List.concat_eq_append] at *
  obtain ⟨⟨h1, h2⟩, _⟩ := Ac.ns_last (L := W ++ 46 :: G) (c := c) (by rw [e]; simp) hq
  have h3 := h46 h1
  have h4 := hF c (by simp)
  have := h4.1
  omega
theorem Ac.Wr.nodot {s : ByteArray} {n q : Nat} (h : Ac.Wr s n) (hq : s.size = q + 1) (h46 : ∀ h : q < s.size, s[q].toNat ≠ 46) : ∃ W R, Ac.Rd s W R n := by
 obtain ⟨W, F, e, hW, hn, hF, hF6⟩ := h.ex
 refine ⟨W, 46 :: F, e, hW, hn, .inr ⟨F, rfl, hF, ?_, hF6⟩⟩
 rcases List.eq_nil_or_concat F with rfl | ⟨G, c, rfl⟩
 ·obtain ⟨⟨h1, h2⟩, _⟩ := Ac.ns_last (L := W) (c := 46) (by rw [e]) hq
  exact absurd h2 (h46 h1)
 ·rw [List.concat_eq_append]; simp
set_option maxHeartbeats 4000000 in
theorem rtext_any (x : Rat) (hx : Rt.Fit x) (h0 : 0 ≤ x.num) (w : World) :
    Calls Tryz.prog 125 #[.agg (Rt.qA x), .int .i64 6] w fun r w' => (∃ (s : ByteArray) (e : Int), r = .returned (.tuple #[.string s, .int .i64 e]) ∧ Hid (Ac.Yes e (Ac.Txt x)) ∧ s.size ≤ 1000) ∧ Below w.heap.size w w' := by
 have HM := Mem.start w
 have zr := za_rat
 have zi := za_int
 have k0 := la_q x
 have h0x : 0 ≤ x := Rat.num_nonneg.1 h0
 have hlo := Ac.lim_of (Ac.lo_lim hx (n := 6) (by decide)) (show 511 ≤ 1024 by decide)
 have hl0 : 0 ≤ Ac.lo x 6 := Int.ediv_nonneg (Int.mul_nonneg h0 (by have := Ac.p10_pos 6; omega)) (Int.le_of_lt (Ac.den_pos x))
 obtain ⟨v, hv⟩ : ∃ v, Hid (v = decide (Ac.re x 6 = 0)) := ⟨_, Lib.hid rfl⟩
 have EX := fun w => exact6_any x hx v hv w
 obtain ⟨l, hl⟩ : ∃ l, Hid (l = Ac.lo x 6) := ⟨_, Lib.hid rfl⟩
 have RD := fun w => rround6_any x hx h0x l hl w
 rw [← hl.out] at hlo hl0
 obtain ⟨T0, hT0⟩ : ∃ T0, Hid (T0 = Tx.txt false l.natAbs) := ⟨_, Lib.hid rfl⟩
 have WR := fun w => written_any l T0 hlo hl0 hT0 w
 obtain ⟨n, hn⟩ : ∃ n, Hid (n = Ac.wl T0.size) := ⟨_, Lib.hid rfl⟩
 obtain ⟨g, hg⟩ : ∃ g, Hid (g = decide (n ≤ 15)) := ⟨_, Lib.hid rfl⟩
 rw [← hn.out] at WR
 have HT : Hid (Ac.Txt x ↔ v = true ∧ g = true) := Lib.hid (by
  have e : Ac.Txt x = Ac.TxtOf (Ac.re x 6) T0.size := by unfold Ac.Txt; rw [hT0.out, hl.out]
  rw [e, hv.out, hg.out, hn.out]
  unfold Ac.TxtOf
  have := Ac.wl_iff T0.size
  rw [decide_eq_true_eq, decide_eq_true_eq]
  exact ⟨fun h => ⟨h.1, by have := h.2; omega⟩, fun h => ⟨h.1, by have := h.2; omega⟩⟩)
 have sl := sa_z l (c := Bg.zA 0) (zA_size 0)
 clear hv hl hT0 hn h0 h0x hl0
 go_enter Tryz.func125, Tryz.ntmps125
 go_wp2_with (first | (go_at_call 154; ((with_reducible refine (EX _).mono ?_); rintro e9 w2 ⟨rfl, hL⟩; replace HM := HM.call hL; clear hL)) | (go_at_call 69; ((with_reducible refine (RD _).mono ?_); rintro e9 w2 ⟨rfl, hL⟩; replace HM := HM.call hL; clear hL)) | (go_at_call 155; refine (WR _).mono ?_; rintro e9 w2 ⟨⟨S, rfl, HS, hS4⟩, hL⟩; replace HM := HM.call hL; clear hL) | (first | ((with_reducible refine g_ld ?_); refine a_ld HM ?_) | ((with_reducible refine g_st ?_); refine a_st HM ?_; clear HM; intro w1 HM) | ((with_reducible refine g_al ?_); refine a_al HM ?_; clear HM; intro bk w1 HM) | ((with_reducible refine g_bx ?_); refine a_bx HM ?_; clear HM; intro bk w1 HM)))
 obtain ⟨b8, rfl⟩ := HM.nm0
 obtain ⟨b2, rfl⟩ := HM.nm1
 go_loopw [10] (fun s wr => ∃ S : ByteArray, s = .string S ∧ S.size ≤ 400 ∧ Hid (Ac.Wr S n) ∧ Mem w [] [(b8, Bg.zA l), (b2, Rt.qA x)] wr) (fun s _ => match s with | .string T => T.size | _ => 0)
 case atStart => exact ⟨S, rfl, hS4, HS, HM⟩
 case round =>
  clear HM HS hS4
  obtain ⟨T, rfl, hT4, HS, HM⟩ := hrel
  have hp := HS.out.size
  obtain ⟨q, hq⟩ : ∃ q, T.size = q + 1 := ⟨T.size - 1, by omega⟩
  have hqs : q < T.size := by omega
  by_cases h48 : T[q].toNat = 48
  ·have h48i : (((T[q].toNat : Nat) : Int) == 48) = true := by rw [h48]; rfl
   have HS2 := Lib.hid (HS.out.trim hq (fun _ => h48))
   have hsz : (T.extract 0 q).size = q := by rw [ByteArray.size_extract]; omega
   clear h48
   go_wp2_with (first | ((with_reducible refine g_ld ?_); refine a_ld HM ?_) | ((with_reducible refine g_st ?_); refine a_st HM ?_; clear HM; intro w1 HM) | ((with_reducible refine g_al ?_); refine a_al HM ?_; clear HM; intro bk w1 HM) | ((with_reducible refine g_bx ?_); refine a_bx HM ?_; clear HM; intro bk w1 HM))
   go_roundw
   case rel => exact ⟨_, rfl, by rw [hsz]; omega, HS2, HM⟩
   case measure => show (T.extract 0 q).size < T.size; rw [hsz]; omega
  ·have h48i : (((T[q].toNat : Nat) : Int) == 48) = false := beq_eq_false_iff_ne.2 (by omega)
   by_cases h46 : T[q].toNat = 46
   case' pos =>
    have h46i : (((T[q].toNat : Nat) : Int) == 46) = true := by rw [h46]; rfl
    obtain ⟨W, R, hrd⟩ := HS.out.dot hq (fun _ => h46)
    have hsz : (T.extract 0 q).size = q := by rw [ByteArray.size_extract]; omega
    obtain ⟨D, hD⟩ : ∃ D, Hid (D = T.extract 0 q) := ⟨_, Lib.hid rfl⟩
    have HR := Lib.hid hrd
    rw [← hD.out] at HR hsz
    clear h46 h48 hrd
    go_upto_region 10 with (first | ((with_reducible refine g_ld ?_); refine a_ld HM ?_) | ((with_reducible refine g_st ?_); refine a_st HM ?_; clear HM; intro w1 HM) | ((with_reducible refine g_al ?_); refine a_al HM ?_; clear HM; intro bk w1 HM) | ((with_reducible refine g_bx ?_); refine a_bx HM ?_; clear HM; intro bk w1 HM))
    rw [← hD.out]
   case' neg =>
    have h46i : (((T[q].toNat : Nat) : Int) == 46) = false := beq_eq_false_iff_ne.2 (by omega)
    obtain ⟨W, R, hrd⟩ := HS.out.nodot hq (fun _ => h46)
    have HR := Lib.hid hrd
    clear h46 h48 hrd
    go_upto_region 10 with (first | ((with_reducible refine g_ld ?_); refine a_ld HM ?_) | ((with_reducible refine g_st ?_); refine a_st HM ?_; clear HM; intro w1 HM) | ((with_reducible refine g_al ?_); refine a_al HM ?_; clear HM; intro bk w1 HM) | ((with_reducible refine g_bx ?_); refine a_bx HM ?_; clear HM; intro bk w1 HM))
    obtain ⟨D, hD⟩ : ∃ D, D = T := ⟨_, rfl⟩
    subst hD
   all_goals
    have RR := fun w => rread_any D W R (Lib.hid HR.out.eq) (Lib.hid HR.out.wh) (Lib.hid HR.out.rest) g (Lib.hid (by rw [hg.out, HR.out.len])) w
    cases v with
    | false =>
     have HE := Lib.hid (Ac.yes_f (e := 32) (P := Ac.Txt x) (fun h => by have := (HT.out.1 h).1; cases this) (by decide))
     go_wp2_with (first | (go_at_call 156; refine (RR _).mono ?_; rintro e9 w2 ⟨⟨n9, d9, rfl⟩, hL⟩; replace HM := HM.call hL; clear hL; have sq := sa_rz n9 d9 (c := Bg.rZ 0 0) (rZ_size 0 0)) | (first | ((with_reducible refine g_ld ?_); refine a_ld HM ?_) | ((with_reducible refine g_st ?_); refine a_st HM ?_; clear HM; intro w1 HM) | ((with_reducible refine g_al ?_); refine a_al HM ?_; clear HM; intro bk w1 HM) | ((with_reducible refine g_bx ?_); refine a_bx HM ?_; clear HM; intro bk w1 HM)))
     go_ret2
     exact ⟨⟨_, 32, rfl, HE, by decide⟩, HM.low⟩
    | true =>
     cases g with
     | false =>
      have HE := Lib.hid (Ac.yes_f (e := 32) (P := Ac.Txt x) (fun h => by have := (HT.out.1 h).2; cases this) (by decide))
      go_wp2_with (first | (go_at_call 156; refine (RR _).mono ?_; rintro e9 w2 ⟨⟨n9, d9, rfl⟩, hL⟩; replace HM := HM.call hL; clear hL; have sq := sa_rz n9 d9 (c := Bg.rZ 0 0) (rZ_size 0 0)) | (first | ((with_reducible refine g_ld ?_); refine a_ld HM ?_) | ((with_reducible refine g_st ?_); refine a_st HM ?_; clear HM; intro w1 HM) | ((with_reducible refine g_al ?_); refine a_al HM ?_; clear HM; intro bk w1 HM) | ((with_reducible refine g_bx ?_); refine a_bx HM ?_; clear HM; intro bk w1 HM)))
      go_ret2
      exact ⟨⟨_, 32, rfl, HE, by decide⟩, HM.low⟩
     | true =>
      have HE := Lib.hid (Ac.yes_t (P := Ac.Txt x) (HT.out.2 ⟨rfl, rfl⟩))
      go_wp2_with (first | (go_at_call 156; refine (RR _).mono ?_; rintro e9 w2 ⟨⟨n9, d9, rfl⟩, hL⟩; replace HM := HM.call hL; clear hL; have sq := sa_rz n9 d9 (c := Bg.rZ 0 0) (rZ_size 0 0)) | (first | ((with_reducible refine g_ld ?_); refine a_ld HM ?_) | ((with_reducible refine g_st ?_); refine a_st HM ?_; clear HM; intro w1 HM) | ((with_reducible refine g_al ?_); refine a_al HM ?_; clear HM; intro bk w1 HM) | ((with_reducible refine g_bx ?_); refine a_bx HM ?_; clear HM; intro bk w1 HM)))
      go_ret2
      exact ⟨⟨_, 0, rfl, HE, by omega⟩, HM.low⟩
theorem Ac.num100n {x : Rat} (h : x.num < 0) : (x * ((100 : Int) : Rat)).num < 0 := by
 have h1 : (0 : Rat) < ((100 : Int) : Rat) := by decide
 have h2 : x < 0 := Rat.not_le.1 (fun h9 : 0 ≤ x => by have := Rat.num_nonneg.2 h9; omega)
 have h4 : x * ((100 : Int) : Rat) < 0 := by grind
 rcases Int.lt_or_le (x * ((100 : Int) : Rat)).num 0 with h5 | h5
 ·exact h5
 ·have := Rat.num_nonneg.1 h5
  exact absurd h4 (Rat.not_lt.2 this)
set_option maxHeartbeats 4000000 in
theorem rpct_any (o : Option Rat) (c : Array Value) (hv : Rt.Vc o c) (w : World) :
    Calls Tryz.prog 79 #[.agg c] w fun r w' => (∃ (s : ByteArray) (e : Int), r = .returned (.tuple #[.string s, .int .i64 e]) ∧ Hid (Ac.Yes e (Ac.Pct o))) ∧ Below w.heap.size w w' := by
 have HM := Mem.start w
 have zr := za_rat
 cases o with
 | none =>
  obtain ⟨s, M, t, N, hM, hN, hb, rfl⟩ := hv
  have k0 := la_rat s M t N
  have V := fun w => rvalid_n s M t N false hM hN (Lib.hid hb.symm) w
  have HE := Lib.hid (Ac.yes_f (e := 20) (P := Ac.Pct none) (fun h => h) (by decide))
  clear hb
  go_enter Tryz.func79, Tryz.ntmps79
  go_wp2_with (first | (go_at_call 65; ((with_reducible refine (V _).mono ?_); rintro e9 w2 ⟨rfl, hL⟩; replace HM := HM.call hL; clear hL)) | (first | ((with_reducible refine g_ld ?_); refine a_ld HM ?_) | ((with_reducible refine g_st ?_); refine a_st HM ?_; clear HM; intro w1 HM) | ((with_reducible refine g_al ?_); refine a_al HM ?_; clear HM; intro bk w1 HM) | ((with_reducible refine g_bx ?_); refine a_bx HM ?_; clear HM; intro bk w1 HM)))
  go_ret2
  exact ⟨⟨_, 20, rfl, HE⟩, HM.low⟩
 | some x =>
  obtain ⟨hx, rfl⟩ := hv
  have k0 := la_q x
  have V := fun w => rvalid_q x hx w
  obtain ⟨y, hy⟩ : ∃ y : Rat, Hid (y = x * ((100 : Int) : Rat)) := ⟨_, Lib.hid rfl⟩
  have f100 : Rt.Fit ((100 : Int) : Rat) := by
   rw [Rt.int_divInt]
   exact (Rt.Bd.divInt (i := 20) (j := 1) (by decide) (Bg.p2_small 20 1048576 (by unfold Bg.p2; rfl) (by decide)) (Bg.p2_small 1 2 (by unfold Bg.p2; rfl) (by decide))).fit
  obtain ⟨h, hh⟩ : ∃ h : Rat, Hid (h = ((100 : Int) : Rat)) := ⟨_, Lib.hid rfl⟩
  have WH := fun w => rwhole_q 100 h (by decide) (by decide) hh w
  rw [← hh.out] at f100 hy
  obtain ⟨d, e, hde⟩ : ∃ (d : Array Value) (e : Int), Hid ((d, e) = Rt.res y) := ⟨_, _, Lib.hid rfl⟩
  have ML := fun w => rmul_r x h d e hx f100 (Lib.hid (by rw [← hy.out]; exact hde.out)) w
  by_cases hf : Rt.Fit y
  case neg =>
   obtain ⟨rfl, rfl⟩ : d = Bg.rZ 0 0 ∧ e = 10 := by
    have := hde.out
    unfold Rt.res at this
    rw [if_neg hf] at this
    exact Prod.mk.inj this
   have sd := sa_r66 (c := Bg.rZ 0 0) (rZ_size 0 0) (rZ_one 0 0) (rZ_size 0 0)
   have HE := Lib.hid (Ac.yes_f (e := 32) (P := Ac.Pct (some x)) (fun h9 => hf (by rw [hy.out, hh.out]; exact h9.1)) (by decide))
   clear hf hde hy hh
   go_enter Tryz.func79, Tryz.ntmps79
   go_upto_region 3 with (first | (go_at_call 65; ((with_reducible refine (V _).mono ?_); rintro e9 w2 ⟨rfl, hL⟩; replace HM := HM.call hL; clear hL)) | (first | ((with_reducible refine g_ld ?_); refine a_ld HM ?_) | ((with_reducible refine g_st ?_); refine a_st HM ?_; clear HM; intro w1 HM) | ((with_reducible refine g_al ?_); refine a_al HM ?_; clear HM; intro bk w1 HM) | ((with_reducible refine g_bx ?_); refine a_bx HM ?_; clear HM; intro bk w1 HM)))
   obtain ⟨b1, rfl⟩ := HM.nm0
   refine start_M [7] HM (by kernel_rfl) (fun w0x H9 => ?_)
   replace HM := H9; clear H9
   refine k_ld 0 [2, 3, 4, 5, 7, 8] (heldE HM) ?_
   refine j_two 1 6 ?_ ?_
   ·refine j_call1 (v := ?_) HM ?_ ?_; rotate_left 1; (focus (with_reducible (first | exact WH _ | exact ML _))); clear HM; intro w1 HM
    refine ⟨(heldE HM), ?_⟩
    refine j_two 2 6 ?_ ?_
    ·refine j_call2 (v := ?_) HM ?_ ?_; rotate_left 1; (focus (with_reducible (first | exact WH _ | exact ML _))); clear HM; intro w1 HM
     refine ⟨(heldE HM), ?_⟩
     refine k_mv 3 (heldE HM) ?_
     refine k_ext 4 (heldE HM) ?_
     refine k_ext 5 (heldE HM) ?_
     refine j_one 6 fun K9 hK9 => ?_
     refine j_al HM ?_; clear HM; intro bk w1 HM
     refine hK9 _ _ (heldE HM) ?_; clear hK9 K9
     refine j_one 7 fun K9 hK9 => ?_
     refine j_st HM ?_; clear HM; intro w1 HM
     refine hK9 _ _ heldN ?_; clear hK9 K9
     refine k_mv 8 heldN ?_
     refine wpAnyL_done (by kernel_rfl) ?_ _
     (go_wp2_with (first | ((with_reducible refine g_ld ?_); refine a_ld HM ?_) | ((with_reducible refine g_st ?_); refine a_st HM ?_; clear HM; intro w1 HM) | ((with_reducible refine g_al ?_); refine a_al HM ?_; clear HM; intro bk w1 HM) | ((with_reducible refine g_bx ?_); refine a_bx HM ?_; clear HM; intro bk w1 HM)); go_ret2; exact ⟨⟨_, 32, rfl, HE⟩, HM.low⟩)
    ·refine j_al HM ?_; clear HM; intro bk w1 HM
     refine ⟨(heldE HM), ?_⟩
     refine j_one 2 fun K9 hK9 => ?_
     refine j_call2 (v := ?_) HM ?_ ?_; rotate_left 1; (focus (with_reducible (first | exact WH _ | exact ML _))); clear HM; intro w1 HM
     refine hK9 _ _ (heldE HM) ?_; clear hK9 K9
     refine k_mv 3 (heldE HM) ?_
     refine k_ext 4 (heldE HM) ?_
     refine k_ext 5 (heldE HM) ?_
     refine j_one 7 fun K9 hK9 => ?_
     refine j_st HM ?_; clear HM; intro w1 HM
     refine hK9 _ _ heldN ?_; clear hK9 K9
     refine k_mv 8 heldN ?_
     refine wpAnyL_done (by kernel_rfl) ?_ _
     (go_wp2_with (first | ((with_reducible refine g_ld ?_); refine a_ld HM ?_) | ((with_reducible refine g_st ?_); refine a_st HM ?_; clear HM; intro w1 HM) | ((with_reducible refine g_al ?_); refine a_al HM ?_; clear HM; intro bk w1 HM) | ((with_reducible refine g_bx ?_); refine a_bx HM ?_; clear HM; intro bk w1 HM)); go_ret2; exact ⟨⟨_, 32, rfl, HE⟩, HM.low⟩)
   ·refine j_al HM ?_; clear HM; intro bk w1 HM
    refine ⟨(heldE HM), ?_⟩
    refine j_one 1 fun K9 hK9 => ?_
    refine j_call1 (v := ?_) HM ?_ ?_; rotate_left 1; (focus (with_reducible (first | exact WH _ | exact ML _))); clear HM; intro w1 HM
    refine hK9 _ _ (heldE HM) ?_; clear hK9 K9
    refine j_one 2 fun K9 hK9 => ?_
    refine j_call2 (v := ?_) HM ?_ ?_; rotate_left 1; (focus (with_reducible (first | exact WH _ | exact ML _))); clear HM; intro w1 HM
    refine hK9 _ _ (heldE HM) ?_; clear hK9 K9
    refine k_mv 3 (heldE HM) ?_
    refine k_ext 4 (heldE HM) ?_
    refine k_ext 5 (heldE HM) ?_
    refine j_one 7 fun K9 hK9 => ?_
    refine j_st HM ?_; clear HM; intro w1 HM
    refine hK9 _ _ heldN ?_; clear hK9 K9
    refine k_mv 8 heldN ?_
    refine wpAnyL_done (by kernel_rfl) ?_ _
    (go_wp2_with (first | ((with_reducible refine g_ld ?_); refine a_ld HM ?_) | ((with_reducible refine g_st ?_); refine a_st HM ?_; clear HM; intro w1 HM) | ((with_reducible refine g_al ?_); refine a_al HM ?_; clear HM; intro bk w1 HM) | ((with_reducible refine g_bx ?_); refine a_bx HM ?_; clear HM; intro bk w1 HM)); go_ret2; exact ⟨⟨_, 32, rfl, HE⟩, HM.low⟩)
  case pos =>
   obtain ⟨rfl, rfl⟩ : d = Rt.qA y ∧ e = 0 := by
    have := hde.out
    unfold Rt.res at this
    rw [if_pos hf] at this
    exact Prod.mk.inj this
   have sd := sa_r66 (c := Bg.rZ 0 0) (qA_size y) (qA_one y) (rZ_size 0 0)
   have ly := la_q y
   have lyn := la_qnum y
   have hyl : y.num.natAbs < Bg.lim := Ac.nl hf
   obtain ⟨g, hg⟩ : ∃ g, Hid (g = y.num.sign) := ⟨_, Lib.hid rfl⟩
   have SG := fun w => rsign_z y.num g hyl hg w
   by_cases hn : x.num < 0
   ·have HE := Lib.hid (Ac.yes_f (e := 32) (P := Ac.Pct (some x)) (fun h9 => by have := Rat.num_nonneg.2 h9.2.1; omega) (by decide))
    have hyn : y.num < 0 := by rw [hy.out, hh.out]; exact Ac.num100n hn
    have hg1 : g < 0 := by rw [hg.out, Int.sign_eq_neg_one_of_neg hyn]; decide
    clear hf hde hy hh hyn
    go_enter Tryz.func79, Tryz.ntmps79
    go_upto_region 3 with (first | (go_at_call 65; ((with_reducible refine (V _).mono ?_); rintro e9 w2 ⟨rfl, hL⟩; replace HM := HM.call hL; clear hL)) | (first | ((with_reducible refine g_ld ?_); refine a_ld HM ?_) | ((with_reducible refine g_st ?_); refine a_st HM ?_; clear HM; intro w1 HM) | ((with_reducible refine g_al ?_); refine a_al HM ?_; clear HM; intro bk w1 HM) | ((with_reducible refine g_bx ?_); refine a_bx HM ?_; clear HM; intro bk w1 HM)))
    obtain ⟨b1, rfl⟩ := HM.nm0
    go_cut [4, 5] (fun p q wc => ∃ b4, p = .pointer (some ⟨b4, 0, none⟩) ∧ q = .int .i64 0 ∧ Mem w [] [(b4, Rt.qA y), (b1, Rt.qA x)] wc)
    case first =>
     refine start_M [7] HM (by kernel_rfl) (fun w0x H9 => ?_)
     replace HM := H9; clear H9
     refine k_ld 0 [2, 3, 4, 5, 7, 8] (heldE HM) ?_
     refine j_two 1 6 ?_ ?_
     ·refine j_call1 (v := ?_) HM ?_ ?_; rotate_left 1; (focus (with_reducible (first | exact WH _ | exact ML _))); clear HM; intro w1 HM
      refine ⟨(heldE HM), ?_⟩
      refine j_two 2 6 ?_ ?_
      ·refine j_call2 (v := ?_) HM ?_ ?_; rotate_left 1; (focus (with_reducible (first | exact WH _ | exact ML _))); clear HM; intro w1 HM
       refine ⟨(heldE HM), ?_⟩
       refine k_mv 3 (heldE HM) ?_
       refine k_ext 4 (heldE HM) ?_
       refine k_ext 5 (heldE HM) ?_
       refine j_one 6 fun K9 hK9 => ?_
       refine j_al HM ?_; clear HM; intro bk w1 HM
       refine hK9 _ _ (heldE HM) ?_; clear hK9 K9
       refine j_one 7 fun K9 hK9 => ?_
       refine j_st HM ?_; clear HM; intro w1 HM
       refine hK9 _ _ heldN ?_; clear hK9 K9
       refine k_mv 8 heldN ?_
       refine wpAnyL_done (by kernel_rfl) ?_ _
       (go_wp2_with fail; go_meet; (case rel => exact ⟨_, rfl, rfl, HM.pick⟩))
      ·refine j_al HM ?_; clear HM; intro bk w1 HM
       refine ⟨(heldE HM), ?_⟩
       refine j_one 2 fun K9 hK9 => ?_
       refine j_call2 (v := ?_) HM ?_ ?_; rotate_left 1; (focus (with_reducible (first | exact WH _ | exact ML _))); clear HM; intro w1 HM
       refine hK9 _ _ (heldE HM) ?_; clear hK9 K9
       refine k_mv 3 (heldE HM) ?_
       refine k_ext 4 (heldE HM) ?_
       refine k_ext 5 (heldE HM) ?_
       refine j_one 7 fun K9 hK9 => ?_
       refine j_st HM ?_; clear HM; intro w1 HM
       refine hK9 _ _ heldN ?_; clear hK9 K9
       refine k_mv 8 heldN ?_
       refine wpAnyL_done (by kernel_rfl) ?_ _
       (go_wp2_with fail; go_meet; (case rel => exact ⟨_, rfl, rfl, HM.pick⟩))
     ·refine j_al HM ?_; clear HM; intro bk w1 HM
      refine ⟨(heldE HM), ?_⟩
      refine j_one 1 fun K9 hK9 => ?_
      refine j_call1 (v := ?_) HM ?_ ?_; rotate_left 1; (focus (with_reducible (first | exact WH _ | exact ML _))); clear HM; intro w1 HM
      refine hK9 _ _ (heldE HM) ?_; clear hK9 K9
      refine j_one 2 fun K9 hK9 => ?_
      refine j_call2 (v := ?_) HM ?_ ?_; rotate_left 1; (focus (with_reducible (first | exact WH _ | exact ML _))); clear HM; intro w1 HM
      refine hK9 _ _ (heldE HM) ?_; clear hK9 K9
      refine k_mv 3 (heldE HM) ?_
      refine k_ext 4 (heldE HM) ?_
      refine k_ext 5 (heldE HM) ?_
      refine j_one 7 fun K9 hK9 => ?_
      refine j_st HM ?_; clear HM; intro w1 HM
      refine hK9 _ _ heldN ?_; clear hK9 K9
      refine k_mv 8 heldN ?_
      refine wpAnyL_done (by kernel_rfl) ?_ _
      (go_wp2_with fail; go_meet; (case rel => exact ⟨_, rfl, rfl, HM.pick⟩))
    case rest =>
     clear HM
     obtain ⟨b4, rfl, rfl, HM⟩ := hcut
     go_step
     go_wp2_with (first | (go_at_call 60; ((with_reducible refine (SG _).mono ?_); rintro e9 w2 ⟨rfl, hL⟩; replace HM := HM.call hL; clear hL)) | (first | ((with_reducible refine g_ld ?_); refine a_ld HM ?_) | ((with_reducible refine g_st ?_); refine a_st HM ?_; clear HM; intro w1 HM) | ((with_reducible refine g_al ?_); refine a_al HM ?_; clear HM; intro bk w1 HM) | ((with_reducible refine g_bx ?_); refine a_bx HM ?_; clear HM; intro bk w1 HM)))
     go_ret2
     exact ⟨⟨_, 32, rfl, HE⟩, HM.low⟩
   ·have hx0 : 0 ≤ x := Rat.num_nonneg.1 (by omega)
    have hyn : 0 ≤ y.num := by rw [hy.out, hh.out]; exact Ac.num100 hx0
    have TX := fun w => rtext_any y hf hyn w
    have HP := Lib.hid (show (Ac.Txt y → Ac.Pct (some x)) ∧ (Ac.Pct (some x) → Ac.Txt y) by
     constructor
     ·intro h9
      exact ⟨by rw [← hh.out, ← hy.out]; exact hf, hx0, by rw [← hh.out, ← hy.out]; exact h9⟩
     ·intro h9
      rw [hy.out, hh.out]
      exact h9.2.2)
    have hg1 : ¬ g < 0 := by
     rw [hg.out]
     rcases Int.lt_trichotomy y.num 0 with h | h | h
     ·omega
     ·rw [h]; decide
     ·rw [Int.sign_eq_one_of_pos h]; decide
    clear hf hde hy hh hx0 hyn
    go_enter Tryz.func79, Tryz.ntmps79
    go_upto_region 3 with (first | (go_at_call 65; ((with_reducible refine (V _).mono ?_); rintro e9 w2 ⟨rfl, hL⟩; replace HM := HM.call hL; clear hL)) | (first | ((with_reducible refine g_ld ?_); refine a_ld HM ?_) | ((with_reducible refine g_st ?_); refine a_st HM ?_; clear HM; intro w1 HM) | ((with_reducible refine g_al ?_); refine a_al HM ?_; clear HM; intro bk w1 HM) | ((with_reducible refine g_bx ?_); refine a_bx HM ?_; clear HM; intro bk w1 HM)))
    obtain ⟨b1, rfl⟩ := HM.nm0
    go_cut [4, 5] (fun p q wc => ∃ b4, p = .pointer (some ⟨b4, 0, none⟩) ∧ q = .int .i64 0 ∧ Mem w [] [(b4, Rt.qA y), (b1, Rt.qA x)] wc)
    case first =>
     refine start_M [7] HM (by kernel_rfl) (fun w0x H9 => ?_)
     replace HM := H9; clear H9
     refine k_ld 0 [2, 3, 4, 5, 7, 8] (heldE HM) ?_
     refine j_two 1 6 ?_ ?_
     ·refine j_call1 (v := ?_) HM ?_ ?_; rotate_left 1; (focus (with_reducible (first | exact WH _ | exact ML _))); clear HM; intro w1 HM
      refine ⟨(heldE HM), ?_⟩
      refine j_two 2 6 ?_ ?_
      ·refine j_call2 (v := ?_) HM ?_ ?_; rotate_left 1; (focus (with_reducible (first | exact WH _ | exact ML _))); clear HM; intro w1 HM
       refine ⟨(heldE HM), ?_⟩
       refine k_mv 3 (heldE HM) ?_
       refine k_ext 4 (heldE HM) ?_
       refine k_ext 5 (heldE HM) ?_
       refine j_one 6 fun K9 hK9 => ?_
       refine j_al HM ?_; clear HM; intro bk w1 HM
       refine hK9 _ _ (heldE HM) ?_; clear hK9 K9
       refine j_one 7 fun K9 hK9 => ?_
       refine j_st HM ?_; clear HM; intro w1 HM
       refine hK9 _ _ heldN ?_; clear hK9 K9
       refine k_mv 8 heldN ?_
       refine wpAnyL_done (by kernel_rfl) ?_ _
       (go_wp2_with fail; go_meet; (case rel => exact ⟨_, rfl, rfl, HM.pick⟩))
      ·refine j_al HM ?_; clear HM; intro bk w1 HM
       refine ⟨(heldE HM), ?_⟩
       refine j_one 2 fun K9 hK9 => ?_
       refine j_call2 (v := ?_) HM ?_ ?_; rotate_left 1; (focus (with_reducible (first | exact WH _ | exact ML _))); clear HM; intro w1 HM
       refine hK9 _ _ (heldE HM) ?_; clear hK9 K9
       refine k_mv 3 (heldE HM) ?_
       refine k_ext 4 (heldE HM) ?_
       refine k_ext 5 (heldE HM) ?_
       refine j_one 7 fun K9 hK9 => ?_
       refine j_st HM ?_; clear HM; intro w1 HM
       refine hK9 _ _ heldN ?_; clear hK9 K9
       refine k_mv 8 heldN ?_
       refine wpAnyL_done (by kernel_rfl) ?_ _
       (go_wp2_with fail; go_meet; (case rel => exact ⟨_, rfl, rfl, HM.pick⟩))
     ·refine j_al HM ?_; clear HM; intro bk w1 HM
      refine ⟨(heldE HM), ?_⟩
      refine j_one 1 fun K9 hK9 => ?_
      refine j_call1 (v := ?_) HM ?_ ?_; rotate_left 1; (focus (with_reducible (first | exact WH _ | exact ML _))); clear HM; intro w1 HM
      refine hK9 _ _ (heldE HM) ?_; clear hK9 K9
      refine j_one 2 fun K9 hK9 => ?_
      refine j_call2 (v := ?_) HM ?_ ?_; rotate_left 1; (focus (with_reducible (first | exact WH _ | exact ML _))); clear HM; intro w1 HM
      refine hK9 _ _ (heldE HM) ?_; clear hK9 K9
      refine k_mv 3 (heldE HM) ?_
      refine k_ext 4 (heldE HM) ?_
      refine k_ext 5 (heldE HM) ?_
      refine j_one 7 fun K9 hK9 => ?_
      refine j_st HM ?_; clear HM; intro w1 HM
      refine hK9 _ _ heldN ?_; clear hK9 K9
      refine k_mv 8 heldN ?_
      refine wpAnyL_done (by kernel_rfl) ?_ _
      (go_wp2_with fail; go_meet; (case rel => exact ⟨_, rfl, rfl, HM.pick⟩))
    case rest =>
     clear HM
     obtain ⟨b4, rfl, rfl, HM⟩ := hcut
     go_step
     go_upto_region 7 with (first | (go_at_call 60; ((with_reducible refine (SG _).mono ?_); rintro e9 w2 ⟨rfl, hL⟩; replace HM := HM.call hL; clear hL)) | (go_at_call 125; refine (TX _).mono ?_; rintro e9 w2 ⟨⟨s, e, rfl, HE, hs⟩, hL⟩; replace HM := HM.call hL; clear hL) | (first | ((with_reducible refine g_ld ?_); refine a_ld HM ?_) | ((with_reducible refine g_st ?_); refine a_st HM ?_; clear HM; intro w1 HM) | ((with_reducible refine g_al ?_); refine a_al HM ?_; clear HM; intro bk w1 HM) | ((with_reducible refine g_bx ?_); refine a_bx HM ?_; clear HM; intro bk w1 HM)))
     by_cases he : e = 0
     ·have HE2 : Hid (Ac.Yes 0 (Ac.Pct (some x))) := Lib.hid (Ac.yes_t (HP.out.1 (HE.out.1 he)))
      subst he
      go_wp2_with (first | ((with_reducible refine g_ld ?_); refine a_ld HM ?_) | ((with_reducible refine g_st ?_); refine a_st HM ?_; clear HM; intro w1 HM) | ((with_reducible refine g_al ?_); refine a_al HM ?_; clear HM; intro bk w1 HM) | ((with_reducible refine g_bx ?_); refine a_bx HM ?_; clear HM; intro bk w1 HM))
      go_ret2
      exact ⟨⟨_, 0, rfl, HE2⟩, HM.low⟩
     ·have HE2 : Hid (Ac.Yes 32 (Ac.Pct (some x))) := Lib.hid (Ac.yes_f (fun h9 => he (HE.out.2 (HP.out.2 h9))) (by decide))
      have he0 : (e == 0) = false := beq_eq_false_iff_ne.2 he
      clear he
      go_wp2_with (first | ((with_reducible refine g_ld ?_); refine a_ld HM ?_) | ((with_reducible refine g_st ?_); refine a_st HM ?_; clear HM; intro w1 HM) | ((with_reducible refine g_al ?_); refine a_al HM ?_; clear HM; intro bk w1 HM) | ((with_reducible refine g_bx ?_); refine a_bx HM ?_; clear HM; intro bk w1 HM))
      go_ret2
      exact ⟨⟨_, 32, rfl, HE2⟩, HM.low⟩
end Go.Proofs.YtmbjaaaeekacfaaGreatDoor
namespace Go.Proofs.YtmbjaaaeekacfaaGreatDoor
set_option maxRecDepth 8000
open Go.RowKit
structure Ag where
 nm : ByteArray
 rc : Array Value
 ro : Option Rat
 bs : Int
 ec : Array Value
 eo : Option Rat
 pd : Int
 un : Int
 hr : Rt.Vc ro rc
 he : Rt.Vc eo ec
@[irreducible] def Ag.raw (nm : ByteArray) (rc : Array Value) (bs : Int) (ec : Array Value) (pd un : Int) : Array Value := rowsOf [#[.string nm], rc, #[.int .i64 bs], ec, #[.int .i64 pd], #[.int .i64 un]]
def Ag.c (a : Ag) : Array Value := Ag.raw a.nm a.rc a.bs a.ec a.pd a.un
theorem Ag.raw_rows (nm : ByteArray) (rc : Array Value) (bs : Int) (ec : Array Value) (pd un : Int) : Ag.raw nm rc bs ec pd un = rowsOf [#[.string nm], rc, #[.int .i64 bs], ec, #[.int .i64 pd], #[.int .i64 un]] := by unfold Ag.raw; rfl
section
variable {nm : ByteArray} {rc : Array Value} {bs : Int} {ec : Array Value} {pd un : Int}
theorem Ag.raw_size (h : rc.size = 66) (h2 : ec.size = 66) : (Ag.raw nm rc bs ec pd un).size = 136 := by rw [Ag.raw_rows]; simp [rowsOf, h, h2]
theorem Ag.raw_one (h : rc.all (·.oneCell') = true) (h2 : ec.all (·.oneCell') = true) : (Ag.raw nm rc bs ec pd un).all (·.oneCell') = true := by
 rw [Ag.raw_rows]
 exact rows_cells_one (by
  intro e he
  simp only [List.mem_cons, List.not_mem_nil, or_false] at he
  rcases he with rfl | rfl | rfl | rfl | rfl | rfl
  ·simp [Value.oneCell']
  ·exact h
  ·simp [Value.oneCell']
  ·exact h2
  ·simp [Value.oneCell']
  ·simp [Value.oneCell'])
theorem Ag.sT : sizT 31 = some 136 := by kernel_rfl
theorem Ag.rla (h : rc.size = 66) (h2 : ec.size = 66) : LA 31 (Ag.raw nm rc bs ec pd un) 0 (.agg (Ag.raw nm rc bs ec pd un)) := LA.whole (by kernel_rfl) (by rw [Ag.raw_size h h2]; exact Ag.sT)
theorem Ag.rsa (h : rc.size = 66) (h2 : ec.size = 66) (g : rc.all (·.oneCell') = true) (g2 : ec.all (·.oneCell') = true) {z : Array Value} (hz : z.size = 136) : SA 31 z 0 (.agg (Ag.raw nm rc bs ec pd un)) (Ag.raw nm rc bs ec pd un) := SA.whole (by rw [Ag.raw_size h h2]; exact Ag.sT) (Ag.raw_one g g2) (by rw [Ag.raw_size h h2, hz])
theorem Ag.fnm : FA 9 (Ag.raw nm rc bs ec pd un) 0 (.string nm) := by rw [Ag.raw_rows]; exact fa_one 0 (by kernel_rfl) rfl rfl
theorem Ag.frc (h : rc.size = 66) : FA 27 (Ag.raw nm rc bs ec pd un) 1 (.agg rc) := by rw [Ag.raw_rows]; exact fa_agg 1 (by kernel_rfl) (by rw [h]; exact sT_rat) rfl (by simp [offs])
theorem Ag.fbs (h : rc.size = 66) : FA 3 (Ag.raw nm rc bs ec pd un) 67 (.int .i64 bs) := by rw [Ag.raw_rows]; exact fa_one 2 (by kernel_rfl) rfl (by simp [offs, h])
theorem Ag.fec (h : rc.size = 66) (h2 : ec.size = 66) : FA 27 (Ag.raw nm rc bs ec pd un) 68 (.agg ec) := by rw [Ag.raw_rows]; exact fa_agg 3 (by kernel_rfl) (by rw [h2]; exact sT_rat) rfl (by simp [offs, h])
theorem Ag.fpd (h : rc.size = 66) (h2 : ec.size = 66) : FA 3 (Ag.raw nm rc bs ec pd un) 134 (.int .i64 pd) := by rw [Ag.raw_rows]; exact fa_one 4 (by kernel_rfl) rfl (by simp [offs, h, h2])
theorem Ag.fun_ (h : rc.size = 66) (h2 : ec.size = 66) : FA 3 (Ag.raw nm rc bs ec pd un) 135 (.int .i64 un) := by rw [Ag.raw_rows]; exact fa_one 5 (by kernel_rfl) rfl (by simp [offs, h, h2])
theorem Ag.sec (h : rc.size = 66) (h2 : ec.size = 66) {d : Array Value} (hd : d.size = 66) (g : d.all (·.oneCell') = true) : SA 27 (Ag.raw nm rc bs ec pd un) 68 (.agg d) (Ag.raw nm rc bs d pd un) := by
 rw [Ag.raw_rows, Ag.raw_rows]; exact sa_fld_agg 3 (by rw [hd]; exact sT_rat) g rfl (by rw [hd, h2]) (by simp [offs, h])
theorem Ag.spd (h : rc.size = 66) (h2 : ec.size = 66) (z : Int) : SA 3 (Ag.raw nm rc bs ec pd un) 134 (.int .i64 z) (Ag.raw nm rc bs ec z un) := by
 rw [Ag.raw_rows, Ag.raw_rows]; exact sa_fld_one 4 (by kernel_rfl) rfl rfl rfl (by simp [offs, h, h2])
theorem Ag.sun (h : rc.size = 66) (h2 : ec.size = 66) (z : Int) : SA 3 (Ag.raw nm rc bs ec pd un) 135 (.int .i64 z) (Ag.raw nm rc bs ec pd z) := by
 rw [Ag.raw_rows, Ag.raw_rows]; exact sa_fld_one 5 (by kernel_rfl) rfl rfl rfl (by simp [offs, h, h2])
end
theorem Ag.zeroC : Ag.raw { data := #[] } (Bg.rZ 0 0) 0 (Bg.rZ 0 0) 0 0 = #[Value.string { data := #[] }] ++ Bg.ratA false 0 false 0 ++ #[.int .i64 0] ++ Bg.ratA false 0 false 0 ++ #[.int .i64 0, .int .i64 0] := by rw [Ag.raw_rows, ← rZ_zero]; simp [rowsOf]
theorem Ag.zeroF : (zeroValue 31).run Tryz.prog = fun w => .ok (.agg (Ag.raw { data := #[] } (Bg.rZ 0 0) 0 (Bg.rZ 0 0) 0 0)) w := by
 rw [Ag.zeroC]; unfold Bg.ratA; rw [← Bg.zeroInt]; kernel_rfl
theorem Ag.za : ZA 31 (Ag.raw { data := #[] } (Bg.rZ 0 0) 0 (Bg.rZ 0 0) 0 0) := ⟨_, rfl, fun w => by rw [Ag.zeroF]⟩
theorem Ag.und : Tryz.prog.underlying 31 = some (.struct (Tryz.prog.fieldsOf 31)) := by kernel_rfl
theorem Ag.shape : shapeOf [#[Value.string { data := #[] }], Bg.rZ 0 0, #[.int .i64 0], Bg.rZ 0 0, #[.int .i64 0], #[.int .i64 0]] = [(0, 1), (1, 66), (67, 1), (68, 66), (134, 1), (135, 1)] := by
 simp [shapeOf, offs, rZ_size, List.range, List.range.loop]
theorem Ag.places (w : World) : ((Tryz.prog.fieldsOf 31).mapM (fun f => do pure (f.offset, ← sizeOf f.type)) : Sem (Array (Nat × Nat))).run Tryz.prog w = .ok [(0, 1), (1, 66), (67, 1), (68, 66), (134, 1), (135, 1)].toArray w := by kernel_rfl
theorem Ag.b3 (nm : ByteArray) {rc : Array Value} (bs : Int) (h : rc.size = 66) (w : World) : (Instr.build 31 #[(0, .string nm), (1, .agg rc), (2, .int .i64 bs)]).run Tryz.prog w = .ok (.agg (Ag.raw nm rc bs (Bg.rZ 0 0) 0 0)) w :=
 run_build_flds Ag.und (fun w => by rw [Ag.zeroF, Ag.raw_rows]) Ag.places Ag.shape (by simp [Value.cells, h]) (by rw [Ag.raw_rows]; rfl) w
theorem Ag.b5 (nm : ByteArray) {rc ec : Array Value} (bs un : Int) (h : rc.size = 66) (h2 : ec.size = 66) (w : World) : (Instr.build 31 #[(0, .string nm), (1, .agg rc), (2, .int .i64 bs), (3, .agg ec), (5, .int .i64 un)]).run Tryz.prog w = .ok (.agg (Ag.raw nm rc bs ec 0 un)) w :=
 run_build_flds Ag.und (fun w => by rw [Ag.zeroF, Ag.raw_rows]) Ag.places Ag.shape (by simp [Value.cells, h, h2]) (by rw [Ag.raw_rows]; rfl) w
@[irreducible] def Fe.raw (nm : ByteArray) (rc : Array Value) (bs : Int) : Array Value := rowsOf [#[.string nm], rc, #[.int .i64 bs]]
theorem Fe.raw_rows (nm : ByteArray) (rc : Array Value) (bs : Int) : Fe.raw nm rc bs = rowsOf [#[.string nm], rc, #[.int .i64 bs]] := by unfold Fe.raw; rfl
theorem Fe.raw_size {nm : ByteArray} {rc : Array Value} {bs : Int} (h : rc.size = 66) : (Fe.raw nm rc bs).size = 68 := by rw [Fe.raw_rows]; simp [rowsOf, h]
theorem Fe.raw_one {nm : ByteArray} {rc : Array Value} {bs : Int} (h : rc.all (·.oneCell') = true) : (Fe.raw nm rc bs).all (·.oneCell') = true := by
 rw [Fe.raw_rows]
 exact rows_cells_one (by
  intro e he
  simp only [List.mem_cons, List.not_mem_nil, or_false] at he
  rcases he with rfl | rfl | rfl
  ·simp [Value.oneCell']
  ·exact h
  ·simp [Value.oneCell'])
theorem Fe.la (nm : ByteArray) {rc : Array Value} (bs : Int) (h : rc.size = 66) : LA 29 (Fe.raw nm rc bs) 0 (.agg (Fe.raw nm rc bs)) := LA.whole (by kernel_rfl) (by rw [Fe.raw_size h]; kernel_rfl)
theorem Fe.fnm (nm : ByteArray) (rc : Array Value) (bs : Int) : FA 9 (Fe.raw nm rc bs) 0 (.string nm) := by rw [Fe.raw_rows]; exact fa_one 0 (by kernel_rfl) rfl rfl
theorem Fe.frc (nm : ByteArray) {rc : Array Value} (bs : Int) (h : rc.size = 66) : FA 27 (Fe.raw nm rc bs) 1 (.agg rc) := by rw [Fe.raw_rows]; exact fa_agg 1 (by kernel_rfl) (by rw [h]; exact sT_rat) rfl (by simp [offs])
theorem Fe.fbs (nm : ByteArray) {rc : Array Value} (bs : Int) (h : rc.size = 66) : FA 3 (Fe.raw nm rc bs) 67 (.int .i64 bs) := by rw [Fe.raw_rows]; exact fa_one 2 (by kernel_rfl) rfl (by simp [offs, h])
theorem Fe.zeroC : Fe.raw { data := #[] } (Bg.rZ 0 0) 0 = #[Value.string { data := #[] }] ++ Bg.ratA false 0 false 0 ++ #[.int .i64 0] := by rw [Fe.raw_rows, ← rZ_zero]; simp [rowsOf]
theorem Fe.zeroF : (zeroValue 29).run Tryz.prog = fun w => .ok (.agg (Fe.raw { data := #[] } (Bg.rZ 0 0) 0)) w := by
 rw [Fe.zeroC]; unfold Bg.ratA; rw [← Bg.zeroInt]; kernel_rfl
theorem Fe.und : Tryz.prog.underlying 29 = some (.struct (Tryz.prog.fieldsOf 29)) := by kernel_rfl
theorem Fe.shape : shapeOf [#[Value.string { data := #[] }], Bg.rZ 0 0, #[.int .i64 0]] = [(0, 1), (1, 66), (67, 1)] := by
 simp [shapeOf, offs, rZ_size, List.range, List.range.loop]
theorem Fe.places (w : World) : ((Tryz.prog.fieldsOf 29).mapM (fun f => do pure (f.offset, ← sizeOf f.type)) : Sem (Array (Nat × Nat))).run Tryz.prog w = .ok [(0, 1), (1, 66), (67, 1)].toArray w := by kernel_rfl
theorem Fe.b3 (nm : ByteArray) {rc : Array Value} (bs : Int) (h : rc.size = 66) (w : World) : (Instr.build 29 #[(0, .string nm), (1, .agg rc), (2, .int .i64 bs)]).run Tryz.prog w = .ok (.agg (Fe.raw nm rc bs)) w :=
 run_build_flds Fe.und (fun w => by rw [Fe.zeroF, Fe.raw_rows]) Fe.places Fe.shape (by simp [Value.cells, h]) (by rw [Fe.raw_rows]; rfl) w
theorem ag_eq_int (d : Nat) (s : Bool) (N : Nat) (hN : N < Bg.lim) : EqT (d + 3) 25 (.agg (Bg.intA s N)) (.agg (Bg.intA s N)) true := by
 have h1 : FA 4 (Bg.intA s N) 0 (.bool s) := .inl ⟨by kernel_rfl, Bg.intA_neg s N⟩
 have h2 : FA 23 (Bg.intA s N) 1 (.agg (Bg.row 32 N)) := .inr ⟨by kernel_rfl, Bg.row 32 N, by rw [Bg.row_size]; kernel_rfl, by rw [Bg.intA_size, Bg.row_size]; omega, by rw [Bg.row_size]; exact intA_mag s N, rfl⟩
 have e1 : EqT (d + 2) 4 (.bool s) (.bool s) true := by
  have := eq_t_bool (d := d + 1) Tryz.underlying4 s s
  rwa [beq_self_eq_true] at this
 have e2 : EqT (d + 2) 23 (.agg (Bg.row 32 N)) (.agg (Bg.row 32 N)) true := fun w => by
  have := eq_arr N N hN hN d w
  rwa [decide_eq_true rfl] at this
 exact eq_agg (S := [(4, 0), (23, 1)]) (by kernel_rfl) (by kernel_rfl) (by kernel_rfl) (EqF.cons h1 h1 e1 (EqF.cons h2 h2 e2 .nil))
theorem ag_eq_ratA (d : Nat) (s : Bool) (M : Nat) (t : Bool) (N : Nat) (hM : M < Bg.lim) (hN : N < Bg.lim) : EqT (d + 4) 27 (.agg (Bg.ratA s M t N)) (.agg (Bg.ratA s M t N)) true := by
 have h1 : FA 25 (Bg.ratA s M t N) 0 (.agg (Bg.intA s M)) := .inr ⟨by kernel_rfl, Bg.intA s M, by rw [Bg.intA_size]; exact sT_int, by rw [Bg.intA_size, ratA_size]; omega, by rw [Bg.intA_size]; exact ratA_num s M t N, rfl⟩
 have h2 : FA 25 (Bg.ratA s M t N) 33 (.agg (Bg.intA t N)) := .inr ⟨by kernel_rfl, Bg.intA t N, by rw [Bg.intA_size]; exact sT_int, by rw [Bg.intA_size, ratA_size]; omega, by rw [Bg.intA_size]; exact ratA_den s M t N, rfl⟩
 exact eq_agg (S := [(25, 0), (25, 33)]) (by kernel_rfl) (by kernel_rfl) (by kernel_rfl) (EqF.cons h1 h1 (ag_eq_int d s M hM) (EqF.cons h2 h2 (ag_eq_int d t N hN) .nil))
theorem ag_eq_vc (d : Nat) {o : Option Rat} {c : Array Value} (h : Rt.Vc o c) : EqT (d + 4) 27 (.agg c) (.agg c) true := by
 cases o with
 | some x => obtain ⟨hx, rfl⟩ := h; rw [qA_rZ, rZ_ratA]; exact ag_eq_ratA d _ _ _ _ hx.ln hx.ld
 | none => obtain ⟨s, M, t, N, hM, hN, _, rfl⟩ := h; exact ag_eq_ratA d _ _ _ _ hM hN
theorem Ag.eq_self (a : Ag) : EqT 10000 31 (.agg a.c) (.agg a.c) true := by
 have e2 : EqT 9999 9 (.string a.nm) (.string a.nm) true := by
  have := eq_t_str (d := 9998) Tryz.underlying9 a.nm a.nm
  have hs : (a.nm == a.nm) = true := (show (a.nm.data == a.nm.data) = true from beq_self_eq_true _)
  rwa [hs] at this
 have e3 : ∀ z : Int, EqT 9999 3 (.int .i64 z) (.int .i64 z) true := fun z => by
  have := eq_t_int (d := 9998) Tryz.underlying3 z z
  rwa [beq_self_eq_true] at this
 have h := a.hr.size
 have h2 := a.he.size
 exact eq_agg (d := 9999) (S := [(9, 0), (27, 1), (3, 67), (27, 68), (3, 134), (3, 135)]) (by kernel_rfl) (by kernel_rfl) (by kernel_rfl)
  (EqF.cons Ag.fnm Ag.fnm e2 (EqF.cons (Ag.frc h) (Ag.frc h) (ag_eq_vc 9995 a.hr) (EqF.cons (Ag.fbs h) (Ag.fbs h) (e3 _) (EqF.cons (Ag.fec h h2) (Ag.fec h h2) (ag_eq_vc 9995 a.he) (EqF.cons (Ag.fpd h h2) (Ag.fpd h h2) (e3 _) (EqF.cons (Ag.fun_ h h2) (Ag.fun_ h h2) (e3 _) .nil))))))
end Go.Proofs.YtmbjaaaeekacfaaGreatDoor
namespace Go.Proofs.YtmbjaaaeekacfaaGreatDoor
set_option maxRecDepth 8000
open Go.RowKit
theorem ac_valid_v (o : Option Rat) (c : Array Value) (hv : Rt.Vc o c) (w : World) :
    Calls Tryz.prog 65 #[.agg c] w fun r w' => r = .returned (.bool o.isSome) ∧ Below w.heap.size w w' := by
 cases o with
 | some x => obtain ⟨hx, rfl⟩ := hv; exact rvalid_q x hx w
 | none => obtain ⟨s, M, t, N, hM, hN, hk, rfl⟩ := hv; exact rvalid_n s M t N false hM hN (Lib.hid hk.symm) w
theorem ac_compare_q (x y : Rat) (g : Int) (hx : Rt.Fit x) (hy : Rt.Fit y) (hg : Hid (g = Rt.cmp x y)) (w : World) :
    Calls Tryz.prog 36 #[.agg (Rt.qA x), .agg (Rt.qA y)] w fun r w' => r = .returned (.int .i64 g) ∧ Below w.heap.size w w' := by
 rw [qA_rZ, qA_rZ]
 have b : ∀ {a b : Int}, a.natAbs < Bg.p2 480 → b.natAbs < Bg.p2 480 → (a * b).natAbs < Bg.lim := fun h1 h2 => Ac.lim_of (k := 960) (mul_480 h1 h2) (by decide)
 exact rCompare_zz _ _ _ _ (x.num * y.den) (y.num * x.den) g (Ac.nl hx) (Ac.dl hx) (Ac.nl hy) (Ac.dl hy) (Lib.hid rfl) (Lib.hid rfl) (Lib.hid (by rw [hg.out]; rfl)) (b hx.1 hy.b480) (b hy.1 hx.b480) w
def Ac.btw : Option Rat → Int → Bool
 | none, _ => false
 | some x, m => decide (0 ≤ x.num) && decide (Rt.cmp x ((m : Int) : Rat) ≤ 0)
theorem Ac.btw_iff {x : Rat} {m : Int} : Ac.btw (some x) m = true ↔ 0 ≤ x ∧ x ≤ ((m : Int) : Rat) := by
 show (decide _ && decide _) = true ↔ _
 rw [Bool.and_eq_true, decide_eq_true_eq, decide_eq_true_eq]
 refine and_congr Rat.num_nonneg ?_
 rcases Rt.cmp_cases x ((m : Int) : Rat) with ⟨h, h2⟩ | ⟨h, h2⟩ | ⟨h, h2⟩
 ·rw [h]; exact ⟨fun _ => by grind, fun _ => by decide⟩
 ·rw [h]; exact ⟨fun _ => by grind, fun _ => by decide⟩
 ·rw [h]; exact ⟨fun h3 => absurd h3 (by decide), fun h3 => absurd h2 (Rat.not_lt.2 h3)⟩
theorem Ac.fit_int {m : Int} (h1 : -9223372036854775808 ≤ m) (h2 : m < 9223372036854775808) : Rt.Fit ((m : Int) : Rat) := by
 constructor
 ·rw [Rat.num_intCast]
  have := Bg.p2_mono (show 64 ≤ 480 by decide)
  have e : Bg.p2 64 = 18446744073709551616 := by unfold Bg.p2; rfl
  omega
 ·rw [Rat.den_intCast]
  have := Bg.p2_mono (show 1 ≤ 480 by decide)
  have e : Bg.p2 1 = 2 := by unfold Bg.p2; rfl
  omega
set_option maxHeartbeats 2000000 in
theorem between_any (o : Option Rat) (c : Array Value) (hv : Rt.Vc o c) (m : Int) (h1 : 0 ≤ m) (h2 : m < 9223372036854775808) (v : Bool) (hr : Hid (v = Ac.btw o m)) (w : World) :
    Calls Tryz.prog 40 #[.agg c, .int .i64 m] w fun r w' => r = .returned (.bool v) ∧ Below w.heap.size w w' := by
 have HM := Mem.start w
 have fm := Ac.fit_int (m := m) (by omega) h2
 obtain ⟨y, hy⟩ : ∃ y : Rat, Hid (y = ((m : Int) : Rat)) := ⟨_, Lib.hid rfl⟩
 have WH := fun w => whole_q m y (by omega) h2 hy w
 rw [← hy.out] at fm
 cases o with
 | none =>
  obtain rfl : v = false := hr.out
  obtain ⟨s, M, t, N, hM, hN, hb, rfl⟩ := hv
  have k0 := la_rat s M t N
  have SB := fun w => Sign_bad s M t N hM hN (Lib.hid hb.symm) w
  have CB : ∀ w, Calls Tryz.prog 78 #[.agg (Bg.ratA s M t N), .agg (Rt.qA y)] w fun r w' => r = .returned (.tuple #[.int .i64 0, .int .i64 20]) ∧ Below w.heap.size w w' := fun w => by
   rw [qA_rZ, rZ_ratA]
   exact Cmp_bad s M t N _ _ _ _ hM hN (Ac.nl fm) (Ac.dl fm) (by rw [hb]; rfl) w
  clear hb hr hy
  go_enter Tryz.func40, Tryz.ntmps40
  go_upto_region 2 with (first | (go_at_call 77; ((with_reducible refine (SB _).mono ?_); rintro e9 w2 ⟨rfl, hL⟩; replace HM := HM.call hL; clear hL)) | (first | ((with_reducible refine g_ld ?_); refine a_ld HM ?_) | ((with_reducible refine g_bx ?_); refine a_bx HM ?_; clear HM; intro bk w1 HM)))
  refine start_M [] HM (by kernel_rfl) (fun w0x H9 => ?_)
  replace HM := H9; clear H9
  refine k_ld 0 [] (heldE HM) ?_
  refine k_mv 1 (heldE HM) ?_
  refine j_one 2 fun K9 hK9 => ?_
  refine j_call1 (v := ?_) HM ?_ ?_; rotate_left 1; (focus (with_reducible (first | exact WH _ | exact CB _))); clear HM; intro w1 HM
  refine hK9 _ _ (heldE HM) ?_; clear hK9 K9
  refine j_one 3 fun K9 hK9 => ?_
  refine j_call2 (v := ?_) HM ?_ ?_; rotate_left 1; (focus (with_reducible (first | exact WH _ | exact CB _))); clear HM; intro w1 HM
  refine hK9 _ _ (heldE HM) ?_; clear hK9 K9
  refine k_mv 4 (heldE HM) ?_
  refine k_ext 5 (heldE HM) ?_
  refine k_ext 6 (heldE HM) ?_
  refine k_mv 7 (heldE HM) ?_
  refine k_mv 8 (heldE HM) ?_
  refine wpAnyL_done (by kernel_rfl) ?_ _
  (go_wp2_with fail; go_ret; exact ⟨rfl, HM.low⟩)
 | some x =>
  obtain ⟨hx, rfl⟩ := hv
  have k0 := la_q x
  obtain ⟨g, hg⟩ : ∃ g, Hid (g = x.num.sign) := ⟨_, Lib.hid rfl⟩
  obtain ⟨g2, hg2⟩ : ∃ g, Hid (g = Rt.cmp x y) := ⟨_, Lib.hid rfl⟩
  have SQ := fun w => sign_q x g hx hg w
  have CQ := fun w => cmp_q x y g2 hx fm hg2 w
  have hs : Hid (v = (decide (0 ≤ g) && decide (g2 ≤ 0))) := Lib.hid (by
   have e : decide (0 ≤ x.num) = decide (0 ≤ g) := by
    rw [hg.out]
    exact decide_eq_decide.2 Int.sign_nonneg_iff.symm
   rw [hr.out, hg2.out, hy.out, ← e]; rfl)
  by_cases h0 : 0 ≤ g
  ·obtain rfl : v = decide (g2 ≤ 0) := by rw [hs.out, decide_eq_true h0]; rfl
   clear hr hy hg hg2 hs
   go_enter Tryz.func40, Tryz.ntmps40
   go_upto_region 2 with (first | (go_at_call 77; ((with_reducible refine (SQ _).mono ?_); rintro e9 w2 ⟨rfl, hL⟩; replace HM := HM.call hL; clear hL)) | (first | ((with_reducible refine g_ld ?_); refine a_ld HM ?_) | ((with_reducible refine g_bx ?_); refine a_bx HM ?_; clear HM; intro bk w1 HM)))
   refine start_M [] HM (by kernel_rfl) (fun w0x H9 => ?_)
   replace HM := H9; clear H9
   refine k_ld 0 [] (heldE HM) ?_
   refine k_mv 1 (heldE HM) ?_
   refine j_one 2 fun K9 hK9 => ?_
   refine j_call1 (v := ?_) HM ?_ ?_; rotate_left 1; (focus (with_reducible (first | exact WH _ | exact CQ _))); clear HM; intro w1 HM
   refine hK9 _ _ (heldE HM) ?_; clear hK9 K9
   refine j_one 3 fun K9 hK9 => ?_
   refine j_call2 (v := ?_) HM ?_ ?_; rotate_left 1; (focus (with_reducible (first | exact WH _ | exact CQ _))); clear HM; intro w1 HM
   refine hK9 _ _ (heldE HM) ?_; clear hK9 K9
   refine k_mv 4 (heldE HM) ?_
   refine k_ext 5 (heldE HM) ?_
   refine k_ext 6 (heldE HM) ?_
   refine k_mv 7 (heldE HM) ?_
   refine k_mv 8 (heldE HM) ?_
   refine wpAnyL_done (by kernel_rfl) ?_ _
   (go_wp2_with fail; go_ret; exact ⟨rfl, HM.low⟩)
  ·obtain rfl : v = false := by rw [hs.out, decide_eq_false h0]; rfl
   clear hr hy hg hg2 hs
   go_enter Tryz.func40, Tryz.ntmps40
   go_upto_region 2 with (first | (go_at_call 77; ((with_reducible refine (SQ _).mono ?_); rintro e9 w2 ⟨rfl, hL⟩; replace HM := HM.call hL; clear hL)) | (first | ((with_reducible refine g_ld ?_); refine a_ld HM ?_) | ((with_reducible refine g_bx ?_); refine a_bx HM ?_; clear HM; intro bk w1 HM)))
   refine start_M [] HM (by kernel_rfl) (fun w0x H9 => ?_)
   replace HM := H9; clear H9
   refine k_ld 0 [] (heldE HM) ?_
   refine k_mv 1 (heldE HM) ?_
   refine j_one 2 fun K9 hK9 => ?_
   refine j_call1 (v := ?_) HM ?_ ?_; rotate_left 1; (focus (with_reducible (first | exact WH _ | exact CQ _))); clear HM; intro w1 HM
   refine hK9 _ _ (heldE HM) ?_; clear hK9 K9
   refine j_one 3 fun K9 hK9 => ?_
   refine j_call2 (v := ?_) HM ?_ ?_; rotate_left 1; (focus (with_reducible (first | exact WH _ | exact CQ _))); clear HM; intro w1 HM
   refine hK9 _ _ (heldE HM) ?_; clear hK9 K9
   refine k_mv 4 (heldE HM) ?_
   refine k_ext 5 (heldE HM) ?_
   refine k_ext 6 (heldE HM) ?_
   refine k_mv 7 (heldE HM) ?_
   refine k_mv 8 (heldE HM) ?_
   refine wpAnyL_done (by kernel_rfl) ?_ _
   (go_wp2_with fail; go_ret; exact ⟨rfl, HM.low⟩)
set_option maxHeartbeats 2000000 in
theorem rbetween_any (o : Option Rat) (c : Array Value) (hv : Rt.Vc o c) (m : Int) (h1 : 0 ≤ m) (h2 : m < 9223372036854775808) (v : Bool) (hr : Hid (v = Ac.btw o m)) (w : World) :
    Calls Tryz.prog 50 #[.agg c, .int .i64 0, .int .i64 m] w fun r w' => r = .returned (.bool v) ∧ Below w.heap.size w w' := by
 have HM := Mem.start w
 have fm := Ac.fit_int (m := m) (by omega) h2
 obtain ⟨y, hy⟩ : ∃ y : Rat, Hid (y = ((m : Int) : Rat)) := ⟨_, Lib.hid rfl⟩
 have WH := fun w => rwhole_q m y (by omega) h2 hy w
 have W0 := fun w => rwhole_q 0 0 (by decide) (by decide) (Lib.hid rfl) w
 rw [← hy.out] at fm
 have V := fun w => ac_valid_v o c hv w
 have k0 := la_c hv.size
 cases o with
 | none =>
  obtain rfl : v = false := hr.out
  clear hv hr hy
  go_enter Tryz.func50, Tryz.ntmps50
  go_upto_region 1 with (first | ((with_reducible refine g_ld ?_); refine a_ld HM ?_) | ((with_reducible refine g_bx ?_); refine a_bx HM ?_; clear HM; intro bk w1 HM))
  refine start_M [] HM (by kernel_rfl) (fun w0x H9 => ?_)
  replace HM := H9; clear H9
  refine k_ld 0 [] (heldE HM) ?_
  refine j_one 1 fun K9 hK9 => ?_
  refine j_call1 (v := ?_) HM ?_ ?_; rotate_left 1; (focus (with_reducible (first | exact V _))); clear HM; intro w1 HM
  refine hK9 _ _ (heldE HM) ?_; clear hK9 K9
  refine k_mv 2 (heldE HM) ?_
  refine k_off 3 (heldE HM) ?_
  refine k_off 4 (heldE HM) ?_
  refine k_off 5 (heldE HM) ?_
  refine k_off 6 (heldE HM) ?_
  refine k_off 7 (heldE HM) ?_
  refine k_pick 8 (heldE HM) ?_
  refine k_mv 9 (heldE HM) ?_
  refine k_off 10 (heldE HM) ?_
  refine k_off 11 (heldE HM) ?_
  refine k_off 12 (heldE HM) ?_
  refine k_off 13 (heldE HM) ?_
  refine k_off 14 (heldE HM) ?_
  refine k_pick 15 (heldE HM) ?_
  refine k_mv 16 (heldE HM) ?_
  refine wpAnyL_done (by kernel_rfl) ?_ _
  (go_wp2_with fail; go_ret; exact ⟨rfl, HM.low⟩)
 | some x =>
  obtain ⟨hx, rfl⟩ := hv
  obtain ⟨g, hg⟩ : ∃ g, Hid (g = Rt.cmp x 0) := ⟨_, Lib.hid rfl⟩
  obtain ⟨g2, hg2⟩ : ∃ g, Hid (g = Rt.cmp x y) := ⟨_, Lib.hid rfl⟩
  have C0 := fun w => ac_compare_q x 0 g hx Rt.fit_zero hg w
  have CQ := fun w => ac_compare_q x y g2 hx fm hg2 w
  have hs : Hid (v = (decide (0 ≤ g) && decide (g2 ≤ 0))) := Lib.hid (by
   have e : decide (0 ≤ x.num) = decide (0 ≤ g) := by
    refine decide_eq_decide.2 (Rat.num_nonneg.trans ?_)
    rw [hg.out]
    rcases Rt.cmp_cases x 0 with ⟨h, h2⟩ | ⟨h, h2⟩ | ⟨h, h2⟩
    ·rw [h]; exact ⟨fun h3 => absurd h2 (Rat.not_lt.2 h3), fun h3 => absurd h3 (by decide)⟩
    ·rw [h]; exact ⟨fun _ => by decide, fun _ => by grind⟩
    ·rw [h]; exact ⟨fun _ => by decide, fun _ => by grind⟩
   rw [hr.out, hg2.out, hy.out, ← e]; rfl)
  replace V : ∀ w, Calls Tryz.prog 65 #[.agg (Rt.qA x)] w fun r w' => r = .returned (.bool true) ∧ Below w.heap.size w w' := V
  by_cases h0 : 0 ≤ g
  ·obtain rfl : v = decide (g2 ≤ 0) := by rw [hs.out, decide_eq_true h0]; rfl
   have h9 : decide (0 ≤ g) = true := decide_eq_true h0
   clear hr hy hg hg2 hs
   go_enter Tryz.func50, Tryz.ntmps50
   go_upto_region 1 with (first | ((with_reducible refine g_ld ?_); refine a_ld HM ?_) | ((with_reducible refine g_bx ?_); refine a_bx HM ?_; clear HM; intro bk w1 HM))
   refine start_M [] HM (by kernel_rfl) (fun w0x H9 => ?_)
   replace HM := H9; clear H9
   refine k_ld 0 [] (heldE HM) ?_
   refine j_one 1 fun K9 hK9 => ?_
   refine j_call1 (v := ?_) HM ?_ ?_; rotate_left 1; (focus (with_reducible (first | exact V _ | exact W0 _ | exact WH _ | exact C0 _ | exact CQ _))); clear HM; intro w1 HM
   refine hK9 _ _ (heldE HM) ?_; clear hK9 K9
   refine k_mv 2 (heldE HM) ?_
   refine k_ld 3 [] (heldE HM) ?_
   refine k_mv 4 (heldE HM) ?_
   refine j_one 5 fun K9 hK9 => ?_
   refine j_call1 (v := ?_) HM ?_ ?_; rotate_left 1; (focus (with_reducible (first | exact V _ | exact W0 _ | exact WH _ | exact C0 _ | exact CQ _))); clear HM; intro w1 HM
   refine hK9 _ _ (heldE HM) ?_; clear hK9 K9
   refine j_one 6 fun K9 hK9 => ?_
   refine j_call2 (v := ?_) HM ?_ ?_; rotate_left 1; (focus (with_reducible (first | exact V _ | exact W0 _ | exact WH _ | exact C0 _ | exact CQ _))); clear HM; intro w1 HM
   refine hK9 _ _ (heldE HM) ?_; clear hK9 K9
   refine k_bin 7 (heldE HM) ?_
   refine k_pick 8 (heldE HM) ?_
   refine k_mv 9 (heldE HM) ?_
   refine k_ld 10 [] (heldE HM) ?_
   refine k_mv 11 (heldE HM) ?_
   refine j_one 12 fun K9 hK9 => ?_
   refine j_call1 (v := ?_) HM ?_ ?_; rotate_left 1; (focus (with_reducible (first | exact V _ | exact W0 _ | exact WH _ | exact C0 _ | exact CQ _))); clear HM; intro w1 HM
   refine hK9 _ _ (heldE HM) ?_; clear hK9 K9
   refine j_one 13 fun K9 hK9 => ?_
   refine j_call2 (v := ?_) HM ?_ ?_; rotate_left 1; (focus (with_reducible (first | exact V _ | exact W0 _ | exact WH _ | exact C0 _ | exact CQ _))); clear HM; intro w1 HM
   refine hK9 _ _ (heldE HM) ?_; clear hK9 K9
   refine k_bin 14 (heldE HM) ?_
   refine k_pick 15 (heldE HM) ?_
   refine k_mv 16 (heldE HM) ?_
   refine wpAnyL_done (by kernel_rfl) ?_ _
   (go_wp2_with fail; go_ret; exact ⟨rfl, HM.low⟩)
  ·obtain rfl : v = false := by rw [hs.out, decide_eq_false h0]; rfl
   have h9 : decide (0 ≤ g) = false := decide_eq_false h0
   clear hr hy hg hg2 hs
   go_enter Tryz.func50, Tryz.ntmps50
   go_upto_region 1 with (first | ((with_reducible refine g_ld ?_); refine a_ld HM ?_) | ((with_reducible refine g_bx ?_); refine a_bx HM ?_; clear HM; intro bk w1 HM))
   refine start_M [] HM (by kernel_rfl) (fun w0x H9 => ?_)
   replace HM := H9; clear H9
   refine k_ld 0 [] (heldE HM) ?_
   refine j_one 1 fun K9 hK9 => ?_
   refine j_call1 (v := ?_) HM ?_ ?_; rotate_left 1; (focus (with_reducible (first | exact V _ | exact W0 _ | exact WH _ | exact C0 _ | exact CQ _))); clear HM; intro w1 HM
   refine hK9 _ _ (heldE HM) ?_; clear hK9 K9
   refine k_mv 2 (heldE HM) ?_
   refine k_ld 3 [] (heldE HM) ?_
   refine k_mv 4 (heldE HM) ?_
   refine j_one 5 fun K9 hK9 => ?_
   refine j_call1 (v := ?_) HM ?_ ?_; rotate_left 1; (focus (with_reducible (first | exact V _ | exact W0 _ | exact WH _ | exact C0 _ | exact CQ _))); clear HM; intro w1 HM
   refine hK9 _ _ (heldE HM) ?_; clear hK9 K9
   refine j_one 6 fun K9 hK9 => ?_
   refine j_call2 (v := ?_) HM ?_ ?_; rotate_left 1; (focus (with_reducible (first | exact V _ | exact W0 _ | exact WH _ | exact C0 _ | exact CQ _))); clear HM; intro w1 HM
   refine hK9 _ _ (heldE HM) ?_; clear hK9 K9
   refine k_bin 7 (heldE HM) ?_
   refine k_pick 8 (heldE HM) ?_
   refine k_mv 9 (heldE HM) ?_
   refine k_off 10 (heldE HM) ?_
   refine k_off 11 (heldE HM) ?_
   refine k_off 12 (heldE HM) ?_
   refine k_off 13 (heldE HM) ?_
   refine k_off 14 (heldE HM) ?_
   refine k_pick 15 (heldE HM) ?_
   refine k_mv 16 (heldE HM) ?_
   refine wpAnyL_done (by kernel_rfl) ?_ _
   (go_wp2_with fail; go_ret; exact ⟨rfl, HM.low⟩)
theorem rounded_any (x : Rat) (hx : Rt.Fit x) (h0 : 0 ≤ x) (h1 : x ≤ ((1000000000000000 : Int) : Rat)) (n : Int) (hn : Hid (n = Ac.rhe x)) (w : World) :
    Calls Tryz.prog 51 #[.agg (Rt.qA x)] w fun r w' => r = .returned (.int .i64 n) ∧ Below w.heap.size w w' := by
 have HM := Mem.start w
 have k0 := la_q x
 have RI := fun w => roundInt_any x hx h0 h1 n hn w
 go_enter Tryz.func51, Tryz.ntmps51
 go_wp2_with (first | (go_at_call 94; ((with_reducible refine (RI _).mono ?_); rintro e9 w2 ⟨rfl, hL⟩; replace HM := HM.call hL; clear hL)) | (first | ((with_reducible refine g_ld ?_); refine a_ld HM ?_) | ((with_reducible refine g_bx ?_); refine a_bx HM ?_; clear HM; intro bk w1 HM)))
 go_ret
 exact ⟨rfl, HM.low⟩
theorem owed_any (nm : ByteArray) (rc : Array Value) (bs : Int) (pd un : Int) (hr : rc.size = 66) (x : Rat) (hx : Rt.Fit x) (h0 : 0 ≤ x) (h1 : x ≤ ((1000000000000000 : Int) : Rat)) (n : Int) (hn : Hid (n = Ac.rhe x)) (w : World) :
    Calls Tryz.prog 52 #[.agg (Ag.raw nm rc bs (Rt.qA x) pd un)] w fun r w' => r = .returned (.int .i64 n) ∧ Below w.heap.size w w' := by
 have HM := Mem.start w
 have k0 := (Ag.fec (nm := nm) (bs := bs) (pd := pd) (un := un) hr (qA_size x)).la
 have RI := fun w => rroundInt_any x hx h0 h1 n hn w
 generalize Ag.raw nm rc bs (Rt.qA x) pd un = C at *
 go_enter Tryz.func52, Tryz.ntmps52
 go_wp2_with (first | (go_at_call 35; ((with_reducible refine (RI _).mono ?_); rintro e9 w2 ⟨rfl, hL⟩; replace HM := HM.call hL; clear hL)) | (first | ((with_reducible refine g_ld ?_); refine a_ld HM ?_) | ((with_reducible refine g_bx ?_); refine a_bx HM ?_; clear HM; intro bk w1 HM)))
 go_ret
 exact ⟨rfl, HM.low⟩
theorem rname_any (s : ByteArray) (w : World) :
    Calls Tryz.prog 80 #[.string s] w fun e w' => e = .returned (.bool (Nm.usableB s)) ∧ Below w.heap.size w w' := by
 have HM := Mem.start w
 have U := fun w => below_eq (rUsable_any s w)
 go_enter Tryz.func80, Tryz.ntmps80
 go_wp2_with (first | (go_at_call 126; ((with_reducible refine (U _).mono ?_); rintro e9 w2 ⟨rfl, hL⟩; replace HM := HM.call hL; clear hL)) | fail)
 go_ret
 exact ⟨rfl, HM.low⟩
end Go.Proofs.YtmbjaaaeekacfaaGreatDoor
