/- Walks. -/
import Derived.Test.YtiekmabiecalbaaGreatDoorPa27
import Derived.Test.YtiekmabiecalbaaGreatDoorPa26
namespace Go.Proofs.YtiekmabiecalbaaGreatDoor
set_option maxHeartbeats 16000000
open Go.RowKit
set_option maxRecDepth 8000
set_option linter.unusedSimpArgs false
set_option linter.unusedVariables false
section
theorem z9_81 {P : Prop} (h : P := by
 subst hv
 clear h1
 refine start_M [] HM Zk (fun w0x H9 => ?_)
 replace HM := H9; clear H9
 refine k_ld 0 [] (heldE HM) ?_
 refine j_one 1 fun K9 hK9 => ?_
 refine j_call1 (v := ?_) HM ?_ ?_; rotate_left 1; (focus (with_reducible (first | exact WH _ | exact CQ _))); clear HM; intro w1 HM
 refine hK9 _ _ (heldE HM) ?_; clear hK9 K9
 refine j_one 2 fun K9 hK9 => ?_
 refine j_call2 (v := ?_) HM ?_ ?_; rotate_left 1; (focus (with_reducible (first | exact WH _ | exact CQ _))); clear HM; intro w1 HM
 refine hK9 _ _ (heldE HM) ?_; clear hK9 K9
 refine k_mv 3 (heldE HM) ?_
 refine k_ext 4 (heldE HM) ?_
 refine k_ext 5 (heldE HM) ?_
 refine k_mv 6 (heldE HM) ?_
 refine k_mv 7 (heldE HM) ?_
 refine wpAnyL_done Zk ?_ _
 (go_wp2_with fail; go_ret; exact ⟨rfl, HM.low⟩)) : P := h
end
section
open Jb
def Jb.btw : Option Rat → Int → Bool
 | none, _ => false
 | some x, m => decide (0 ≤ x.num) && decide (Rt.cmp x ((m : Int) : Rat) ≤ 0)
theorem Jb.fit_int {m : Int} (h1 : -9223372036854775808 ≤ m) (h2 : m < 9223372036854775808) : Rt.Fit ((m : Int) : Rat) := by
 constructor
 ·rw [Rat.num_intCast]
  have := Bg.p2_mono (show 64 ≤ 480 by decide)
  have e : Bg.p2 64 = 18446744073709551616 := by unfold Bg.p2; rfl
  omega
 ·rw [Rat.den_intCast]
  have := Bg.p2_mono (show 1 ≤ 480 by decide)
  have e : Bg.p2 1 = 2 := by unfold Bg.p2; rfl
  omega
theorem Rr.c_inj {x y : Rr} (h : x.c = y.c) (w : World) : x = y := by
 have e1 := Rr.eqT 1 x y w
 have e2 := Rr.eqT 1 x x w
 rw [← h] at e1
 rw [e1] at e2
 injection e2 with e3
 exact Rr.b_iff.1 (e3.trans (Rr.b_iff.2 rfl))
def Rr.q (x : Rat) (hx : Rt.Fit x) : Rr := ⟨decide (x.num < 0), x.num.natAbs, false, x.den, Ac.nl hx, by have := Ac.dl hx; rwa [Int.natAbs_natCast] at this⟩
theorem Rr.q_c (x : Rat) (hx : Rt.Fit x) : (Rr.q x hx).c = Rt.qA x := by
 rw [Rr.c_eq, qA_rZ, rZ_ratA, Int.natAbs_natCast, Zf (show ¬ ((x.den : Nat) : Int) < 0 by omega)]; rfl
theorem Rt.qA_inj {x y : Rat} (hx : Rt.Fit x) (hy : Rt.Fit y) (h : Rt.qA x = Rt.qA y) (w : World) : x = y := by
 have e := Rr.c_inj (x := Rr.q x hx) (y := Rr.q y hy) (by rw [Rr.q_c, Rr.q_c, h]) w
 have hM : x.num.natAbs = y.num.natAbs := congrArg Rr.M e
 have hs : decide (x.num < 0) = decide (y.num < 0) := congrArg Rr.s e
 have hN : x.den = y.den := congrArg Rr.N e
 refine Rat.ext ?_ hN
 by_cases h1 : x.num < 0
 ·rw [Zt h1] at hs
  have h2 := of_decide_eq_true hs.symm
  omega
 ·rw [Zf h1] at hs
  have h2 := of_decide_eq_false hs.symm
  omega
theorem Rt.vc_fun {o o' : Option Rat} {c : Array Value} (h : Rt.Vc o c) (h' : Rt.Vc o' c) (w : World) : o = o' := by
 have key : ∀ {x : Rat} {c : Array Value}, Rt.Vc (some x) c → Rt.Vc none c → False := by
  intro x c h1 h2
  obtain ⟨hx, rfl⟩ := h1
  obtain ⟨s, M, t, N, hM, hN, hk, e⟩ := h2
  have e2 := Rr.c_inj (x := Rr.q x hx) (y := ⟨s, M, t, N, hM, hN⟩) (by rw [Rr.q_c, Rr.c_eq, e]) w
  have h3 := hx.okz
  unfold Rt.okz at h3
  have es : decide (x.num < 0) = s := congrArg Rr.s e2
  have eM : x.num.natAbs = M := congrArg Rr.M e2
  have et : false = t := congrArg Rr.t e2
  have eN : x.den = N := congrArg Rr.N e2
  rw [Int.natAbs_natCast, Zf (show ¬ ((x.den : Nat) : Int) < 0 by omega), es, eM, eN, et] at h3
  rw [h3] at hk; cases hk
 cases o with
 | none => cases o' with
  | none => rfl
  | some y => exact (key h' h).elim
 | some x => cases o' with
  | none => exact (key h h').elim
  | some y => rw [Rt.qA_inj h.1 h'.1 (h.2.symm.trans h'.2) w]
def Jb.prcP : Option Rat → Prop
 | none => False
 | some x => Ac.Txt x ∧ 0 ≤ x ∧ x ≤ ((1000000000 : Int) : Rat)
theorem Jb.price_iff {r : Rr} {o : Option Rat} (h : Rt.Vc o r.c) (w : World) : price r = true ↔ prcP o := by
 unfold price
 rw [@decide_eq_true_eq _ (Classical.propDecidable _)]
 constructor
 ·rintro ⟨x, hv, h1, h2, h3⟩
  rw [Rt.vc_fun h hv w]
  exact ⟨h1, h2, h3⟩
 ·intro h2
  cases o with
  | none => exact h2.elim
  | some x => exact ⟨x, h, h2⟩
theorem Jb.rat0_c : rat0.c = Rt.qA 0 := by
 rw [← Rr.q_c 0 Rt.fit_zero, Rr.c_eq, Rr.c_eq]; rfl
theorem Jb.rat0_iff {r : Rr} {o : Option Rat} (h : Rt.Vc o r.c) (w : World) : Rr.b r rat0 = true ↔ o = some 0 := by
 rw [Rr.b_iff]
 constructor
 ·rintro rfl
  exact Rt.vc_fun h (o' := some 0) ⟨Rt.fit_zero, rat0_c⟩ w
 ·rintro rfl
  exact Rr.c_inj (h.2.trans rat0_c.symm) w
theorem Jb.pay_v {r : Rr} {x : Rat} (h : Rt.Vc (some x) r.c) {e : Int} (he : Jb.tx (some x) e) (w : World) :
    price r = (decide (e = 0) && (decide (0 ≤ x.num.sign) && decide (Rt.cmp x ((1000000000 : Int) : Rat) ≤ 0))) ∧
    (price r && !Rr.b r rat0) = (decide (e = 0) && (decide (0 < x.num.sign) && decide (Rt.cmp x ((1000000000 : Int) : Rat) ≤ 0))) := by
 have hp := price_iff h w
 have hz := rat0_iff h w
 have hc : Rt.cmp x ((1000000000 : Int) : Rat) ≤ 0 ↔ x ≤ ((1000000000 : Int) : Rat) := by
  rcases Rt.cmp_cases x ((1000000000 : Int) : Rat) with ⟨h, h2⟩ | ⟨h, h2⟩ | ⟨h, h2⟩
  ·rw [h]; exact ⟨fun _ => Rat.le_of_lt h2, fun _ => by decide⟩
  ·rw [h, h2]; exact ⟨fun _ => Rat.le_refl, fun _ => by decide⟩
  ·rw [h]; exact ⟨fun h3 => absurd h3 Zd, fun h3 => absurd h2 (Rat.not_lt.2 h3)⟩
 by_cases h0 : 0 ≤ x.num
 ·have hy := he h0
  have hs : 0 ≤ x.num.sign := Int.sign_nonneg_iff.2 h0
  have hx0 : 0 ≤ x := Rat.num_nonneg.1 h0
  have e1 : price r = (decide (e = 0) && (decide (0 ≤ x.num.sign) && decide (Rt.cmp x ((1000000000 : Int) : Rat) ≤ 0))) := by
   rw [Bool.eq_iff_iff, hp, Zt hs, Bool.true_and, Bool.and_eq_true, decide_eq_true_eq, decide_eq_true_eq, hc]
   exact ⟨fun h => ⟨hy.2 h.1, h.2.2⟩, fun h => ⟨hy.1 h.1, hx0, h.2⟩⟩
  refine ⟨e1, ?_⟩
  rw [e1]
  by_cases hx : x = 0
  ·have hb : Rr.b r rat0 = true := hz.2 (by rw [hx])
   rw [hb, hx]; simp
  ·have hb : Rr.b r rat0 = false := by
     cases hb : Rr.b r rat0 with
     | false => rfl
     | true => exact absurd (Option.some.inj (hz.1 hb)) hx
   have hn : x.num ≠ 0 := fun h => hx (Rat.num_eq_zero.1 h)
   have hs1 : 0 < x.num.sign := Int.sign_pos_iff.2 Zo
   rw [hb, Zt hs, Zt hs1]; simp
 ·have hs : ¬ 0 ≤ x.num.sign := fun h => h0 (Int.sign_nonneg_iff.1 h)
  have hs1 : ¬ 0 < x.num.sign := fun h => hs (Int.le_of_lt h)
  have e1 : price r = false := by
   cases h9 : price r with
   | false => rfl
   | true => exact absurd (Rat.num_nonneg.2 (hp.1 h9).2.1) h0
  rw [e1, Zf hs, Zf hs1]; simp
theorem Jb.price_no {r : Rr} (h : Rt.Vc none r.c) (w : World) : price r = false := by
 cases h9 : price r with
 | false => rfl
 | true => exact ((price_iff h w).1 h9).elim
theorem Jb.fit_9 : Rt.Fit ((1000000000 : Int) : Rat) := fit_int Zd Zd
theorem qprice_any (r : Rr) (w : World) :
    Calls Tryz.prog 67 #[.agg r.c] w fun e w' => e = .returned (.bool (price r && !Rr.b r rat0)) ∧ Below w.heap.size w w' := by
 obtain ⟨o, ho⟩ := r.vc
 have HM := Mem.start w
 have k0 := r.la
 have HO := Zi ho
 have TX := fun w => text_o o r.c HO.out w
 obtain ⟨y, hy⟩ : ∃ y : Rat, Hid (y = ((1000000000 : Int) : Rat)) := ⟨_, Zi rfl⟩
 have fy : Rt.Fit y := by rw [hy.out]; exact fit_9
 have WH := fun w => whole_q 1000000000 y Zd Zd hy w
 cases o with
 | none =>
  have hv : (price r && !Rr.b r rat0) = false := by rw [price_no ho w]; rfl
  rw [hv]
  have SB : ∀ w, Calls Tryz.prog 110 #[.agg r.c] w fun r w' => r = .returned (.tuple #[.int .i64 0, .int .i64 20]) ∧ Below w.heap.size w w' := fun w => by
   obtain ⟨s, M, t, N, hM, hN, hb, e⟩ := HO.out
   rw [e]
   exact Sign_bad s M t N hM hN (Zi hb.symm) w
  have CB : ∀ w, Calls Tryz.prog 71 #[.agg r.c, .agg (Rt.qA y)] w fun r w' => r = .returned (.tuple #[.int .i64 0, .int .i64 20]) ∧ Below w.heap.size w w' := fun w => by
   obtain ⟨s, M, t, N, hM, hN, hb, e⟩ := HO.out
   rw [e, qA_rZ, rZ_ratA]
   exact Cmp_bad s M t N _ _ _ _ hM hN (Ac.nl fy) (Ac.dl fy) (by rw [hb]; rfl) w
  clear hv ho
  go_enter Tryz.func67, Tryz.ntmps67
  go_upto_region 3 with (first | (go_at_call 41; refine (TX _).mono ?_; rintro e9 w2 ⟨⟨s, e, rfl, HE⟩, hL⟩; replace HM := HM.call hL; clear hL) | (go_at_call 110; (with_reducible refine Zc HM (SB _) ?_; clear HM; intro w2 HM)) | (first | ((with_reducible refine g_ld ?_); refine a_ld HM ?_) | ((with_reducible refine g_bx ?_); refine a_bx HM ?_; clear HM; intro bk w1 HM)))
  have he : (e == 0) = false := Zb HE.out
  refine start_M [] HM Zk (fun w0x H9 => ?_)
  replace HM := H9; clear H9
  refine k_ld 0 [] (heldE HM) ?_
  refine j_one 1 fun K9 hK9 => ?_
  refine j_call1 (v := ?_) HM ?_ ?_; rotate_left 1; (focus (with_reducible (first | exact WH _ | exact CB _))); clear HM; intro w1 HM
  refine hK9 _ _ (heldE HM) ?_; clear hK9 K9
  refine j_one 2 fun K9 hK9 => ?_
  refine j_call2 (v := ?_) HM ?_ ?_; rotate_left 1; (focus (with_reducible (first | exact WH _ | exact CB _))); clear HM; intro w1 HM
  refine hK9 _ _ (heldE HM) ?_; clear hK9 K9
  refine k_mv 3 (heldE HM) ?_
  refine k_ext 4 (heldE HM) ?_
  refine k_ext 5 (heldE HM) ?_
  refine k_mv 6 (heldE HM) ?_
  refine k_mv 7 (heldE HM) ?_
  refine wpAnyL_done Zk ?_ _
  (go_wp2_with fail; go_ret; exact ⟨rfl, HM.low⟩)
 | some x =>
  obtain ⟨hx, hc⟩ := ho
  obtain ⟨g, hg⟩ := Zh (x.num.sign)
  obtain ⟨g2, hg2⟩ := Zh (Rt.cmp x y)
  have SQ : ∀ w, Calls Tryz.prog 110 #[.agg r.c] w fun r w' => r = .returned (.tuple #[.int .i64 g, .int .i64 0]) ∧ Below w.heap.size w w' := fun w => by rw [hc]; exact sign_q x g hx hg w
  have CQ : ∀ w, Calls Tryz.prog 71 #[.agg r.c, .agg (Rt.qA y)] w fun r w' => r = .returned (.tuple #[.int .i64 g2, .int .i64 0]) ∧ Below w.heap.size w w' := fun w => by rw [hc]; exact cmp_q x y g2 hx fy hg2 w
  have HPV : ∀ e, Hid (Jb.tx (some x) e) → Hid ((price r && !Rr.b r rat0) = (decide (e = 0) && (decide (0 < g) && decide (g2 ≤ 0)))) := fun e he => Zi (by
   have := (pay_v HO.out he.out w).2
   rw [hg.out, hg2.out, hy.out]; exact this)
  generalize (price r && !Rr.b r rat0) = v at HPV ⊢
  clear hc hg hg2 hy
  go_enter Tryz.func67, Tryz.ntmps67
  go_upto_region 3 with (first | (go_at_call 41; refine (TX _).mono ?_; rintro e9 w2 ⟨⟨s, e, rfl, HE⟩, hL⟩; replace HM := HM.call hL; clear hL) | (go_at_call 110; (with_reducible refine Zc HM (SQ _) ?_; clear HM; intro w2 HM)) | (first | ((with_reducible refine g_ld ?_); refine a_ld HM ?_) | ((with_reducible refine g_bx ?_); refine a_bx HM ?_; clear HM; intro bk w1 HM)))
  have hv := (HPV e HE).out
  clear HPV HE TX
  by_cases h1 : e = 0
  ·have he : (e == 0) = true := beq_iff_eq.2 h1
   by_cases h2 : 0 < g
   ·rw [Zt h1, Zt h2, Bool.true_and, Bool.true_and] at hv
    exact z9_81
   ·rw [Zt h1, Zf h2, Bool.true_and, Bool.false_and] at hv
    exact z9_81
  ·have he : (e == 0) = false := Zb h1
   rw [Zf h1, Bool.false_and] at hv
   exact z9_81
end
section
theorem z9_82 {P : Prop} (h : P := by
 clear h
 go_enter Tryz.func65, Tryz.ntmps65
 go_wp2_with (go_at_call 109; refine (C _).mono ?_; rintro e w' ⟨rfl, rfl⟩)
 go_ret
 exact ⟨rfl, rfl⟩) : P := h
theorem z9_83 {P : Prop} (h : P := by
 subst hv
 go_enter Tryz.func66, Tryz.ntmps66
 go_wp2_with (go_at_call 109; refine (C _).mono ?_; rintro e w' ⟨rfl, rfl⟩)
 go_ret
 exact ⟨rfl, rfl⟩) : P := h
end
section
open Jb
theorem qins_any (s : ByteArray) (hs : s.size ≤ 9223372036854775807) (w : World) :
    Calls Tryz.prog 65 #[.string s] w fun e w' => e = .returned (.bool (paper s)) ∧ w = w' := by
 obtain ⟨b, hb⟩ := Zh ((decide (1 ≤ s.size) && Jb.all (okc true) s))
 have C := fun w => qcap_any s hs b hb w
 have hv : Hid (paper s = (b && decide (s.size ≤ 12))) := Zi (by
  rw [hb.out]; unfold paper
  rw [Bool.and_assoc, Bool.and_comm (Jb.all _ _)])
 generalize paper s = v at hv ⊢
 clear hb
 cases b with
 | false =>
  obtain rfl : v = false := hv.out
  go_enter Tryz.func65, Tryz.ntmps65
  go_wp2_with (go_at_call 109; refine (C _).mono ?_; rintro e w' ⟨rfl, rfl⟩)
  go_ret
  exact ⟨rfl, rfl⟩
 | true =>
  by_cases h : s.size ≤ 12
  ·obtain rfl : v = true := by rw [hv.out, Zt h]; rfl
   have h2 : (s.size : Int) ≤ 12 := by omega
   exact z9_82
  ·obtain rfl : v = false := by rw [hv.out, Zf h]; rfl
   have h2 : decide ((s.size : Int) ≤ 12) = false := Zf Zo
   exact z9_82
theorem Jb.okc_cap {i c : Nat} (hi : i ≠ 0) (h : okc true i c = true) : cap c = decide ((65 : Int) ≤ (c : Int)) := by
 unfold okc cap dig at h
 unfold cap
 by_cases h1 : 65 ≤ c <;> by_cases h2 : c ≤ 90 <;> by_cases h3 : 48 ≤ c <;> by_cases h4 : c ≤ 57 <;> simp_all <;> omega
theorem Jb.okc_cap0 {c : Nat} (h : okc true 0 c = true) : cap c = true := by
 unfold okc at h
 simpa using h
theorem qcur_any (s : ByteArray) (hs : s.size ≤ 9223372036854775807) (w : World) :
    Calls Tryz.prog 66 #[.string s] w fun e w' => e = .returned (.bool (code s)) ∧ w = w' := by
 obtain ⟨b, hb⟩ := Zh ((decide (1 ≤ s.size) && Jb.all (okc true) s))
 have C := fun w => qcap_any s hs b hb w
 by_cases h3 : s.size = 3
 ·have hn : ((s.size : Int) == 3) = true := by rw [h3]; rfl
  have i1 : 1 < s.size := by omega
  have i2 : 2 < s.size := by omega
  cases hbb : b with
  | false =>
   have hv : code s = false := by
    cases hc : code s with
    | false => rfl
    | true =>
     unfold code at hc
     rw [Zt h3, Bool.true_and] at hc
     have ha : Jb.all (okc true) s = true := all_iff.2 fun i hi => by
      have := all_iff.1 hc i hi
      unfold okc at this ⊢
      simp at this
      simp [this]
     have := hb.out
     rw [hbb, ha, Zt Zo] at this
     cases this
   rw [hv]
   subst hbb
   clear hb h3 hv
   go_enter Tryz.func66, Tryz.ntmps66
   go_wp2_with (go_at_call 109; refine (C _).mono ?_; rintro e w' ⟨rfl, rfl⟩)
   go_ret
   exact ⟨rfl, rfl⟩
  | true =>
   have ha : Jb.all (okc true) s = true := by
    have := hb.out
    rw [hbb] at this
    exact (Bool.and_eq_true _ _ ▸ this.symm).2
   have e0 := okc_cap0 (by have := all_iff.1 ha 0 Zo; rwa [byt_at Zo] at this)
   have e1 := okc_cap (i := 1) Zd (by have := all_iff.1 ha 1 Zo; rwa [byt_at i1] at this)
   have e2 := okc_cap (i := 2) Zd (by have := all_iff.1 ha 2 Zo; rwa [byt_at i2] at this)
   have hv := code_3 s h3
   rw [byt_at (by omega : 0 < s.size), byt_at i1, byt_at i2, e0, e1, e2, Bool.true_and] at hv
   generalize code s = v at hv ⊢
   subst hbb
   clear hb h3 ha e0 e1 e2
   by_cases g1 : (65 : Int) ≤ (s[1].toNat : Nat)
   ·by_cases g2 : (65 : Int) ≤ (s[2].toNat : Nat)
    ·rw [Zt g1, Zt g2] at hv
     exact z9_83
    ·rw [Zt g1, Zf g2] at hv
     have g3 := Zf g2
     exact z9_83
   ·rw [Zf g1, Bool.false_and] at hv
    have g3 := Zf g1
    exact z9_83
 ·have hv : code s = false := by unfold code; rw [Zf h3]; rfl
  have hn : ((s.size : Int) == 3) = false := Zb Zo
  rw [hv]
  clear h3 hv hb
  cases b
  all_goals
   go_enter Tryz.func66, Tryz.ntmps66
   go_wp2_with (go_at_call 109; refine (C _).mono ?_; rintro e w' ⟨rfl, rfl⟩)
   go_ret
   exact ⟨rfl, rfl⟩
theorem qkn_any (n : Int) (v : Bool) (hv : Hid (v = (decide (1 ≤ n) && decide (n ≤ 2147483647)))) (w : World) :
    Calls Tryz.prog 32 #[.int .i64 n] w fun e w' => e = .returned (.bool v) ∧ w = w' := by
 go_enter Tryz.func32, Tryz.ntmps32
 by_cases h1 : 1 ≤ n <;> by_cases h2 : n ≤ 2147483647
 all_goals
  have HV : Hid (v = _) := hv
  have hv2 := HV.out
  simp only [h1, h2, decide_true, decide_false, Bool.and_true, Bool.and_false, Bool.false_and, Bool.true_and] at hv2
  subst hv2
  clear HV hv
  go_wp2
  go_ret
  exact ⟨rfl, rfl⟩
noncomputable def JQ.line (q : JQ) : Bool := Nm.usableB q.src && (paper q.ins && (code q.cur && ((decide (0 ≤ q.day) && decide (q.day ≤ 73048)) && (if q.vd then Rr.b q.prc Rr.zero else (price q.prc && !Rr.b q.prc rat0)))))
theorem JQ.right_w (q : JQ) : q.right = (q.line && Jb.known q.kn) := by
 unfold JQ.right JQ.line
 rw [isDay_w]
 generalize Nm.usableB q.src = a
 generalize paper q.ins = b
 generalize code q.cur = c
 generalize (decide (0 ≤ q.day) && decide (q.day ≤ 73048)) = d
 generalize Jb.known q.kn = e
 generalize (if q.vd = true then Rr.b q.prc Rr.zero else (price q.prc && !Rr.b q.prc rat0)) = f
 cases a <;> cases b <;> cases c <;> cases d <;> cases e <;> cases f <;> rfl
theorem qline_any (x : JQ) (hw : x.wf) (w : World) :
    Calls Tryz.prog 31 #[.agg x.c] w fun e w' => e = .returned (.bool x.line) ∧ Below w.heap.size w w' := by
 have HM := Mem.start w
 have flsrc := (JQ.f_src x).la
 have flins := (JQ.f_ins x).la
 have flcur := (JQ.f_cur x).la
 have flday := (JQ.f_day x).la
 have flprc := (JQ.f_prc x).la
 have flkn := (JQ.f_kn x).la
 have flvd := (JQ.f_vd x).la
 have ez : (Value.agg Tryz.zeroCells35) = .agg (Bg.rZ 0 0) := by kernel_rfl
 have E1 := Rr.eqT 9996 x.prc Rr.zero
 rw [Rr.zero_c, rZ_zero, ← ez] at E1
 clear ez
 have HV : Hid (x.line = (Nm.usableB x.src && (paper x.ins && (code x.cur && ((decide (0 ≤ x.day) && decide (x.day ≤ 73048)) && (if x.vd then Rr.b x.prc Rr.zero else (price x.prc && !Rr.b x.prc rat0))))))) := Zi (rfl)
 generalize x.line = v at HV ⊢
 have C1 := fun w => tname_any x.src (by have := hw; simp only [JQ.wf] at this; omega) w
 have C2 := fun w => belt (qins_any x.ins (by have := hw; simp only [JQ.wf] at this; omega) w)
 have C3 := fun w => belt (qcur_any x.cur (by have := hw; simp only [JQ.wf] at this; omega) w)
 have C5 := fun w => qprice_any x.prc w
 generalize Nm.usableB x.src = b1 at *
 generalize paper x.ins = b2 at *
 generalize code x.cur = b3 at *
 generalize Rr.b x.prc Rr.zero = b4 at *
 generalize (price x.prc && !Rr.b x.prc rat0) = b5 at *
 generalize x.vd = vd at HV flvd
 have hc : (b1 = true ∧ b2 = true ∧ b3 = true ∧ decide (x.day < 0) = false ∧ decide (73048 < x.day) = false ∧ vd = true ∧ b4 = v) ∨
     (b1 = true ∧ b2 = true ∧ b3 = true ∧ decide (x.day < 0) = false ∧ decide (73048 < x.day) = false ∧ vd = false ∧ b5 = v) ∨
     (b1 = true ∧ b2 = true ∧ b3 = true ∧ decide (x.day < 0) = false ∧ decide (73048 < x.day) = true ∧ false = v) ∨
     (b1 = true ∧ b2 = true ∧ b3 = true ∧ decide (x.day < 0) = true ∧ false = v) ∨
     (b1 = true ∧ b2 = true ∧ b3 = false ∧ false = v) ∨
     (b1 = true ∧ b2 = false ∧ false = v) ∨
     (b1 = false ∧ false = v) := by
  clear HM C1 C2 C3 C5
  cases b1 with
  | true =>
   cases b2 with
   | true =>
    cases b3 with
    | true =>
     by_cases h1 : 0 ≤ x.day
     ·skip
      by_cases h2 : x.day ≤ 73048
      ·skip
       cases vd with
       | true =>
        exact .inl (⟨rfl, rfl, rfl, Zn h1, Zn h2, rfl, by rw [HV.out]; simp [h1, h2]⟩)
       | false =>
        exact .inr (.inl (⟨rfl, rfl, rfl, Zn h1, Zn h2, rfl, by rw [HV.out]; simp [h1, h2]⟩))
      ·skip
       exact .inr (.inr (.inl (⟨rfl, rfl, rfl, Zn h1, Zt (Int.not_le.1 h2), by rw [HV.out]; simp [h1, h2]⟩)))
     ·skip
      exact .inr (.inr (.inr (.inl (⟨rfl, rfl, rfl, Zt (Int.not_le.1 h1), by rw [HV.out]; simp [h1]⟩))))
    | false =>
     exact Zr (.inl (⟨rfl, rfl, rfl, by rw [HV.out]; simp⟩))
   | false =>
    exact Zr (.inr (.inl (⟨rfl, rfl, by rw [HV.out]; simp⟩)))
  | false =>
   exact Zr (.inr (.inr (⟨rfl, by rw [HV.out]; simp⟩)))
 clear HV
 rcases hc with ⟨rfl, rfl, rfl, g3, g4, rfl, rfl⟩ | ⟨rfl, rfl, rfl, g3, g4, rfl, rfl⟩ | ⟨rfl, rfl, rfl, g3, g4, rfl⟩ | ⟨rfl, rfl, rfl, g3, rfl⟩ | ⟨rfl, rfl, rfl, rfl⟩ | ⟨rfl, rfl, rfl⟩ | ⟨rfl, rfl⟩
 all_goals
  go_enter Tryz.func31, Tryz.ntmps31
  go_wp2_with (first | ((with_reducible refine g_offw ?_); refine a_offw ?_) | (go_at_call 64; (with_reducible refine Zc HM (C1 _) ?_; clear HM; intro w2 HM)) | (go_at_call 65; (with_reducible refine Zc HM (C2 _) ?_; clear HM; intro w2 HM)) | (go_at_call 66; (with_reducible refine Zc HM (C3 _) ?_; clear HM; intro w2 HM)) | (go_at_call 67; (with_reducible refine Zc HM (C5 _) ?_; clear HM; intro w2 HM)) | ((with_reducible refine g_bin ?_); refine a_seqb (E1) Zk ?_) | (first | ((with_reducible refine g_ld ?_); refine a_ld HM ?_) | ((with_reducible refine g_bx ?_); refine a_bx HM ?_; clear HM; intro bk w1 HM) | ((with_reducible refine g_bld ?_); refine a_bld ?_)))
  go_ret
  exact ⟨rfl, HM.low⟩
end
section
open Jb
theorem Jb.str_l (a b : ByteArray) : (a.toList == b.toList) = (a == b) := by
 rw [Bool.eq_iff_iff, beq_iff_eq, jb_str, Lib.toList_data, Lib.toList_data]
 exact ⟨fun h => by cases a; cases b; simp_all [Array.toList_inj], fun h => by rw [h]⟩
end
end Go.Proofs.YtiekmabiecalbaaGreatDoor
