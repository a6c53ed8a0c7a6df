/- Walks, and plain facts for them. -/
import Derived.Test.YtmbjaaaeekacfaaGreatDoorPb45
namespace Go.Proofs.YtmbjaaaeekacfaaGreatDoor
set_option maxRecDepth 8000
open Go.RowKit
theorem Ac.div_fit {p q : Int} (h0 : q ≠ 0) (h1 : p.natAbs < 4611686018427387904) (h2 : q.natAbs < 4611686018427387904) : Rt.Fit (Rat.divInt p q) := by
 have e62 : Bg.p2 62 = 4611686018427387904 := by unfold Bg.p2; rfl
 exact (Rt.Bd.divInt (i := 62) (j := 62) h0 (by omega) (by omega)).fit
theorem Ag.with_ (a : Ag) (hn : a.nm.size ≤ 9223372036854775807) :
    (∀ s : ByteArray, s.size ≤ 9223372036854775807 → ∃ g : Ag, SA 9 a.c 0 (.string s) g.c ∧ g.nm.size ≤ 9223372036854775807) ∧
    (∀ (o : Option Rat) (c : Array Value), Rt.Vc o c → ∃ g : Ag, SA 27 a.c 1 (.agg c) g.c ∧ g.nm.size ≤ 9223372036854775807) ∧
    (∀ z : Int, ∃ g : Ag, SA 3 a.c 67 (.int .i64 z) g.c ∧ g.nm.size ≤ 9223372036854775807) ∧
    (∀ (o : Option Rat) (c : Array Value), Rt.Vc o c → ∃ g : Ag, SA 27 a.c 68 (.agg c) g.c ∧ g.nm.size ≤ 9223372036854775807) ∧
    (∀ z : Int, ∃ g : Ag, SA 3 a.c 134 (.int .i64 z) g.c ∧ g.nm.size ≤ 9223372036854775807) ∧
    (∀ z : Int, ∃ g : Ag, SA 3 a.c 135 (.int .i64 z) g.c ∧ g.nm.size ≤ 9223372036854775807) := by
 refine ⟨fun s hs => ⟨⟨s, a.rc, a.ro, a.bs, a.ec, a.eo, a.pd, a.un, a.hr, a.he⟩, Ag.snm s, hs⟩,
  fun o c h => ⟨⟨a.nm, c, o, a.bs, a.ec, a.eo, a.pd, a.un, h, a.he⟩, Ag.src a.hr.size h.size h.one, hn⟩,
  fun z => ⟨⟨a.nm, a.rc, a.ro, z, a.ec, a.eo, a.pd, a.un, a.hr, a.he⟩, Ag.sbs a.hr.size z, hn⟩,
  fun o c h => ⟨⟨a.nm, a.rc, a.ro, a.bs, c, o, a.pd, a.un, a.hr, h⟩, Ag.sec a.hr.size a.he.size h.size h.one, hn⟩,
  fun z => ⟨⟨a.nm, a.rc, a.ro, a.bs, a.ec, a.eo, z, a.un, a.hr, a.he⟩, Ag.spd a.hr.size a.he.size z, hn⟩,
  fun z => ⟨⟨a.nm, a.rc, a.ro, a.bs, a.ec, a.eo, a.pd, z, a.hr, a.he⟩, Ag.sun a.hr.size a.he.size z, hn⟩⟩
theorem Ag.facts (g : Ag) (hn : g.nm.size ≤ 9223372036854775807) : ∃ (F N C : Array Value) (nm : ByteArray) (bs : Int), C.size = 66 ∧ LA 9 g.c 0 (.string nm) ∧ LA 27 g.c 1 (.agg C) ∧ LA 3 g.c 67 (.int .i64 bs) ∧ LA 31 g.c 0 (.agg N) ∧ (∀ w, (Instr.build 29 #[(0, .string nm), (1, .agg C), (2, .int .i64 bs)]).run Tryz.prog w = .ok (.agg F) w) ∧ (∀ w, Calls Tryz.prog 3 #[.agg F, .agg N, .int .i64 9500, .int .i64 1000, .int .i64 1] w fun r w' => r = .returned (.bool true) ∧ Below w.heap.size w w') :=
 ⟨_, _, g.rc, g.nm, g.bs, g.hr.size, (Ag.fnm).la, (Ag.frc g.hr.size).la, (Ag.fbs g.hr.size).la, Ag.la_c g, fun w => Fe.b3 g.nm g.bs g.hr.size w, fun w => aexact_any g.nm hn g.ro g.rc g.hr g.bs g hn 9500 1000 1 w⟩
set_option maxRecDepth 100000 in
set_option maxHeartbeats 16000000 in
theorem aspoilt_any (A : Option Addr) (xs : List Int) (c0 : Nat) (n0 : Int) (s : Bool) (M : Nat) (t : Bool) (N : Nat) (W : World) (hI : IntsAt W A xs) (hxl : xs.length ≤ 9223372036854775807) (_ : -9223372036854775808 ≤ n0) (_ : n0 < 9223372036854775808) (hM : M < Bg.lim) (hN : N < Bg.lim) :
    Calls Tryz.prog 5 #[.slice A xs.length c0, .int .i64 n0, .agg (Bg.ratA s M t N)] W fun e w' => e = .returned (.bool true) ∧ Below W.heap.size W w' := by
 have HM := Mem.start W
 have HI := Lib.hid hI
 have zz := Ag.za_z
 have elr : elemB 80 27 66 264 = true := by kernel_rfl
 have KN := fun w => aknown_any w
 obtain ⟨ro, hvc⟩ := Rt.vc_any (s := s) (t := t) hM hN
 generalize Bg.ratA s M t N = rc at *
 have lr := la_c hvc.size
 have HVC := Lib.hid hvc
 clear hI
 go_enter Tryz.func5, Tryz.ntmps5
 go_upto_region 2 with (first | ((with_reducible refine g_ld ?_); refine a_ld HM ?_) | ((with_reducible refine g_st ?_); refine a_st HM ?_; clear HM; intro w1 HM) | ((with_reducible refine g_al ?_); refine a_al HM ?_; clear HM; intro bk w1 HM) | ((with_reducible refine g_bx ?_); refine a_bx HM ?_; clear HM; intro bk w1 HM) | ((with_reducible refine g_bld ?_); refine a_bld ?_))
 obtain ⟨tb, rfl⟩ := HM.nm0
 obtain ⟨b5, rfl⟩ := HM.nm1
 have HC : Hid (TapeC W 0 #[.slice A xs.length c0, .int .i64 0]) := ⟨A, xs, c0, 0, rfl, by omega, by omega, HI.out, hxl⟩
 have H0 : Hid (Below W.heap.size W W) := Below.refl _ _
 have hle : ∀ b ∈ ([] : List Nat), W.heap.size ≤ b := by simp
 go_wp2_with fail
 go_at_call 21
 refine (agg_any W tb _ _ _ _ (HM.tp (by ((repeat (first | exact Look.here | refine Look.there ?_)); done)) HC.out H0.out hle) (by omega) Ac.audit (isDay_yes (by omega) (by omega))).mono ?_
 rintro e9 w2 ⟨a, r, x, rfl, hk, -, han, -, -, -, -, -, ⟨c1, hb1', hc1, -, -⟩, hg9⟩
 replace HM := HM.put (c' := c1) (by (repeat (first | exact At.here | apply At.there))) hb1' (Only.of_grown hg9)
 clear hg9 hb1'
 replace HC := Lib.hid hc1
 clear hc1
 have hasz : a.nm.size ≤ 9223372036854775807 := by rw [han]; decide
 have s0 := Ag.sa_c a Ag.z_size
 have p0 := hk.p0
 have p1 : a.pd ≤ 1000000000000000 := by have := hk.p1; have := Ac.rhe_lim hk.x1; omega
 have fp : LA 3 a.c 134 (.int .i64 a.pd) := (Ag.fpd a.hr.size a.he.size).la
 have HW := Lib.hid (Ag.with_ a hasz)
 clear hk han hasz
 generalize a.pd = pd at *
 generalize Ag.c a = A9 at *
 go_wp2_with (first | ((with_reducible refine g_ld ?_); refine a_ld HM ?_) | ((with_reducible refine g_st ?_); refine a_st HM ?_; clear HM; intro w1 HM) | ((with_reducible refine g_al ?_); refine a_al HM ?_; clear HM; intro bk w1 HM) | ((with_reducible refine g_bx ?_); refine a_bx HM ?_; clear HM; intro bk w1 HM) | ((with_reducible refine g_bld ?_); refine a_bld ?_))
 (refine (pick_new (tb := tb) (W := W) HM (by ((repeat (first | exact Look.here | refine Look.there ?_)); done)) HC.out H0.out (by first | exact hle | simpa using hle) [n0, -1, 0, 5, 1000000000000001, 73049] _ (by omega) (by simp) (by simp)).mono ?_; rintro e9 w2 ⟨v1, c1, rfl, hv, hc1, hb1, hg⟩; replace HM := HM.put (c' := c1) (by (repeat (first | exact At.here | apply At.there))) hb1 hg; clear hg hb1; replace HC := Lib.hid hc1; clear hc1)
 clear hv
 obtain ⟨kk, rfl⟩ : ∃ kk, kk = v1 := ⟨v1, rfl⟩
 go_upto_region 4 with fail
 obtain ⟨b8, rfl⟩ := HM.nm0
 have OF := fun (n d : Int) (x : Rat) h1 h2 h3 h4 h5 h6 w => mkof_q n d x h1 h2 h3 h4 h5 h6 w
 have g1 : Rt.Fit (Rat.divInt (-1) 100) := Ac.div_fit (by decide) (by decide) (by decide)
 have g2 : Rt.Fit (Rat.divInt 1 3) := Ac.div_fit (by decide) (by decide) (by decide)
 have g3 : Rt.Fit (Rat.divInt 2 1) := Ac.div_fit (by decide) (by decide) (by decide)
 have g4 : Rt.Fit (Rat.divInt 1000000000000000 1) := Ac.div_fit (by decide) (by decide) (by decide)
 have g5 : Rt.Fit (Rat.divInt 2000000000000001 2) := Ac.div_fit (by decide) (by decide) (by decide)
 have PZ : ∀ (y : Rat) (c : Array Value), Rt.Fit y → c ∈ [rc, Rt.qA (Rat.divInt (-1) 100), Rt.qA (Rat.divInt 1 3), Rt.qA (Rat.divInt 2 1), Rt.qA (Rat.divInt 1000000000000000 1), Rt.qA (Rat.divInt 2000000000000001 2), Rt.qA y] → ∃ o, Rt.Vc o c   := fun y c hy h => by
  simp only [List.mem_cons, List.not_mem_nil, or_false] at h
  rcases h with rfl | rfl | rfl | rfl | rfl | rfl | rfl
  ·exact ⟨_, HVC.out⟩
  ·exact ⟨some _, g1, rfl⟩
  ·exact ⟨some _, g2, rfl⟩
  ·exact ⟨some _, g3, rfl⟩
  ·exact ⟨some _, g4, rfl⟩
  ·exact ⟨some _, g5, rfl⟩
  ·exact ⟨some _, hy, rfl⟩
 have HPZ := Lib.hid PZ
 have hrs := hvc.size
 clear PZ hvc g1 g2 g3 g4 g5
 replace HM := HM.pick (K := [(b8, A9), (b5, rc), (tb, c1)]) (by (repeat (first | exact Pk.nil | exact Pk.refl _ | exact Pk.pre _ _ | exact Pk.post _ _ | (apply Pk.cons; focus (repeat (first | exact Rm.here | apply Rm.there))) | apply Pk.skip)))
 go_cut [] (fun wc => ∃ (o : Option Rat) (q : Array Value) (c : Array Value), Hid (Rt.Vc o q) ∧ Hid (TapeC W 5000 c) ∧ Mem W [] [(b8, A9), (b5, q), (tb, c)] wc)
 case first =>
  refine start_M2 [11] HM ((Sub.keep (Sub.keep Sub.nil))) (by kernel_rfl) (fun w0x H9 => ?_)
  replace HM := H9; clear H9
  refine k_mv 0 (heldE HM) ?_
  refine k_ld 1 [9, 10, 11] (heldE HM) ?_
  refine k_mv 7 (heldE HM) ?_
  refine j_one 2 fun K9 hK9 => ?_
  refine j_call2 (v := ?_) HM ?_ ?_; rotate_left 1; (focus (with_reducible (first | exact mkof_q (-1) 100 _ (by decide) (by decide) (by decide) (by decide) (by decide) (Lib.hid rfl) _ | exact mkof_q 1 3 _ (by decide) (by decide) (by decide) (by decide) (by decide) (Lib.hid rfl) _ | exact mkof_q 2 1 _ (by decide) (by decide) (by decide) (by decide) (by decide) (Lib.hid rfl) _ | exact mkof_q 1000000000000000 1 _ (by decide) (by decide) (by decide) (by decide) (by decide) (Lib.hid rfl) _ | exact mkof_q 2000000000000001 2 _ (by decide) (by decide) (by decide) (by decide) (by decide) (Lib.hid rfl) _))); clear HM; intro w1 HM
  refine hK9 _ _ (heldE HM) ?_; clear hK9 K9
  refine j_one 3 fun K9 hK9 => ?_
  refine j_call2 (v := ?_) HM ?_ ?_; rotate_left 1; (focus (with_reducible (first | exact mkof_q (-1) 100 _ (by decide) (by decide) (by decide) (by decide) (by decide) (Lib.hid rfl) _ | exact mkof_q 1 3 _ (by decide) (by decide) (by decide) (by decide) (by decide) (Lib.hid rfl) _ | exact mkof_q 2 1 _ (by decide) (by decide) (by decide) (by decide) (by decide) (Lib.hid rfl) _ | exact mkof_q 1000000000000000 1 _ (by decide) (by decide) (by decide) (by decide) (by decide) (Lib.hid rfl) _ | exact mkof_q 2000000000000001 2 _ (by decide) (by decide) (by decide) (by decide) (by decide) (Lib.hid rfl) _))); clear HM; intro w1 HM
  refine hK9 _ _ (heldE HM) ?_; clear hK9 K9
  refine j_one 4 fun K9 hK9 => ?_
  refine j_call2 (v := ?_) HM ?_ ?_; rotate_left 1; (focus (with_reducible (first | exact mkof_q (-1) 100 _ (by decide) (by decide) (by decide) (by decide) (by decide) (Lib.hid rfl) _ | exact mkof_q 1 3 _ (by decide) (by decide) (by decide) (by decide) (by decide) (Lib.hid rfl) _ | exact mkof_q 2 1 _ (by decide) (by decide) (by decide) (by decide) (by decide) (Lib.hid rfl) _ | exact mkof_q 1000000000000000 1 _ (by decide) (by decide) (by decide) (by decide) (by decide) (Lib.hid rfl) _ | exact mkof_q 2000000000000001 2 _ (by decide) (by decide) (by decide) (by decide) (by decide) (Lib.hid rfl) _))); clear HM; intro w1 HM
  refine hK9 _ _ (heldE HM) ?_; clear hK9 K9
  refine j_one 5 fun K9 hK9 => ?_
  refine j_call2 (v := ?_) HM ?_ ?_; rotate_left 1; (focus (with_reducible (first | exact mkof_q (-1) 100 _ (by decide) (by decide) (by decide) (by decide) (by decide) (Lib.hid rfl) _ | exact mkof_q 1 3 _ (by decide) (by decide) (by decide) (by decide) (by decide) (Lib.hid rfl) _ | exact mkof_q 2 1 _ (by decide) (by decide) (by decide) (by decide) (by decide) (Lib.hid rfl) _ | exact mkof_q 1000000000000000 1 _ (by decide) (by decide) (by decide) (by decide) (by decide) (Lib.hid rfl) _ | exact mkof_q 2000000000000001 2 _ (by decide) (by decide) (by decide) (by decide) (by decide) (Lib.hid rfl) _))); clear HM; intro w1 HM
  refine hK9 _ _ (heldE HM) ?_; clear hK9 K9
  refine j_one 6 fun K9 hK9 => ?_
  refine j_call2 (v := ?_) HM ?_ ?_; rotate_left 1; (focus (with_reducible (first | exact mkof_q (-1) 100 _ (by decide) (by decide) (by decide) (by decide) (by decide) (Lib.hid rfl) _ | exact mkof_q 1 3 _ (by decide) (by decide) (by decide) (by decide) (by decide) (Lib.hid rfl) _ | exact mkof_q 2 1 _ (by decide) (by decide) (by decide) (by decide) (by decide) (Lib.hid rfl) _ | exact mkof_q 1000000000000000 1 _ (by decide) (by decide) (by decide) (by decide) (by decide) (Lib.hid rfl) _ | exact mkof_q 2000000000000001 2 _ (by decide) (by decide) (by decide) (by decide) (by decide) (Lib.hid rfl) _))); clear HM; intro w1 HM
  refine hK9 _ _ (heldE HM) ?_; clear hK9 K9
  refine j_one 8 fun K9 hK9 => ?_
  refine o_callg (long_any W tb _ _ (HM.tp (by ((repeat (first | exact Look.here | refine Look.there ?_)); done)) HC.out H0.out hle) (by omega)) rfl ?_ ?_; (focus (refine h_call1 (ts := ?_) (x1 := ?_) ?_ (by kernel_rfl) ?_; rotate_left 2; (focus rfl); rfl)); rintro e9 w1 ⟨y, rfl, hy1, hy2, ⟨c1, hb1, hc1, -, -⟩, hg9⟩; replace HM := HM.put (c' := c1) (by (repeat (first | exact At.here | apply At.there))) hb1 (Only.of_grown hg9); clear hg9 hb1; replace HC := Lib.hid hc1; clear hc1; refine ⟨_, rfl, ?_⟩
  refine hK9 _ _ (heldE HM) ?_; clear hK9 K9; ((try simp only [List.setIfInBounds_toArray]); (try simp only [List.set_cons_succ]); (try simp only [List.set_cons_zero]))
  refine j_one 9 fun K9 hK9 => ?_
  refine acj_br7 HM ?_; clear HM; intro bl w1 HM
  refine hK9 _ _ (heldE HM) ?_; clear hK9 K9; ((try simp only [List.setIfInBounds_toArray]); (try simp only [List.set_cons_succ]); (try simp only [List.set_cons_zero]))
  refine j_one 10 fun K9 hK9 => ?_
  have hne := Ac.ne HM (b' := tb) (c' := c1) (by ((repeat (first | exact Look.here | refine Look.there ?_)); done)); refine o_callg (pickr_any W tb _ bl _ 7 _ (HM.tp (by ((repeat (first | exact Look.here | refine Look.there ?_)); done)) HC.out H0.out hle) (by omega) (HM.get (by ((repeat (first | exact Look.here | refine Look.there ?_)); done))) hne rfl (by decide) (by decide) (fun c hc => (HPZ.out _ _ ⟨hy1, hy2⟩ hc).elim fun o h => h.size) (fun c hc => (HPZ.out _ _ ⟨hy1, hy2⟩ hc).elim fun o h => h.one)) rfl ?_ ?_; (focus (refine h_call2 (ts := ?_) (x1 := ?_) (x2 := ?_) ?_ (by kernel_rfl) ?_ ?_; rotate_left 3; (focus rfl); (focus rfl); rfl)); rintro e9 w1 ⟨q, rfl, hq, ⟨c1, hb1, hc1, -, -⟩, hg9⟩; replace HM := HM.put (c' := c1) (by (repeat (first | exact At.here | apply At.there))) hb1 (Only.of_grown hg9); clear hg9 hb1; replace HC := Lib.hid hc1; clear hc1; obtain ⟨o, hvq⟩ := HPZ.out _ _ ⟨hy1, hy2⟩ hq; have sq := sa_c hvq.size hvq.one hrs; refine ⟨_, rfl, ?_⟩
  refine hK9 _ _ (heldE HM) ?_; clear hK9 K9; ((try simp only [List.setIfInBounds_toArray]); (try simp only [List.set_cons_succ]); (try simp only [List.set_cons_zero]))
  refine j_one 11 fun K9 hK9 => ?_
  refine j_st HM ?_; clear HM; intro w1 HM
  refine hK9 _ _ heldN ?_; clear hK9 K9
  refine wpAnyL_done (by kernel_rfl) ?_ _
  (go_wp2_with fail; go_meet; (case rel => exact ⟨o, q, _, Lib.hid hvq, Lib.hid (HC.out.mono (by omega)), HM.pick⟩))
 case rest =>
  clear HM HC HPZ HVC hrs lr OF
  obtain ⟨o, q, c, HVQ, HC, HM⟩ := hcut
  have lq := la_c HVQ.out.size
  go_step
  go_wp2_with fail
  (refine (next_any W tb _ _ _ (HM.tp (by ((repeat (first | exact Look.here | refine Look.there ?_)); done)) HC.out H0.out hle) (by omega) (by omega) (by omega)).mono ?_; rintro e9 w2 ⟨k, rfl, k0, k1, ⟨c1, hb1, hc1, -, -⟩, hg⟩; replace HM := HM.put (c' := c1) (by (repeat (first | exact At.here | apply At.there))) hb1 (Only.of_grown hg); clear hg hb1; replace HC := Lib.hid hc1; clear hc1)
  have hc6 : k = 0 ∨ k = 1 ∨ k = 2 ∨ k = 3 ∨ k = 4 ∨ k = 5 := by omega
  clear k0 k1
  rcases hc6 with rfl | rfl | rfl | rfl | rfl | rfl
  ·go_wp2_with (first | ((with_reducible refine g_ld ?_); refine a_ld HM ?_) | ((with_reducible refine g_st ?_); refine a_st HM ?_; clear HM; intro w1 HM) | ((with_reducible refine g_al ?_); refine a_al HM ?_; clear HM; intro bk w1 HM) | ((with_reducible refine g_bx ?_); refine a_bx HM ?_; clear HM; intro bk w1 HM) | ((with_reducible refine g_bld ?_); refine a_bld ?_))
   (refine (one_new (tb := tb) (W := W) HM (by ((repeat (first | exact Look.here | refine Look.there ?_)); done)) HC.out H0.out (by first | exact hle | simpa using hle) [{ data := #[] }, { data := #[65, 117, 100, 105, 116] }, { data := #[97, 32, 98] }] _ (by omega) (by simp) (by simp)).mono ?_; rintro e9 w2 ⟨s2, c1, rfl, hs2, hc1, hb1, hg⟩; replace HM := HM.put (c' := c1) (by (repeat (first | exact At.here | apply At.there))) hb1 hg; clear hg hb1; replace HC := Lib.hid hc1; clear hc1)
   have hs9 : s2.size ≤ 9223372036854775807 := by
    simp only [List.mem_cons, List.not_mem_nil, or_false] at hs2
    rcases hs2 with rfl | rfl | rfl <;> decide
   obtain ⟨g, sg, hgn⟩ := HW.out.1 s2 hs9
   obtain ⟨F9, N9, C9, nm9, bs9, hz9, l0, l1, l2, l3, HB, AX⟩ := Ag.facts g hgn
   clear hs2 hs9 HW
   generalize Ag.c g = G9 at *
   go_wp2_with (first | ((with_reducible refine g_bld ?_); refine a_rbl (v := .agg F9) ?_ (hy := h_bl3 rfl (by (conv => lhs; whnf) <;> rfl) (by (conv => lhs; whnf) <;> rfl) (by (conv => lhs; whnf) <;> rfl) (HB))) | (go_at_call 3; ((with_reducible refine (AX _).mono ?_); rintro e9 w2 ⟨rfl, hL⟩; replace HM := HM.call hL; clear hL)) | (go_at_call 17; ((with_reducible refine (KN _).mono ?_); rintro e9 w2 ⟨rfl, hL⟩; replace HM := HM.call hL; clear hL)) | (first | ((with_reducible refine g_ld ?_); refine a_ld HM ?_) | ((with_reducible refine g_st ?_); refine a_st HM ?_; clear HM; intro w1 HM) | ((with_reducible refine g_al ?_); refine a_al HM ?_; clear HM; intro bk w1 HM) | ((with_reducible refine g_bx ?_); refine a_bx HM ?_; clear HM; intro bk w1 HM) | ((with_reducible refine g_bld ?_); refine a_bld ?_)))
   go_ret
   exact ⟨rfl, HM.low⟩
  ·obtain ⟨g, sg, hgn⟩ := HW.out.2.1 o q HVQ.out
   obtain ⟨F9, N9, C9, nm9, bs9, hz9, l0, l1, l2, l3, HB, AX⟩ := Ag.facts g hgn
   clear HW
   generalize Ag.c g = G9 at *
   go_wp2_with (first | ((with_reducible refine g_bld ?_); refine a_rbl (v := .agg F9) ?_ (hy := h_bl3 rfl (by (conv => lhs; whnf) <;> rfl) (by (conv => lhs; whnf) <;> rfl) (by (conv => lhs; whnf) <;> rfl) (HB))) | (go_at_call 3; ((with_reducible refine (AX _).mono ?_); rintro e9 w2 ⟨rfl, hL⟩; replace HM := HM.call hL; clear hL)) | (go_at_call 17; ((with_reducible refine (KN _).mono ?_); rintro e9 w2 ⟨rfl, hL⟩; replace HM := HM.call hL; clear hL)) | (first | ((with_reducible refine g_ld ?_); refine a_ld HM ?_) | ((with_reducible refine g_st ?_); refine a_st HM ?_; clear HM; intro w1 HM) | ((with_reducible refine g_al ?_); refine a_al HM ?_; clear HM; intro bk w1 HM) | ((with_reducible refine g_bx ?_); refine a_bx HM ?_; clear HM; intro bk w1 HM) | ((with_reducible refine g_bld ?_); refine a_bld ?_)))
   go_ret
   exact ⟨rfl, HM.low⟩
  ·obtain ⟨g, sg, hgn⟩ := HW.out.2.2.1 kk
   obtain ⟨F9, N9, C9, nm9, bs9, hz9, l0, l1, l2, l3, HB, AX⟩ := Ag.facts g hgn
   clear HW
   generalize Ag.c g = G9 at *
   go_wp2_with (first | ((with_reducible refine g_bld ?_); refine a_rbl (v := .agg F9) ?_ (hy := h_bl3 rfl (by (conv => lhs; whnf) <;> rfl) (by (conv => lhs; whnf) <;> rfl) (by (conv => lhs; whnf) <;> rfl) (HB))) | (go_at_call 3; ((with_reducible refine (AX _).mono ?_); rintro e9 w2 ⟨rfl, hL⟩; replace HM := HM.call hL; clear hL)) | (go_at_call 17; ((with_reducible refine (KN _).mono ?_); rintro e9 w2 ⟨rfl, hL⟩; replace HM := HM.call hL; clear hL)) | (first | ((with_reducible refine g_ld ?_); refine a_ld HM ?_) | ((with_reducible refine g_st ?_); refine a_st HM ?_; clear HM; intro w1 HM) | ((with_reducible refine g_al ?_); refine a_al HM ?_; clear HM; intro bk w1 HM) | ((with_reducible refine g_bx ?_); refine a_bx HM ?_; clear HM; intro bk w1 HM) | ((with_reducible refine g_bld ?_); refine a_bld ?_)))
   go_ret
   exact ⟨rfl, HM.low⟩
  ·obtain ⟨g, sg, hgn⟩ := HW.out.2.2.2.1 o q HVQ.out
   obtain ⟨F9, N9, C9, nm9, bs9, hz9, l0, l1, l2, l3, HB, AX⟩ := Ag.facts g hgn
   clear HW
   generalize Ag.c g = G9 at *
   go_wp2_with (first | ((with_reducible refine g_bld ?_); refine a_rbl (v := .agg F9) ?_ (hy := h_bl3 rfl (by (conv => lhs; whnf) <;> rfl) (by (conv => lhs; whnf) <;> rfl) (by (conv => lhs; whnf) <;> rfl) (HB))) | (go_at_call 3; ((with_reducible refine (AX _).mono ?_); rintro e9 w2 ⟨rfl, hL⟩; replace HM := HM.call hL; clear hL)) | (go_at_call 17; ((with_reducible refine (KN _).mono ?_); rintro e9 w2 ⟨rfl, hL⟩; replace HM := HM.call hL; clear hL)) | (first | ((with_reducible refine g_ld ?_); refine a_ld HM ?_) | ((with_reducible refine g_st ?_); refine a_st HM ?_; clear HM; intro w1 HM) | ((with_reducible refine g_al ?_); refine a_al HM ?_; clear HM; intro bk w1 HM) | ((with_reducible refine g_bx ?_); refine a_bx HM ?_; clear HM; intro bk w1 HM) | ((with_reducible refine g_bld ?_); refine a_bld ?_)))
   go_ret
   exact ⟨rfl, HM.low⟩
  ·go_wp2_with (first | ((with_reducible refine g_ld ?_); refine a_ld HM ?_) | ((with_reducible refine g_st ?_); refine a_st HM ?_; clear HM; intro w1 HM) | ((with_reducible refine g_al ?_); refine a_al HM ?_; clear HM; intro bk w1 HM) | ((with_reducible refine g_bx ?_); refine a_bx HM ?_; clear HM; intro bk w1 HM) | ((with_reducible refine g_bld ?_); refine a_bld ?_))
   (refine (pick_new (tb := tb) (W := W) HM (by ((repeat (first | exact Look.here | refine Look.there ?_)); done)) HC.out H0.out (by first | exact hle | simpa using hle) [kk, pd + 1] _ (by omega) (by simp) (by simp)).mono ?_; rintro e9 w2 ⟨v1, c1, rfl, hv, hc1, hb1, hg⟩; replace HM := HM.put (c' := c1) (by (repeat (first | exact At.here | apply At.there))) hb1 hg; clear hg hb1; replace HC := Lib.hid hc1; clear hc1)
   clear hv
   obtain ⟨g, sg, hgn⟩ := HW.out.2.2.2.2.1 v1
   obtain ⟨F9, N9, C9, nm9, bs9, hz9, l0, l1, l2, l3, HB, AX⟩ := Ag.facts g hgn
   clear HW
   generalize Ag.c g = G9 at *
   go_wp2_with (first | ((with_reducible refine g_bld ?_); refine a_rbl (v := .agg F9) ?_ (hy := h_bl3 rfl (by (conv => lhs; whnf) <;> rfl) (by (conv => lhs; whnf) <;> rfl) (by (conv => lhs; whnf) <;> rfl) (HB))) | (go_at_call 3; ((with_reducible refine (AX _).mono ?_); rintro e9 w2 ⟨rfl, hL⟩; replace HM := HM.call hL; clear hL)) | (go_at_call 17; ((with_reducible refine (KN _).mono ?_); rintro e9 w2 ⟨rfl, hL⟩; replace HM := HM.call hL; clear hL)) | (first | ((with_reducible refine g_ld ?_); refine a_ld HM ?_) | ((with_reducible refine g_st ?_); refine a_st HM ?_; clear HM; intro w1 HM) | ((with_reducible refine g_al ?_); refine a_al HM ?_; clear HM; intro bk w1 HM) | ((with_reducible refine g_bx ?_); refine a_bx HM ?_; clear HM; intro bk w1 HM) | ((with_reducible refine g_bld ?_); refine a_bld ?_)))
   go_ret
   exact ⟨rfl, HM.low⟩
  ·obtain ⟨g, sg, hgn⟩ := HW.out.2.2.2.2.2 kk
   obtain ⟨F9, N9, C9, nm9, bs9, hz9, l0, l1, l2, l3, HB, AX⟩ := Ag.facts g hgn
   clear HW
   generalize Ag.c g = G9 at *
   go_wp2_with (first | ((with_reducible refine g_bld ?_); refine a_rbl (v := .agg F9) ?_ (hy := h_bl3 rfl (by (conv => lhs; whnf) <;> rfl) (by (conv => lhs; whnf) <;> rfl) (by (conv => lhs; whnf) <;> rfl) (HB))) | (go_at_call 3; ((with_reducible refine (AX _).mono ?_); rintro e9 w2 ⟨rfl, hL⟩; replace HM := HM.call hL; clear hL)) | (go_at_call 17; ((with_reducible refine (KN _).mono ?_); rintro e9 w2 ⟨rfl, hL⟩; replace HM := HM.call hL; clear hL)) | (first | ((with_reducible refine g_ld ?_); refine a_ld HM ?_) | ((with_reducible refine g_st ?_); refine a_st HM ?_; clear HM; intro w1 HM) | ((with_reducible refine g_al ?_); refine a_al HM ?_; clear HM; intro bk w1 HM) | ((with_reducible refine g_bx ?_); refine a_bx HM ?_; clear HM; intro bk w1 HM) | ((with_reducible refine g_bld ?_); refine a_bld ?_)))
   go_ret
   exact ⟨rfl, HM.low⟩
end Go.Proofs.YtmbjaaaeekacfaaGreatDoor
