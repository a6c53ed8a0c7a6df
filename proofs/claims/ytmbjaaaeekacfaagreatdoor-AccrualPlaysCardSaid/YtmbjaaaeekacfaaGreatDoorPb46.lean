/- Walks, and plain facts for them. -/
import Derived.Test.YtmbjaaaeekacfaaGreatDoorPb45
namespace Go.Proofs.YtmbjaaaeekacfaaGreatDoor
set_option maxRecDepth 8000
open Go.RowKit
theorem Ac.vd_un {a : Ag} (h : Ac.vd a = true) : 0 ≤ a.un ∧ a.un ≤ 73048 := by
 obtain ⟨r, x, hk⟩ := Ac.ok_of h
 have := hk.un
 unfold Dt.isDay at this
 simpa using this
theorem Ac.ac_out (a : Ag) (base d9 : Int) : ∃ (b : Ag) (E : Int), (b.c, E) = Ac.ac a base d9 ∧ (E = 0 → Ac.vd b = true ∧ b.nm = a.nm) := by
 obtain ⟨R, E, h⟩ : ∃ R E, (R, E) = Ac.ac a base d9 := ⟨_, _, rfl⟩
 by_cases hE : E = 0
 ·subst hE
  obtain ⟨b, r, x, rfl, hk, h1, _⟩ := Ac.ac_keeps h
  exact ⟨b, 0, h, fun _ => ⟨Ac.ok_iff hk, h1⟩⟩
 ·obtain ⟨b, rfl⟩ := Ac.ac_ag h
  exact ⟨b, E, h, fun h => absurd h hE⟩
theorem Ac.py_out (a : Ag) (m : Int) : ∃ (b : Ag) (E : Int), (b.c, E) = Ac.py a m ∧ (E = 0 → Ac.vd b = true ∧ b.nm = a.nm) := by
 obtain ⟨R, E, h⟩ : ∃ R E, (R, E) = Ac.py a m := ⟨_, _, rfl⟩
 by_cases hE : E = 0
 ·subst hE
  obtain ⟨b, r, x, rfl, hk, h1, _⟩ := Ac.py_keeps h
  exact ⟨b, 0, h, fun _ => ⟨Ac.ok_iff hk, h1⟩⟩
 ·obtain ⟨b, rfl⟩ := Ac.py_ag h
  exact ⟨b, E, h, fun h => absurd h hE⟩
theorem Ac.bk_out {a : Ag} (h : Ac.vd a = true) : ∃ n : Int, (n, (0 : Int)) = Ac.bk a ∧ 0 ≤ n ∧ n ≤ 1000000000000000 := by
 obtain ⟨r, x, hk⟩ := Ac.ok_of h
 have h1 := hk.p0
 have h2 := hk.p1
 have h3 := Ac.rhe_lim hk.x1
 exact ⟨_, (Ac.bk_ok hk).symm, by omega, by omega⟩
theorem Ac.p366 {p : Int} (h : p ∈ [0, 1, 1, 3, 31, 366, -1]) : -1 ≤ p ∧ p ≤ 366 := by
 simp only [List.mem_cons, List.not_mem_nil, or_false] at h
 omega
set_option maxRecDepth 100000 in
set_option maxHeartbeats 8000000 in
theorem aplays_any (A : Option Addr) (xs : List Int) (c0 : Nat) (W : World) (hI : IntsAt W A xs) (hxl : xs.length ≤ 9223372036854775807) :
    Calls Tryz.prog 4 #[.slice A xs.length c0] W fun e w' => e = .returned (.bool true) ∧ Below W.heap.size W w' := by
 have HM := Mem.start W
 have HI := Lib.hid hI
 have zz := Ag.za_z
 have zf := Fe.za
 have eli : elemB 42 3 1 8 = true := by kernel_rfl
 have KN := fun w => aknown_any w
 have hns : ({ data := #[97, 117, 100, 105, 116] } : ByteArray).size ≤ 9223372036854775807 := by decide
 clear hI
 go_enter Tryz.func4, Tryz.ntmps4
 go_upto_region 2 with (first | ((with_reducible refine g_ld ?_); refine a_ld HM ?_) | ((with_reducible refine g_st ?_); refine a_st HM ?_; clear HM; intro w1 HM) | ((with_reducible refine g_al ?_); refine a_al HM ?_; clear HM; intro bk w1 HM) | ((with_reducible refine g_bx ?_); refine a_bx HM ?_; clear HM; intro bk w1 HM) | ((with_reducible refine g_bld ?_); refine a_bld ?_))
 obtain ⟨tb, rfl⟩ := HM.nm0
 have HC : Hid (TapeC W 0 #[.slice A xs.length c0, .int .i64 0]) := ⟨A, xs, c0, 0, rfl, by omega, by omega, HI.out, hxl⟩
 have H0 : Hid (Below W.heap.size W W) := Below.refl _ _
 have hle : ∀ b ∈ ([] : List Nat), W.heap.size ≤ b := by simp
 go_wp2_with fail
 (refine (day_any W tb _ _ (HM.tp (by ((repeat (first | exact Look.here | refine Look.there ?_)); done)) HC.out H0.out hle) (by omega)).mono ?_; rintro e9 w2 ⟨d, rfl, d0, d1, ⟨c1, hb1, hc1, -, -⟩, hg9⟩; replace HM := HM.put (c' := c1) (by (repeat (first | exact At.here | apply At.there))) hb1 (Only.of_grown hg9); clear hg9 hb1; replace HC := Lib.hid hc1; clear hc1)
 go_wp2_with fail
 go_at_call 21
 refine (agg_any W tb _ _ _ _ (HM.tp (by ((repeat (first | exact Look.here | refine Look.there ?_)); done)) HC.out H0.out hle) (by omega) Ac.audit (isDay_yes d0 (by omega))).mono ?_
 rintro e9 w2 ⟨a, r, x, rfl, hk, -, han, -, -, -, -, -, ⟨c1, hb1', hc1, -, -⟩, hg9⟩
 replace HM := HM.put (c' := c1) (by (repeat (first | exact At.here | apply At.there))) hb1' (Only.of_grown hg9)
 clear hg9 hb1'
 replace HC := Lib.hid hc1
 clear hc1
 have hvd := Lib.hid (Ac.ok_iff hk)
 have hasz : a.nm.size ≤ 9223372036854775807 := by rw [han]; exact hns
 have s0 := Ag.sa_c a Ag.z_size
 clear hk han d0 d1
 go_upto_region 4 with (first | ((with_reducible refine g_ld ?_); refine a_ld HM ?_) | ((with_reducible refine g_st ?_); refine a_st HM ?_; clear HM; intro w1 HM) | ((with_reducible refine g_al ?_); refine a_al HM ?_; clear HM; intro bk w1 HM) | ((with_reducible refine g_bx ?_); refine a_bx HM ?_; clear HM; intro bk w1 HM) | ((with_reducible refine g_bld ?_); refine a_bld ?_))
 obtain ⟨b5, rfl⟩ := HM.nm0
 go_wp2_with fail
 go_loopw [6] (fun iv wr => ∃ (i : Nat) (b : Ag) (c : Array Value), iv = .int .i64 (i : Nat) ∧ i ≤ 6 ∧ Hid (Ac.vd b = true) ∧ b.nm.size ≤ 9223372036854775807 ∧ Hid (TapeC W (5000 + 2000 * i) c) ∧ Mem W [] [(b5, b.c), (tb, c)] wr) (fun iv _ => (6 - intOf iv).toNat)
 case atStart => exact ⟨0, a, _, rfl, by omega, hvd, hasz, Lib.hid (HC.out.mono (by omega)), HM⟩
 case round =>
  clear HM HC hvd hasz s0
  obtain ⟨i, b, c, rfl, hi, HV, hbn, HC, HM⟩ := hrel
  by_cases hlt : i < 6
  ·have hun := Ac.vd_un HV.out
   obtain ⟨un0, un1⟩ := hun
   have fu : LA 3 b.c 135 (.int .i64 b.un) := (Ag.fun_ b.hr.size b.he.size).la
   have lb := Ag.la_c b
   obtain ⟨n, hn, n0, n1⟩ := Ac.bk_out HV.out
   have BK := fun w => rbooked_any b n 0 (Lib.hid hn) w
   have VA := fun w => avalid_any b hbn true (Lib.hid HV.out.symm) w
   clear hn
   go_step
   go_upto_region 7 with fail
   go_cut [7] (fun v wc => ∃ (te : Int) (c : Array Value), v = .int .i64 te ∧ Hid (TapeC W (5000 + 2000 * i + 10) c) ∧ Mem W [] [(b5, b.c), (tb, c)] wc)
   case first =>
    refine start_M2 [] HM ((Sub.keep Sub.nil)) (by kernel_rfl) (fun w0x H9 => ?_)
    replace HM := H9; clear H9
    refine k_fa 0 (heldE HM) ?_
    refine k_ld 1 [] (heldE HM) ?_
    refine k_mv 2 (heldE HM) ?_
    refine j_one 3 fun K9 hK9 => ?_
    refine acj_bs7 HM ?_; clear HM; intro bl w1 HM
    refine hK9 _ _ (heldE HM) ?_; clear hK9 K9; ((try simp only [List.setIfInBounds_toArray]); (try simp only [List.set_cons_succ]); (try simp only [List.set_cons_zero]))
    refine j_one 4 fun K9 hK9 => ?_
    have hne := Ac.ne HM (b' := tb) (c' := c) (by ((repeat (first | exact Look.here | refine Look.there ?_)); done)); refine o_callg (pick_any W tb _ (some ⟨bl, 0, none⟩) [0, 1, 1, 3, 31, 366, -1] 7 _ (HM.tp (by ((repeat (first | exact Look.here | refine Look.there ?_)); done)) HC.out H0.out hle) (by omega) (ac_ints_own (HM.get (by ((repeat (first | exact Look.here | refine Look.there ?_)); done)))) (fun b o e => by cases e; exact hne) (by simp) (by simp)) rfl ?_ ?_; (focus (refine h_call2 (ts := ?_) (x1 := ?_) (x2 := ?_) ?_ (by kernel_rfl) ?_ ?_; rotate_left 3; (focus rfl); (focus rfl); rfl)); rintro e9 w1 ⟨p, rfl, hp, ⟨c1, hb1, hc1, -, -⟩, hg9⟩; replace HM := HM.put (c' := c1) (by (repeat (first | exact At.here | apply At.there))) hb1 (Only.of_grown hg9); clear hg9 hb1; replace HC := Lib.hid hc1; clear hc1; obtain ⟨p0, p1⟩ := Ac.p366 hp; clear hp; refine ⟨_, rfl, ?_⟩
    refine hK9 _ _ (heldE HM) ?_; clear hK9 K9; ((try simp only [List.setIfInBounds_toArray]); (try simp only [List.set_cons_succ]); (try simp only [List.set_cons_zero]))
    refine k_add 5 (heldE HM) ?_
    refine k_pv 6 (heldE HM) ?_
    refine k_mv 7 (heldE HM) ?_
    refine wpAnyL_done (by kernel_rfl) ?_ _
    (go_wp2_with fail; go_meet; (case rel => exact ⟨_, _, rfl, Lib.hid (HC.out.mono (by omega)), HM.pick⟩))
   case rest =>
    clear HM HC
    obtain ⟨te, c, rfl, HC, HM⟩ := hcut
    go_step
    go_wp2_with fail
    (refine (next_any W tb _ _ _ (HM.tp (by ((repeat (first | exact Look.here | refine Look.there ?_)); done)) HC.out H0.out hle) (by omega) (by omega) (by omega)).mono ?_; rintro e9 w2 ⟨u, rfl, u0, u1, ⟨c1, hb1, hc1, -, -⟩, hg⟩; replace HM := HM.put (c' := c1) (by (repeat (first | exact At.here | apply At.there))) hb1 (Only.of_grown hg); clear hg hb1; replace HC := Lib.hid hc1; clear hc1)
    go_wp2_with fail
    (refine (pick_new (tb := tb) (W := W) HM (by ((repeat (first | exact Look.here | refine Look.there ?_)); done)) HC.out H0.out (by first | exact hle | simpa using hle) [0, 1, u, -1, 1000000000000000, 1000000000000001] _ (by omega) (by simp) (by simp)).mono ?_; rintro e9 w2 ⟨v1, c1, rfl, hv, hc1, hb1, hg⟩; replace HM := HM.put (c' := c1) (by (repeat (first | exact At.here | apply At.there))) hb1 hg; clear hg hb1; replace HC := Lib.hid hc1; clear hc1)
    clear hv u0 u1
    go_upto_region 10 with (first | (go_at_call 14; ((with_reducible refine (BK _).mono ?_); rintro e9 w2 ⟨rfl, hL⟩; replace HM := HM.call hL; clear hL)) | (first | ((with_reducible refine g_ld ?_); refine a_ld HM ?_) | ((with_reducible refine g_st ?_); refine a_st HM ?_; clear HM; intro w1 HM) | ((with_reducible refine g_al ?_); refine a_al HM ?_; clear HM; intro bk w1 HM) | ((with_reducible refine g_bx ?_); refine a_bx HM ?_; clear HM; intro bk w1 HM) | ((with_reducible refine g_bld ?_); refine a_bld ?_)))
    refine start_M2 [] HM ((Sub.keep Sub.nil)) (by kernel_rfl) (fun w0x H9 => ?_)
    replace HM := H9; clear H9
    refine k_ld 0 [] (heldE HM) ?_
    refine j_one 1 fun K9 hK9 => ?_
    refine j_call1 (v := ?_) HM ?_ ?_; rotate_left 1; (focus (with_reducible (first | exact VA _ | exact aexact_any _ hns (some q) _ hvq bsq b hbn _ _ _ _))); clear HM; intro w1 HM
    refine hK9 _ _ (heldE HM) ?_; clear hK9 K9
    refine k_not 2 (heldE HM) ?_
    refine k_mv 3 (heldE HM) ?_
    refine k_mv 4 (heldE HM) ?_
    refine k_ld 6 [] (heldE HM) ?_
    refine k_mv 7 (heldE HM) ?_
    refine k_mv 8 (heldE HM) ?_
    refine k_mv 9 (heldE HM) ?_
    refine k_mv 10 (heldE HM) ?_
    refine k_mv 11 (heldE HM) ?_
    refine k_add 12 (heldE HM) ?_
    refine k_mv 13 (heldE HM) ?_
    refine k_mv 14 (heldE HM) ?_
    refine k_add 15 (heldE HM) ?_
    refine j_one 5 fun K9 hK9 => ?_
    refine o_callg (fee_any W tb _ { data := #[97, 117, 100, 105, 116] } _ (HM.tp (by ((repeat (first | exact Look.here | refine Look.there ?_)); done)) HC.out H0.out hle) (by omega)) rfl ?_ ?_; (focus (refine h_call2 (ts := ?_) (x1 := ?_) (x2 := ?_) ?_ (by kernel_rfl) ?_ ?_; rotate_left 3; (focus rfl); (focus rfl); rfl)); rintro e9 w1 ⟨q, bsq, rfl, hq, -, -, ⟨c1, hb1, hc1, -, -⟩, hg9⟩; replace HM := HM.put (c' := c1) (by (repeat (first | exact At.here | apply At.there))) hb1 (Only.of_grown hg9); clear hg9 hb1; replace HC := Lib.hid hc1; clear hc1; have hvq : Rt.Vc (some q) (Rt.qA q) := ⟨Ac.pr_fit hq, rfl⟩; refine ⟨_, rfl, ?_⟩
    refine hK9 _ _ (heldE HM) ?_; clear hK9 K9; ((try simp only [List.setIfInBounds_toArray]); (try simp only [List.set_cons_succ]); (try simp only [List.set_cons_zero]))
    refine j_one 16 fun K9 hK9 => ?_
    refine o_callg (next_any W tb _ (n + 1) _ (HM.tp (by ((repeat (first | exact Look.here | refine Look.there ?_)); done)) HC.out H0.out hle) (by omega) (by omega) (by omega)) rfl ?_ ?_; (focus (refine h_call2 (ts := ?_) (x1 := ?_) (x2 := ?_) ?_ (by kernel_rfl) ?_ ?_; rotate_left 3; (focus rfl); (focus rfl); rfl)); rintro e9 w1 ⟨u, rfl, u0, u1, ⟨c1, hb1, hc1, -, -⟩, hg9⟩; replace HM := HM.put (c' := c1) (by (repeat (first | exact At.here | apply At.there))) hb1 (Only.of_grown hg9); clear hg9 hb1; replace HC := Lib.hid hc1; clear hc1; refine ⟨_, rfl, ?_⟩
    refine hK9 _ _ (heldE HM) ?_; clear hK9 K9; ((try simp only [List.setIfInBounds_toArray]); (try simp only [List.set_cons_succ]); (try simp only [List.set_cons_zero]))
    refine j_one 17 fun K9 hK9 => ?_
    refine acj_bs5 HM ?_; clear HM; intro bl w1 HM
    refine hK9 _ _ (heldE HM) ?_; clear hK9 K9; ((try simp only [List.setIfInBounds_toArray]); (try simp only [List.set_cons_succ]); (try simp only [List.set_cons_zero]))
    refine j_one 18 fun K9 hK9 => ?_
    have hne := Ac.ne HM (b' := tb) (c' := c1) (by ((repeat (first | exact Look.here | refine Look.there ?_)); done)); refine o_callg (pick_any W tb _ (some ⟨bl, 0, none⟩) [n, n + 1, 0, -1, u] 5 _ (HM.tp (by ((repeat (first | exact Look.here | refine Look.there ?_)); done)) HC.out H0.out hle) (by omega) (ac_ints_own (HM.get (by ((repeat (first | exact Look.here | refine Look.there ?_)); done)))) (fun b o e => by cases e; exact hne) (by simp) (by simp)) rfl ?_ ?_; (focus (refine h_call2 (ts := ?_) (x1 := ?_) (x2 := ?_) ?_ (by kernel_rfl) ?_ ?_; rotate_left 3; (focus rfl); (focus rfl); rfl)); rintro e9 w1 ⟨p, rfl, hp, ⟨c1, hb1, hc1, -, -⟩, hg9⟩; replace HM := HM.put (c' := c1) (by (repeat (first | exact At.here | apply At.there))) hb1 (Only.of_grown hg9); clear hg9 hb1; replace HC := Lib.hid hc1; clear hc1; clear hp; refine ⟨_, rfl, ?_⟩
    refine hK9 _ _ (heldE HM) ?_; clear hK9 K9; ((try simp only [List.setIfInBounds_toArray]); (try simp only [List.set_cons_succ]); (try simp only [List.set_cons_zero]))
    refine j_one 19 fun K9 hK9 => ?_
    refine j_call5 (v := ?_) HM ?_ ?_; rotate_left 1; (focus (with_reducible (first | exact VA _ | exact aexact_any _ hns (some q) _ hvq bsq b hbn _ _ _ _))); clear HM; intro w1 HM
    refine hK9 _ _ (heldE HM) ?_; clear hK9 K9
    refine k_not 20 (heldE HM) ?_
    refine k_pick 21 (heldE HM) ?_
    refine wpAnyL_done (by kernel_rfl) ?_ _
    replace HM := HM.pick (K := [(b5, b.c), (tb, c1)]) (by (repeat (first | exact Pk.nil | exact Pk.refl _ | exact Pk.pre _ _ | exact Pk.post _ _ | (apply Pk.cons; focus (repeat (first | exact Rm.here | apply Rm.there))) | apply Pk.skip)))
    go_upto_region 12 with fail
    go_cut [11, 12] (fun pv ev wc => ∃ (b11 : Nat) (g : Ag) (E : Int) (c : Array Value), pv = .pointer (some ⟨b11, 0, none⟩) ∧ ev = .int .i64 E ∧ Hid (E = 0 → Ac.vd g = true ∧ g.nm = b.nm) ∧ Hid (TapeC W (5000 + 2000 * i + 1500) c) ∧ Mem W [] [(b11, g.c), (b5, b.c), (tb, c)] wc)
    case first =>
     refine start_M2 [14] HM ((Sub.keep Sub.nil)) (by kernel_rfl) (fun w0x H9 => ?_)
     replace HM := H9; clear H9
     refine k_ld 0 [9, 10, 11, 12, 14, 15] (heldE HM) ?_
     refine k_mv 1 (heldE HM) ?_
     refine k_fa 3 (heldE HM) ?_
     refine k_ld 4 [7, 8, 9, 10, 11, 12, 14, 15] (heldE HM) ?_
     refine k_mv 5 (heldE HM) ?_
     refine j_two 2 13 ?_ ?_
     ·refine o_callg (next_any W tb _ (1000000000) _ (HM.tp (by ((repeat (first | exact Look.here | refine Look.there ?_)); done)) HC.out H0.out hle) (by omega) (by omega) (by omega)) rfl ?_ ?_; (focus (refine h_call2 (ts := ?_) (x1 := ?_) (x2 := ?_) ?_ (by kernel_rfl) ?_ ?_; rotate_left 3; (focus rfl); (focus rfl); rfl)); rintro e9 w1 ⟨u, rfl, u0, u1, ⟨c1, hb1, hc1, -, -⟩, hg9⟩; replace HM := HM.put (c' := c1) (by (repeat (first | exact At.here | apply At.there))) hb1 (Only.of_grown hg9); clear hg9 hb1; replace HC := Lib.hid hc1; clear hc1; refine ⟨_, rfl, ?_⟩
      refine ⟨(heldE HM), ?_⟩; ((try simp only [List.setIfInBounds_toArray]); (try simp only [List.set_cons_succ]); (try simp only [List.set_cons_zero]))
      refine j_two 6 13 ?_ ?_
      ·refine o_callg (next_any W tb _ (40) _ (HM.tp (by ((repeat (first | exact Look.here | refine Look.there ?_)); done)) HC.out H0.out hle) (by omega) (by omega) (by omega)) rfl ?_ ?_; (focus (refine h_call2 (ts := ?_) (x1 := ?_) (x2 := ?_) ?_ (by kernel_rfl) ?_ ?_; rotate_left 3; (focus rfl); (focus rfl); rfl)); rintro e9 w1 ⟨q2, rfl, q0, q1, ⟨c1, hb1, hc1, -, -⟩, hg9⟩; replace HM := HM.put (c' := c1) (by (repeat (first | exact At.here | apply At.there))) hb1 (Only.of_grown hg9); clear hg9 hb1; replace HC := Lib.hid hc1; clear hc1; refine ⟨_, rfl, ?_⟩; obtain ⟨g, E, hg, hgE⟩ := Ac.ac_out b u (min 73048 (b.un + q2)); have AC := fun w => accrue_any b hbn u (min 73048 (b.un + q2)) _ E (Lib.hid hg) w; have HGE := Lib.hid hgE; have sg := Ag.sa_c g Ag.z_size; clear hg hgE
       refine ⟨(heldE HM), ?_⟩; ((try simp only [List.setIfInBounds_toArray]); (try simp only [List.set_cons_succ]); (try simp only [List.set_cons_zero]))
       refine k_add 7 (heldE HM) ?_
       refine k_pv 8 (heldE HM) ?_
       refine j_two 9 13 ?_ ?_
       ·refine j_call3 (v := ?_) HM ?_ ?_; rotate_left 1; (focus (with_reducible (exact AC _))); clear HM; intro w1 HM
        refine ⟨(heldE HM), ?_⟩; ((try simp only [List.setIfInBounds_toArray]); (try simp only [List.set_cons_succ]); (try simp only [List.set_cons_zero]))
        refine k_mv 10 (heldE HM) ?_
        refine k_ext 11 (heldE HM) ?_
        refine k_ext 12 (heldE HM) ?_
        refine j_one 13 fun K9 hK9 => ?_
        refine j_al HM ?_; clear HM; intro bk w1 HM
        refine hK9 _ _ (heldE HM) ?_; clear hK9 K9
        refine j_one 14 fun K9 hK9 => ?_
        refine j_st HM ?_; clear HM; intro w1 HM
        refine hK9 _ _ heldN ?_; clear hK9 K9
        refine k_mv 15 heldN ?_
        refine wpAnyL_done (by kernel_rfl) ?_ _
        (go_wp2_with fail; go_meet; (case rel => exact ⟨_, g, E, _, rfl, rfl, HGE, Lib.hid (HC.out.mono (by omega)), HM.pick⟩))
       ·refine j_al HM ?_; clear HM; intro bk w1 HM
        refine ⟨(heldE HM), ?_⟩
        refine j_one 9 fun K9 hK9 => ?_
        refine j_call3 (v := ?_) HM ?_ ?_; rotate_left 1; (focus (with_reducible (exact AC _))); clear HM; intro w1 HM
        refine hK9 _ _ (heldE HM) ?_; clear hK9 K9; ((try simp only [List.setIfInBounds_toArray]); (try simp only [List.set_cons_succ]); (try simp only [List.set_cons_zero]))
        refine k_mv 10 (heldE HM) ?_
        refine k_ext 11 (heldE HM) ?_
        refine k_ext 12 (heldE HM) ?_
        refine j_one 14 fun K9 hK9 => ?_
        refine j_st HM ?_; clear HM; intro w1 HM
        refine hK9 _ _ heldN ?_; clear hK9 K9
        refine k_mv 15 heldN ?_
        refine wpAnyL_done (by kernel_rfl) ?_ _
        (go_wp2_with fail; go_meet; (case rel => exact ⟨_, g, E, _, rfl, rfl, HGE, Lib.hid (HC.out.mono (by omega)), HM.pick⟩))
      ·refine j_al HM ?_; clear HM; intro bk w1 HM
       refine ⟨(heldE HM), ?_⟩
       refine j_one 6 fun K9 hK9 => ?_
       refine o_callg (next_any W tb _ (40) _ (HM.tp (by ((repeat (first | exact Look.here | refine Look.there ?_)); done)) HC.out H0.out hle) (by omega) (by omega) (by omega)) rfl ?_ ?_; (focus (refine h_call2 (ts := ?_) (x1 := ?_) (x2 := ?_) ?_ (by kernel_rfl) ?_ ?_; rotate_left 3; (focus rfl); (focus rfl); rfl)); rintro e9 w1 ⟨q2, rfl, q0, q1, ⟨c1, hb1, hc1, -, -⟩, hg9⟩; replace HM := HM.put (c' := c1) (by (repeat (first | exact At.here | apply At.there))) hb1 (Only.of_grown hg9); clear hg9 hb1; replace HC := Lib.hid hc1; clear hc1; refine ⟨_, rfl, ?_⟩; obtain ⟨g, E, hg, hgE⟩ := Ac.ac_out b u (min 73048 (b.un + q2)); have AC := fun w => accrue_any b hbn u (min 73048 (b.un + q2)) _ E (Lib.hid hg) w; have HGE := Lib.hid hgE; have sg := Ag.sa_c g Ag.z_size; clear hg hgE
       refine hK9 _ _ (heldE HM) ?_; clear hK9 K9; ((try simp only [List.setIfInBounds_toArray]); (try simp only [List.set_cons_succ]); (try simp only [List.set_cons_zero]))
       refine k_add 7 (heldE HM) ?_
       refine k_pv 8 (heldE HM) ?_
       refine j_one 9 fun K9 hK9 => ?_
       refine j_call3 (v := ?_) HM ?_ ?_; rotate_left 1; (focus (with_reducible (exact AC _))); clear HM; intro w1 HM
       refine hK9 _ _ (heldE HM) ?_; clear hK9 K9; ((try simp only [List.setIfInBounds_toArray]); (try simp only [List.set_cons_succ]); (try simp only [List.set_cons_zero]))
       refine k_mv 10 (heldE HM) ?_
       refine k_ext 11 (heldE HM) ?_
       refine k_ext 12 (heldE HM) ?_
       refine j_one 14 fun K9 hK9 => ?_
       refine j_st HM ?_; clear HM; intro w1 HM
       refine hK9 _ _ heldN ?_; clear hK9 K9
       refine k_mv 15 heldN ?_
       refine wpAnyL_done (by kernel_rfl) ?_ _
       (go_wp2_with fail; go_meet; (case rel => exact ⟨_, g, E, _, rfl, rfl, HGE, Lib.hid (HC.out.mono (by omega)), HM.pick⟩))
     ·refine j_al HM ?_; clear HM; intro bk w1 HM
      refine ⟨(heldE HM), ?_⟩
      refine j_one 2 fun K9 hK9 => ?_
      refine o_callg (next_any W tb _ (1000000000) _ (HM.tp (by ((repeat (first | exact Look.here | refine Look.there ?_)); done)) HC.out H0.out hle) (by omega) (by omega) (by omega)) rfl ?_ ?_; (focus (refine h_call2 (ts := ?_) (x1 := ?_) (x2 := ?_) ?_ (by kernel_rfl) ?_ ?_; rotate_left 3; (focus rfl); (focus rfl); rfl)); rintro e9 w1 ⟨u, rfl, u0, u1, ⟨c1, hb1, hc1, -, -⟩, hg9⟩; replace HM := HM.put (c' := c1) (by (repeat (first | exact At.here | apply At.there))) hb1 (Only.of_grown hg9); clear hg9 hb1; replace HC := Lib.hid hc1; clear hc1; refine ⟨_, rfl, ?_⟩
      refine hK9 _ _ (heldE HM) ?_; clear hK9 K9; ((try simp only [List.setIfInBounds_toArray]); (try simp only [List.set_cons_succ]); (try simp only [List.set_cons_zero]))
      refine j_one 6 fun K9 hK9 => ?_
      refine o_callg (next_any W tb _ (40) _ (HM.tp (by ((repeat (first | exact Look.here | refine Look.there ?_)); done)) HC.out H0.out hle) (by omega) (by omega) (by omega)) rfl ?_ ?_; (focus (refine h_call2 (ts := ?_) (x1 := ?_) (x2 := ?_) ?_ (by kernel_rfl) ?_ ?_; rotate_left 3; (focus rfl); (focus rfl); rfl)); rintro e9 w1 ⟨q2, rfl, q0, q1, ⟨c1, hb1, hc1, -, -⟩, hg9⟩; replace HM := HM.put (c' := c1) (by (repeat (first | exact At.here | apply At.there))) hb1 (Only.of_grown hg9); clear hg9 hb1; replace HC := Lib.hid hc1; clear hc1; refine ⟨_, rfl, ?_⟩; obtain ⟨g, E, hg, hgE⟩ := Ac.ac_out b u (min 73048 (b.un + q2)); have AC := fun w => accrue_any b hbn u (min 73048 (b.un + q2)) _ E (Lib.hid hg) w; have HGE := Lib.hid hgE; have sg := Ag.sa_c g Ag.z_size; clear hg hgE
      refine hK9 _ _ (heldE HM) ?_; clear hK9 K9; ((try simp only [List.setIfInBounds_toArray]); (try simp only [List.set_cons_succ]); (try simp only [List.set_cons_zero]))
      refine k_add 7 (heldE HM) ?_
      refine k_pv 8 (heldE HM) ?_
      refine j_one 9 fun K9 hK9 => ?_
      refine j_call3 (v := ?_) HM ?_ ?_; rotate_left 1; (focus (with_reducible (exact AC _))); clear HM; intro w1 HM
      refine hK9 _ _ (heldE HM) ?_; clear hK9 K9; ((try simp only [List.setIfInBounds_toArray]); (try simp only [List.set_cons_succ]); (try simp only [List.set_cons_zero]))
      refine k_mv 10 (heldE HM) ?_
      refine k_ext 11 (heldE HM) ?_
      refine k_ext 12 (heldE HM) ?_
      refine j_one 14 fun K9 hK9 => ?_
      refine j_st HM ?_; clear HM; intro w1 HM
      refine hK9 _ _ heldN ?_; clear hK9 K9
      refine k_mv 15 heldN ?_
      refine wpAnyL_done (by kernel_rfl) ?_ _
      (go_wp2_with fail; go_meet; (case rel => exact ⟨_, g, E, _, rfl, rfl, HGE, Lib.hid (HC.out.mono (by omega)), HM.pick⟩))
    case rest =>
     clear HM HC BK VA fu un0 un1
     obtain ⟨b11, g, E, c, rfl, rfl, HGE, HC, HM⟩ := hcut
     have lg := Ag.la_c g
     have sg := Ag.sa_c g (Ag.c_size b)
     go_step
     go_upto_if 80 with fail
     go_cut [] (fun wc => ∃ (b2 : Ag), Hid (Ac.vd b2 = true) ∧ b2.nm.size ≤ 9223372036854775807 ∧ Mem W [] [(b5, b2.c), (tb, c)] wc)
     case first =>
      by_cases hE : E = 0
      ·subst hE
       obtain ⟨g1, g2⟩ := HGE.out rfl
       have hgn : g.nm.size ≤ 9223372036854775807 := by rw [g2]; exact hbn
       have HG1 := Lib.hid g1
       clear g1 g2 HGE
       go_wp2_with (first | ((with_reducible refine g_ld ?_); refine a_ld HM ?_) | ((with_reducible refine g_st ?_); refine a_st HM ?_; clear HM; intro w1 HM) | ((with_reducible refine g_al ?_); refine a_al HM ?_; clear HM; intro bk w1 HM) | ((with_reducible refine g_bx ?_); refine a_bx HM ?_; clear HM; intro bk w1 HM) | ((with_reducible refine g_bld ?_); refine a_bld ?_))
       go_meet
       case rel => exact ⟨g, HG1, hgn, HM.pick⟩
      ·have hE2 : (E == 0) = false := by simpa using hE
       clear hE HGE
       go_wp2_with (first | ((with_reducible refine g_ld ?_); refine a_ld HM ?_) | ((with_reducible refine g_st ?_); refine a_st HM ?_; clear HM; intro w1 HM) | ((with_reducible refine g_al ?_); refine a_al HM ?_; clear HM; intro bk w1 HM) | ((with_reducible refine g_bx ?_); refine a_bx HM ?_; clear HM; intro bk w1 HM) | ((with_reducible refine g_bld ?_); refine a_bld ?_))
       go_meet
       case rel => exact ⟨b, HV, hbn, HM.pick⟩
     case rest =>
      clear HM lb lg sg
      obtain ⟨b2, HV2, hb2n, HM⟩ := hcut
      obtain ⟨n2, hn2, n20, n21⟩ := Ac.bk_out HV2.out
      have BK2 := fun w => rbooked_any b2 n2 0 (Lib.hid hn2) w
      have lb2 := Ag.la_c b2
      clear hn2
      go_step
      go_upto_region 16 with (first | (go_at_call 14; ((with_reducible refine (BK2 _).mono ?_); rintro e9 w2 ⟨rfl, hL⟩; replace HM := HM.call hL; clear hL)) | (first | ((with_reducible refine g_ld ?_); refine a_ld HM ?_) | ((with_reducible refine g_st ?_); refine a_st HM ?_; clear HM; intro w1 HM) | ((with_reducible refine g_al ?_); refine a_al HM ?_; clear HM; intro bk w1 HM) | ((with_reducible refine g_bx ?_); refine a_bx HM ?_; clear HM; intro bk w1 HM) | ((with_reducible refine g_bld ?_); refine a_bld ?_)))
      go_cut [13, 14] (fun pv ev wc => ∃ (b13 : Nat) (g : Ag) (E : Int) (c : Array Value), pv = .pointer (some ⟨b13, 0, none⟩) ∧ ev = .int .i64 E ∧ Hid (E = 0 → Ac.vd g = true ∧ g.nm = b2.nm) ∧ Hid (TapeC W (5000 + 2000 * i + 1600) c) ∧ Mem W [] [(b13, g.c), (b5, b2.c), (tb, c)] wc)
      case first =>
       refine start_M2 [10] HM ((Sub.keep Sub.nil)) (by kernel_rfl) (fun w0x H9 => ?_)
       replace HM := H9; clear H9
       refine k_ld 0 [5, 6, 7, 8, 10, 11] (heldE HM) ?_
       refine k_mv 1 (heldE HM) ?_
       refine k_mv 2 (heldE HM) ?_
       refine k_add 3 (heldE HM) ?_
       refine j_two 4 9 ?_ ?_
       ·refine o_callg (next_any W tb _ (n2 + 1) _ (HM.tp (by ((repeat (first | exact Look.here | refine Look.there ?_)); done)) HC.out H0.out hle) (by omega) (by omega) (by omega)) rfl ?_ ?_; (focus (refine h_call2 (ts := ?_) (x1 := ?_) (x2 := ?_) ?_ (by kernel_rfl) ?_ ?_; rotate_left 3; (focus rfl); (focus rfl); rfl)); rintro e9 w1 ⟨u, rfl, u0, u1, ⟨c1, hb1, hc1, -, -⟩, hg9⟩; replace HM := HM.put (c' := c1) (by (repeat (first | exact At.here | apply At.there))) hb1 (Only.of_grown hg9); clear hg9 hb1; replace HC := Lib.hid hc1; clear hc1; refine ⟨_, rfl, ?_⟩; obtain ⟨g, E, hg, hgE⟩ := Ac.py_out b2 u; have PC := fun w => pay_any b2 hb2n u _ E (Lib.hid hg) w; have HGE := Lib.hid hgE; have sg := Ag.sa_c g Ag.z_size; clear hg hgE
        refine ⟨(heldE HM), ?_⟩; ((try simp only [List.setIfInBounds_toArray]); (try simp only [List.set_cons_succ]); (try simp only [List.set_cons_zero]))
        refine j_two 5 9 ?_ ?_
        ·refine j_call2 (v := ?_) HM ?_ ?_; rotate_left 1; (focus (with_reducible (exact PC _))); clear HM; intro w1 HM
         refine ⟨(heldE HM), ?_⟩; ((try simp only [List.setIfInBounds_toArray]); (try simp only [List.set_cons_succ]); (try simp only [List.set_cons_zero]))
         refine k_mv 6 (heldE HM) ?_
         refine k_ext 7 (heldE HM) ?_
         refine k_ext 8 (heldE HM) ?_
         refine j_one 9 fun K9 hK9 => ?_
         refine j_al HM ?_; clear HM; intro bk w1 HM
         refine hK9 _ _ (heldE HM) ?_; clear hK9 K9
         refine j_one 10 fun K9 hK9 => ?_
         refine j_st HM ?_; clear HM; intro w1 HM
         refine hK9 _ _ heldN ?_; clear hK9 K9
         refine k_mv 11 heldN ?_
         refine wpAnyL_done (by kernel_rfl) ?_ _
         (go_wp2_with fail; go_meet; (case rel => exact ⟨_, g, E, _, rfl, rfl, HGE, Lib.hid (HC.out.mono (by omega)), HM.pick⟩))
        ·refine j_al HM ?_; clear HM; intro bk w1 HM
         refine ⟨(heldE HM), ?_⟩
         refine j_one 5 fun K9 hK9 => ?_
         refine j_call2 (v := ?_) HM ?_ ?_; rotate_left 1; (focus (with_reducible (exact PC _))); clear HM; intro w1 HM
         refine hK9 _ _ (heldE HM) ?_; clear hK9 K9; ((try simp only [List.setIfInBounds_toArray]); (try simp only [List.set_cons_succ]); (try simp only [List.set_cons_zero]))
         refine k_mv 6 (heldE HM) ?_
         refine k_ext 7 (heldE HM) ?_
         refine k_ext 8 (heldE HM) ?_
         refine j_one 10 fun K9 hK9 => ?_
         refine j_st HM ?_; clear HM; intro w1 HM
         refine hK9 _ _ heldN ?_; clear hK9 K9
         refine k_mv 11 heldN ?_
         refine wpAnyL_done (by kernel_rfl) ?_ _
         (go_wp2_with fail; go_meet; (case rel => exact ⟨_, g, E, _, rfl, rfl, HGE, Lib.hid (HC.out.mono (by omega)), HM.pick⟩))
       ·refine j_al HM ?_; clear HM; intro bk w1 HM
        refine ⟨(heldE HM), ?_⟩
        refine j_one 4 fun K9 hK9 => ?_
        refine o_callg (next_any W tb _ (n2 + 1) _ (HM.tp (by ((repeat (first | exact Look.here | refine Look.there ?_)); done)) HC.out H0.out hle) (by omega) (by omega) (by omega)) rfl ?_ ?_; (focus (refine h_call2 (ts := ?_) (x1 := ?_) (x2 := ?_) ?_ (by kernel_rfl) ?_ ?_; rotate_left 3; (focus rfl); (focus rfl); rfl)); rintro e9 w1 ⟨u, rfl, u0, u1, ⟨c1, hb1, hc1, -, -⟩, hg9⟩; replace HM := HM.put (c' := c1) (by (repeat (first | exact At.here | apply At.there))) hb1 (Only.of_grown hg9); clear hg9 hb1; replace HC := Lib.hid hc1; clear hc1; refine ⟨_, rfl, ?_⟩; obtain ⟨g, E, hg, hgE⟩ := Ac.py_out b2 u; have PC := fun w => pay_any b2 hb2n u _ E (Lib.hid hg) w; have HGE := Lib.hid hgE; have sg := Ag.sa_c g Ag.z_size; clear hg hgE
        refine hK9 _ _ (heldE HM) ?_; clear hK9 K9; ((try simp only [List.setIfInBounds_toArray]); (try simp only [List.set_cons_succ]); (try simp only [List.set_cons_zero]))
        refine j_one 5 fun K9 hK9 => ?_
        refine j_call2 (v := ?_) HM ?_ ?_; rotate_left 1; (focus (with_reducible (exact PC _))); clear HM; intro w1 HM
        refine hK9 _ _ (heldE HM) ?_; clear hK9 K9; ((try simp only [List.setIfInBounds_toArray]); (try simp only [List.set_cons_succ]); (try simp only [List.set_cons_zero]))
        refine k_mv 6 (heldE HM) ?_
        refine k_ext 7 (heldE HM) ?_
        refine k_ext 8 (heldE HM) ?_
        refine j_one 10 fun K9 hK9 => ?_
        refine j_st HM ?_; clear HM; intro w1 HM
        refine hK9 _ _ heldN ?_; clear hK9 K9
        refine k_mv 11 heldN ?_
        refine wpAnyL_done (by kernel_rfl) ?_ _
        (go_wp2_with fail; go_meet; (case rel => exact ⟨_, g, E, _, rfl, rfl, HGE, Lib.hid (HC.out.mono (by omega)), HM.pick⟩))
      case rest =>
       clear HM HC BK2
       obtain ⟨b13, g, E, c, rfl, rfl, HGE, HC, HM⟩ := hcut
       have lg := Ag.la_c g
       have sg := Ag.sa_c g (Ag.c_size b2)
       go_step
       by_cases hE : E = 0
       ·subst hE
        obtain ⟨g1, g2⟩ := HGE.out rfl
        have hgn : g.nm.size ≤ 9223372036854775807 := by rw [g2]; exact hb2n
        have HG1 := Lib.hid g1
        clear g1 g2 HGE
        go_wp2_with fail
        (refine (chance_any W tb _ 1 2 _ (HM.tp (by ((repeat (first | exact Look.here | refine Look.there ?_)); done)) HC.out H0.out hle) (by omega) (by omega) (by omega)).mono ?_; rintro e9 w2 ⟨ch, rfl, ⟨c1, hb1, hc1, -, -⟩, hg⟩; replace HM := HM.put (c' := c1) (by (repeat (first | exact At.here | apply At.there))) hb1 (Only.of_grown hg); clear hg hb1; replace HC := Lib.hid hc1; clear hc1)
        cases ch with
        | true =>
         go_wp2_with (first | ((with_reducible refine g_ld ?_); refine a_ld HM ?_) | ((with_reducible refine g_st ?_); refine a_st HM ?_; clear HM; intro w1 HM) | ((with_reducible refine g_al ?_); refine a_al HM ?_; clear HM; intro bk w1 HM) | ((with_reducible refine g_bx ?_); refine a_bx HM ?_; clear HM; intro bk w1 HM) | ((with_reducible refine g_bld ?_); refine a_bld ?_))
         go_roundw
         case rel => exact ⟨i + 1, g, _, by go_num, by omega, HG1, hgn, Lib.hid (HC.out.mono (by omega)), HM.pick⟩
         case measure => simp [intOf]; omega
        | false =>
         go_wp2_with (first | ((with_reducible refine g_ld ?_); refine a_ld HM ?_) | ((with_reducible refine g_st ?_); refine a_st HM ?_; clear HM; intro w1 HM) | ((with_reducible refine g_al ?_); refine a_al HM ?_; clear HM; intro bk w1 HM) | ((with_reducible refine g_bx ?_); refine a_bx HM ?_; clear HM; intro bk w1 HM) | ((with_reducible refine g_bld ?_); refine a_bld ?_))
         go_roundw
         case rel => exact ⟨i + 1, b2, _, by go_num, by omega, HV2, hb2n, Lib.hid (HC.out.mono (by omega)), HM.pick⟩
         case measure => simp [intOf]; omega
       ·have hE2 : (E == 0) = false := by simpa using hE
        clear hE HGE
        go_wp2_with (first | ((with_reducible refine g_ld ?_); refine a_ld HM ?_) | ((with_reducible refine g_st ?_); refine a_st HM ?_; clear HM; intro w1 HM) | ((with_reducible refine g_al ?_); refine a_al HM ?_; clear HM; intro bk w1 HM) | ((with_reducible refine g_bx ?_); refine a_bx HM ?_; clear HM; intro bk w1 HM) | ((with_reducible refine g_bld ?_); refine a_bld ?_))
        go_roundw
        case rel => exact ⟨i + 1, b2, _, by go_num, by omega, HV2, hb2n, Lib.hid (HC.out.mono (by omega)), HM.pick⟩
        case measure => simp [intOf]; omega
  ·go_wp2_with (first | (go_at_call 17; ((with_reducible refine (KN _).mono ?_); rintro e9 w2 ⟨rfl, hL⟩; replace HM := HM.call hL; clear hL)) | (first | ((with_reducible refine g_ld ?_); refine a_ld HM ?_) | ((with_reducible refine g_st ?_); refine a_st HM ?_; clear HM; intro w1 HM) | ((with_reducible refine g_al ?_); refine a_al HM ?_; clear HM; intro bk w1 HM) | ((with_reducible refine g_bx ?_); refine a_bx HM ?_; clear HM; intro bk w1 HM) | ((with_reducible refine g_bld ?_); refine a_bld ?_)))
   go_ret
   exact ⟨rfl, HM.low⟩
end Go.Proofs.YtmbjaaaeekacfaaGreatDoor
