/- Walks. -/
import Derived.Test.YtiekmabiecalbaaGreatDoorPa12
namespace Go.Proofs.YtiekmabiecalbaaGreatDoor
set_option maxHeartbeats 16000000
open Go.RowKit
set_option maxRecDepth 8000
section
theorem z9_55 {P : Prop} (h : P := by
 refine hK9 _ _ (heldE HM) ?_; clear hK9 K9
 refine j_one 10 fun K9 hK9 => ?_
 refine j_st HM ?_; clear HM; intro w1 HM
 refine hK9 _ _ heldN ?_; clear hK9 K9
 refine j_one 11 fun K9 hK9 => ?_
 refine j_st HM ?_; clear HM; intro w1 HM
 refine hK9 _ _ heldN ?_; clear hK9 K9
 refine wpAnyL_done Zk ?_ _
 (go_wp2_with fail; refine bodyPost_ret (r_cc (b := b4) (k := 0) (b2 := b5) (k2 := 0) rfl rfl rfl (HM.get Zl) (la_z _) (HM.get Zl) (la_z _)) rfl ⟨rfl, HM.low⟩)) : P := h
theorem z9_56 {P : Prop} (h : P := by
 refine hK9 _ _ (heldE HM) ?_; clear hK9 K9
 refine k_ext 4 (heldE HM) ?_
 refine k_ext 5 (heldE HM) ?_
 refine j_one 6 fun K9 hK9 => ?_
 refine j_st HM ?_; clear HM; intro w1 HM
 refine hK9 _ _ heldN ?_; clear hK9 K9
 refine k_mv 7 heldN ?_
 refine wpAnyL_done Zk ?_ _
 (go_wp2_with fail; refine bodyPost_ret (r_ct (b := b4) (k := 0) rfl rfl (HM.get Zl) (la_rz _ _)) rfl ⟨rfl, HM.low⟩)) : P := h
end
section
theorem Mem.fresh {w0 w w' : World} {X : List Nat} {L : List (Nat × Array Value)} {b : Nat} {c : Array Value} (h : Mem w0 X L w) (hb : Below w.heap.size w w') (hc : Blk w' b c) (hn : w.heap.size ≤ b) : Mem w0 X ((b, c) :: L) w' := by
 have h2 := h.call hb
 refine ⟨h2.only, ?_, ?_, ?_⟩
 ·intro p hp
  rcases List.mem_cons.1 hp with rfl | hp
  ·exact hc
  ·exact h2.blk p hp
 ·intro p hp
  rcases List.mem_cons.1 hp with rfl | hp
  ·exact .inl (Nat.le_trans h.only.size hn)
  ·exact h2.own p hp
 ·rw [List.map_cons, List.nodup_cons]
  refine ⟨?_, h2.nod⟩
  intro hm
  obtain ⟨p, hp, e⟩ := List.mem_map.1 hm
  have := (h.blk p hp).lt
  omega
theorem combine_any (b : Bool) (w : World) :
    Calls Tryz.prog 105 #[.bool b] w fun r w' => ∃ bm : Nat, r = .returned (.func (.func 150) #[] #[.pointer (some ⟨bm, 0, none⟩)]) ∧ Blk w' bm #[.bool b] ∧ w.heap.size ≤ bm ∧ Below w.heap.size w w' := by
 have HM := Mem.start w
 go_enter Tryz.func105, Tryz.ntmps105
 go_wp2_with ((with_reducible refine g_bx ?_); refine a_bx HM ?_; clear HM; intro bk w1 HM)
 obtain ⟨bm, rfl⟩ := HM.nm0
 go_ret
 refine ⟨bm, rfl, HM.get Zl, ?_, HM.low⟩
 rcases HM.own (bm, #[.bool b]) Zs with h | h
 ·exact h
 ·cases h
theorem product_f (p d z : Int) (hp : p.natAbs < Bg.lim) (hd : d.natAbs < Bg.lim) (hz : Hid (z = p * d)) (hl : z.natAbs < Bg.lim) (w : World) :
    Calls Tryz.prog 115 #[.agg (Bg.zA p), .agg (Bg.zA d)] w fun r w' => r = .returned (.agg (Bg.zA z)) ∧ Below w.heap.size w w' := by
 rw [zA_int p, zA_int d]
 exact product_n _ _ _ _ z z hp hd (Zi (by rw [Bg.toZ_iv, Bg.toZ_iv]; exact hz.out)) (Zi (by unfold Bg.resZ; rw [if_pos hl])) w
theorem add_f2 (p d z : Int) (hp : p.natAbs < Bg.lim) (hd : d.natAbs < Bg.lim) (hz : Hid (z = p + d)) (hl : z.natAbs < Bg.lim) (w : World) :
    Calls Tryz.prog 151 #[.agg (Bg.zA p), .agg (Bg.zA d)] w fun r w' => r = .returned (.tuple #[.agg (Bg.zA z), .int .i64 0]) ∧ Below w.heap.size w w' :=
 add_z p d z 0 z hp hd hz (Zi (by unfold Bg.resZ; rw [if_pos hl])) (Zi (by unfold Bg.resE; rw [if_pos hl])) w
theorem mulfn_any (p q r u x y : Int) (hp : p.natAbs < Bg.lim) (hq : q.natAbs < Bg.lim) (hr : r.natAbs < Bg.lim) (hu : u.natAbs < Bg.lim) (hx : Hid (x = p * r)) (hy : Hid (y = q * u)) (lx : x.natAbs < Bg.lim) (ly : y.natAbs < Bg.lim) (w : World) :
    Calls Tryz.prog 116 #[.agg (Bg.rZ p q), .agg (Bg.rZ r u)] w fun e w' => e = .returned (.tuple #[.agg (Bg.zA x), .agg (Bg.zA y)]) ∧ Below w.heap.size w w' := by
 have HM := Mem.start w
 have k1 := la_rznum p q
 have k2 := la_rzden p q
 have k3 := la_rznum r u
 have k4 := la_rzden r u
 go_enter Tryz.func116, Tryz.ntmps116
 go_upto_region 1 with (first | ((with_reducible refine g_ld ?_); refine a_ld HM ?_) | ((with_reducible refine g_st ?_); refine a_st HM ?_; clear HM; intro w1 HM) | ((with_reducible refine g_al ?_); refine a_al HM ?_; clear HM; intro bk w1 HM) | ((with_reducible refine g_bx ?_); refine a_bx HM ?_; clear HM; intro bk w1 HM))
 obtain ⟨b5, rfl⟩ := HM.nm0
 obtain ⟨b4, rfl⟩ := HM.nm1
 refine start_M [10, 11] HM Zk (fun w0x H9 => ?_)
 replace HM := H9; clear H9
 refine k_fa 0 (heldE HM) ?_
 refine k_ld 1 [4, 9, 10, 11] (heldE HM) ?_
 refine k_fa 2 (heldE HM) ?_
 refine k_ld 3 [4, 9, 10, 11] (heldE HM) ?_
 refine k_fa 5 (heldE HM) ?_
 refine k_ld 6 [9, 10, 11] (heldE HM) ?_
 refine k_fa 7 (heldE HM) ?_
 refine k_ld 8 [9, 10, 11] (heldE HM) ?_
 refine j_one 4 fun K9 hK9 => ?_
 refine j_call2 (v := ?_) HM ?_ ?_; rotate_left 1; (focus (with_reducible (first | exact product_f p r x hp hr hx lx _ | exact product_f q u y hq hu hy ly _))); clear HM; intro w1 HM
 refine hK9 _ _ (heldE HM) ?_; clear hK9 K9
 refine j_one 9 fun K9 hK9 => ?_
 refine j_call2 (v := ?_) HM ?_ ?_; rotate_left 1; (focus (with_reducible (first | exact product_f p r x hp hr hx lx _ | exact product_f q u y hq hu hy ly _))); clear HM; intro w1 HM
 exact z9_55
theorem quofn_any (p q r u x y : Int) (hp : p.natAbs < Bg.lim) (hq : q.natAbs < Bg.lim) (hr : r.natAbs < Bg.lim) (hu : u.natAbs < Bg.lim) (hx : Hid (x = p * u)) (hy : Hid (y = q * r)) (lx : x.natAbs < Bg.lim) (ly : y.natAbs < Bg.lim) (w : World) :
    Calls Tryz.prog 188 #[.agg (Bg.rZ p q), .agg (Bg.rZ r u)] w fun e w' => e = .returned (.tuple #[.agg (Bg.zA x), .agg (Bg.zA y)]) ∧ Below w.heap.size w w' := by
 have HM := Mem.start w
 have k1 := la_rznum p q
 have k2 := la_rzden p q
 have k3 := la_rznum r u
 have k4 := la_rzden r u
 go_enter Tryz.func188, Tryz.ntmps188
 go_upto_region 1 with (first | ((with_reducible refine g_ld ?_); refine a_ld HM ?_) | ((with_reducible refine g_st ?_); refine a_st HM ?_; clear HM; intro w1 HM) | ((with_reducible refine g_al ?_); refine a_al HM ?_; clear HM; intro bk w1 HM) | ((with_reducible refine g_bx ?_); refine a_bx HM ?_; clear HM; intro bk w1 HM))
 obtain ⟨b5, rfl⟩ := HM.nm0
 obtain ⟨b4, rfl⟩ := HM.nm1
 refine start_M [10, 11] HM Zk (fun w0x H9 => ?_)
 replace HM := H9; clear H9
 refine k_fa 0 (heldE HM) ?_
 refine k_ld 1 [4, 9, 10, 11] (heldE HM) ?_
 refine k_fa 2 (heldE HM) ?_
 refine k_ld 3 [4, 9, 10, 11] (heldE HM) ?_
 refine k_fa 5 (heldE HM) ?_
 refine k_ld 6 [9, 10, 11] (heldE HM) ?_
 refine k_fa 7 (heldE HM) ?_
 refine k_ld 8 [9, 10, 11] (heldE HM) ?_
 refine j_one 4 fun K9 hK9 => ?_
 refine j_call2 (v := ?_) HM ?_ ?_; rotate_left 1; (focus (with_reducible (first | exact product_f p u x hp hu hx lx _ | exact product_f q r y hq hr hy ly _))); clear HM; intro w1 HM
 refine hK9 _ _ (heldE HM) ?_; clear hK9 K9
 refine j_one 9 fun K9 hK9 => ?_
 refine j_call2 (v := ?_) HM ?_ ?_; rotate_left 1; (focus (with_reducible (first | exact product_f p u x hp hu hx lx _ | exact product_f q r y hq hr hy ly _))); clear HM; intro w1 HM
 exact z9_55
theorem la_b1 (b : Bool) : LA 4 #[.bool b] 0 (.bool b) := LA.one Zk rfl
theorem neg_f (p z : Int) (hp : p.natAbs < Bg.lim) (hz : Hid (z = -p)) (w : World) :
    Calls Tryz.prog 107 #[.agg (Bg.zA p)] w fun e w' => e = .returned (.agg (Bg.zA z)) ∧ Below w.heap.size w w' := neg_z p z hp hz w
theorem combfn_any (b : Bool) (bm : Nat) (p q r u y0 y1 x0 x z : Int) (hp : p.natAbs < Bg.lim) (hq : q.natAbs < Bg.lim) (hr : r.natAbs < Bg.lim) (hu : u.natAbs < Bg.lim) (hy0 : Hid (y0 = r * q)) (hy1 : Hid (y1 = if b then -y0 else y0)) (hx0 : Hid (x0 = p * u)) (hx : Hid (x = x0 + y1)) (hz : Hid (z = q * u))
    (l1 : y0.natAbs < Bg.lim) (l3 : x0.natAbs < Bg.lim) (l4 : x.natAbs < Bg.lim) (l5 : z.natAbs < Bg.lim) (w : World) (hB : Blk w bm #[.bool b]) :
    Calls Tryz.prog 150 #[.agg (Bg.rZ p q), .agg (Bg.rZ r u), .pointer (some ⟨bm, 0, none⟩)] w fun e w' => e = .returned (.tuple #[.agg (Bg.zA x), .agg (Bg.zA z)]) ∧ Below w.heap.size w w' := by
 have HM := Mem.start w
 have HB := Zi hB
 have k1 := la_rznum p q
 have k2 := la_rzden p q
 have k3 := la_rznum r u
 have k4 := la_rzden r u
 have k5 := la_b1 b
 have l2 : y1.natAbs < Bg.lim := by rw [hy1.out]; cases b <;> simp [l1]
 clear hB
 go_enter Tryz.func150, Tryz.ntmps150
 go_upto_region 2 with (first | (go_at_call 115; (with_reducible refine Zc HM (product_f r q y0 hr hq hy0 l1 _) ?_; clear HM; intro w2 HM)) | (first | ((with_reducible refine g_ld ?_); refine a_ld HM ?_) | ((with_reducible refine g_st ?_); refine a_st HM ?_; clear HM; intro w1 HM) | ((with_reducible refine g_al ?_); refine a_al HM ?_; clear HM; intro bk w1 HM) | ((with_reducible refine g_bx ?_); refine a_bx HM ?_; clear HM; intro bk w1 HM)))
 obtain ⟨b7, rfl⟩ := HM.nm0
 obtain ⟨b6, rfl⟩ := HM.nm1
 obtain ⟨b5, rfl⟩ := HM.nm2
 cases b with
 | false =>
  obtain rfl : y1 = y0 := by rw [hy1.out]; rfl
  go_upto_region 4 with (first | ((with_reducible refine g_ld ?_); refine a_ld HM ?_) | ((with_reducible refine g_st ?_); refine a_st HM ?_; clear HM; intro w1 HM) | ((with_reducible refine g_al ?_); refine a_al HM ?_; clear HM; intro bk w1 HM) | ((with_reducible refine g_bx ?_); refine a_bx HM ?_; clear HM; intro bk w1 HM))
  refine start_M [10] HM Zk (fun w0x H9 => ?_)
  replace HM := H9; clear H9
  refine k_fa 0 (heldE HM) ?_
  refine k_ld 1 [4, 6, 7, 8, 9, 10] (heldE HM) ?_
  refine k_fa 2 (heldE HM) ?_
  refine k_ld 3 [4, 6, 7, 8, 9, 10] (heldE HM) ?_
  refine k_ld 5 [6, 7, 8, 9, 10] (heldE HM) ?_
  refine j_one 4 fun K9 hK9 => ?_
  refine j_call2 (v := ?_) HM ?_ ?_; rotate_left 1; (focus (with_reducible (first | exact product_f p u x0 hp hu hx0 l3 _ | exact add_f2 x0 y1 x l3 l2 hx l4 _))); clear HM; intro w1 HM
  refine hK9 _ _ (heldE HM) ?_; clear hK9 K9
  refine j_one 6 fun K9 hK9 => ?_
  refine j_call2 (v := ?_) HM ?_ ?_; rotate_left 1; (focus (with_reducible (first | exact product_f p u x0 hp hu hx0 l3 _ | exact add_f2 x0 y1 x l3 l2 hx l4 _))); clear HM; intro w1 HM
  refine hK9 _ _ (heldE HM) ?_; clear hK9 K9
  refine k_mv 7 (heldE HM) ?_
  refine k_ext 8 (heldE HM) ?_
  refine k_ext 9 (heldE HM) ?_
  refine j_one 10 fun K9 hK9 => ?_
  refine j_st HM ?_; clear HM; intro w1 HM
  refine hK9 _ _ heldN ?_; clear hK9 K9
  refine wpAnyL_done Zk ?_ _
  go_upto_region 5 with fail
  refine start_M [6, 7] HM Zk (fun w0x H9 => ?_)
  replace HM := H9; clear H9
  refine k_ld 0 [6, 7] (heldE HM) ?_
  refine k_fa 1 (heldE HM) ?_
  refine k_ld 2 [5, 6, 7] (heldE HM) ?_
  refine k_fa 3 (heldE HM) ?_
  refine k_ld 4 [5, 6, 7] (heldE HM) ?_
  refine j_one 5 fun K9 hK9 => ?_
  refine j_call2 (v := ?_) HM ?_ ?_; rotate_left 1; (focus (with_reducible (exact product_f q u z hq hu hz l5 _))); clear HM; intro w1 HM
  refine hK9 _ _ (heldE HM) ?_; clear hK9 K9
  refine j_one 6 fun K9 hK9 => ?_
  refine j_st HM ?_; clear HM; intro w1 HM
  refine hK9 _ _ heldN ?_; clear hK9 K9
  refine j_one 7 fun K9 hK9 => ?_
  refine j_st HM ?_; clear HM; intro w1 HM
  refine hK9 _ _ heldN ?_; clear hK9 K9
  refine wpAnyL_done Zk ?_ _
  (go_wp2_with fail; refine bodyPost_ret (r_cc (b := b5) (k := 0) (b2 := b6) (k2 := 0) rfl rfl rfl (HM.get Zl) (la_z _) (HM.get Zl) (la_z _)) rfl ⟨rfl, HM.low⟩)
 | true =>
  have hn : Hid (y1 = -y0) := Zi (by rw [hy1.out]; rfl)
  go_upto_region 4 with (first | (go_at_call 107; (with_reducible refine Zc HM (neg_f y0 y1 l1 hn _) ?_; clear HM; intro w2 HM)) | (first | ((with_reducible refine g_ld ?_); refine a_ld HM ?_) | ((with_reducible refine g_st ?_); refine a_st HM ?_; clear HM; intro w1 HM) | ((with_reducible refine g_al ?_); refine a_al HM ?_; clear HM; intro bk w1 HM) | ((with_reducible refine g_bx ?_); refine a_bx HM ?_; clear HM; intro bk w1 HM)))
  refine start_M [10] HM Zk (fun w0x H9 => ?_)
  replace HM := H9; clear H9
  refine k_fa 0 (heldE HM) ?_
  refine k_ld 1 [4, 6, 7, 8, 9, 10] (heldE HM) ?_
  refine k_fa 2 (heldE HM) ?_
  refine k_ld 3 [4, 6, 7, 8, 9, 10] (heldE HM) ?_
  refine k_ld 5 [6, 7, 8, 9, 10] (heldE HM) ?_
  refine j_one 4 fun K9 hK9 => ?_
  refine j_call2 (v := ?_) HM ?_ ?_; rotate_left 1; (focus (with_reducible (first | exact product_f p u x0 hp hu hx0 l3 _ | exact add_f2 x0 y1 x l3 l2 hx l4 _))); clear HM; intro w1 HM
  refine hK9 _ _ (heldE HM) ?_; clear hK9 K9
  refine j_one 6 fun K9 hK9 => ?_
  refine j_call2 (v := ?_) HM ?_ ?_; rotate_left 1; (focus (with_reducible (first | exact product_f p u x0 hp hu hx0 l3 _ | exact add_f2 x0 y1 x l3 l2 hx l4 _))); clear HM; intro w1 HM
  refine hK9 _ _ (heldE HM) ?_; clear hK9 K9
  refine k_mv 7 (heldE HM) ?_
  refine k_ext 8 (heldE HM) ?_
  refine k_ext 9 (heldE HM) ?_
  refine j_one 10 fun K9 hK9 => ?_
  refine j_st HM ?_; clear HM; intro w1 HM
  refine hK9 _ _ heldN ?_; clear hK9 K9
  refine wpAnyL_done Zk ?_ _
  go_upto_region 5 with fail
  refine start_M [6, 7] HM Zk (fun w0x H9 => ?_)
  replace HM := H9; clear H9
  refine k_ld 0 [6, 7] (heldE HM) ?_
  refine k_fa 1 (heldE HM) ?_
  refine k_ld 2 [5, 6, 7] (heldE HM) ?_
  refine k_fa 3 (heldE HM) ?_
  refine k_ld 4 [5, 6, 7] (heldE HM) ?_
  refine j_one 5 fun K9 hK9 => ?_
  refine j_call2 (v := ?_) HM ?_ ?_; rotate_left 1; (focus (with_reducible (exact product_f q u z hq hu hz l5 _))); clear HM; intro w1 HM
  refine hK9 _ _ (heldE HM) ?_; clear hK9 K9
  refine j_one 6 fun K9 hK9 => ?_
  refine j_st HM ?_; clear HM; intro w1 HM
  refine hK9 _ _ heldN ?_; clear hK9 K9
  refine j_one 7 fun K9 hK9 => ?_
  refine j_st HM ?_; clear HM; intro w1 HM
  refine hK9 _ _ heldN ?_; clear hK9 K9
  refine wpAnyL_done Zk ?_ _
  (go_wp2_with fail; refine bodyPost_ret (r_cc (b := b5) (k := 0) (b2 := b6) (k2 := 0) rfl rfl rfl (HM.get Zl) (la_z _) (HM.get Zl) (la_z _)) rfl ⟨rfl, HM.low⟩)
def Rt.okz (p q : Int) : Bool := Rt.ok (decide (p < 0)) p.natAbs (decide (q < 0)) q.natAbs
theorem valid_z (p q : Int) (f : Bool) (hp : p.natAbs < Bg.lim) (hq : q.natAbs < Bg.lim) (hf : Hid (f = Rt.okz p q)) (w : World) :
    Calls Tryz.prog 106 #[.agg (Bg.rZ p q)] w fun r w' => r = .returned (.bool f) ∧ Below w.heap.size w w' := by
 rw [rZ_ratA]; exact valid_n _ _ _ _ f hp hq hf w
theorem calc_bad (s : Bool) (M : Nat) (t : Bool) (N : Nat) (s2 : Bool) (M2 : Nat) (t2 : Bool) (N2 : Nat) (fv : Value) (hM : M < Bg.lim) (hN : N < Bg.lim) (hM2 : M2 < Bg.lim) (hN2 : N2 < Bg.lim) (hbad : (Rt.ok s M t N && Rt.ok s2 M2 t2 N2) = false) (w : World) :
    Calls Tryz.prog 104 #[.agg (Bg.ratA s M t N), .agg (Bg.ratA s2 M2 t2 N2), fv] w fun r w' => r = .returned (.tuple #[.agg (Bg.rZ 0 0), .int .i64 20]) ∧ Below w.heap.size w w' := by
 have HM := Mem.start w
 obtain ⟨f1, h1⟩ := Zh (Rt.ok s M t N)
 obtain ⟨f2, h2⟩ := Zh (Rt.ok s2 M2 t2 N2)
 rw [← h1.out, ← h2.out] at hbad
 have hz0 := za_rat
 have hs1 := sa_rz 0 0 (rZ_size 0 0)
 have k1 := la_rat s M t N
 have k2 := la_rat s2 M2 t2 N2
 go_enter Tryz.func104, Tryz.ntmps104
 cases f1 with
 | false =>
  clear hbad
  go_wp2_with (first | ((with_reducible refine g_bld ?_); refine a_rbl ?_) | (go_at_call 106; (with_reducible refine Zc HM (valid_n s M t N false hM hN h1 _) ?_; clear HM; intro w2 HM)) | (first | ((with_reducible refine g_ld ?_); refine a_ld HM ?_) | ((with_reducible refine g_st ?_); refine a_st HM ?_; clear HM; intro w1 HM) | ((with_reducible refine g_al ?_); refine a_al HM ?_; clear HM; intro bk w1 HM) | ((with_reducible refine g_bx ?_); refine a_bx HM ?_; clear HM; intro bk w1 HM) | ((with_reducible refine g_bld ?_); refine a_bld ?_)))
  refine bodyPost_ret (r_ct rfl rfl (HM.get Zl) (la_rz _ _)) rfl ⟨rfl, HM.low⟩
 | true =>
  obtain rfl : f2 = false := by simpa using hbad
  clear hbad
  go_wp2_with (first | ((with_reducible refine g_bld ?_); refine a_rbl ?_) | (go_at_call 106; (with_reducible refine Zc HM (valid_n s M t N true hM hN h1 _) ?_; clear HM; intro w2 HM)) | (go_at_call 106; (with_reducible refine Zc HM (valid_n s2 M2 t2 N2 false hM2 hN2 h2 _) ?_; clear HM; intro w2 HM)) | (first | ((with_reducible refine g_ld ?_); refine a_ld HM ?_) | ((with_reducible refine g_st ?_); refine a_st HM ?_; clear HM; intro w1 HM) | ((with_reducible refine g_al ?_); refine a_al HM ?_; clear HM; intro bk w1 HM) | ((with_reducible refine g_bx ?_); refine a_bx HM ?_; clear HM; intro bk w1 HM) | ((with_reducible refine g_bld ?_); refine a_bld ?_)))
  refine bodyPost_ret (r_ct rfl rfl (HM.get Zl) (la_rz _ _)) rfl ⟨rfl, HM.low⟩
theorem calc_mul (p q r u x y n d e : Int) (hp : p.natAbs < Bg.lim) (hq : q.natAbs < Bg.lim) (hr : r.natAbs < Bg.lim) (hu : u.natAbs < Bg.lim) (h1 : Hid (true = Rt.okz p q)) (h2 : Hid (true = Rt.okz r u)) (hx : Hid (x = p * r)) (hy : Hid (y = q * u)) (lx : x.natAbs < Bg.lim) (ly : y.natAbs < Bg.lim) (hm : Hid ((n, d, e) = Rt.mk x y)) (w : World) :
    Calls Tryz.prog 104 #[.agg (Bg.rZ p q), .agg (Bg.rZ r u), .func (.func 116) #[] #[]] w fun r w' => r = .returned (.tuple #[.agg (Bg.rZ n d), .int .i64 e]) ∧ Below w.heap.size w w' := by
 have HM := Mem.start w
 have hz0 := za_rat
 have hs1 := sa_rz n d (rZ_size 0 0)
 have k1 := la_rz p q
 have k2 := la_rz r u
 go_enter Tryz.func104, Tryz.ntmps104
 go_wp2_with (first | (go_at_call 106; (with_reducible refine Zc HM (valid_z p q true hp hq h1 _) ?_; clear HM; intro w2 HM)) | (go_at_call 106; (with_reducible refine Zc HM (valid_z r u true hr hu h2 _) ?_; clear HM; intro w2 HM)) | (go_at_call 116; (with_reducible refine Zc HM (mulfn_any p q r u x y hp hq hr hu hx hy lx ly _) ?_; clear HM; intro w2 HM)) | (go_at_call 103; (with_reducible refine Zc HM (make_z x y n d e lx ly hm _) ?_; clear HM; intro w2 HM)) | (first | ((with_reducible refine g_ld ?_); refine a_ld HM ?_) | ((with_reducible refine g_st ?_); refine a_st HM ?_; clear HM; intro w1 HM) | ((with_reducible refine g_al ?_); refine a_al HM ?_; clear HM; intro bk w1 HM) | ((with_reducible refine g_bx ?_); refine a_bx HM ?_; clear HM; intro bk w1 HM) | ((with_reducible refine g_bld ?_); refine a_bld ?_)))
 exact z9_48
theorem calc_quo (p q r u x y n d e : Int) (hp : p.natAbs < Bg.lim) (hq : q.natAbs < Bg.lim) (hr : r.natAbs < Bg.lim) (hu : u.natAbs < Bg.lim) (h1 : Hid (true = Rt.okz p q)) (h2 : Hid (true = Rt.okz r u)) (hx : Hid (x = p * u)) (hy : Hid (y = q * r)) (lx : x.natAbs < Bg.lim) (ly : y.natAbs < Bg.lim) (hm : Hid ((n, d, e) = Rt.mk x y)) (w : World) :
    Calls Tryz.prog 104 #[.agg (Bg.rZ p q), .agg (Bg.rZ r u), .func (.func 188) #[] #[]] w fun r w' => r = .returned (.tuple #[.agg (Bg.rZ n d), .int .i64 e]) ∧ Below w.heap.size w w' := by
 have HM := Mem.start w
 have hz0 := za_rat
 have hs1 := sa_rz n d (rZ_size 0 0)
 have k1 := la_rz p q
 have k2 := la_rz r u
 go_enter Tryz.func104, Tryz.ntmps104
 go_wp2_with (first | (go_at_call 106; (with_reducible refine Zc HM (valid_z p q true hp hq h1 _) ?_; clear HM; intro w2 HM)) | (go_at_call 106; (with_reducible refine Zc HM (valid_z r u true hr hu h2 _) ?_; clear HM; intro w2 HM)) | (go_at_call 188; (with_reducible refine Zc HM (quofn_any p q r u x y hp hq hr hu hx hy lx ly _) ?_; clear HM; intro w2 HM)) | (go_at_call 103; (with_reducible refine Zc HM (make_z x y n d e lx ly hm _) ?_; clear HM; intro w2 HM)) | (first | ((with_reducible refine g_ld ?_); refine a_ld HM ?_) | ((with_reducible refine g_st ?_); refine a_st HM ?_; clear HM; intro w1 HM) | ((with_reducible refine g_al ?_); refine a_al HM ?_; clear HM; intro bk w1 HM) | ((with_reducible refine g_bx ?_); refine a_bx HM ?_; clear HM; intro bk w1 HM) | ((with_reducible refine g_bld ?_); refine a_bld ?_)))
 exact z9_48
theorem calc_comb (b : Bool) (bm : Nat) (p q r u y0 y1 x0 x y n d e : Int) (hp : p.natAbs < Bg.lim) (hq : q.natAbs < Bg.lim) (hr : r.natAbs < Bg.lim) (hu : u.natAbs < Bg.lim) (h1 : Hid (true = Rt.okz p q)) (h2 : Hid (true = Rt.okz r u)) (hy0 : Hid (y0 = r * q)) (hy1 : Hid (y1 = if b then -y0 else y0)) (hx0 : Hid (x0 = p * u)) (hx : Hid (x = x0 + y1)) (hy : Hid (y = q * u)) (l1 : y0.natAbs < Bg.lim) (l3 : x0.natAbs < Bg.lim) (lx : x.natAbs < Bg.lim) (ly : y.natAbs < Bg.lim) (hm : Hid ((n, d, e) = Rt.mk x y)) (w : World) (hB : Blk w bm #[.bool b]) :
    Calls Tryz.prog 104 #[.agg (Bg.rZ p q), .agg (Bg.rZ r u), .func (.func 150) #[] #[.pointer (some ⟨bm, 0, none⟩)]] w fun r w' => r = .returned (.tuple #[.agg (Bg.rZ n d), .int .i64 e]) ∧ Below w.heap.size w w' := by
 have HM := Mem.start w
 have HB := Zi hB
 clear hB
 have hz0 := za_rat
 have hs1 := sa_rz n d (rZ_size 0 0)
 have k1 := la_rz p q
 have k2 := la_rz r u
 go_enter Tryz.func104, Tryz.ntmps104
 go_wp2_with (first | (go_at_call 106; (with_reducible refine Zc HM (valid_z p q true hp hq h1 _) ?_; clear HM; intro w2 HM)) | (go_at_call 106; (with_reducible refine Zc HM (valid_z r u true hr hu h2 _) ?_; clear HM; intro w2 HM)) | (go_at_call 150; (with_reducible refine Zc HM (combfn_any b bm p q r u y0 y1 x0 x y hp hq hr hu hy0 hy1 hx0 hx hy l1 l3 lx ly _ (HM.ro HB.out Zs)) ?_; clear HM; intro w2 HM)) | (go_at_call 103; (with_reducible refine Zc HM (make_z x y n d e lx ly hm _) ?_; clear HM; intro w2 HM)) | (first | ((with_reducible refine g_ld ?_); refine a_ld HM ?_) | ((with_reducible refine g_st ?_); refine a_st HM ?_; clear HM; intro w1 HM) | ((with_reducible refine g_al ?_); refine a_al HM ?_; clear HM; intro bk w1 HM) | ((with_reducible refine g_bx ?_); refine a_bx HM ?_; clear HM; intro bk w1 HM) | ((with_reducible refine g_bld ?_); refine a_bld ?_)))
 exact z9_48
end
section
theorem Rt.ok_parts {s t : Bool} {M N : Nat} (h : Rt.ok s M t N = true) : t = false ∧ N ≠ 0 ∧ Bg.bl M ≤ 480 ∧ Bg.bl N ≤ 480 ∧ (s = true → M ≠ 0) ∧ Nat.gcd M N = 1 := by
 unfold Rt.ok Rt.short at h
 simp only [Bool.and_eq_true, decide_eq_true_eq] at h
 obtain ⟨⟨h1, h2⟩, h3, h4, h5, h6⟩ := h
 have h7 := Int.sign_eq_one_iff_pos.1 (show (Bg.toZ t N).sign = 1 by rcases sign_v (Bg.toZ t N) with h | h | h <;> omega)
 have ht : t = false ∧ N ≠ 0 := by
  cases t
  ·exact ⟨rfl, by simp [Bg.toZ] at h7; omega⟩
  ·simp [Bg.toZ] at h7; omega
 refine ⟨ht.1, ht.2, h1, h2, ?_, by omega⟩
 intro hs
 subst hs
 simpa using h3
theorem Rt.ok_z {s t : Bool} {M N : Nat} (h : Rt.ok s M t N = true) : Bg.ratA s M t N = Bg.rZ (Bg.toZ s M) (Bg.toZ t N) ∧ Rt.okz (Bg.toZ s M) (Bg.toZ t N) = true := by
 obtain ⟨ht, hN, h1, h2, h3, h4⟩ := Rt.ok_parts h
 have e1 : decide (Bg.toZ s M < 0) = s := by
  cases s
  ·simp [Bg.toZ]
  ·have := h3 rfl; simp [Bg.toZ]; omega
 have e2 : decide (Bg.toZ t N < 0) = t := by rw [ht]; simp [Bg.toZ]
 constructor
 ·rw [rZ_ratA, e1, e2, Bg.toZ_abs, Bg.toZ_abs]
 ·unfold Rt.okz; rw [e1, e2, Bg.toZ_abs, Bg.toZ_abs]; exact h
theorem p2_480 {N : Nat} (hN : N < Bg.lim) (h : Bg.bl N ≤ 480) : N < Bg.p2 480 := Nat.lt_of_lt_of_le (Bg.bl_bounds hN).1 (Bg.p2_mono h)
structure Rt.Good (p q : Int) : Prop where
 bp : p.natAbs < Bg.p2 480
 bq : q.natAbs < Bg.p2 480
 pos : 0 < q
 one : Nat.gcd p.natAbs q.natAbs = 1
theorem Rt.good {p q : Int} (hp : p.natAbs < Bg.lim) (hq : q.natAbs < Bg.lim) (h : Rt.okz p q = true) : Rt.Good p q := by
 unfold Rt.okz at h
 obtain ⟨ht, hN, h1, h2, h3, h4⟩ := Rt.ok_parts h
 refine ⟨p2_480 hp h1, p2_480 hq h2, ?_, h4⟩
 have : ¬ q < 0 := by simpa using ht
 omega
theorem Rt.Good.lp {p q : Int} (h : Rt.Good p q) : p.natAbs < Bg.lim := Nat.lt_of_lt_of_le h.bp (by have := Bg.p2_mono (show 480 ≤ 1024 by decide); rwa [Bg.p2_lim] at this)
theorem Rt.Good.lq {p q : Int} (h : Rt.Good p q) : q.natAbs < Bg.lim := Nat.lt_of_lt_of_le h.bq (by have := Bg.p2_mono (show 480 ≤ 1024 by decide); rwa [Bg.p2_lim] at this)
theorem mul_480 {a b : Int} (ha : a.natAbs < Bg.p2 480) (hb : b.natAbs < Bg.p2 480) : (a * b).natAbs < Bg.p2 960 := by
 rw [Int.natAbs_mul, show 960 = 480 + 480 from rfl, Bg.p2_add]
 exact Nat.mul_lt_mul'' ha hb
theorem lim_960 {a : Int} (h : a.natAbs < Bg.p2 960) : a.natAbs < Bg.lim := Nat.lt_of_lt_of_le h (by have := Bg.p2_mono (show 960 ≤ 1024 by decide); rwa [Bg.p2_lim] at this)
theorem lim_961 {a b : Int} (ha : a.natAbs < Bg.p2 960) (hb : b.natAbs < Bg.p2 960) : (a + b).natAbs < Bg.lim := by
 have h := Bg.p2_mono (show 961 ≤ 1024 by decide)
 rw [Bg.p2_lim, Bg.p2_succ] at h
 omega
theorem Rt.okz_of {n d : Int} (h1 : Rt.short n.natAbs d.natAbs = true) (h2 : 0 < d) (h3 : Nat.gcd n.natAbs d.natAbs = 1) : Rt.okz n d = true := by
 unfold Rt.okz Rt.ok
 have e1 : decide (d < 0) = false := by simp; omega
 have e2 : Bg.toZ false d.natAbs = d := by simp [Bg.toZ]; omega
 rw [h1, e1, e2, h3, Int.sign_eq_one_of_pos h2]
 by_cases hn : n < 0
 ·have : n.natAbs ≠ 0 := by omega
  simp [hn, this]
 ·simp [hn]
def Rt.bin (k : Bool) (x y : Int) : Int × Int × Int := if k then Rt.mk x y else (0, 0, 20)
theorem Rt.bin_mk {x y n d e : Int} {k : Bool} (h : (n, d, e) = Rt.bin k x y) (hk : k = true) : (n, d, e) = Rt.mk x y := by rw [h, hk]; rfl
theorem Rt.bin_no {x y n d e : Int} {k : Bool} (h : (n, d, e) = Rt.bin k x y) (hk : k = false) : n = 0 ∧ d = 0 ∧ e = 20 := by
 rw [hk] at h; unfold Rt.bin at h; simpa using h
end
section
theorem calc_mul_g (s : Bool) (M : Nat) (t : Bool) (N : Nat) (s2 : Bool) (M2 : Nat) (t2 : Bool) (N2 : Nat) (n d e : Int) (hM : M < Bg.lim) (hN : N < Bg.lim) (hM2 : M2 < Bg.lim) (hN2 : N2 < Bg.lim) (hr : Hid ((n, d, e) = Rt.bin (Rt.ok s M t N && Rt.ok s2 M2 t2 N2) (Bg.toZ s M * Bg.toZ s2 M2) (Bg.toZ t N * Bg.toZ t2 N2))) (w : World) :
    Calls Tryz.prog 104 #[.agg (Bg.ratA s M t N), .agg (Bg.ratA s2 M2 t2 N2), .func (.func 116) #[] #[]] w fun r w' => r = .returned (.tuple #[.agg (Bg.rZ n d), .int .i64 e]) ∧ Below w.heap.size w w' := by
 cases hk : (Rt.ok s M t N && Rt.ok s2 M2 t2 N2) with
 | false =>
  obtain ⟨rfl, rfl, rfl⟩ := Rt.bin_no hr.out hk
  exact calc_bad s M t N s2 M2 t2 N2 _ hM hN hM2 hN2 hk w
 | true =>
  have hm := Rt.bin_mk hr.out hk
  obtain ⟨k1, k2⟩ : Rt.ok s M t N = true ∧ Rt.ok s2 M2 t2 N2 = true := by simpa using hk
  obtain ⟨e1, z1⟩ := Rt.ok_z k1
  obtain ⟨e2, z2⟩ := Rt.ok_z k2
  have g1 := Rt.good (by rw [Bg.toZ_abs]; exact hM) (by rw [Bg.toZ_abs]; exact hN) z1
  have g2 := Rt.good (by rw [Bg.toZ_abs]; exact hM2) (by rw [Bg.toZ_abs]; exact hN2) z2
  rw [e1, e2]
  exact calc_mul _ _ _ _ _ _ n d e g1.lp g1.lq g2.lp g2.lq z1.symm z2.symm rfl rfl (lim_960 (mul_480 g1.bp g2.bp)) (lim_960 (mul_480 g1.bq g2.bq)) hm w
theorem mul_g (s : Bool) (M : Nat) (t : Bool) (N : Nat) (s2 : Bool) (M2 : Nat) (t2 : Bool) (N2 : Nat) (n d e : Int) (hM : M < Bg.lim) (hN : N < Bg.lim) (hM2 : M2 < Bg.lim) (hN2 : N2 < Bg.lim) (hr : Hid ((n, d, e) = Rt.bin (Rt.ok s M t N && Rt.ok s2 M2 t2 N2) (Bg.toZ s M * Bg.toZ s2 M2) (Bg.toZ t N * Bg.toZ t2 N2))) (w : World) :
    Calls Tryz.prog 74 #[.agg (Bg.ratA s M t N), .agg (Bg.ratA s2 M2 t2 N2)] w fun r w' => r = .returned (.tuple #[.agg (Bg.rZ n d), .int .i64 e]) ∧ Below w.heap.size w w' := by
 have HM := Mem.start w
 have hz0 := za_rat
 have hs1 := sa_rz n d (rZ_size 0 0)
 have k1 := la_rat s M t N
 have k2 := la_rat s2 M2 t2 N2
 go_enter Tryz.func74, Tryz.ntmps74
 go_wp2_with (first | (go_at_call 104; (with_reducible refine Zc HM (calc_mul_g s M t N s2 M2 t2 N2 n d e hM hN hM2 hN2 hr _) ?_; clear HM; intro w2 HM)) | (first | ((with_reducible refine g_ld ?_); refine a_ld HM ?_) | ((with_reducible refine g_st ?_); refine a_st HM ?_; clear HM; intro w1 HM) | ((with_reducible refine g_al ?_); refine a_al HM ?_; clear HM; intro bk w1 HM) | ((with_reducible refine g_bx ?_); refine a_bx HM ?_; clear HM; intro bk w1 HM)))
 exact z9_48
theorem calc_quo_g (s : Bool) (M : Nat) (t : Bool) (N : Nat) (s2 : Bool) (M2 : Nat) (t2 : Bool) (N2 : Nat) (n d e : Int) (hM : M < Bg.lim) (hN : N < Bg.lim) (hM2 : M2 < Bg.lim) (hN2 : N2 < Bg.lim) (hr : Hid ((n, d, e) = Rt.bin (Rt.ok s M t N && Rt.ok s2 M2 t2 N2) (Bg.toZ s M * Bg.toZ t2 N2) (Bg.toZ t N * Bg.toZ s2 M2))) (w : World) :
    Calls Tryz.prog 104 #[.agg (Bg.ratA s M t N), .agg (Bg.ratA s2 M2 t2 N2), .func (.func 188) #[] #[]] w fun r w' => r = .returned (.tuple #[.agg (Bg.rZ n d), .int .i64 e]) ∧ Below w.heap.size w w' := by
 cases hk : (Rt.ok s M t N && Rt.ok s2 M2 t2 N2) with
 | false =>
  obtain ⟨rfl, rfl, rfl⟩ := Rt.bin_no hr.out hk
  exact calc_bad s M t N s2 M2 t2 N2 _ hM hN hM2 hN2 hk w
 | true =>
  have hm := Rt.bin_mk hr.out hk
  obtain ⟨k1, k2⟩ : Rt.ok s M t N = true ∧ Rt.ok s2 M2 t2 N2 = true := by simpa using hk
  obtain ⟨e1, z1⟩ := Rt.ok_z k1
  obtain ⟨e2, z2⟩ := Rt.ok_z k2
  have g1 := Rt.good (by rw [Bg.toZ_abs]; exact hM) (by rw [Bg.toZ_abs]; exact hN) z1
  have g2 := Rt.good (by rw [Bg.toZ_abs]; exact hM2) (by rw [Bg.toZ_abs]; exact hN2) z2
  rw [e1, e2]
  exact calc_quo _ _ _ _ _ _ n d e g1.lp g1.lq g2.lp g2.lq z1.symm z2.symm rfl rfl (lim_960 (mul_480 g1.bp g2.bq)) (lim_960 (mul_480 g1.bq g2.bp)) hm w
theorem quo_g (s : Bool) (M : Nat) (t : Bool) (N : Nat) (s2 : Bool) (M2 : Nat) (t2 : Bool) (N2 : Nat) (n d e : Int) (hM : M < Bg.lim) (hN : N < Bg.lim) (hM2 : M2 < Bg.lim) (hN2 : N2 < Bg.lim) (hr : Hid ((n, d, e) = Rt.bin (Rt.ok s M t N && Rt.ok s2 M2 t2 N2) (Bg.toZ s M * Bg.toZ t2 N2) (Bg.toZ t N * Bg.toZ s2 M2))) (w : World) :
    Calls Tryz.prog 138 #[.agg (Bg.ratA s M t N), .agg (Bg.ratA s2 M2 t2 N2)] w fun r w' => r = .returned (.tuple #[.agg (Bg.rZ n d), .int .i64 e]) ∧ Below w.heap.size w w' := by
 have HM := Mem.start w
 have hz0 := za_rat
 have hs1 := sa_rz n d (rZ_size 0 0)
 have k1 := la_rat s M t N
 have k2 := la_rat s2 M2 t2 N2
 go_enter Tryz.func138, Tryz.ntmps138
 go_wp2_with (first | (go_at_call 104; (with_reducible refine Zc HM (calc_quo_g s M t N s2 M2 t2 N2 n d e hM hN hM2 hN2 hr _) ?_; clear HM; intro w2 HM)) | (first | ((with_reducible refine g_ld ?_); refine a_ld HM ?_) | ((with_reducible refine g_st ?_); refine a_st HM ?_; clear HM; intro w1 HM) | ((with_reducible refine g_al ?_); refine a_al HM ?_; clear HM; intro bk w1 HM) | ((with_reducible refine g_bx ?_); refine a_bx HM ?_; clear HM; intro bk w1 HM)))
 exact z9_48
def Rt.num (b : Bool) (p q r u : Int) : Int := p * u + (if b then -(r * q) else r * q)
theorem calc_comb_g (b : Bool) (bm : Nat) (s : Bool) (M : Nat) (t : Bool) (N : Nat) (s2 : Bool) (M2 : Nat) (t2 : Bool) (N2 : Nat) (n d e : Int) (hM : M < Bg.lim) (hN : N < Bg.lim) (hM2 : M2 < Bg.lim) (hN2 : N2 < Bg.lim) (hr : Hid ((n, d, e) = Rt.bin (Rt.ok s M t N && Rt.ok s2 M2 t2 N2) (Rt.num b (Bg.toZ s M) (Bg.toZ t N) (Bg.toZ s2 M2) (Bg.toZ t2 N2)) (Bg.toZ t N * Bg.toZ t2 N2))) (w : World) (hB : Blk w bm #[.bool b]) :
    Calls Tryz.prog 104 #[.agg (Bg.ratA s M t N), .agg (Bg.ratA s2 M2 t2 N2), .func (.func 150) #[] #[.pointer (some ⟨bm, 0, none⟩)]] w fun r w' => r = .returned (.tuple #[.agg (Bg.rZ n d), .int .i64 e]) ∧ Below w.heap.size w w' := by
 cases hk : (Rt.ok s M t N && Rt.ok s2 M2 t2 N2) with
 | false =>
  obtain ⟨rfl, rfl, rfl⟩ := Rt.bin_no hr.out hk
  exact calc_bad s M t N s2 M2 t2 N2 _ hM hN hM2 hN2 hk w
 | true =>
  have hm := Rt.bin_mk hr.out hk
  obtain ⟨k1, k2⟩ : Rt.ok s M t N = true ∧ Rt.ok s2 M2 t2 N2 = true := by simpa using hk
  obtain ⟨e1, z1⟩ := Rt.ok_z k1
  obtain ⟨e2, z2⟩ := Rt.ok_z k2
  have g1 := Rt.good (by rw [Bg.toZ_abs]; exact hM) (by rw [Bg.toZ_abs]; exact hN) z1
  have g2 := Rt.good (by rw [Bg.toZ_abs]; exact hM2) (by rw [Bg.toZ_abs]; exact hN2) z2
  rw [e1, e2]
  have m1 := mul_480 g2.bp g1.bq
  have m2 := mul_480 g1.bp g2.bq
  have m3 : (if b then -(Bg.toZ s2 M2 * Bg.toZ t N) else Bg.toZ s2 M2 * Bg.toZ t N).natAbs < Bg.p2 960 := by cases b <;> simp [m1]
  exact calc_comb b bm _ _ _ _ _ _ _ _ _ n d e g1.lp g1.lq g2.lp g2.lq z1.symm z2.symm rfl rfl rfl rfl rfl (lim_960 m1) (lim_960 m2) (lim_961 m2 m3) (lim_960 (mul_480 g1.bq g2.bq)) hm w hB
theorem add_g (s : Bool) (M : Nat) (t : Bool) (N : Nat) (s2 : Bool) (M2 : Nat) (t2 : Bool) (N2 : Nat) (n d e : Int) (hM : M < Bg.lim) (hN : N < Bg.lim) (hM2 : M2 < Bg.lim) (hN2 : N2 < Bg.lim) (hr : Hid ((n, d, e) = Rt.bin (Rt.ok s M t N && Rt.ok s2 M2 t2 N2) (Rt.num false (Bg.toZ s M) (Bg.toZ t N) (Bg.toZ s2 M2) (Bg.toZ t2 N2)) (Bg.toZ t N * Bg.toZ t2 N2))) (w : World) :
    Calls Tryz.prog 62 #[.agg (Bg.ratA s M t N), .agg (Bg.ratA s2 M2 t2 N2)] w fun r w' => r = .returned (.tuple #[.agg (Bg.rZ n d), .int .i64 e]) ∧ Below w.heap.size w w' := by
 have HM := Mem.start w
 have hz0 := za_rat
 have hs1 := sa_rz n d (rZ_size 0 0)
 have k1 := la_rat s M t N
 have k2 := la_rat s2 M2 t2 N2
 go_enter Tryz.func62, Tryz.ntmps62
 go_upto_region 1 with (first | ((with_reducible refine g_ld ?_); refine a_ld HM ?_) | ((with_reducible refine g_st ?_); refine a_st HM ?_; clear HM; intro w1 HM) | ((with_reducible refine g_al ?_); refine a_al HM ?_; clear HM; intro bk w1 HM) | ((with_reducible refine g_bx ?_); refine a_bx HM ?_; clear HM; intro bk w1 HM))
 obtain ⟨b4, rfl⟩ := HM.nm0
 refine start_M [6] HM Zk (fun w0x H9 => ?_)
 replace HM := H9; clear H9
 refine k_ld 0 [3, 4, 5, 6, 7] (heldE HM) ?_
 refine k_ld 1 [3, 4, 5, 6, 7] (heldE HM) ?_
 refine j_one 2 fun K9 hK9 => ?_
 refine o_callg (combine_any false _) rfl ?_ ?_; (focus (refine h_call1 (ts := ?_) (x1 := ?_) ?_ Zk ?_; rotate_left 2; (focus rfl); rfl)); rintro e9 w1 ⟨bm, rfl, hB9, hn9, hL9⟩; replace HM := HM.fresh hL9 hB9 hn9; clear hL9 hB9 hn9; refine ⟨_, rfl, ?_⟩
 refine hK9 _ _ (heldE HM) ?_; clear hK9 K9; ((try simp only [Za]); (try simp only [Zx]); (try simp only [Zy]))
 refine j_one 3 fun K9 hK9 => ?_
 refine j_call3 (v := ?_) HM ?_ ?_; rotate_left 1; (focus (with_reducible (exact calc_comb_g false bm s M t N s2 M2 t2 N2 n d e hM hN hM2 hN2 hr _ (HM.get Zl)))); clear HM; intro w1 HM
 exact z9_56
theorem sub_g (s : Bool) (M : Nat) (t : Bool) (N : Nat) (s2 : Bool) (M2 : Nat) (t2 : Bool) (N2 : Nat) (n d e : Int) (hM : M < Bg.lim) (hN : N < Bg.lim) (hM2 : M2 < Bg.lim) (hN2 : N2 < Bg.lim) (hr : Hid ((n, d, e) = Rt.bin (Rt.ok s M t N && Rt.ok s2 M2 t2 N2) (Rt.num true (Bg.toZ s M) (Bg.toZ t N) (Bg.toZ s2 M2) (Bg.toZ t2 N2)) (Bg.toZ t N * Bg.toZ t2 N2))) (w : World) :
    Calls Tryz.prog 72 #[.agg (Bg.ratA s M t N), .agg (Bg.ratA s2 M2 t2 N2)] w fun r w' => r = .returned (.tuple #[.agg (Bg.rZ n d), .int .i64 e]) ∧ Below w.heap.size w w' := by
 have HM := Mem.start w
 have hz0 := za_rat
 have hs1 := sa_rz n d (rZ_size 0 0)
 have k1 := la_rat s M t N
 have k2 := la_rat s2 M2 t2 N2
 go_enter Tryz.func72, Tryz.ntmps72
 go_upto_region 1 with (first | ((with_reducible refine g_ld ?_); refine a_ld HM ?_) | ((with_reducible refine g_st ?_); refine a_st HM ?_; clear HM; intro w1 HM) | ((with_reducible refine g_al ?_); refine a_al HM ?_; clear HM; intro bk w1 HM) | ((with_reducible refine g_bx ?_); refine a_bx HM ?_; clear HM; intro bk w1 HM))
 obtain ⟨b4, rfl⟩ := HM.nm0
 refine start_M [6] HM Zk (fun w0x H9 => ?_)
 replace HM := H9; clear H9
 refine k_ld 0 [3, 4, 5, 6, 7] (heldE HM) ?_
 refine k_ld 1 [3, 4, 5, 6, 7] (heldE HM) ?_
 refine j_one 2 fun K9 hK9 => ?_
 refine o_callg (combine_any true _) rfl ?_ ?_; (focus (refine h_call1 (ts := ?_) (x1 := ?_) ?_ Zk ?_; rotate_left 2; (focus rfl); rfl)); rintro e9 w1 ⟨bm, rfl, hB9, hn9, hL9⟩; replace HM := HM.fresh hL9 hB9 hn9; clear hL9 hB9 hn9; refine ⟨_, rfl, ?_⟩
 refine hK9 _ _ (heldE HM) ?_; clear hK9 K9; ((try simp only [Za]); (try simp only [Zx]); (try simp only [Zy]))
 refine j_one 3 fun K9 hK9 => ?_
 refine j_call3 (v := ?_) HM ?_ ?_; rotate_left 1; (focus (with_reducible (exact calc_comb_g true bm s M t N s2 M2 t2 N2 n d e hM hN hM2 hN2 hr _ (HM.get Zl)))); clear HM; intro w1 HM
 exact z9_56
end
section
theorem Cmp_bad (s : Bool) (M : Nat) (t : Bool) (N : Nat) (s2 : Bool) (M2 : Nat) (t2 : Bool) (N2 : Nat) (hM : M < Bg.lim) (hN : N < Bg.lim) (hM2 : M2 < Bg.lim) (hN2 : N2 < Bg.lim) (hbad : (Rt.ok s M t N && Rt.ok s2 M2 t2 N2) = false) (w : World) :
    Calls Tryz.prog 71 #[.agg (Bg.ratA s M t N), .agg (Bg.ratA s2 M2 t2 N2)] w fun r w' => r = .returned (.tuple #[.int .i64 0, .int .i64 20]) ∧ Below w.heap.size w w' := by
 have HM := Mem.start w
 obtain ⟨f1, h1⟩ := Zh (Rt.ok s M t N)
 obtain ⟨f2, h2⟩ := Zh (Rt.ok s2 M2 t2 N2)
 rw [← h1.out, ← h2.out] at hbad
 have k1 := la_rat s M t N
 have k2 := la_rat s2 M2 t2 N2
 go_enter Tryz.func71, Tryz.ntmps71
 cases f1 with
 | false =>
  clear hbad
  go_wp2_with (first | (go_at_call 106; (with_reducible refine Zc HM (valid_n s M t N false hM hN h1 _) ?_; clear HM; intro w2 HM)) | (first | ((with_reducible refine g_ld ?_); refine a_ld HM ?_) | ((with_reducible refine g_bx ?_); refine a_bx HM ?_; clear HM; intro bk w1 HM)))
  go_ret2
  exact ⟨rfl, HM.low⟩
 | true =>
  obtain rfl : f2 = false := by simpa using hbad
  clear hbad
  go_wp2_with (first | (go_at_call 106; (with_reducible refine Zc HM (valid_n s M t N true hM hN h1 _) ?_; clear HM; intro w2 HM)) | (go_at_call 106; (with_reducible refine Zc HM (valid_n s2 M2 t2 N2 false hM2 hN2 h2 _) ?_; clear HM; intro w2 HM)) | (first | ((with_reducible refine g_ld ?_); refine a_ld HM ?_) | ((with_reducible refine g_bx ?_); refine a_bx HM ?_; clear HM; intro bk w1 HM)))
  go_ret2
  exact ⟨rfl, HM.low⟩
theorem Cmp_zz (p q r u x y g : Int) (hp : p.natAbs < Bg.lim) (hq : q.natAbs < Bg.lim) (hr : r.natAbs < Bg.lim) (hu : u.natAbs < Bg.lim) (h1 : Hid (true = Rt.okz p q)) (h2 : Hid (true = Rt.okz r u)) (hx : Hid (x = p * u)) (hy : Hid (y = r * q)) (hg : Hid (g = (x - y).sign)) (lx : x.natAbs < Bg.lim) (ly : y.natAbs < Bg.lim) (w : World) :
    Calls Tryz.prog 71 #[.agg (Bg.rZ p q), .agg (Bg.rZ r u)] w fun r w' => r = .returned (.tuple #[.int .i64 g, .int .i64 0]) ∧ Below w.heap.size w w' := by
 have HM := Mem.start w
 have k1 := la_rz p q
 have k2 := la_rz r u
 have k3 := la_rznum p q
 have k4 := la_rzden p q
 have k5 := la_rznum r u
 have k6 := la_rzden r u
 go_enter Tryz.func71, Tryz.ntmps71
 go_upto_region 3 with (first | (go_at_call 106; (with_reducible refine Zc HM (valid_z p q true hp hq h1 _) ?_; clear HM; intro w2 HM)) | (go_at_call 106; (with_reducible refine Zc HM (valid_z r u true hr hu h2 _) ?_; clear HM; intro w2 HM)) | (first | ((with_reducible refine g_ld ?_); refine a_ld HM ?_) | ((with_reducible refine g_bx ?_); refine a_bx HM ?_; clear HM; intro bk w1 HM)))
 refine start_M [] HM Zk (fun w0x H9 => ?_)
 replace HM := H9; clear H9
 refine k_fa 0 (heldE HM) ?_
 refine k_ld 1 [] (heldE HM) ?_
 refine k_fa 2 (heldE HM) ?_
 refine k_ld 3 [] (heldE HM) ?_
 refine k_fa 5 (heldE HM) ?_
 refine k_ld 6 [] (heldE HM) ?_
 refine k_fa 7 (heldE HM) ?_
 refine k_ld 8 [] (heldE HM) ?_
 refine j_one 4 fun K9 hK9 => ?_
 refine j_call2 (v := ?_) HM ?_ ?_; rotate_left 1; (focus (with_reducible (first | exact product_f p u x hp hu hx lx _ | exact product_f r q y hr hq hy ly _ | exact cmp_z x y g lx ly hg _))); clear HM; intro w1 HM
 refine hK9 _ _ (heldE HM) ?_; clear hK9 K9
 refine j_one 9 fun K9 hK9 => ?_
 refine j_call2 (v := ?_) HM ?_ ?_; rotate_left 1; (focus (with_reducible (first | exact product_f p u x hp hu hx lx _ | exact product_f r q y hr hq hy ly _ | exact cmp_z x y g lx ly hg _))); clear HM; intro w1 HM
 refine hK9 _ _ (heldE HM) ?_; clear hK9 K9
 refine j_one 10 fun K9 hK9 => ?_
 refine j_call2 (v := ?_) HM ?_ ?_; rotate_left 1; (focus (with_reducible (first | exact product_f p u x hp hu hx lx _ | exact product_f r q y hr hq hy ly _ | exact cmp_z x y g lx ly hg _))); clear HM; intro w1 HM
 refine hK9 _ _ (heldE HM) ?_; clear hK9 K9
 refine k_mv 11 (heldE HM) ?_
 refine k_mv 12 (heldE HM) ?_
 refine wpAnyL_done Zk ?_ _
 (go_wp2_with fail; go_ret2; exact ⟨rfl, HM.low⟩)
theorem Cmp_g (s : Bool) (M : Nat) (t : Bool) (N : Nat) (s2 : Bool) (M2 : Nat) (t2 : Bool) (N2 : Nat) (g e : Int) (hr : Hid ((g, e) = if (Rt.ok s M t N && Rt.ok s2 M2 t2 N2) then ((Bg.toZ s M * Bg.toZ t2 N2 - Bg.toZ s2 M2 * Bg.toZ t N).sign, 0) else (0, 20))) (hM : M < Bg.lim) (hN : N < Bg.lim) (hM2 : M2 < Bg.lim) (hN2 : N2 < Bg.lim) (w : World) :
    Calls Tryz.prog 71 #[.agg (Bg.ratA s M t N), .agg (Bg.ratA s2 M2 t2 N2)] w fun r w' => r = .returned (.tuple #[.int .i64 g, .int .i64 e]) ∧ Below w.heap.size w w' := by
 have hr2 := hr.out
 cases hk : (Rt.ok s M t N && Rt.ok s2 M2 t2 N2) with
 | false =>
  rw [hk] at hr2
  obtain ⟨rfl, rfl⟩ : g = 0 ∧ e = 20 := by simpa using hr2
  exact Cmp_bad s M t N s2 M2 t2 N2 hM hN hM2 hN2 hk w
 | true =>
  rw [hk] at hr2
  obtain ⟨rfl, rfl⟩ : g = (Bg.toZ s M * Bg.toZ t2 N2 - Bg.toZ s2 M2 * Bg.toZ t N).sign ∧ e = 0 := by simpa using hr2
  obtain ⟨k1, k2⟩ : Rt.ok s M t N = true ∧ Rt.ok s2 M2 t2 N2 = true := by simpa using hk
  obtain ⟨e1, z1⟩ := Rt.ok_z k1
  obtain ⟨e2, z2⟩ := Rt.ok_z k2
  have g1 := Rt.good (by rw [Bg.toZ_abs]; exact hM) (by rw [Bg.toZ_abs]; exact hN) z1
  have g2 := Rt.good (by rw [Bg.toZ_abs]; exact hM2) (by rw [Bg.toZ_abs]; exact hN2) z2
  rw [e1, e2]
  exact Cmp_zz _ _ _ _ _ _ _ g1.lp g1.lq g2.lp g2.lq z1.symm z2.symm rfl rfl rfl (lim_960 (mul_480 g1.bp g2.bq)) (lim_960 (mul_480 g2.bp g1.bq)) w
end
section
theorem small_480 {z : Int} (h : z.natAbs < 18446744073709551616) : z.natAbs < Bg.p2 480 := Nat.lt_of_lt_of_le h (by have := Bg.p2_mono (show 64 ≤ 480 by decide); unfold Bg.p2 at *; omega)
end
section
theorem Abs_bad (s : Bool) (M : Nat) (t : Bool) (N : Nat) (hM : M < Bg.lim) (hN : N < Bg.lim) (h1 : Hid (false = Rt.ok s M t N)) (w : World) :
    Calls Tryz.prog 73 #[.agg (Bg.ratA s M t N)] w fun r w' => r = .returned (.tuple #[.agg (Bg.rZ 0 0), .int .i64 20]) ∧ Below w.heap.size w w' := by
 have HM := Mem.start w
 have hz0 := za_rat
 have hs1 := sa_rz 0 0 (rZ_size 0 0)
 have k1 := la_rat s M t N
 go_enter Tryz.func73, Tryz.ntmps73
 go_wp2_with (first | ((with_reducible refine g_bld ?_); refine a_rbl ?_) | (go_at_call 106; (with_reducible refine Zc HM (valid_n s M t N false hM hN h1 _) ?_; clear HM; intro w2 HM)) | (first | ((with_reducible refine g_ld ?_); refine a_ld HM ?_) | ((with_reducible refine g_st ?_); refine a_st HM ?_; clear HM; intro w1 HM) | ((with_reducible refine g_al ?_); refine a_al HM ?_; clear HM; intro bk w1 HM) | ((with_reducible refine g_bx ?_); refine a_bx HM ?_; clear HM; intro bk w1 HM) | ((with_reducible refine g_bld ?_); refine a_bld ?_)))
 exact z9_48
theorem Sign_bad (s : Bool) (M : Nat) (t : Bool) (N : Nat) (hM : M < Bg.lim) (hN : N < Bg.lim) (h1 : Hid (false = Rt.ok s M t N)) (w : World) :
    Calls Tryz.prog 110 #[.agg (Bg.ratA s M t N)] w fun r w' => r = .returned (.tuple #[.int .i64 0, .int .i64 20]) ∧ Below w.heap.size w w' := by
 have HM := Mem.start w
 have hz0 := za_rat
 have hs1 := sa_rz 0 0 (rZ_size 0 0)
 have k1 := la_rat s M t N
 go_enter Tryz.func110, Tryz.ntmps110
 go_wp2_with (first | ((with_reducible refine g_bld ?_); refine a_rbl ?_) | (go_at_call 106; (with_reducible refine Zc HM (valid_n s M t N false hM hN h1 _) ?_; clear HM; intro w2 HM)) | (first | ((with_reducible refine g_ld ?_); refine a_ld HM ?_) | ((with_reducible refine g_bx ?_); refine a_bx HM ?_; clear HM; intro bk w1 HM)))
 go_ret2
 exact ⟨rfl, HM.low⟩
theorem Abs_zz (p q z : Int) (hp : p.natAbs < Bg.lim) (hq : q.natAbs < Bg.lim) (h1 : Hid (true = Rt.okz p q)) (hz : Hid (z = (p.natAbs : Int))) (hq0 : 0 < q) (w : World) :
    Calls Tryz.prog 73 #[.agg (Bg.rZ p q)] w fun r w' => r = .returned (.tuple #[.agg (Bg.rZ z q), .int .i64 0]) ∧ Below w.heap.size w w' := by
 have HM := Mem.start w
 have hz0 := za_rat
 have k1 := la_rz p q
 have k3 := la_rznum p q
 have k4 := la_rzden p q
 have hs1 := sa_rz z q (rZ_size 0 0)
 have ez : Bg.rZ z q = Bg.ratA false p.natAbs (decide (q < 0)) q.natAbs := by rw [rZ_ratA, hz.out, Int.natAbs_natCast, Zf (show ¬ ((p.natAbs : Nat) : Int) < 0 by omega)]
 have hs2 : SA 4 (Bg.rZ p q) 0 (.bool false) (Bg.rZ z q) := by rw [ez, rZ_ratA p q]; exact sa_rnneg _ _ _ _ _
 have k5 := la_rz z q
 clear ez
 go_enter Tryz.func73, Tryz.ntmps73
 go_wp2_with (first | (go_at_call 106; (with_reducible refine Zc HM (valid_z p q true hp hq h1 _) ?_; clear HM; intro w2 HM)) | (first | ((with_reducible refine g_ld ?_); refine a_ld HM ?_) | ((with_reducible refine g_st ?_); refine a_st HM ?_; clear HM; intro w1 HM) | ((with_reducible refine g_al ?_); refine a_al HM ?_; clear HM; intro bk w1 HM) | ((with_reducible refine g_bx ?_); refine a_bx HM ?_; clear HM; intro bk w1 HM) | ((with_reducible refine g_bld ?_); refine a_bld ?_)))
 exact z9_48
theorem sign_zr (p g : Int) (hp : p.natAbs < Bg.lim) (hg : Hid (g = p.sign)) (w : World) :
    Calls Tryz.prog 78 #[.agg (Bg.zA p)] w fun e w' => e = .returned (.int .i64 g) ∧ Below w.heap.size w w' := by
 rw [zA_int p]; exact sign_any _ _ hp g (Zi (by rw [Bg.toZ_iv]; exact hg.out)) w
theorem Sign_zz (p q g : Int) (hp : p.natAbs < Bg.lim) (hq : q.natAbs < Bg.lim) (h1 : Hid (true = Rt.okz p q)) (hg : Hid (g = p.sign)) (w : World) :
    Calls Tryz.prog 110 #[.agg (Bg.rZ p q)] w fun r w' => r = .returned (.tuple #[.int .i64 g, .int .i64 0]) ∧ Below w.heap.size w w' := by
 have HM := Mem.start w
 have hz0 := za_rat
 have k1 := la_rz p q
 have k3 := la_rznum p q
 have k4 := la_rzden p q
 go_enter Tryz.func110, Tryz.ntmps110
 go_wp2_with (first | (go_at_call 106; (with_reducible refine Zc HM (valid_z p q true hp hq h1 _) ?_; clear HM; intro w2 HM)) | (go_at_call 78; (with_reducible refine Zc HM (sign_zr p g hp hg _) ?_; clear HM; intro w2 HM)) | (first | ((with_reducible refine g_ld ?_); refine a_ld HM ?_) | ((with_reducible refine g_bx ?_); refine a_bx HM ?_; clear HM; intro bk w1 HM)))
 go_ret2
 exact ⟨rfl, HM.low⟩
theorem Abs_g (s : Bool) (M : Nat) (t : Bool) (N : Nat) (n d e : Int) (hr : Hid ((n, d, e) = if Rt.ok s M t N then ((M : Int), Bg.toZ t N, 0) else (0, 0, 20))) (hM : M < Bg.lim) (hN : N < Bg.lim) (w : World) :
    Calls Tryz.prog 73 #[.agg (Bg.ratA s M t N)] w fun r w' => r = .returned (.tuple #[.agg (Bg.rZ n d), .int .i64 e]) ∧ Below w.heap.size w w' := by
 have hr2 := hr.out
 cases hk : Rt.ok s M t N with
 | false =>
  rw [hk] at hr2
  obtain ⟨rfl, rfl, rfl⟩ : n = 0 ∧ d = 0 ∧ e = 20 := by simpa using hr2
  exact Abs_bad s M t N hM hN hk.symm w
 | true =>
  rw [hk] at hr2
  obtain ⟨rfl, rfl, rfl⟩ : n = (M : Int) ∧ d = Bg.toZ t N ∧ e = 0 := by simpa using hr2
  obtain ⟨e1, z1⟩ := Rt.ok_z hk
  have g := Rt.good (by rw [Bg.toZ_abs]; exact hM) (by rw [Bg.toZ_abs]; exact hN) z1
  rw [e1]
  exact Abs_zz _ _ _ g.lp g.lq z1.symm (Zi (by rw [Bg.toZ_abs])) g.pos w
theorem Sign_g (s : Bool) (M : Nat) (t : Bool) (N : Nat) (n e : Int) (hr : Hid ((n, e) = if Rt.ok s M t N then ((Bg.toZ s M).sign, 0) else (0, 20))) (hM : M < Bg.lim) (hN : N < Bg.lim) (w : World) :
    Calls Tryz.prog 110 #[.agg (Bg.ratA s M t N)] w fun r w' => r = .returned (.tuple #[.int .i64 n, .int .i64 e]) ∧ Below w.heap.size w w' := by
 have hr2 := hr.out
 cases hk : Rt.ok s M t N with
 | false =>
  rw [hk] at hr2
  obtain ⟨rfl, rfl⟩ : n = 0 ∧ e = 20 := by simpa using hr2
  exact Sign_bad s M t N hM hN hk.symm w
 | true =>
  rw [hk] at hr2
  obtain ⟨rfl, rfl⟩ : n = (Bg.toZ s M).sign ∧ e = 0 := by simpa using hr2
  obtain ⟨e1, z1⟩ := Rt.ok_z hk
  have g := Rt.good (by rw [Bg.toZ_abs]; exact hM) (by rw [Bg.toZ_abs]; exact hN) z1
  rw [e1]
  exact Sign_zz _ _ _ g.lp g.lq z1.symm rfl w
end
end Go.Proofs.YtiekmabiecalbaaGreatDoor
