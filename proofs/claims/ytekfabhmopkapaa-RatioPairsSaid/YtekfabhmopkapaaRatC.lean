/- ratio's four operations: the function values. -/
import Derived.Test.YtekfabhmopkapaaRatS
namespace Go.Proofs.Ytekfabhmopkapaa
set_option maxRecDepth 8000
open Go.RowKit
theorem Mem.fresh {w0 w w' : World} {X : List Nat} {L : List (Nat × Array Value)} {b : Nat} {c : Array Value} (h : Mem w0 X L w) (hb : Below w.heap.size w w') (hc : Blk w' b c) (hn : w.heap.size ≤ b) : Mem w0 X ((b, c) :: L) w' := by
  have h2 := h.call hb
  refine ⟨h2.only, ?_, ?_, ?_⟩
  · intro p hp
    rcases List.mem_cons.1 hp with rfl | hp
    · exact hc
    · exact h2.blk p hp
  · intro p hp
    rcases List.mem_cons.1 hp with rfl | hp
    · exact .inl (Nat.le_trans h.only.size hn)
    · exact h2.own p hp
  · rw [List.map_cons, List.nodup_cons]
    refine ⟨?_, h2.nod⟩
    intro hm
    obtain ⟨p, hp, e⟩ := List.mem_map.1 hm
    have := (h.blk p hp).lt
    omega
theorem combine_any (b : Bool) (w : World) :
    Calls Try.prog 62 #[.bool b] w fun r w' => ∃ bm : Nat, r = .returned (.func (.func 85) #[] #[.pointer (some ⟨bm, 0, none⟩)]) ∧ Blk w' bm #[.bool b] ∧ w.heap.size ≤ bm ∧ Below w.heap.size w w' := by
  have HM := Mem.start w
  go_enter Try.func62, Try.ntmps62
  go_wp2_with (first | fail | (first | ((with_reducible refine g_ld ?_); refine a_ld HM ?_) | ((with_reducible refine g_st ?_); refine a_st HM ?_; clear HM; intro w1 HM) | ((with_reducible refine g_al ?_); refine a_al HM ?_; clear HM; intro bk w1 HM) | ((with_reducible refine g_bx ?_); refine a_bx HM ?_; clear HM; intro bk w1 HM) | ((with_reducible refine g_bld ?_); refine a_bld ?_)))
  obtain ⟨bm, rfl⟩ := HM.nm0
  go_ret
  refine ⟨bm, rfl, HM.get (by ((repeat (first | exact Look.here | refine Look.there ?_)); done)), ?_, HM.low⟩
  rcases HM.own (bm, #[.bool b]) (by simp) with h | h
  · exact h
  · cases h
theorem product_f (p d z : Int) (hp : p.natAbs < Bg.lim) (hd : d.natAbs < Bg.lim) (hz : Hid (z = p * d)) (hl : z.natAbs < Bg.lim) (w : World) :
    Calls Try.prog 64 #[.agg (Bg.zA p), .agg (Bg.zA d)] w fun r w' => r = .returned (.agg (Bg.zA z)) ∧ Below w.heap.size w w' := by
  rw [zA_int p, zA_int d]
  exact product_n _ _ _ _ z z hp hd (Lib.hid (by rw [Bg.toZ_iv, Bg.toZ_iv]; exact hz.out)) (Lib.hid (by unfold Bg.resZ; rw [if_pos hl])) w
theorem rproduct_f (p d z : Int) (hp : p.natAbs < Bg.lim) (hd : d.natAbs < Bg.lim) (hz : Hid (z = p * d)) (hl : z.natAbs < Bg.lim) (w : World) :
    Calls Try.prog 70 #[.agg (Bg.zA p), .agg (Bg.zA d)] w fun r w' => r = .returned (.agg (Bg.zA z)) ∧ Below w.heap.size w w' := by
  rw [zA_int p, zA_int d]
  exact rproduct_n _ _ _ _ z z hp hd (Lib.hid (by rw [Bg.toZ_iv, Bg.toZ_iv]; exact hz.out)) (Lib.hid (by unfold Bg.resZ; rw [if_pos hl])) w
theorem add_f2 (p d z : Int) (hp : p.natAbs < Bg.lim) (hd : d.natAbs < Bg.lim) (hz : Hid (z = p + d)) (hl : z.natAbs < Bg.lim) (w : World) :
    Calls Try.prog 86 #[.agg (Bg.zA p), .agg (Bg.zA d)] w fun r w' => r = .returned (.tuple #[.agg (Bg.zA z), .int .i64 0]) ∧ Below w.heap.size w w' :=
  add_z p d z 0 z hp hd hz (Lib.hid (by unfold Bg.resZ; rw [if_pos hl])) (Lib.hid (by unfold Bg.resE; rw [if_pos hl])) w
set_option maxHeartbeats 2000000 in
theorem mulfn_any (p q r u x y : Int) (hp : p.natAbs < Bg.lim) (hq : q.natAbs < Bg.lim) (hr : r.natAbs < Bg.lim) (hu : u.natAbs < Bg.lim) (hx : Hid (x = p * r)) (hy : Hid (y = q * u)) (lx : x.natAbs < Bg.lim) (ly : y.natAbs < Bg.lim) (w : World) :
    Calls Try.prog 63 #[.agg (Bg.rZ p q), .agg (Bg.rZ r u)] w fun e w' => e = .returned (.tuple #[.agg (Bg.zA x), .agg (Bg.zA y)]) ∧ Below w.heap.size w w' := by
  have HM := Mem.start w
  have k1 := la_rznum p q
  have k2 := la_rzden p q
  have k3 := la_rznum r u
  have k4 := la_rzden r u
  go_enter Try.func63, Try.ntmps63
  go_upto_region 1 with (first | fail | (first | ((with_reducible refine g_ld ?_); refine a_ld HM ?_) | ((with_reducible refine g_st ?_); refine a_st HM ?_; clear HM; intro w1 HM) | ((with_reducible refine g_al ?_); refine a_al HM ?_; clear HM; intro bk w1 HM) | ((with_reducible refine g_bx ?_); refine a_bx HM ?_; clear HM; intro bk w1 HM) | ((with_reducible refine g_bld ?_); refine a_bld ?_)))
  obtain ⟨b5, rfl⟩ := HM.nm0
  obtain ⟨b4, rfl⟩ := HM.nm1
  refine start_M [10, 11] HM (by kernel_rfl) (fun w0x H9 => ?_)
  replace HM := H9; clear H9
  refine k_fa 0 (heldE HM) ?_
  refine k_ld 1 [4, 9, 10, 11] (heldE HM) ?_
  refine k_fa 2 (heldE HM) ?_
  refine k_ld 3 [4, 9, 10, 11] (heldE HM) ?_
  refine k_fa 5 (heldE HM) ?_
  refine k_ld 6 [9, 10, 11] (heldE HM) ?_
  refine k_fa 7 (heldE HM) ?_
  refine k_ld 8 [9, 10, 11] (heldE HM) ?_
  refine j_one 4 fun K9 hK9 => ?_
  refine j_call2 (v := ?_) HM ?_ ?_; rotate_left 1; (focus (with_reducible (first | exact product_f p r x hp hr hx lx _ | exact product_f q u y hq hu hy ly _))); clear HM; intro w1 HM
  refine hK9 _ _ (heldE HM) ?_; clear hK9 K9
  refine j_one 9 fun K9 hK9 => ?_
  refine j_call2 (v := ?_) HM ?_ ?_; rotate_left 1; (focus (with_reducible (first | exact product_f p r x hp hr hx lx _ | exact product_f q u y hq hu hy ly _))); clear HM; intro w1 HM
  refine hK9 _ _ (heldE HM) ?_; clear hK9 K9
  refine j_one 10 fun K9 hK9 => ?_
  refine j_st HM ?_; clear HM; intro w1 HM
  refine hK9 _ _ heldN ?_; clear hK9 K9
  refine j_one 11 fun K9 hK9 => ?_
  refine j_st HM ?_; clear HM; intro w1 HM
  refine hK9 _ _ heldN ?_; clear hK9 K9
  refine wpAnyL_done (by kernel_rfl) ?_ _
  (go_wp2_with fail; refine bodyPost_ret (r_cc (b := b4) (k := 0) (b2 := b5) (k2 := 0) rfl rfl rfl (HM.get (by ((repeat (first | exact Look.here | refine Look.there ?_)); done))) (la_z _) (HM.get (by ((repeat (first | exact Look.here | refine Look.there ?_)); done))) (la_z _)) rfl ⟨rfl, HM.low⟩)
set_option maxHeartbeats 2000000 in
theorem quofn_any (p q r u x y : Int) (hp : p.natAbs < Bg.lim) (hq : q.natAbs < Bg.lim) (hr : r.natAbs < Bg.lim) (hu : u.natAbs < Bg.lim) (hx : Hid (x = p * u)) (hy : Hid (y = q * r)) (lx : x.natAbs < Bg.lim) (ly : y.natAbs < Bg.lim) (w : World) :
    Calls Try.prog 65 #[.agg (Bg.rZ p q), .agg (Bg.rZ r u)] w fun e w' => e = .returned (.tuple #[.agg (Bg.zA x), .agg (Bg.zA y)]) ∧ Below w.heap.size w w' := by
  have HM := Mem.start w
  have k1 := la_rznum p q
  have k2 := la_rzden p q
  have k3 := la_rznum r u
  have k4 := la_rzden r u
  go_enter Try.func65, Try.ntmps65
  go_upto_region 1 with (first | fail | (first | ((with_reducible refine g_ld ?_); refine a_ld HM ?_) | ((with_reducible refine g_st ?_); refine a_st HM ?_; clear HM; intro w1 HM) | ((with_reducible refine g_al ?_); refine a_al HM ?_; clear HM; intro bk w1 HM) | ((with_reducible refine g_bx ?_); refine a_bx HM ?_; clear HM; intro bk w1 HM) | ((with_reducible refine g_bld ?_); refine a_bld ?_)))
  obtain ⟨b5, rfl⟩ := HM.nm0
  obtain ⟨b4, rfl⟩ := HM.nm1
  refine start_M [10, 11] HM (by kernel_rfl) (fun w0x H9 => ?_)
  replace HM := H9; clear H9
  refine k_fa 0 (heldE HM) ?_
  refine k_ld 1 [4, 9, 10, 11] (heldE HM) ?_
  refine k_fa 2 (heldE HM) ?_
  refine k_ld 3 [4, 9, 10, 11] (heldE HM) ?_
  refine k_fa 5 (heldE HM) ?_
  refine k_ld 6 [9, 10, 11] (heldE HM) ?_
  refine k_fa 7 (heldE HM) ?_
  refine k_ld 8 [9, 10, 11] (heldE HM) ?_
  refine j_one 4 fun K9 hK9 => ?_
  refine j_call2 (v := ?_) HM ?_ ?_; rotate_left 1; (focus (with_reducible (first | exact product_f p u x hp hu hx lx _ | exact product_f q r y hq hr hy ly _))); clear HM; intro w1 HM
  refine hK9 _ _ (heldE HM) ?_; clear hK9 K9
  refine j_one 9 fun K9 hK9 => ?_
  refine j_call2 (v := ?_) HM ?_ ?_; rotate_left 1; (focus (with_reducible (first | exact product_f p u x hp hu hx lx _ | exact product_f q r y hq hr hy ly _))); clear HM; intro w1 HM
  refine hK9 _ _ (heldE HM) ?_; clear hK9 K9
  refine j_one 10 fun K9 hK9 => ?_
  refine j_st HM ?_; clear HM; intro w1 HM
  refine hK9 _ _ heldN ?_; clear hK9 K9
  refine j_one 11 fun K9 hK9 => ?_
  refine j_st HM ?_; clear HM; intro w1 HM
  refine hK9 _ _ heldN ?_; clear hK9 K9
  refine wpAnyL_done (by kernel_rfl) ?_ _
  (go_wp2_with fail; refine bodyPost_ret (r_cc (b := b4) (k := 0) (b2 := b5) (k2 := 0) rfl rfl rfl (HM.get (by ((repeat (first | exact Look.here | refine Look.there ?_)); done))) (la_z _) (HM.get (by ((repeat (first | exact Look.here | refine Look.there ?_)); done))) (la_z _)) rfl ⟨rfl, HM.low⟩)
theorem la_b1 (b : Bool) : LA 4 #[.bool b] 0 (.bool b) := LA.one (by kernel_rfl) rfl
/-- What combine's function value returns. -/
theorem neg_f (p z : Int) (hp : p.natAbs < Bg.lim) (hz : Hid (z = -p)) (w : World) :
    Calls Try.prog 52 #[.agg (Bg.zA p)] w fun e w' => e = .returned (.agg (Bg.zA z)) ∧ Below w.heap.size w w' := neg_z p z hp hz w
set_option maxHeartbeats 4000000 in
theorem combfn_any (b : Bool) (bm : Nat) (p q r u y0 y1 x0 x z : Int) (hp : p.natAbs < Bg.lim) (hq : q.natAbs < Bg.lim) (hr : r.natAbs < Bg.lim) (hu : u.natAbs < Bg.lim) (hy0 : Hid (y0 = r * q)) (hy1 : Hid (y1 = if b then -y0 else y0)) (hx0 : Hid (x0 = p * u)) (hx : Hid (x = x0 + y1)) (hz : Hid (z = q * u))
    (l1 : y0.natAbs < Bg.lim) (l3 : x0.natAbs < Bg.lim) (l4 : x.natAbs < Bg.lim) (l5 : z.natAbs < Bg.lim) (w : World) (hB : Blk w bm #[.bool b]) :
    Calls Try.prog 85 #[.agg (Bg.rZ p q), .agg (Bg.rZ r u), .pointer (some ⟨bm, 0, none⟩)] w fun e w' => e = .returned (.tuple #[.agg (Bg.zA x), .agg (Bg.zA z)]) ∧ Below w.heap.size w w' := by
  have HM := Mem.start w
  have HB := Lib.hid hB
  have k1 := la_rznum p q
  have k2 := la_rzden p q
  have k3 := la_rznum r u
  have k4 := la_rzden r u
  have k5 := la_b1 b
  have l2 : y1.natAbs < Bg.lim := by rw [hy1.out]; cases b <;> simp [l1]
  clear hB
  go_enter Try.func85, Try.ntmps85
  go_upto_region 2 with (first | (go_at_call 64; ((with_reducible refine (product_f r q y0 hr hq hy0 l1 _).mono ?_); rintro e9 w2 ⟨rfl, hL⟩; replace HM := HM.call hL; clear hL)) | (first | ((with_reducible refine g_ld ?_); refine a_ld HM ?_) | ((with_reducible refine g_st ?_); refine a_st HM ?_; clear HM; intro w1 HM) | ((with_reducible refine g_al ?_); refine a_al HM ?_; clear HM; intro bk w1 HM) | ((with_reducible refine g_bx ?_); refine a_bx HM ?_; clear HM; intro bk w1 HM) | ((with_reducible refine g_bld ?_); refine a_bld ?_)))
  obtain ⟨b7, rfl⟩ := HM.nm0
  obtain ⟨b6, rfl⟩ := HM.nm1
  obtain ⟨b5, rfl⟩ := HM.nm2
  cases b with
  | false =>
    obtain rfl : y1 = y0 := by rw [hy1.out]; rfl
    go_upto_region 4 with (first | fail | (first | ((with_reducible refine g_ld ?_); refine a_ld HM ?_) | ((with_reducible refine g_st ?_); refine a_st HM ?_; clear HM; intro w1 HM) | ((with_reducible refine g_al ?_); refine a_al HM ?_; clear HM; intro bk w1 HM) | ((with_reducible refine g_bx ?_); refine a_bx HM ?_; clear HM; intro bk w1 HM) | ((with_reducible refine g_bld ?_); refine a_bld ?_)))
    refine start_M [10] HM (by kernel_rfl) (fun w0x H9 => ?_)
    replace HM := H9; clear H9
    refine k_fa 0 (heldE HM) ?_
    refine k_ld 1 [4, 6, 7, 8, 9, 10] (heldE HM) ?_
    refine k_fa 2 (heldE HM) ?_
    refine k_ld 3 [4, 6, 7, 8, 9, 10] (heldE HM) ?_
    refine k_ld 5 [6, 7, 8, 9, 10] (heldE HM) ?_
    refine j_one 4 fun K9 hK9 => ?_
    refine j_call2 (v := ?_) HM ?_ ?_; rotate_left 1; (focus (with_reducible (first | exact product_f p u x0 hp hu hx0 l3 _ | exact add_f2 x0 y1 x l3 l2 hx l4 _))); clear HM; intro w1 HM
    refine hK9 _ _ (heldE HM) ?_; clear hK9 K9
    refine j_one 6 fun K9 hK9 => ?_
    refine j_call2 (v := ?_) HM ?_ ?_; rotate_left 1; (focus (with_reducible (first | exact product_f p u x0 hp hu hx0 l3 _ | exact add_f2 x0 y1 x l3 l2 hx l4 _))); clear HM; intro w1 HM
    refine hK9 _ _ (heldE HM) ?_; clear hK9 K9
    refine k_mv 7 (heldE HM) ?_
    refine k_ext 8 (heldE HM) ?_
    refine k_ext 9 (heldE HM) ?_
    refine j_one 10 fun K9 hK9 => ?_
    refine j_st HM ?_; clear HM; intro w1 HM
    refine hK9 _ _ heldN ?_; clear hK9 K9
    refine wpAnyL_done (by kernel_rfl) ?_ _
    go_upto_region 5 with fail
    refine start_M [6, 7] HM (by kernel_rfl) (fun w0x H9 => ?_)
    replace HM := H9; clear H9
    refine k_ld 0 [6, 7] (heldE HM) ?_
    refine k_fa 1 (heldE HM) ?_
    refine k_ld 2 [5, 6, 7] (heldE HM) ?_
    refine k_fa 3 (heldE HM) ?_
    refine k_ld 4 [5, 6, 7] (heldE HM) ?_
    refine j_one 5 fun K9 hK9 => ?_
    refine j_call2 (v := ?_) HM ?_ ?_; rotate_left 1; (focus (with_reducible (exact product_f q u z hq hu hz l5 _))); clear HM; intro w1 HM
    refine hK9 _ _ (heldE HM) ?_; clear hK9 K9
    refine j_one 6 fun K9 hK9 => ?_
    refine j_st HM ?_; clear HM; intro w1 HM
    refine hK9 _ _ heldN ?_; clear hK9 K9
    refine j_one 7 fun K9 hK9 => ?_
    refine j_st HM ?_; clear HM; intro w1 HM
    refine hK9 _ _ heldN ?_; clear hK9 K9
    refine wpAnyL_done (by kernel_rfl) ?_ _
    (go_wp2_with fail; refine bodyPost_ret (r_cc (b := b5) (k := 0) (b2 := b6) (k2 := 0) rfl rfl rfl (HM.get (by ((repeat (first | exact Look.here | refine Look.there ?_)); done))) (la_z _) (HM.get (by ((repeat (first | exact Look.here | refine Look.there ?_)); done))) (la_z _)) rfl ⟨rfl, HM.low⟩)
  | true =>
    have hn : Hid (y1 = -y0) := Lib.hid (by rw [hy1.out]; rfl)
    go_upto_region 4 with (first | (go_at_call 52; ((with_reducible refine (neg_f y0 y1 l1 hn _).mono ?_); rintro e9 w2 ⟨rfl, hL⟩; replace HM := HM.call hL; clear hL)) | (first | ((with_reducible refine g_ld ?_); refine a_ld HM ?_) | ((with_reducible refine g_st ?_); refine a_st HM ?_; clear HM; intro w1 HM) | ((with_reducible refine g_al ?_); refine a_al HM ?_; clear HM; intro bk w1 HM) | ((with_reducible refine g_bx ?_); refine a_bx HM ?_; clear HM; intro bk w1 HM) | ((with_reducible refine g_bld ?_); refine a_bld ?_)))
    refine start_M [10] HM (by kernel_rfl) (fun w0x H9 => ?_)
    replace HM := H9; clear H9
    refine k_fa 0 (heldE HM) ?_
    refine k_ld 1 [4, 6, 7, 8, 9, 10] (heldE HM) ?_
    refine k_fa 2 (heldE HM) ?_
    refine k_ld 3 [4, 6, 7, 8, 9, 10] (heldE HM) ?_
    refine k_ld 5 [6, 7, 8, 9, 10] (heldE HM) ?_
    refine j_one 4 fun K9 hK9 => ?_
    refine j_call2 (v := ?_) HM ?_ ?_; rotate_left 1; (focus (with_reducible (first | exact product_f p u x0 hp hu hx0 l3 _ | exact add_f2 x0 y1 x l3 l2 hx l4 _))); clear HM; intro w1 HM
    refine hK9 _ _ (heldE HM) ?_; clear hK9 K9
    refine j_one 6 fun K9 hK9 => ?_
    refine j_call2 (v := ?_) HM ?_ ?_; rotate_left 1; (focus (with_reducible (first | exact product_f p u x0 hp hu hx0 l3 _ | exact add_f2 x0 y1 x l3 l2 hx l4 _))); clear HM; intro w1 HM
    refine hK9 _ _ (heldE HM) ?_; clear hK9 K9
    refine k_mv 7 (heldE HM) ?_
    refine k_ext 8 (heldE HM) ?_
    refine k_ext 9 (heldE HM) ?_
    refine j_one 10 fun K9 hK9 => ?_
    refine j_st HM ?_; clear HM; intro w1 HM
    refine hK9 _ _ heldN ?_; clear hK9 K9
    refine wpAnyL_done (by kernel_rfl) ?_ _
    go_upto_region 5 with fail
    refine start_M [6, 7] HM (by kernel_rfl) (fun w0x H9 => ?_)
    replace HM := H9; clear H9
    refine k_ld 0 [6, 7] (heldE HM) ?_
    refine k_fa 1 (heldE HM) ?_
    refine k_ld 2 [5, 6, 7] (heldE HM) ?_
    refine k_fa 3 (heldE HM) ?_
    refine k_ld 4 [5, 6, 7] (heldE HM) ?_
    refine j_one 5 fun K9 hK9 => ?_
    refine j_call2 (v := ?_) HM ?_ ?_; rotate_left 1; (focus (with_reducible (exact product_f q u z hq hu hz l5 _))); clear HM; intro w1 HM
    refine hK9 _ _ (heldE HM) ?_; clear hK9 K9
    refine j_one 6 fun K9 hK9 => ?_
    refine j_st HM ?_; clear HM; intro w1 HM
    refine hK9 _ _ heldN ?_; clear hK9 K9
    refine j_one 7 fun K9 hK9 => ?_
    refine j_st HM ?_; clear HM; intro w1 HM
    refine hK9 _ _ heldN ?_; clear hK9 K9
    refine wpAnyL_done (by kernel_rfl) ?_ _
    (go_wp2_with fail; refine bodyPost_ret (r_cc (b := b5) (k := 0) (b2 := b6) (k2 := 0) rfl rfl rfl (HM.get (by ((repeat (first | exact Look.here | refine Look.there ?_)); done))) (la_z _) (HM.get (by ((repeat (first | exact Look.here | refine Look.there ?_)); done))) (la_z _)) rfl ⟨rfl, HM.low⟩)
/-- Which ratios are valid. -/
def Rt.okz (p q : Int) : Bool := Rt.ok (decide (p < 0)) p.natAbs (decide (q < 0)) q.natAbs
theorem valid_z (p q : Int) (f : Bool) (hp : p.natAbs < Bg.lim) (hq : q.natAbs < Bg.lim) (hf : Hid (f = Rt.okz p q)) (w : World) :
    Calls Try.prog 15 #[.agg (Bg.rZ p q)] w fun r w' => r = .returned (.bool f) ∧ Below w.heap.size w w' := by
  rw [rZ_ratA]; exact valid_n _ _ _ _ f hp hq hf w
set_option maxHeartbeats 4000000 in
theorem calc_bad (s : Bool) (M : Nat) (t : Bool) (N : Nat) (s2 : Bool) (M2 : Nat) (t2 : Bool) (N2 : Nat) (fv : Value) (hM : M < Bg.lim) (hN : N < Bg.lim) (hM2 : M2 < Bg.lim) (hN2 : N2 < Bg.lim) (hbad : (Rt.ok s M t N && Rt.ok s2 M2 t2 N2) = false) (w : World) :
    Calls Try.prog 61 #[.agg (Bg.ratA s M t N), .agg (Bg.ratA s2 M2 t2 N2), fv] w fun r w' => r = .returned (.tuple #[.agg (Bg.rZ 0 0), .int .i64 20]) ∧ Below w.heap.size w w' := by
  have HM := Mem.start w
  obtain ⟨f1, h1⟩ : ∃ f, Hid (f = Rt.ok s M t N) := ⟨_, rfl⟩
  obtain ⟨f2, h2⟩ : ∃ f, Hid (f = Rt.ok s2 M2 t2 N2) := ⟨_, rfl⟩
  rw [← h1.out, ← h2.out] at hbad
  have hz0 := za_rat
  have hs1 := sa_rz 0 0 (rZ_size 0 0)
  have k1 := la_rat s M t N
  have k2 := la_rat s2 M2 t2 N2
  go_enter Try.func61, Try.ntmps61
  cases f1 with
  | false =>
    clear hbad
    go_wp2_with (first | first | ((with_reducible refine g_bld ?_); refine a_rbl ?_) | (go_at_call 15; ((with_reducible refine (valid_n s M t N false hM hN h1 _).mono ?_); rintro e9 w2 ⟨rfl, hL⟩; replace HM := HM.call hL; clear hL)) | (first | ((with_reducible refine g_ld ?_); refine a_ld HM ?_) | ((with_reducible refine g_st ?_); refine a_st HM ?_; clear HM; intro w1 HM) | ((with_reducible refine g_al ?_); refine a_al HM ?_; clear HM; intro bk w1 HM) | ((with_reducible refine g_bx ?_); refine a_bx HM ?_; clear HM; intro bk w1 HM) | ((with_reducible refine g_bld ?_); refine a_bld ?_)))
    refine bodyPost_ret (r_ct rfl rfl (HM.get (by ((repeat (first | exact Look.here | refine Look.there ?_)); done))) (la_rz _ _)) rfl ⟨rfl, HM.low⟩
  | true =>
    obtain rfl : f2 = false := by simpa using hbad
    clear hbad
    go_wp2_with (first | first | ((with_reducible refine g_bld ?_); refine a_rbl ?_) | (go_at_call 15; ((with_reducible refine (valid_n s M t N true hM hN h1 _).mono ?_); rintro e9 w2 ⟨rfl, hL⟩; replace HM := HM.call hL; clear hL)) | (go_at_call 15; ((with_reducible refine (valid_n s2 M2 t2 N2 false hM2 hN2 h2 _).mono ?_); rintro e9 w2 ⟨rfl, hL⟩; replace HM := HM.call hL; clear hL)) | (first | ((with_reducible refine g_ld ?_); refine a_ld HM ?_) | ((with_reducible refine g_st ?_); refine a_st HM ?_; clear HM; intro w1 HM) | ((with_reducible refine g_al ?_); refine a_al HM ?_; clear HM; intro bk w1 HM) | ((with_reducible refine g_bx ?_); refine a_bx HM ?_; clear HM; intro bk w1 HM) | ((with_reducible refine g_bld ?_); refine a_bld ?_)))
    refine bodyPost_ret (r_ct rfl rfl (HM.get (by ((repeat (first | exact Look.here | refine Look.there ?_)); done))) (la_rz _ _)) rfl ⟨rfl, HM.low⟩
set_option maxHeartbeats 4000000 in
theorem calc_mul (p q r u x y n d e : Int) (hp : p.natAbs < Bg.lim) (hq : q.natAbs < Bg.lim) (hr : r.natAbs < Bg.lim) (hu : u.natAbs < Bg.lim) (h1 : Hid (true = Rt.okz p q)) (h2 : Hid (true = Rt.okz r u)) (hx : Hid (x = p * r)) (hy : Hid (y = q * u)) (lx : x.natAbs < Bg.lim) (ly : y.natAbs < Bg.lim) (hm : Hid ((n, d, e) = Rt.mk x y)) (w : World) :
    Calls Try.prog 61 #[.agg (Bg.rZ p q), .agg (Bg.rZ r u), .func (.func 63) #[] #[]] w fun r w' => r = .returned (.tuple #[.agg (Bg.rZ n d), .int .i64 e]) ∧ Below w.heap.size w w' := by
  have HM := Mem.start w
  have hz0 := za_rat
  have hs1 := sa_rz n d (rZ_size 0 0)
  have k1 := la_rz p q
  have k2 := la_rz r u
  go_enter Try.func61, Try.ntmps61
  go_wp2_with (first | first | (go_at_call 15; ((with_reducible refine (valid_z p q true hp hq h1 _).mono ?_); rintro e9 w2 ⟨rfl, hL⟩; replace HM := HM.call hL; clear hL)) | (go_at_call 15; ((with_reducible refine (valid_z r u true hr hu h2 _).mono ?_); rintro e9 w2 ⟨rfl, hL⟩; replace HM := HM.call hL; clear hL)) | (go_at_call 63; ((with_reducible refine (mulfn_any p q r u x y hp hq hr hu hx hy lx ly _).mono ?_); rintro e9 w2 ⟨rfl, hL⟩; replace HM := HM.call hL; clear hL)) | (go_at_call 11; ((with_reducible refine (make_z x y n d e lx ly hm _).mono ?_); rintro e9 w2 ⟨rfl, hL⟩; replace HM := HM.call hL; clear hL)) | (first | ((with_reducible refine g_ld ?_); refine a_ld HM ?_) | ((with_reducible refine g_st ?_); refine a_st HM ?_; clear HM; intro w1 HM) | ((with_reducible refine g_al ?_); refine a_al HM ?_; clear HM; intro bk w1 HM) | ((with_reducible refine g_bx ?_); refine a_bx HM ?_; clear HM; intro bk w1 HM) | ((with_reducible refine g_bld ?_); refine a_bld ?_)))
  refine bodyPost_ret (r_ct rfl rfl (HM.get (by ((repeat (first | exact Look.here | refine Look.there ?_)); done))) (la_rz _ _)) rfl ⟨rfl, HM.low⟩
set_option maxHeartbeats 4000000 in
theorem calc_quo (p q r u x y n d e : Int) (hp : p.natAbs < Bg.lim) (hq : q.natAbs < Bg.lim) (hr : r.natAbs < Bg.lim) (hu : u.natAbs < Bg.lim) (h1 : Hid (true = Rt.okz p q)) (h2 : Hid (true = Rt.okz r u)) (hx : Hid (x = p * u)) (hy : Hid (y = q * r)) (lx : x.natAbs < Bg.lim) (ly : y.natAbs < Bg.lim) (hm : Hid ((n, d, e) = Rt.mk x y)) (w : World) :
    Calls Try.prog 61 #[.agg (Bg.rZ p q), .agg (Bg.rZ r u), .func (.func 65) #[] #[]] w fun r w' => r = .returned (.tuple #[.agg (Bg.rZ n d), .int .i64 e]) ∧ Below w.heap.size w w' := by
  have HM := Mem.start w
  have hz0 := za_rat
  have hs1 := sa_rz n d (rZ_size 0 0)
  have k1 := la_rz p q
  have k2 := la_rz r u
  go_enter Try.func61, Try.ntmps61
  go_wp2_with (first | first | (go_at_call 15; ((with_reducible refine (valid_z p q true hp hq h1 _).mono ?_); rintro e9 w2 ⟨rfl, hL⟩; replace HM := HM.call hL; clear hL)) | (go_at_call 15; ((with_reducible refine (valid_z r u true hr hu h2 _).mono ?_); rintro e9 w2 ⟨rfl, hL⟩; replace HM := HM.call hL; clear hL)) | (go_at_call 65; ((with_reducible refine (quofn_any p q r u x y hp hq hr hu hx hy lx ly _).mono ?_); rintro e9 w2 ⟨rfl, hL⟩; replace HM := HM.call hL; clear hL)) | (go_at_call 11; ((with_reducible refine (make_z x y n d e lx ly hm _).mono ?_); rintro e9 w2 ⟨rfl, hL⟩; replace HM := HM.call hL; clear hL)) | (first | ((with_reducible refine g_ld ?_); refine a_ld HM ?_) | ((with_reducible refine g_st ?_); refine a_st HM ?_; clear HM; intro w1 HM) | ((with_reducible refine g_al ?_); refine a_al HM ?_; clear HM; intro bk w1 HM) | ((with_reducible refine g_bx ?_); refine a_bx HM ?_; clear HM; intro bk w1 HM) | ((with_reducible refine g_bld ?_); refine a_bld ?_)))
  refine bodyPost_ret (r_ct rfl rfl (HM.get (by ((repeat (first | exact Look.here | refine Look.there ?_)); done))) (la_rz _ _)) rfl ⟨rfl, HM.low⟩
set_option maxHeartbeats 4000000 in
theorem calc_comb (b : Bool) (bm : Nat) (p q r u y0 y1 x0 x y n d e : Int) (hp : p.natAbs < Bg.lim) (hq : q.natAbs < Bg.lim) (hr : r.natAbs < Bg.lim) (hu : u.natAbs < Bg.lim) (h1 : Hid (true = Rt.okz p q)) (h2 : Hid (true = Rt.okz r u)) (hy0 : Hid (y0 = r * q)) (hy1 : Hid (y1 = if b then -y0 else y0)) (hx0 : Hid (x0 = p * u)) (hx : Hid (x = x0 + y1)) (hy : Hid (y = q * u)) (l1 : y0.natAbs < Bg.lim) (l3 : x0.natAbs < Bg.lim) (lx : x.natAbs < Bg.lim) (ly : y.natAbs < Bg.lim) (hm : Hid ((n, d, e) = Rt.mk x y)) (w : World) (hB : Blk w bm #[.bool b]) :
    Calls Try.prog 61 #[.agg (Bg.rZ p q), .agg (Bg.rZ r u), .func (.func 85) #[] #[.pointer (some ⟨bm, 0, none⟩)]] w fun r w' => r = .returned (.tuple #[.agg (Bg.rZ n d), .int .i64 e]) ∧ Below w.heap.size w w' := by
  have HM := Mem.start w
  have HB := Lib.hid hB
  clear hB
  have hz0 := za_rat
  have hs1 := sa_rz n d (rZ_size 0 0)
  have k1 := la_rz p q
  have k2 := la_rz r u
  go_enter Try.func61, Try.ntmps61
  go_wp2_with (first | first | (go_at_call 15; ((with_reducible refine (valid_z p q true hp hq h1 _).mono ?_); rintro e9 w2 ⟨rfl, hL⟩; replace HM := HM.call hL; clear hL)) | (go_at_call 15; ((with_reducible refine (valid_z r u true hr hu h2 _).mono ?_); rintro e9 w2 ⟨rfl, hL⟩; replace HM := HM.call hL; clear hL)) | (go_at_call 85; ((with_reducible refine (combfn_any b bm p q r u y0 y1 x0 x y hp hq hr hu hy0 hy1 hx0 hx hy l1 l3 lx ly _ (HM.ro HB.out (by simp))).mono ?_); rintro e9 w2 ⟨rfl, hL⟩; replace HM := HM.call hL; clear hL)) | (go_at_call 11; ((with_reducible refine (make_z x y n d e lx ly hm _).mono ?_); rintro e9 w2 ⟨rfl, hL⟩; replace HM := HM.call hL; clear hL)) | (first | ((with_reducible refine g_ld ?_); refine a_ld HM ?_) | ((with_reducible refine g_st ?_); refine a_st HM ?_; clear HM; intro w1 HM) | ((with_reducible refine g_al ?_); refine a_al HM ?_; clear HM; intro bk w1 HM) | ((with_reducible refine g_bx ?_); refine a_bx HM ?_; clear HM; intro bk w1 HM) | ((with_reducible refine g_bld ?_); refine a_bld ?_)))
  refine bodyPost_ret (r_ct rfl rfl (HM.get (by ((repeat (first | exact Look.here | refine Look.there ?_)); done))) (la_rz _ _)) rfl ⟨rfl, HM.low⟩
end Go.Proofs.Ytekfabhmopkapaa
