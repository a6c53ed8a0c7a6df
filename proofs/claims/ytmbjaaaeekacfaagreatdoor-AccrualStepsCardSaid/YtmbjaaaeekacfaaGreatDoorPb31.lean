/- Walks, and plain facts for them. -/
import Derived.Test.YtmbjaaaeekacfaaGreatDoorPb30
namespace Go.Proofs.YtmbjaaaeekacfaaGreatDoor
set_option maxRecDepth 8000
open Go.RowKit
def acic (x : Int) : Array Value := #[.int .i64 x]
theorem acic_sizes (A : List Int) : ∀ c ∈ A.map acic, c.size = 1 := by
 intro c hc
 obtain ⟨x, _, rfl⟩ := List.mem_map.1 hc
 rfl
section
variable {Q : Exit → Act → World → Prop} {w w0 : World} {X : List Nat} {L : List (Nat × Array Value)} {oi : Oper} {d : Tmp} {a : Act} {R : Act → World → Prop}
theorem acj_bs5 {t e : TypeId} {by_ : Nat} {x0 x1 x2 x3 x4 : Operand} {v0 v1 v2 v3 v4 : Int} {a2 : Nat → Act} (HM : Mem w0 X L w) (h : ∀ b w', Mem w0 X ((b, rowsOf ([v0, v1, v2, v3, v4].map acic)) :: L) w' → R (a2 b) w') (hd : oi.dst = some d := by rfl) (ho : oi.op = .buildSlice t 5 #[(0, x0), (1, x1), (2, x2), (3, x3), (4, x4)] := by rfl) (hT : elemB t e 1 by_ = true := by with_reducible assumption) (h0 : a.eval x0 = .int .i64 v0 := by (conv => lhs; whnf) <;> rfl) (h1 : a.eval x1 = .int .i64 v1 := by (conv => lhs; whnf) <;> rfl) (h2 : a.eval x2 = .int .i64 v2 := by (conv => lhs; whnf) <;> rfl) (h3 : a.eval x3 = .int .i64 v3 := by (conv => lhs; whnf) <;> rfl) (h4 : a.eval x4 = .int .i64 v4 := by (conv => lhs; whnf) <;> rfl) (ha : ∀ b, ({ a with tmps := a.tmps.setIfInBounds d (.slice (some ⟨b, 0, none⟩) 5 5) } : Act) = a2 b := by intro b; ((try simp only [List.setIfInBounds_toArray, List.set_cons_succ, List.set_cons_zero]) <;> rfl)) : Oper.wp Tryz.prog oi a w R Q := by
 obtain ⟨i, z, hE⟩ := elemT hT
 have hr := run_bs hE [.int .i64 v0, .int .i64 v1, .int .i64 v2, .int .i64 v3, .int .i64 v4] (by simp [Value.cells]) (by simp) (parts := #[(0, .int .i64 v0), (1, .int .i64 v1), (2, .int .i64 v2), (3, .int .i64 v3), (4, .int .i64 v4)]) rfl w
 unfold Oper.wp execOp
 simp [ho, h0, h1, h2, h3, h4] at hr ⊢
 simp only [hr, Result.andThen]
 rw [Oper.upon_value, hd]
 have h9 := h _ _ (HM.new (rowsOf ([v0, v1, v2, v3, v4].map acic)) e)
 rw [← ha] at h9
 exact h9
theorem acj_bs7 {t e : TypeId} {by_ : Nat} {x0 x1 x2 x3 x4 x5 x6 : Operand} {v0 v1 v2 v3 v4 v5 v6 : Int} {a2 : Nat → Act} (HM : Mem w0 X L w) (h : ∀ b w', Mem w0 X ((b, rowsOf ([v0, v1, v2, v3, v4, v5, v6].map acic)) :: L) w' → R (a2 b) w') (hd : oi.dst = some d := by rfl) (ho : oi.op = .buildSlice t 7 #[(0, x0), (1, x1), (2, x2), (3, x3), (4, x4), (5, x5), (6, x6)] := by rfl) (hT : elemB t e 1 by_ = true := by with_reducible assumption) (h0 : a.eval x0 = .int .i64 v0 := by (conv => lhs; whnf) <;> rfl) (h1 : a.eval x1 = .int .i64 v1 := by (conv => lhs; whnf) <;> rfl) (h2 : a.eval x2 = .int .i64 v2 := by (conv => lhs; whnf) <;> rfl) (h3 : a.eval x3 = .int .i64 v3 := by (conv => lhs; whnf) <;> rfl) (h4 : a.eval x4 = .int .i64 v4 := by (conv => lhs; whnf) <;> rfl) (h5 : a.eval x5 = .int .i64 v5 := by (conv => lhs; whnf) <;> rfl) (h6 : a.eval x6 = .int .i64 v6 := by (conv => lhs; whnf) <;> rfl) (ha : ∀ b, ({ a with tmps := a.tmps.setIfInBounds d (.slice (some ⟨b, 0, none⟩) 7 7) } : Act) = a2 b := by intro b; ((try simp only [List.setIfInBounds_toArray, List.set_cons_succ, List.set_cons_zero]) <;> rfl)) : Oper.wp Tryz.prog oi a w R Q := by
 obtain ⟨i, z, hE⟩ := elemT hT
 have hr := run_bs hE [.int .i64 v0, .int .i64 v1, .int .i64 v2, .int .i64 v3, .int .i64 v4, .int .i64 v5, .int .i64 v6] (by simp [Value.cells]) (by simp) (parts := #[(0, .int .i64 v0), (1, .int .i64 v1), (2, .int .i64 v2), (3, .int .i64 v3), (4, .int .i64 v4), (5, .int .i64 v5), (6, .int .i64 v6)]) rfl w
 unfold Oper.wp execOp
 simp [ho, h0, h1, h2, h3, h4, h5, h6] at hr ⊢
 simp only [hr, Result.andThen]
 rw [Oper.upon_value, hd]
 have h9 := h _ _ (HM.new (rowsOf ([v0, v1, v2, v3, v4, v5, v6].map acic)) e)
 rw [← ha] at h9
 exact h9
end
theorem ac_ints_own {w : World} {b : Nat} {ds : List Int} (hb : Blk w b (rowsOf (ds.map acic))) : IntsAt w (some ⟨b, 0, none⟩) ds := by
 refine .inr ⟨b, 0, rfl, hb.lt, fun j hj => ?_⟩
 rw [Nat.zero_add, hb.cell j]
 have := rows_at (acic_sizes ds) (k := j) (j := 0) (c := acic ds[j]) (by rw [List.getElem?_map, List.getElem?_eq_getElem hj]; rfl) (by decide)
 rw [Nat.one_mul, Nat.add_zero] at this
 rw [this, List.getD_eq_getElem?_getD, List.getElem?_eq_getElem hj]; rfl
set_option maxHeartbeats 2000000 in
theorem floor_any (x : Rat) (n : Nat) (hx : Rt.Fit x) (hn : Hid ((n : Int) = x.floor)) (hn2 : n < 4294967296) (w : World) :
    Calls Tryz.prog 53 #[.agg (Rt.qA x)] w fun r w' => r = .returned (.int .i64 (n : Nat)) ∧ Below w.heap.size w w' := by
 have HM := Mem.start w
 have zi := za_int
 have k0 := la_q x
 have FL := fun w => rfloor_q x n hx hn w
 have sn := sa_z (n : Int) (c := Bg.zA 0) (zA_size 0)
 have lm := la_limz0 (n : Int)
 have e : Bg.limb ((n : Int)).natAbs 0 = n := by
  rw [Int.natAbs_natCast]; unfold Bg.limb; rw [Bg.pw_zero, Nat.div_one]; omega
 rw [e] at lm
 go_enter Tryz.func53, Tryz.ntmps53
 go_wp2_with (first | (go_at_call 95; ((with_reducible refine (FL _).mono ?_); rintro e9 w2 ⟨rfl, hL⟩; replace HM := HM.call hL; clear hL)) | (first | ((with_reducible refine g_ld ?_); refine a_ld HM ?_) | ((with_reducible refine g_st ?_); refine a_st HM ?_; clear HM; intro w1 HM) | ((with_reducible refine g_al ?_); refine a_al HM ?_; clear HM; intro bk w1 HM) | ((with_reducible refine g_bx ?_); refine a_bx HM ?_; clear HM; intro bk w1 HM)))
 go_ret
 exact ⟨rfl, HM.low⟩
theorem Ac.ne {w0 w : World} {X : List Nat} {b b' : Nat} {c c' : Array Value} {L : List (Nat × Array Value)} (h : Mem w0 X ((b, c) :: L) w) (hl : Look L b' c') : b ≠ b' := fun e => by
 subst e
 exact (List.nodup_cons.1 h.nod).1 (List.mem_map.2 ⟨_, hl.mem, rfl⟩)
theorem Ac.den5 {d : Int} (h : d ∈ [1, 2, 365, 360, 7]) : 1 ≤ d ∧ d ≤ 365 := by
 simp only [List.mem_cons, List.not_mem_nil, or_false] at h
 omega
theorem Ac.fl_rhe (x : Rat) : Ac.fl x ≤ Ac.rhe x := by
 unfold Ac.rhe
 repeat' split
 all_goals omega
def AggPost (W : World) (tb m : Nat) (nm : ByteArray) (day : Int) (w : World) (e : Ending) (w' : World) : Prop :=
 ∃ (a : Ag) (r x : Rat), e = .returned (.agg a.c) ∧ Ac.Ok a r x ∧ Ac.Pr r ∧ a.nm = nm ∧ a.un = day ∧ 1 ≤ a.bs ∧ a.bs ≤ 4 ∧ Rt.Bd x 20 9 ∧ x ≤ ((1000000 : Int) : Rat) ∧ Tp W tb (m + 2200) w' ∧ w.grownBy w' (some tb)
set_option maxRecDepth 20000 in
set_option maxHeartbeats 8000000 in
theorem agg_any (W : World) (tb m : Nat) (nm : ByteArray) (day : Int) (w : World) (hT : Tp W tb m w) (hm : m ≤ 900000000) (hnu : Nm.usableB nm = true) (hday : Dt.isDay day = true) :
    Calls Tryz.prog 21 #[.pointer (some ⟨tb, 0, none⟩), .string nm, .int .i64 day] w (AggPost W tb m nm day w) := by
 obtain ⟨cs, hb, hc, h0, hle0⟩ := hT
 have HM := Mem.start1 w hb
 have HC := Lib.hid hc
 have H0 := Lib.hid h0
 have zf := Fe.za
 have za := Ag.za_z
 have eli : elemB 42 3 1 8 = true := by kernel_rfl
 have hle : ∀ b ∈ [tb], W.heap.size ≤ b := by simpa using hle0
 clear hb hc h0
 go_enter Tryz.func21, Tryz.ntmps21
 go_wp2_with (first | ((with_reducible refine g_ld ?_); refine a_ld HM ?_) | ((with_reducible refine g_st ?_); refine a_st HM ?_; clear HM; intro w1 HM) | ((with_reducible refine g_al ?_); refine a_al HM ?_; clear HM; intro bk w1 HM) | ((with_reducible refine g_bld ?_); refine a_bld ?_))
 go_at_call 24
 refine (fee_any W tb _ nm _ (HM.tp (by ((repeat (first | exact Look.here | refine Look.there ?_)); done)) HC.out H0.out hle) (by omega)).mono ?_
 rintro e9 w2 ⟨r, bs, rfl, hr, hb1, hb2, ⟨c1, hbk, hc1, -, -⟩, hg9⟩
 replace HM := HM.put (c' := c1) (by (repeat (first | exact At.here | apply At.there))) hbk (Only.of_grown hg9)
 clear hg9 hbk
 replace HC := Lib.hid hc1
 clear hc1
 have sf := Fe.sa nm bs (qA_size r) (qA_one r) (z := Fe.raw { data := #[] } (Bg.rZ 0 0) 0) (Fe.raw_size (rZ_size 0 0))
 have f0 := (Fe.fnm nm (Rt.qA r) bs).la
 have f1 := (Fe.frc nm bs (qA_size r)).la
 have f2 := (Fe.fbs nm bs (qA_size r)).la
 go_upto_region 2 with (first | ((with_reducible refine g_ld ?_); refine a_ld HM ?_) | ((with_reducible refine g_st ?_); refine a_st HM ?_; clear HM; intro w1 HM) | ((with_reducible refine g_al ?_); refine a_al HM ?_; clear HM; intro bk w1 HM) | ((with_reducible refine g_bld ?_); refine a_bld ?_))
 obtain ⟨b7, rfl⟩ := HM.nm0
 obtain ⟨b6, rfl⟩ := HM.nm1
 go_cut [8] (fun p wc => ∃ (b8 : Nat) (n d : Int) (c : Array Value), p = .pointer (some ⟨b8, 0, none⟩) ∧ 0 ≤ n ∧ n < 1000000 ∧ 1 ≤ d ∧ d ≤ 365 ∧ Hid (TapeC W (m + 1100 + 1 + 1) c) ∧ Mem w [tb] [(b8, Ag.raw nm (Rt.qA r) bs (Rt.qA (Rat.divInt n d)) 0 day), (b6, Ag.z), (tb, c)] wc)
 case first =>
  refine start_M2 [15] HM ((Sub.keep Sub.nil)) (by kernel_rfl) (fun w0x H9 => ?_)
  replace HM := H9; clear H9
  refine k_fa 0 (heldE HM) ?_
  refine k_ld 1 [13, 15] (heldE HM) ?_
  refine k_fa 2 (heldE HM) ?_
  refine k_ld 3 [13, 15] (heldE HM) ?_
  refine k_fa 4 (heldE HM) ?_
  refine k_ld 5 [13, 15] (heldE HM) ?_
  refine k_mv 6 (heldE HM) ?_
  refine k_mv 8 (heldE HM) ?_
  refine k_mv 12 (heldE HM) ?_
  refine three_L (i := 7) (j := 9) (k := 14) (by kernel_rfl) (op_L rfl (by rfl) ?_) (op_L rfl (by rfl) ?_) (op_L rfl (by rfl) ?_)
  ·refine o_callg (next_any W tb _ 1000000 _ (HM.tp (by ((repeat (first | exact Look.here | refine Look.there ?_)); done)) HC.out H0.out hle) (by omega) (by omega) (by omega)) rfl ?_ ?_; (focus (refine h_call2 (ts := ?_) (x1 := ?_) (x2 := ?_) ?_ (by kernel_rfl) ?_ ?_; rotate_left 3; (focus rfl); (focus rfl); rfl)); rintro e9 w1 ⟨n, rfl, n0, n1, ⟨c1, hb1, hc1, -, -⟩, hg9⟩; replace HM := HM.put (c' := c1) (by (repeat (first | exact At.here | apply At.there))) hb1 (Only.of_grown hg9); clear hg9 hb1; replace HC := Lib.hid hc1; clear hc1; refine ⟨_, rfl, ?_⟩
   refine ⟨(heldE HM), ?_⟩; ((try simp only [List.setIfInBounds_toArray]); (try simp only [List.set_cons_succ]); (try simp only [List.set_cons_zero]))
   refine j_two 9 14 ?_ ?_
   ·refine acj_bs5 HM ?_; clear HM; intro bl w1 HM; have hne := Ac.ne HM (b' := tb) (c' := c1) (by ((repeat (first | exact Look.here | refine Look.there ?_)); done))
    refine ⟨(heldE HM), ?_⟩; ((try simp only [List.setIfInBounds_toArray]); (try simp only [List.set_cons_succ]); (try simp only [List.set_cons_zero]))
    refine j_two 10 14 ?_ ?_
    ·refine o_callg (pick_any W tb _ (some ⟨bl, 0, none⟩) [1, 2, 365, 360, 7] 5 _ (HM.tp (by ((repeat (first | exact Look.here | refine Look.there ?_)); done)) HC.out H0.out hle) (by omega) (ac_ints_own (HM.get (by ((repeat (first | exact Look.here | refine Look.there ?_)); done)))) (fun b o e => by cases e; exact hne) (by simp) (by simp)) rfl ?_ ?_; (focus (refine h_call2 (ts := ?_) (x1 := ?_) (x2 := ?_) ?_ (by kernel_rfl) ?_ ?_; rotate_left 3; (focus rfl); (focus rfl); rfl)); rintro e9 w1 ⟨d, rfl, hd, ⟨c1, hb1, hc1, -, -⟩, hg9⟩; replace HM := HM.put (c' := c1) (by (repeat (first | exact At.here | apply At.there))) hb1 (Only.of_grown hg9); clear hg9 hb1; replace HC := Lib.hid hc1; clear hc1; replace hd := Ac.den5 hd; refine ⟨_, rfl, ?_⟩
     refine ⟨(heldE HM), ?_⟩; ((try simp only [List.setIfInBounds_toArray]); (try simp only [List.set_cons_succ]); (try simp only [List.set_cons_zero]))
     refine j_two 11 14 ?_ ?_
     ·refine j_call2 (v := ?_) HM ?_ ?_; rotate_left 1; (focus (with_reducible (exact mkof_q n d _ (by omega) (by omega) (by omega) (by omega) (by omega) (Lib.hid rfl) _))); clear HM; intro w1 HM
      refine ⟨(heldE HM), ?_⟩
      refine t_pure (i := 13) (v := .agg (Ag.raw nm (Rt.qA r) bs (Rt.qA (Rat.divInt n d)) 0 day)) rfl rfl (by kernel_rfl) (fun _ _ _ h => h) (heldE HM) (by rfl) ?_ ?_; (focus (exact h_bl5g rfl (by (conv => lhs; whnf) <;> rfl) (by (conv => lhs; whnf) <;> rfl) (by (conv => lhs; whnf) <;> rfl) (by (conv => lhs; whnf) <;> rfl) (by (conv => lhs; whnf) <;> rfl) (fun w => Ag.b5 nm bs day (qA_size r) (qA_size (Rat.divInt n d)) w))); ((try simp only [List.setIfInBounds_toArray]); (try simp only [List.set_cons_succ]); (try simp only [List.set_cons_zero]))
      refine j_one 14 fun K9 hK9 => ?_
      refine j_al HM ?_; clear HM; intro bk w1 HM
      refine hK9 _ _ (heldE HM) ?_; clear hK9 K9
      refine j_one 15 fun K9 hK9 => ?_
      refine j_st HM ?_ (hv := Ag.rsa (qA_size r) (qA_size (Rat.divInt n d)) (qA_one r) (qA_one (Rat.divInt n d)) Ag.z_size); clear HM; intro w1 HM
      refine hK9 _ _ heldN ?_; clear hK9 K9; ((try simp only [List.setIfInBounds_toArray]); (try simp only [List.set_cons_succ]); (try simp only [List.set_cons_zero]))
      refine wpAnyL_done (by kernel_rfl) ?_ _
      (go_wp2_with fail; go_meet; (case rel => exact ⟨_, n, d, _, rfl, n0, n1, hd.1, hd.2, HC, HM.pick⟩))
     ·refine j_al HM ?_; clear HM; intro bk w1 HM
      refine ⟨(heldE HM), ?_⟩
      refine j_one 11 fun K9 hK9 => ?_
      refine j_call2 (v := ?_) HM ?_ ?_; rotate_left 1; (focus (with_reducible (exact mkof_q n d _ (by omega) (by omega) (by omega) (by omega) (by omega) (Lib.hid rfl) _))); clear HM; intro w1 HM
      refine hK9 _ _ (heldE HM) ?_; clear hK9 K9
      refine t_pure (i := 13) (v := .agg (Ag.raw nm (Rt.qA r) bs (Rt.qA (Rat.divInt n d)) 0 day)) rfl rfl (by kernel_rfl) (fun _ _ _ h => h) (heldE HM) (by rfl) ?_ ?_; (focus (exact h_bl5g rfl (by (conv => lhs; whnf) <;> rfl) (by (conv => lhs; whnf) <;> rfl) (by (conv => lhs; whnf) <;> rfl) (by (conv => lhs; whnf) <;> rfl) (by (conv => lhs; whnf) <;> rfl) (fun w => Ag.b5 nm bs day (qA_size r) (qA_size (Rat.divInt n d)) w))); ((try simp only [List.setIfInBounds_toArray]); (try simp only [List.set_cons_succ]); (try simp only [List.set_cons_zero]))
      refine j_one 15 fun K9 hK9 => ?_
      refine j_st HM ?_ (hv := Ag.rsa (qA_size r) (qA_size (Rat.divInt n d)) (qA_one r) (qA_one (Rat.divInt n d)) Ag.z_size); clear HM; intro w1 HM
      refine hK9 _ _ heldN ?_; clear hK9 K9; ((try simp only [List.setIfInBounds_toArray]); (try simp only [List.set_cons_succ]); (try simp only [List.set_cons_zero]))
      refine wpAnyL_done (by kernel_rfl) ?_ _
      (go_wp2_with fail; go_meet; (case rel => exact ⟨_, n, d, _, rfl, n0, n1, hd.1, hd.2, HC, HM.pick⟩))
    ·refine j_al HM ?_; clear HM; intro bk w1 HM
     refine ⟨(heldE HM), ?_⟩
     refine j_one 10 fun K9 hK9 => ?_
     refine o_callg (pick_any W tb _ (some ⟨bl, 0, none⟩) [1, 2, 365, 360, 7] 5 _ (HM.tp (by ((repeat (first | exact Look.here | refine Look.there ?_)); done)) HC.out H0.out hle) (by omega) (ac_ints_own (HM.get (by ((repeat (first | exact Look.here | refine Look.there ?_)); done)))) (fun b o e => by cases e; exact hne) (by simp) (by simp)) rfl ?_ ?_; (focus (refine h_call2 (ts := ?_) (x1 := ?_) (x2 := ?_) ?_ (by kernel_rfl) ?_ ?_; rotate_left 3; (focus rfl); (focus rfl); rfl)); rintro e9 w1 ⟨d, rfl, hd, ⟨c1, hb1, hc1, -, -⟩, hg9⟩; replace HM := HM.put (c' := c1) (by (repeat (first | exact At.here | apply At.there))) hb1 (Only.of_grown hg9); clear hg9 hb1; replace HC := Lib.hid hc1; clear hc1; replace hd := Ac.den5 hd; refine ⟨_, rfl, ?_⟩
     refine hK9 _ _ (heldE HM) ?_; clear hK9 K9; ((try simp only [List.setIfInBounds_toArray]); (try simp only [List.set_cons_succ]); (try simp only [List.set_cons_zero]))
     refine j_one 11 fun K9 hK9 => ?_
     refine j_call2 (v := ?_) HM ?_ ?_; rotate_left 1; (focus (with_reducible (exact mkof_q n d _ (by omega) (by omega) (by omega) (by omega) (by omega) (Lib.hid rfl) _))); clear HM; intro w1 HM
     refine hK9 _ _ (heldE HM) ?_; clear hK9 K9
     refine t_pure (i := 13) (v := .agg (Ag.raw nm (Rt.qA r) bs (Rt.qA (Rat.divInt n d)) 0 day)) rfl rfl (by kernel_rfl) (fun _ _ _ h => h) (heldE HM) (by rfl) ?_ ?_; (focus (exact h_bl5g rfl (by (conv => lhs; whnf) <;> rfl) (by (conv => lhs; whnf) <;> rfl) (by (conv => lhs; whnf) <;> rfl) (by (conv => lhs; whnf) <;> rfl) (by (conv => lhs; whnf) <;> rfl) (fun w => Ag.b5 nm bs day (qA_size r) (qA_size (Rat.divInt n d)) w))); ((try simp only [List.setIfInBounds_toArray]); (try simp only [List.set_cons_succ]); (try simp only [List.set_cons_zero]))
     refine j_one 15 fun K9 hK9 => ?_
     refine j_st HM ?_ (hv := Ag.rsa (qA_size r) (qA_size (Rat.divInt n d)) (qA_one r) (qA_one (Rat.divInt n d)) Ag.z_size); clear HM; intro w1 HM
     refine hK9 _ _ heldN ?_; clear hK9 K9; ((try simp only [List.setIfInBounds_toArray]); (try simp only [List.set_cons_succ]); (try simp only [List.set_cons_zero]))
     refine wpAnyL_done (by kernel_rfl) ?_ _
     (go_wp2_with fail; go_meet; (case rel => exact ⟨_, n, d, _, rfl, n0, n1, hd.1, hd.2, HC, HM.pick⟩))
   ·refine j_al HM ?_; clear HM; intro bk w1 HM
    refine ⟨(heldE HM), ?_⟩
    refine j_one 9 fun K9 hK9 => ?_
    refine acj_bs5 HM ?_; clear HM; intro bl w1 HM; have hne := Ac.ne HM (b' := tb) (c' := c1) (by ((repeat (first | exact Look.here | refine Look.there ?_)); done))
    refine hK9 _ _ (heldE HM) ?_; clear hK9 K9; ((try simp only [List.setIfInBounds_toArray]); (try simp only [List.set_cons_succ]); (try simp only [List.set_cons_zero]))
    refine j_one 10 fun K9 hK9 => ?_
    refine o_callg (pick_any W tb _ (some ⟨bl, 0, none⟩) [1, 2, 365, 360, 7] 5 _ (HM.tp (by ((repeat (first | exact Look.here | refine Look.there ?_)); done)) HC.out H0.out hle) (by omega) (ac_ints_own (HM.get (by ((repeat (first | exact Look.here | refine Look.there ?_)); done)))) (fun b o e => by cases e; exact hne) (by simp) (by simp)) rfl ?_ ?_; (focus (refine h_call2 (ts := ?_) (x1 := ?_) (x2 := ?_) ?_ (by kernel_rfl) ?_ ?_; rotate_left 3; (focus rfl); (focus rfl); rfl)); rintro e9 w1 ⟨d, rfl, hd, ⟨c1, hb1, hc1, -, -⟩, hg9⟩; replace HM := HM.put (c' := c1) (by (repeat (first | exact At.here | apply At.there))) hb1 (Only.of_grown hg9); clear hg9 hb1; replace HC := Lib.hid hc1; clear hc1; replace hd := Ac.den5 hd; refine ⟨_, rfl, ?_⟩
    refine hK9 _ _ (heldE HM) ?_; clear hK9 K9; ((try simp only [List.setIfInBounds_toArray]); (try simp only [List.set_cons_succ]); (try simp only [List.set_cons_zero]))
    refine j_one 11 fun K9 hK9 => ?_
    refine j_call2 (v := ?_) HM ?_ ?_; rotate_left 1; (focus (with_reducible (exact mkof_q n d _ (by omega) (by omega) (by omega) (by omega) (by omega) (Lib.hid rfl) _))); clear HM; intro w1 HM
    refine hK9 _ _ (heldE HM) ?_; clear hK9 K9
    refine t_pure (i := 13) (v := .agg (Ag.raw nm (Rt.qA r) bs (Rt.qA (Rat.divInt n d)) 0 day)) rfl rfl (by kernel_rfl) (fun _ _ _ h => h) (heldE HM) (by rfl) ?_ ?_; (focus (exact h_bl5g rfl (by (conv => lhs; whnf) <;> rfl) (by (conv => lhs; whnf) <;> rfl) (by (conv => lhs; whnf) <;> rfl) (by (conv => lhs; whnf) <;> rfl) (by (conv => lhs; whnf) <;> rfl) (fun w => Ag.b5 nm bs day (qA_size r) (qA_size (Rat.divInt n d)) w))); ((try simp only [List.setIfInBounds_toArray]); (try simp only [List.set_cons_succ]); (try simp only [List.set_cons_zero]))
    refine j_one 15 fun K9 hK9 => ?_
    refine j_st HM ?_ (hv := Ag.rsa (qA_size r) (qA_size (Rat.divInt n d)) (qA_one r) (qA_one (Rat.divInt n d)) Ag.z_size); clear HM; intro w1 HM
    refine hK9 _ _ heldN ?_; clear hK9 K9; ((try simp only [List.setIfInBounds_toArray]); (try simp only [List.set_cons_succ]); (try simp only [List.set_cons_zero]))
    refine wpAnyL_done (by kernel_rfl) ?_ _
    (go_wp2_with fail; go_meet; (case rel => exact ⟨_, n, d, _, rfl, n0, n1, hd.1, hd.2, HC, HM.pick⟩))
  ·refine acj_bs5 HM ?_; clear HM; intro bl w1 HM; have hne := Ac.ne HM (b' := tb) (c' := c1) (by ((repeat (first | exact Look.here | refine Look.there ?_)); done))
   refine ⟨(heldE HM), ?_⟩; ((try simp only [List.setIfInBounds_toArray]); (try simp only [List.set_cons_succ]); (try simp only [List.set_cons_zero]))
   refine j_two 7 14 ?_ ?_
   ·refine o_callg (next_any W tb _ 1000000 _ (HM.tp (by ((repeat (first | exact Look.here | refine Look.there ?_)); done)) HC.out H0.out hle) (by omega) (by omega) (by omega)) rfl ?_ ?_; (focus (refine h_call2 (ts := ?_) (x1 := ?_) (x2 := ?_) ?_ (by kernel_rfl) ?_ ?_; rotate_left 3; (focus rfl); (focus rfl); rfl)); rintro e9 w1 ⟨n, rfl, n0, n1, ⟨c1, hb1, hc1, -, -⟩, hg9⟩; replace HM := HM.put (c' := c1) (by (repeat (first | exact At.here | apply At.there))) hb1 (Only.of_grown hg9); clear hg9 hb1; replace HC := Lib.hid hc1; clear hc1; refine ⟨_, rfl, ?_⟩
    refine ⟨(heldE HM), ?_⟩; ((try simp only [List.setIfInBounds_toArray]); (try simp only [List.set_cons_succ]); (try simp only [List.set_cons_zero]))
    refine j_two 10 14 ?_ ?_
    ·refine o_callg (pick_any W tb _ (some ⟨bl, 0, none⟩) [1, 2, 365, 360, 7] 5 _ (HM.tp (by ((repeat (first | exact Look.here | refine Look.there ?_)); done)) HC.out H0.out hle) (by omega) (ac_ints_own (HM.get (by ((repeat (first | exact Look.here | refine Look.there ?_)); done)))) (fun b o e => by cases e; exact hne) (by simp) (by simp)) rfl ?_ ?_; (focus (refine h_call2 (ts := ?_) (x1 := ?_) (x2 := ?_) ?_ (by kernel_rfl) ?_ ?_; rotate_left 3; (focus rfl); (focus rfl); rfl)); rintro e9 w1 ⟨d, rfl, hd, ⟨c1, hb1, hc1, -, -⟩, hg9⟩; replace HM := HM.put (c' := c1) (by (repeat (first | exact At.here | apply At.there))) hb1 (Only.of_grown hg9); clear hg9 hb1; replace HC := Lib.hid hc1; clear hc1; replace hd := Ac.den5 hd; refine ⟨_, rfl, ?_⟩
     refine ⟨(heldE HM), ?_⟩; ((try simp only [List.setIfInBounds_toArray]); (try simp only [List.set_cons_succ]); (try simp only [List.set_cons_zero]))
     refine j_two 11 14 ?_ ?_
     ·refine j_call2 (v := ?_) HM ?_ ?_; rotate_left 1; (focus (with_reducible (exact mkof_q n d _ (by omega) (by omega) (by omega) (by omega) (by omega) (Lib.hid rfl) _))); clear HM; intro w1 HM
      refine ⟨(heldE HM), ?_⟩
      refine t_pure (i := 13) (v := .agg (Ag.raw nm (Rt.qA r) bs (Rt.qA (Rat.divInt n d)) 0 day)) rfl rfl (by kernel_rfl) (fun _ _ _ h => h) (heldE HM) (by rfl) ?_ ?_; (focus (exact h_bl5g rfl (by (conv => lhs; whnf) <;> rfl) (by (conv => lhs; whnf) <;> rfl) (by (conv => lhs; whnf) <;> rfl) (by (conv => lhs; whnf) <;> rfl) (by (conv => lhs; whnf) <;> rfl) (fun w => Ag.b5 nm bs day (qA_size r) (qA_size (Rat.divInt n d)) w))); ((try simp only [List.setIfInBounds_toArray]); (try simp only [List.set_cons_succ]); (try simp only [List.set_cons_zero]))
      refine j_one 14 fun K9 hK9 => ?_
      refine j_al HM ?_; clear HM; intro bk w1 HM
      refine hK9 _ _ (heldE HM) ?_; clear hK9 K9
      refine j_one 15 fun K9 hK9 => ?_
      refine j_st HM ?_ (hv := Ag.rsa (qA_size r) (qA_size (Rat.divInt n d)) (qA_one r) (qA_one (Rat.divInt n d)) Ag.z_size); clear HM; intro w1 HM
      refine hK9 _ _ heldN ?_; clear hK9 K9; ((try simp only [List.setIfInBounds_toArray]); (try simp only [List.set_cons_succ]); (try simp only [List.set_cons_zero]))
      refine wpAnyL_done (by kernel_rfl) ?_ _
      (go_wp2_with fail; go_meet; (case rel => exact ⟨_, n, d, _, rfl, n0, n1, hd.1, hd.2, HC, HM.pick⟩))
     ·refine j_al HM ?_; clear HM; intro bk w1 HM
      refine ⟨(heldE HM), ?_⟩
      refine j_one 11 fun K9 hK9 => ?_
      refine j_call2 (v := ?_) HM ?_ ?_; rotate_left 1; (focus (with_reducible (exact mkof_q n d _ (by omega) (by omega) (by omega) (by omega) (by omega) (Lib.hid rfl) _))); clear HM; intro w1 HM
      refine hK9 _ _ (heldE HM) ?_; clear hK9 K9
      refine t_pure (i := 13) (v := .agg (Ag.raw nm (Rt.qA r) bs (Rt.qA (Rat.divInt n d)) 0 day)) rfl rfl (by kernel_rfl) (fun _ _ _ h => h) (heldE HM) (by rfl) ?_ ?_; (focus (exact h_bl5g rfl (by (conv => lhs; whnf) <;> rfl) (by (conv => lhs; whnf) <;> rfl) (by (conv => lhs; whnf) <;> rfl) (by (conv => lhs; whnf) <;> rfl) (by (conv => lhs; whnf) <;> rfl) (fun w => Ag.b5 nm bs day (qA_size r) (qA_size (Rat.divInt n d)) w))); ((try simp only [List.setIfInBounds_toArray]); (try simp only [List.set_cons_succ]); (try simp only [List.set_cons_zero]))
      refine j_one 15 fun K9 hK9 => ?_
      refine j_st HM ?_ (hv := Ag.rsa (qA_size r) (qA_size (Rat.divInt n d)) (qA_one r) (qA_one (Rat.divInt n d)) Ag.z_size); clear HM; intro w1 HM
      refine hK9 _ _ heldN ?_; clear hK9 K9; ((try simp only [List.setIfInBounds_toArray]); (try simp only [List.set_cons_succ]); (try simp only [List.set_cons_zero]))
      refine wpAnyL_done (by kernel_rfl) ?_ _
      (go_wp2_with fail; go_meet; (case rel => exact ⟨_, n, d, _, rfl, n0, n1, hd.1, hd.2, HC, HM.pick⟩))
    ·refine j_al HM ?_; clear HM; intro bk w1 HM
     refine ⟨(heldE HM), ?_⟩
     refine j_one 10 fun K9 hK9 => ?_
     refine o_callg (pick_any W tb _ (some ⟨bl, 0, none⟩) [1, 2, 365, 360, 7] 5 _ (HM.tp (by ((repeat (first | exact Look.here | refine Look.there ?_)); done)) HC.out H0.out hle) (by omega) (ac_ints_own (HM.get (by ((repeat (first | exact Look.here | refine Look.there ?_)); done)))) (fun b o e => by cases e; exact hne) (by simp) (by simp)) rfl ?_ ?_; (focus (refine h_call2 (ts := ?_) (x1 := ?_) (x2 := ?_) ?_ (by kernel_rfl) ?_ ?_; rotate_left 3; (focus rfl); (focus rfl); rfl)); rintro e9 w1 ⟨d, rfl, hd, ⟨c1, hb1, hc1, -, -⟩, hg9⟩; replace HM := HM.put (c' := c1) (by (repeat (first | exact At.here | apply At.there))) hb1 (Only.of_grown hg9); clear hg9 hb1; replace HC := Lib.hid hc1; clear hc1; replace hd := Ac.den5 hd; refine ⟨_, rfl, ?_⟩
     refine hK9 _ _ (heldE HM) ?_; clear hK9 K9; ((try simp only [List.setIfInBounds_toArray]); (try simp only [List.set_cons_succ]); (try simp only [List.set_cons_zero]))
     refine j_one 11 fun K9 hK9 => ?_
     refine j_call2 (v := ?_) HM ?_ ?_; rotate_left 1; (focus (with_reducible (exact mkof_q n d _ (by omega) (by omega) (by omega) (by omega) (by omega) (Lib.hid rfl) _))); clear HM; intro w1 HM
     refine hK9 _ _ (heldE HM) ?_; clear hK9 K9
     refine t_pure (i := 13) (v := .agg (Ag.raw nm (Rt.qA r) bs (Rt.qA (Rat.divInt n d)) 0 day)) rfl rfl (by kernel_rfl) (fun _ _ _ h => h) (heldE HM) (by rfl) ?_ ?_; (focus (exact h_bl5g rfl (by (conv => lhs; whnf) <;> rfl) (by (conv => lhs; whnf) <;> rfl) (by (conv => lhs; whnf) <;> rfl) (by (conv => lhs; whnf) <;> rfl) (by (conv => lhs; whnf) <;> rfl) (fun w => Ag.b5 nm bs day (qA_size r) (qA_size (Rat.divInt n d)) w))); ((try simp only [List.setIfInBounds_toArray]); (try simp only [List.set_cons_succ]); (try simp only [List.set_cons_zero]))
     refine j_one 15 fun K9 hK9 => ?_
     refine j_st HM ?_ (hv := Ag.rsa (qA_size r) (qA_size (Rat.divInt n d)) (qA_one r) (qA_one (Rat.divInt n d)) Ag.z_size); clear HM; intro w1 HM
     refine hK9 _ _ heldN ?_; clear hK9 K9; ((try simp only [List.setIfInBounds_toArray]); (try simp only [List.set_cons_succ]); (try simp only [List.set_cons_zero]))
     refine wpAnyL_done (by kernel_rfl) ?_ _
     (go_wp2_with fail; go_meet; (case rel => exact ⟨_, n, d, _, rfl, n0, n1, hd.1, hd.2, HC, HM.pick⟩))
   ·refine j_al HM ?_; clear HM; intro bk w1 HM
    refine ⟨(heldE HM), ?_⟩
    refine j_one 7 fun K9 hK9 => ?_
    refine o_callg (next_any W tb _ 1000000 _ (HM.tp (by ((repeat (first | exact Look.here | refine Look.there ?_)); done)) HC.out H0.out hle) (by omega) (by omega) (by omega)) rfl ?_ ?_; (focus (refine h_call2 (ts := ?_) (x1 := ?_) (x2 := ?_) ?_ (by kernel_rfl) ?_ ?_; rotate_left 3; (focus rfl); (focus rfl); rfl)); rintro e9 w1 ⟨n, rfl, n0, n1, ⟨c1, hb1, hc1, -, -⟩, hg9⟩; replace HM := HM.put (c' := c1) (by (repeat (first | exact At.here | apply At.there))) hb1 (Only.of_grown hg9); clear hg9 hb1; replace HC := Lib.hid hc1; clear hc1; refine ⟨_, rfl, ?_⟩
    refine hK9 _ _ (heldE HM) ?_; clear hK9 K9; ((try simp only [List.setIfInBounds_toArray]); (try simp only [List.set_cons_succ]); (try simp only [List.set_cons_zero]))
    refine j_one 10 fun K9 hK9 => ?_
    refine o_callg (pick_any W tb _ (some ⟨bl, 0, none⟩) [1, 2, 365, 360, 7] 5 _ (HM.tp (by ((repeat (first | exact Look.here | refine Look.there ?_)); done)) HC.out H0.out hle) (by omega) (ac_ints_own (HM.get (by ((repeat (first | exact Look.here | refine Look.there ?_)); done)))) (fun b o e => by cases e; exact hne) (by simp) (by simp)) rfl ?_ ?_; (focus (refine h_call2 (ts := ?_) (x1 := ?_) (x2 := ?_) ?_ (by kernel_rfl) ?_ ?_; rotate_left 3; (focus rfl); (focus rfl); rfl)); rintro e9 w1 ⟨d, rfl, hd, ⟨c1, hb1, hc1, -, -⟩, hg9⟩; replace HM := HM.put (c' := c1) (by (repeat (first | exact At.here | apply At.there))) hb1 (Only.of_grown hg9); clear hg9 hb1; replace HC := Lib.hid hc1; clear hc1; replace hd := Ac.den5 hd; refine ⟨_, rfl, ?_⟩
    refine hK9 _ _ (heldE HM) ?_; clear hK9 K9; ((try simp only [List.setIfInBounds_toArray]); (try simp only [List.set_cons_succ]); (try simp only [List.set_cons_zero]))
    refine j_one 11 fun K9 hK9 => ?_
    refine j_call2 (v := ?_) HM ?_ ?_; rotate_left 1; (focus (with_reducible (exact mkof_q n d _ (by omega) (by omega) (by omega) (by omega) (by omega) (Lib.hid rfl) _))); clear HM; intro w1 HM
    refine hK9 _ _ (heldE HM) ?_; clear hK9 K9
    refine t_pure (i := 13) (v := .agg (Ag.raw nm (Rt.qA r) bs (Rt.qA (Rat.divInt n d)) 0 day)) rfl rfl (by kernel_rfl) (fun _ _ _ h => h) (heldE HM) (by rfl) ?_ ?_; (focus (exact h_bl5g rfl (by (conv => lhs; whnf) <;> rfl) (by (conv => lhs; whnf) <;> rfl) (by (conv => lhs; whnf) <;> rfl) (by (conv => lhs; whnf) <;> rfl) (by (conv => lhs; whnf) <;> rfl) (fun w => Ag.b5 nm bs day (qA_size r) (qA_size (Rat.divInt n d)) w))); ((try simp only [List.setIfInBounds_toArray]); (try simp only [List.set_cons_succ]); (try simp only [List.set_cons_zero]))
    refine j_one 15 fun K9 hK9 => ?_
    refine j_st HM ?_ (hv := Ag.rsa (qA_size r) (qA_size (Rat.divInt n d)) (qA_one r) (qA_one (Rat.divInt n d)) Ag.z_size); clear HM; intro w1 HM
    refine hK9 _ _ heldN ?_; clear hK9 K9; ((try simp only [List.setIfInBounds_toArray]); (try simp only [List.set_cons_succ]); (try simp only [List.set_cons_zero]))
    refine wpAnyL_done (by kernel_rfl) ?_ _
    (go_wp2_with fail; go_meet; (case rel => exact ⟨_, n, d, _, rfl, n0, n1, hd.1, hd.2, HC, HM.pick⟩))
  ·refine j_al HM ?_; clear HM; intro bk w1 HM
   refine ⟨(heldE HM), ?_⟩
   refine j_two 7 9 ?_ ?_
   ·refine o_callg (next_any W tb _ 1000000 _ (HM.tp (by ((repeat (first | exact Look.here | refine Look.there ?_)); done)) HC.out H0.out hle) (by omega) (by omega) (by omega)) rfl ?_ ?_; (focus (refine h_call2 (ts := ?_) (x1 := ?_) (x2 := ?_) ?_ (by kernel_rfl) ?_ ?_; rotate_left 3; (focus rfl); (focus rfl); rfl)); rintro e9 w1 ⟨n, rfl, n0, n1, ⟨c1, hb1, hc1, -, -⟩, hg9⟩; replace HM := HM.put (c' := c1) (by (repeat (first | exact At.here | apply At.there))) hb1 (Only.of_grown hg9); clear hg9 hb1; replace HC := Lib.hid hc1; clear hc1; refine ⟨_, rfl, ?_⟩
    refine ⟨(heldE HM), ?_⟩; ((try simp only [List.setIfInBounds_toArray]); (try simp only [List.set_cons_succ]); (try simp only [List.set_cons_zero]))
    refine j_one 9 fun K9 hK9 => ?_
    refine acj_bs5 HM ?_; clear HM; intro bl w1 HM; have hne := Ac.ne HM (b' := tb) (c' := c1) (by ((repeat (first | exact Look.here | refine Look.there ?_)); done))
    refine hK9 _ _ (heldE HM) ?_; clear hK9 K9; ((try simp only [List.setIfInBounds_toArray]); (try simp only [List.set_cons_succ]); (try simp only [List.set_cons_zero]))
    refine j_one 10 fun K9 hK9 => ?_
    refine o_callg (pick_any W tb _ (some ⟨bl, 0, none⟩) [1, 2, 365, 360, 7] 5 _ (HM.tp (by ((repeat (first | exact Look.here | refine Look.there ?_)); done)) HC.out H0.out hle) (by omega) (ac_ints_own (HM.get (by ((repeat (first | exact Look.here | refine Look.there ?_)); done)))) (fun b o e => by cases e; exact hne) (by simp) (by simp)) rfl ?_ ?_; (focus (refine h_call2 (ts := ?_) (x1 := ?_) (x2 := ?_) ?_ (by kernel_rfl) ?_ ?_; rotate_left 3; (focus rfl); (focus rfl); rfl)); rintro e9 w1 ⟨d, rfl, hd, ⟨c1, hb1, hc1, -, -⟩, hg9⟩; replace HM := HM.put (c' := c1) (by (repeat (first | exact At.here | apply At.there))) hb1 (Only.of_grown hg9); clear hg9 hb1; replace HC := Lib.hid hc1; clear hc1; replace hd := Ac.den5 hd; refine ⟨_, rfl, ?_⟩
    refine hK9 _ _ (heldE HM) ?_; clear hK9 K9; ((try simp only [List.setIfInBounds_toArray]); (try simp only [List.set_cons_succ]); (try simp only [List.set_cons_zero]))
    refine j_one 11 fun K9 hK9 => ?_
    refine j_call2 (v := ?_) HM ?_ ?_; rotate_left 1; (focus (with_reducible (exact mkof_q n d _ (by omega) (by omega) (by omega) (by omega) (by omega) (Lib.hid rfl) _))); clear HM; intro w1 HM
    refine hK9 _ _ (heldE HM) ?_; clear hK9 K9
    refine t_pure (i := 13) (v := .agg (Ag.raw nm (Rt.qA r) bs (Rt.qA (Rat.divInt n d)) 0 day)) rfl rfl (by kernel_rfl) (fun _ _ _ h => h) (heldE HM) (by rfl) ?_ ?_; (focus (exact h_bl5g rfl (by (conv => lhs; whnf) <;> rfl) (by (conv => lhs; whnf) <;> rfl) (by (conv => lhs; whnf) <;> rfl) (by (conv => lhs; whnf) <;> rfl) (by (conv => lhs; whnf) <;> rfl) (fun w => Ag.b5 nm bs day (qA_size r) (qA_size (Rat.divInt n d)) w))); ((try simp only [List.setIfInBounds_toArray]); (try simp only [List.set_cons_succ]); (try simp only [List.set_cons_zero]))
    refine j_one 15 fun K9 hK9 => ?_
    refine j_st HM ?_ (hv := Ag.rsa (qA_size r) (qA_size (Rat.divInt n d)) (qA_one r) (qA_one (Rat.divInt n d)) Ag.z_size); clear HM; intro w1 HM
    refine hK9 _ _ heldN ?_; clear hK9 K9; ((try simp only [List.setIfInBounds_toArray]); (try simp only [List.set_cons_succ]); (try simp only [List.set_cons_zero]))
    refine wpAnyL_done (by kernel_rfl) ?_ _
    (go_wp2_with fail; go_meet; (case rel => exact ⟨_, n, d, _, rfl, n0, n1, hd.1, hd.2, HC, HM.pick⟩))
   ·refine acj_bs5 HM ?_; clear HM; intro bl w1 HM; have hne := Ac.ne HM (b' := tb) (c' := c1) (by ((repeat (first | exact Look.here | refine Look.there ?_)); done))
    refine ⟨(heldE HM), ?_⟩; ((try simp only [List.setIfInBounds_toArray]); (try simp only [List.set_cons_succ]); (try simp only [List.set_cons_zero]))
    refine j_one 7 fun K9 hK9 => ?_
    refine o_callg (next_any W tb _ 1000000 _ (HM.tp (by ((repeat (first | exact Look.here | refine Look.there ?_)); done)) HC.out H0.out hle) (by omega) (by omega) (by omega)) rfl ?_ ?_; (focus (refine h_call2 (ts := ?_) (x1 := ?_) (x2 := ?_) ?_ (by kernel_rfl) ?_ ?_; rotate_left 3; (focus rfl); (focus rfl); rfl)); rintro e9 w1 ⟨n, rfl, n0, n1, ⟨c1, hb1, hc1, -, -⟩, hg9⟩; replace HM := HM.put (c' := c1) (by (repeat (first | exact At.here | apply At.there))) hb1 (Only.of_grown hg9); clear hg9 hb1; replace HC := Lib.hid hc1; clear hc1; refine ⟨_, rfl, ?_⟩
    refine hK9 _ _ (heldE HM) ?_; clear hK9 K9; ((try simp only [List.setIfInBounds_toArray]); (try simp only [List.set_cons_succ]); (try simp only [List.set_cons_zero]))
    refine j_one 10 fun K9 hK9 => ?_
    refine o_callg (pick_any W tb _ (some ⟨bl, 0, none⟩) [1, 2, 365, 360, 7] 5 _ (HM.tp (by ((repeat (first | exact Look.here | refine Look.there ?_)); done)) HC.out H0.out hle) (by omega) (ac_ints_own (HM.get (by ((repeat (first | exact Look.here | refine Look.there ?_)); done)))) (fun b o e => by cases e; exact hne) (by simp) (by simp)) rfl ?_ ?_; (focus (refine h_call2 (ts := ?_) (x1 := ?_) (x2 := ?_) ?_ (by kernel_rfl) ?_ ?_; rotate_left 3; (focus rfl); (focus rfl); rfl)); rintro e9 w1 ⟨d, rfl, hd, ⟨c1, hb1, hc1, -, -⟩, hg9⟩; replace HM := HM.put (c' := c1) (by (repeat (first | exact At.here | apply At.there))) hb1 (Only.of_grown hg9); clear hg9 hb1; replace HC := Lib.hid hc1; clear hc1; replace hd := Ac.den5 hd; refine ⟨_, rfl, ?_⟩
    refine hK9 _ _ (heldE HM) ?_; clear hK9 K9; ((try simp only [List.setIfInBounds_toArray]); (try simp only [List.set_cons_succ]); (try simp only [List.set_cons_zero]))
    refine j_one 11 fun K9 hK9 => ?_
    refine j_call2 (v := ?_) HM ?_ ?_; rotate_left 1; (focus (with_reducible (exact mkof_q n d _ (by omega) (by omega) (by omega) (by omega) (by omega) (Lib.hid rfl) _))); clear HM; intro w1 HM
    refine hK9 _ _ (heldE HM) ?_; clear hK9 K9
    refine t_pure (i := 13) (v := .agg (Ag.raw nm (Rt.qA r) bs (Rt.qA (Rat.divInt n d)) 0 day)) rfl rfl (by kernel_rfl) (fun _ _ _ h => h) (heldE HM) (by rfl) ?_ ?_; (focus (exact h_bl5g rfl (by (conv => lhs; whnf) <;> rfl) (by (conv => lhs; whnf) <;> rfl) (by (conv => lhs; whnf) <;> rfl) (by (conv => lhs; whnf) <;> rfl) (by (conv => lhs; whnf) <;> rfl) (fun w => Ag.b5 nm bs day (qA_size r) (qA_size (Rat.divInt n d)) w))); ((try simp only [List.setIfInBounds_toArray]); (try simp only [List.set_cons_succ]); (try simp only [List.set_cons_zero]))
    refine j_one 15 fun K9 hK9 => ?_
    refine j_st HM ?_ (hv := Ag.rsa (qA_size r) (qA_size (Rat.divInt n d)) (qA_one r) (qA_one (Rat.divInt n d)) Ag.z_size); clear HM; intro w1 HM
    refine hK9 _ _ heldN ?_; clear hK9 K9; ((try simp only [List.setIfInBounds_toArray]); (try simp only [List.set_cons_succ]); (try simp only [List.set_cons_zero]))
    refine wpAnyL_done (by kernel_rfl) ?_ _
    (go_wp2_with fail; go_meet; (case rel => exact ⟨_, n, d, _, rfl, n0, n1, hd.1, hd.2, HC, HM.pick⟩))
 case rest =>
  clear HM HC
  obtain ⟨b8, n, d, c, rfl, n0, n1, d1, d2, HC, HM⟩ := hcut
  obtain ⟨x, hx⟩ : ∃ x, Hid (x = Rat.divInt n d) := ⟨_, Lib.hid rfl⟩
  rw [← hx.out] at HM
  have e20 : Bg.p2 20 = 1048576 := by unfold Bg.p2; rfl
  have e9 : Bg.p2 9 = 512 := by unfold Bg.p2; rfl
  have hbd : Rt.Bd x 20 9 := by rw [hx.out]; exact .divInt (by omega) (by omega) (by omega)
  have hx0 : 0 ≤ x := by
   rw [hx.out]; exact Rat.num_nonneg.1 (by
    rw [Rat.divInt_eq_div]
    have h1 : ((0 : Int) : Rat) ≤ ((n : Int) : Rat) := Rat.intCast_le_intCast.2 n0
    have h2 : ((0 : Int) : Rat) < ((d : Int) : Rat) := Rat.intCast_lt_intCast.2 (by omega)
    refine Rat.num_nonneg.2 ?_
    rw [Rat.div_def]
    exact Rat.mul_nonneg h1 (Rat.le_of_lt (Rat.inv_pos.2 h2)))
  have hx1 : x ≤ ((1000000 : Int) : Rat) := by
   rw [hx.out, Rat.divInt_eq_div]
   have h1 : ((n : Int) : Rat) ≤ ((1000000 : Int) : Rat) := Rat.intCast_le_intCast.2 (by omega)
   have h2 : ((1 : Int) : Rat) ≤ ((d : Int) : Rat) := Rat.intCast_le_intCast.2 d1
   have h3 : ((0 : Int) : Rat) ≤ ((n : Int) : Rat) := Rat.intCast_le_intCast.2 n0
   have e0 : ((0 : Int) : Rat) = 0 := rfl
   have e1 : ((1 : Int) : Rat) = 1 := rfl
   rw [e0] at h3
   rw [e1] at h2
   have h4 : (0 : Rat) < ((d : Int) : Rat) := by grind
   have h5 : ((n : Int) : Rat) / ((d : Int) : Rat) * ((d : Int) : Rat) = ((n : Int) : Rat) := Rat.div_mul_cancel (by grind)
   generalize hq : ((n : Int) : Rat) / ((d : Int) : Rat) = q at *
   have h6 : 0 ≤ q := by rw [← hq, Rat.div_def]; exact Rat.mul_nonneg h3 (Rat.le_of_lt (Rat.inv_pos.2 h4))
   have h7 : 0 ≤ q * (((d : Int) : Rat) - 1) := Rat.mul_nonneg h6 (by grind)
   grind
  have hfl : x.floor = Ac.fl x := by rw [Rat.floor_def]; rfl
  have hf0 : 0 ≤ Ac.fl x := by
   have h1 := Ac.fl_mono hx0
   have h2 : Ac.fl 0 = 0 := Ac.fl_int 0
   omega
  have hf1 : Ac.fl x ≤ 1000000 := by
   have h1 := Ac.fl_mono hx1
   rw [Ac.fl_int] at h1
   exact h1
  obtain ⟨k, hk⟩ : ∃ k : Nat, Hid ((k : Int) = x.floor) := ⟨(Ac.fl x).toNat, Lib.hid (by rw [hfl]; omega)⟩
  have hk1 : (k : Int) ≤ Ac.rhe x := by have := hk.out; have := Ac.fl_rhe x; omega
  have hk2 : k ≤ 1000000 := by have := hk.out; omega
  have FL := fun w => floor_any x k hbd.fit hk (by omega) w
  have l3 := (Ag.fec (nm := nm) (bs := bs) (pd := 0) (un := day) (qA_size r) (qA_size x)).la
  clear hfl hf0 hf1 hk
  go_step
  go_wp2_with (first | (go_at_call 53; ((with_reducible refine (FL _).mono ?_); rintro e9 w2 ⟨rfl, hL⟩; replace HM := HM.call hL; clear hL)) | (first | ((with_reducible refine g_ld ?_); refine a_ld HM ?_) | ((with_reducible refine g_st ?_); refine a_st HM ?_; clear HM; intro w1 HM) | ((with_reducible refine g_al ?_); refine a_al HM ?_; clear HM; intro bk w1 HM) | ((with_reducible refine g_bld ?_); refine a_bld ?_)))
  (refine (next_any W tb _ _ _ (HM.tp (by ((repeat (first | exact Look.here | refine Look.there ?_)); done)) HC.out H0.out hle) (by omega) (by omega) (by omega)).mono ?_; rintro e9 w2 ⟨v, rfl, v0, v1, ⟨c1, hb1, hc1, -, -⟩, hg⟩; replace HM := HM.put (c' := c1) (by (repeat (first | exact At.here | apply At.there))) hb1 (Only.of_grown hg); clear hg hb1; replace HC := Lib.hid hc1; clear hc1)
  have s4 := Ag.spd (nm := nm) (bs := bs) (pd := 0) (un := day) (qA_size r) (qA_size x) v
  have l4 := Ag.rla (nm := nm) (bs := bs) (pd := v) (un := day) (qA_size r) (qA_size x)
  have s5 := Ag.rsa (nm := nm) (bs := bs) (pd := v) (un := day) (qA_size r) (qA_size x) (qA_one r) (qA_one x) Ag.z_size
  go_wp2_with (first | ((with_reducible refine g_ld ?_); refine a_ld HM ?_) | ((with_reducible refine g_st ?_); refine a_st HM ?_; clear HM; intro w1 HM) | ((with_reducible refine g_al ?_); refine a_al HM ?_; clear HM; intro bk w1 HM) | ((with_reducible refine g_bld ?_); refine a_bld ?_))
  refine bodyPost_ret (r_c (b := b6) (k := 0) rfl rfl (HM.get (by ((repeat (first | exact Look.here | refine Look.there ?_)); done))) l4) rfl ?_
  obtain ⟨hT, hg⟩ := HM.done (by ((repeat (first | exact Look.here | refine Look.there ?_)); done)) HC.out H0.out hle0
  have hpr := hr
  obtain ⟨q, q0, q1, hq⟩ := hr
  have ht : Ac.tm nm (some r) bs = true := by rw [hq]; exact Ac.fee_ok hnu q0 q1 hb1 hb2
  have hx2 : x ≤ ((1000000000000000 : Int) : Rat) := Rat.le_trans hx1 (Rat.intCast_le_intCast.2 (by decide))
  exact ⟨⟨nm, Rt.qA r, some r, bs, Rt.qA x, some x, v, day, ⟨Ac.pr_fit hpr, rfl⟩, ⟨hbd.fit, rfl⟩⟩, r, x, rfl, ⟨rfl, rfl, ht, hx0, hx2, v0, by show v ≤ _; omega, hday⟩, hpr, rfl, rfl, hb1, hb2, hbd, hx1, hT.mono (by omega), hg⟩
end Go.Proofs.YtmbjaaaeekacfaaGreatDoor
namespace Go.Proofs.YtmbjaaaeekacfaaGreatDoor
set_option maxRecDepth 8000
open Go.RowKit
theorem Ac.ac_keeps {a : Ag} {base d9 : Int} {R : Array Value} (h : (R, (0 : Int)) = Ac.ac a base d9) : ∃ (b : Ag) (r x : Rat), R = b.c ∧ Ac.Ok b r x ∧ b.nm = a.nm ∧ b.un = d9 := by
 unfold Ac.ac at h
 split at h
 ·rename_i hv
  obtain ⟨r, x, hk⟩ := Ac.ok_of hv
  split at h
  ·cases (Prod.mk.inj h).2
  ·rename_i hb
   split at h
   ·rename_i he
    have hd := Dy.ok_err he
    have hs := hk.sum base d9
    have hn := Ac.add_nonneg hk (base := base) (by omega) hd
    split at h
    ·rename_i hf
     split at h
     ·rename_i hbt
      obtain ⟨rfl, _⟩ := Prod.mk.inj h
      have h1 := (Ac.btw_iff.1 hbt).2
      exact ⟨a.acc _ hf d9, r, _, rfl, Ac.acc_ok hk (by rw [hs]; grind) hf h1 hd.ht, rfl, rfl⟩
     ·cases (Prod.mk.inj h).2
    ·cases (Prod.mk.inj h).2
   ·rename_i he
    exact absurd (Prod.mk.inj h).2.symm he
 ·cases (Prod.mk.inj h).2
theorem Ac.py_keeps {a : Ag} {m : Int} {R : Array Value} (h : (R, (0 : Int)) = Ac.py a m) : ∃ (b : Ag) (r x : Rat), R = b.c ∧ Ac.Ok b r x ∧ b.nm = a.nm ∧ b.un = a.un := by
 unfold Ac.py at h
 split at h
 ·rename_i hv
  obtain ⟨r, x, hk⟩ := Ac.ok_of hv
  split at h
  ·cases (Prod.mk.inj h).2
  ·rename_i hb
   obtain ⟨rfl, _⟩ := Prod.mk.inj h
   rw [hk.eo] at hb
   replace hb : ¬ (m < 0 ∨ Ac.rhe x - a.pd < m) := hb
   exact ⟨a.paid m, r, x, rfl, (Ac.py_ok hk (m := m) (by omega) (by omega)).2, rfl, rfl⟩
 ·cases (Prod.mk.inj h).2
end Go.Proofs.YtmbjaaaeekacfaaGreatDoor
namespace Go.Proofs.YtmbjaaaeekacfaaGreatDoor
set_option maxRecDepth 8000
open Go.RowKit
theorem Dy.divInt_le {n d k : Int} (hd : 0 < d) (h : n ≤ k * d) : Rat.divInt n d ≤ ((k : Int) : Rat) := by
 have hd2 : (0 : Rat) < ((d : Int) : Rat) := Rat.intCast_lt_intCast.2 hd
 refine Rat.not_lt.1 fun hc => ?_
 have h1 := Rat.mul_lt_mul_of_pos_right hc hd2
 rw [Rat.divInt_eq_div, Rat.div_mul_cancel (by grind), ← Rat.intCast_mul, Rat.intCast_lt_intCast] at h1
 omega
theorem Dy.frac_le {b f t : Int} (h : Dy.Ok b f t) : Dy.frac b f t ≤ ((500 : Int) : Rat) := by
 have e5 : ((500 : Int) : Rat) = 500 := rfl
 by_cases h3 : b = 3
 ·subst h3
  have h1 := Dy.ld_le h.hf h.ht h.le
  have h4 := h.hf
  have h5 := h.ht
  unfold Dt.isDay at h4 h5
  simp at h4 h5
  rw [frac3]
  have a1 := Dy.divInt_le (n := t - f - (Dy.ld t - Dy.ld f)) (d := 365) (k := 201) (by omega) (by omega)
  have a2 := Dy.divInt_le (n := Dy.ld t - Dy.ld f) (d := 366) (k := 201) (by omega) (by omega)
  have e2 : ((201 : Int) : Rat) = 201 := rfl
  rw [e2] at a1 a2
  rw [e5]
  grind
 ·rw [Dy.frac_of h3]
  have := (Dy.days_bd h).2
  exact Dy.divInt_le (by split <;> omega) (by split <;> omega)
theorem Ac.part_le {r f : Rat} {b : Int} (_ : 0 ≤ r) (r1 : r ≤ 1) (f0 : 0 ≤ f) (f1 : f ≤ ((500 : Int) : Rat)) (b0 : 0 ≤ b) (b1 : b ≤ 2000000000) : r * f * ((b : Int) : Rat) ≤ ((1000000000000 : Int) : Rat) := by
 have e0 : ((0 : Int) : Rat) ≤ ((b : Int) : Rat) := Rat.intCast_le_intCast.2 b0
 have e1 : ((b : Int) : Rat) ≤ ((2000000000 : Int) : Rat) := Rat.intCast_le_intCast.2 b1
 have z0 : ((0 : Int) : Rat) = 0 := rfl
 rw [z0] at e0
 have h1 : r * f ≤ 1 * f := Rat.mul_le_mul_of_nonneg_right r1 f0
 have h2 : r * f ≤ ((500 : Int) : Rat) := by grind
 have h3 : r * f * ((b : Int) : Rat) ≤ ((500 : Int) : Rat) * ((b : Int) : Rat) := Rat.mul_le_mul_of_nonneg_right h2 e0
 have h4 : ((500 : Int) : Rat) * ((b : Int) : Rat) ≤ ((500 : Int) : Rat) * ((2000000000 : Int) : Rat) := Rat.mul_le_mul_of_nonneg_left e1 (by decide)
 have h5 : ((500 : Int) : Rat) * ((2000000000 : Int) : Rat) = ((1000000000000 : Int) : Rat) := by decide +kernel
 rw [h5] at h4
 exact Rat.le_trans h3 h4
theorem Ac.part_bd {r f : Rat} {b : Int} (hr : Rt.Bd r 28 28) (hf : Rt.Bd f 27 18) (b0 : 0 ≤ b) (b1 : b ≤ 1000000000000000) : Rt.Bd (r * f * ((b : Int) : Rat)) 105 47 := (hr.mul hf).mul (Ac.base_bd b0 b1)
theorem Ac.acc_self {a : Ag} {r x : Rat} (hk : Ac.Ok a r x) (hx : Rt.Fit x) : (a.acc x hx a.un).c = a.c := by
 unfold Ag.c
 rw [hk.fit.2]
 rfl
theorem Ac.step_ok {a : Ag} {r x y : Rat} (hk : Ac.Ok a r x) (hbd : Rt.Bd x 20 9) (hx1 : x ≤ ((1000000 : Int) : Rat)) {base te : Int} (b0 : 0 ≤ base) (b1 : base ≤ 2000000000) (hd : Dy.Ok a.bs a.un te) (hy : y = x + r * Dy.frac a.bs a.un te * ((base : Int) : Rat)) : ∃ hf : Rt.Fit y, Ac.Ok (a.acc y hf te) r y := by
 have h1 := Ac.part_le hk.rate.2.1 hk.rate.2.2 (Dy.frac_nonneg hd) (Dy.frac_le hd) b0 b1
 have h2 := Ac.part_bd hk.bd (Dy.frac_bd hd) b0 (by omega)
 have h3 := Ac.add_nonneg hk b0 hd
 have hf : Rt.Fit y := by rw [hy]; exact (hbd.add h2).fit
 have e1 : ((1000000 : Int) : Rat) = 1000000 := rfl
 have e2 : ((1000000000000 : Int) : Rat) = 1000000000000 := rfl
 have e3 : ((1000000000000000 : Int) : Rat) = 1000000000000000 := rfl
 rw [e1] at hx1
 rw [e2] at h1
 exact ⟨hf, Ac.acc_ok hk (by rw [hy]; grind) hf (by rw [e3, hy]; grind) hd.ht⟩
theorem Ac.two_ok {a : Ag} {r x y z : Rat} {base te to2 : Int} {hy : Rt.Fit y} {hz : Rt.Fit z} (h : Ac.Ok (a.acc y hy te) r y) (k : Ac.Ok (a.acc z hz to2) r z) (b0 : 0 ≤ base) (b1 : base ≤ 2000000000) (hd : Dy.Ok a.bs a.un te) (hd2 : Dy.Ok a.bs te to2) (ey : y = x + r * Dy.frac a.bs a.un te * ((base : Int) : Rat)) (ez : z = x + r * Dy.frac a.bs a.un to2 * ((base : Int) : Rat)) : Ac.ac (a.acc y hy te) base to2 = ((a.acc z hz to2).c, 0) := by
 have hf := Dy.frac_add hd hd2
 have hs : z = y + r * Dy.frac (a.acc y hy te).bs (a.acc y hy te).un to2 * ((base : Int) : Rat) := by
  show z = y + r * Dy.frac a.bs te to2 * ((base : Int) : Rat)
  rw [ey, ez, hf]; grind
 exact (Ac.ac_ok h b0 (by omega) hd2 hs hz k.x1).1
theorem Rt.cmp_le {x y : Rat} (h : x ≤ y) : decide (Rt.cmp x y ≤ 0) = true := by
 rcases Rt.cmp_cases x y with ⟨h1, h2⟩ | ⟨h1, h2⟩ | ⟨h1, h2⟩
 ·rw [h1]; rfl
 ·rw [h1]; rfl
 ·exact absurd h2 (Rat.not_lt.2 h)
theorem Ac.bd_zero : Rt.Bd 0 59 1 := by
 have e59 : Bg.p2 59 = 576460752303423488 := by unfold Bg.p2; rfl
 have e1 : Bg.p2 1 = 2 := by unfold Bg.p2; rfl
 exact ⟨by rw [e59]; decide, by rw [e1]; decide⟩
theorem Ac.one_ok {a : Ag} {r x : Rat} (hk : Ac.Ok a r x) (k : Nat) (h8 : k < 8) (hbd : Rt.Bd x (59 + 48 * k) (1 + 47 * k)) (hx1 : x ≤ (((k : Int) * 1000000000000 : Int) : Rat)) {base te : Int} (b0 : 0 ≤ base) (b1 : base ≤ 2000000000) (hd : Dy.Ok a.bs a.un te) {y : Rat} (hy : y = x + r * Dy.frac a.bs a.un te * ((base : Int) : Rat)) :
    ∃ hf : Rt.Fit y, Ac.ac a base te = ((a.acc y hf te).c, 0) ∧ Ac.Ok (a.acc y hf te) r y ∧ Rt.Bd y (59 + 48 * (k + 1)) (1 + 47 * (k + 1)) ∧ y ≤ (((k + 1 : Nat) : Int) * 1000000000000 : Int) ∧ x ≤ y := by
 have h1 := Ac.part_le hk.rate.2.1 hk.rate.2.2 (Dy.frac_nonneg hd) (Dy.frac_le hd) b0 b1
 have h2 := Ac.part_bd hk.bd (Dy.frac_bd hd) b0 (by omega)
 have h3 := Ac.add_nonneg hk b0 hd
 have h4 : Rt.Bd y (59 + 48 * (k + 1)) (1 + 47 * (k + 1)) := by rw [hy]; exact (hbd.add h2).up (by omega) (by omega)
 have hf : Rt.Fit y := h4.fit (by omega) (by omega)
 have h5 : y ≤ ((((k + 1 : Nat) : Int) * 1000000000000 : Int) : Rat) := by
  have e : ((((k + 1 : Nat) : Int) * 1000000000000 : Int) : Rat) = (((k : Int) * 1000000000000 : Int) : Rat) + ((1000000000000 : Int) : Rat) := by
   rw [← Rat.intCast_add]
   exact congrArg _ (by omega)
  rw [hy, e]
  grind
 have h6 : ((((k + 1 : Nat) : Int) * 1000000000000 : Int) : Rat) ≤ ((1000000000000000 : Int) : Rat) := Rat.intCast_le_intCast.2 (by omega)
 have h7 := Ac.ac_ok hk b0 (by omega) hd hy hf (Rat.le_trans h5 h6)
 exact ⟨hf, h7.1, h7.2, h4, h5, by rw [hy]; grind⟩
end Go.Proofs.YtmbjaaaeekacfaaGreatDoor
