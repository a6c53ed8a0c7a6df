/- Walks. -/
import Derived.Test.YtiekmabiecalbaaGreatDoorPr36
namespace Go.Proofs.YtiekmabiecalbaaGreatDoor
set_option maxHeartbeats 16000000
open Go.RowKit
set_option maxRecDepth 8000
set_option linter.unusedSimpArgs false
set_option linter.unusedVariables false
section
open Jb
section
variable {ops : Array Oper} {rest : List Oper} {a : Act} {w w0 : World} {X : List Nat} {L : List (Nat × Array Value)} {Q : Exit → Act → World → Prop} {d : Option Tmp} {ty t tx e : TypeId} {n by_ : Nat} {ps : String} {af : Array Edge} {g : Option (Nat × Bool)} {x y : Operand}
theorem g_bs4 {x0 x1 x2 x3 : Operand} (h : OpG ops Q rest a w { dst := d, op := .buildSlice t 4 #[(0, x0), (1, x1), (2, x2), (3, x3)], type := ty, pos := ps, after := af, guard := g }) : wpList Tryz.prog ops Q ({ dst := d, op := .buildSlice t 4 #[(0, x0), (1, x1), (2, x2), (3, x3)], type := ty, pos := ps, after := af, guard := g } :: rest) a w := h
theorem a_bs4 {x0 x1 x2 x3 : Operand} {v0 v1 v2 v3 : Value} {c0 c1 c2 c3 : Array Value} {a2 : Nat → Act} (HM : Mem w0 X L w) (h : ∀ b w', Mem w0 X ((b, rowsOf [c0, c1, c2, c3]) :: L) w' → wpList Tryz.prog ops Q rest (a2 b) w') (hT : elemB t e n by_ = true := by with_reducible assumption) (hw : WantT ops { dst := d, op := .buildSlice t 4 #[(0, x0), (1, x1), (2, x2), (3, x3)], type := ty, pos := ps, after := af, guard := g } a := by first | exact Or.inl rfl | exact Or.inr ⟨_, _, _, rfl, rfl, rfl⟩) (h0 : a.eval x0 = v0 := by (conv => lhs; whnf) <;> rfl) (k0 : v0.cells = c0 := by (conv => lhs; whnf) <;> rfl) (z0 : c0.size = n := by (first | assumption | rfl)) (h1 : a.eval x1 = v1 := by (conv => lhs; whnf) <;> rfl) (k1 : v1.cells = c1 := by (conv => lhs; whnf) <;> rfl) (z1 : c1.size = n := by (first | assumption | rfl)) (h2 : a.eval x2 = v2 := by (conv => lhs; whnf) <;> rfl) (k2 : v2.cells = c2 := by (conv => lhs; whnf) <;> rfl) (z2 : c2.size = n := by (first | assumption | rfl)) (h3 : a.eval x3 = v3 := by (conv => lhs; whnf) <;> rfl) (k3 : v3.cells = c3 := by (conv => lhs; whnf) <;> rfl) (z3 : c3.size = n := by (first | assumption | rfl)) (hn : 4 * n ≤ 16777216 := by decide) (ha : ∀ b, a.put d (.slice (some ⟨b, 0, none⟩) 4 4) = a2 b := by intro b; ((try simp only [Act.put, Za, Zx, Zy]) <;> rfl)) : OpG ops Q rest a w { dst := d, op := .buildSlice t 4 #[(0, x0), (1, x1), (2, x2), (3, x3)], type := ty, pos := ps, after := af, guard := g } := by
 obtain ⟨i, z, hE⟩ := elemT hT
 refine wpList_step fun K9 hK => ?_
 rw [if_pos hw.wanted]
 have hr := run_bs hE [v0, v1, v2, v3] (by simp [k0, z0, k1, z1, k2, z2, k3, z3]) hn (parts := #[(0, v0), (1, v1), (2, v2), (3, v3)]) rfl w
 unfold Oper.wp
 simp [execOp, List.map_cons, List.map_nil, h0, h1, h2, h3, k0, k1, k2, k3] at hr ⊢
 exact z9_14
end
theorem v_rem4 {T : TypeId} {x y : Operand} {a i k : Nat} (ha : a < 4) (hi : i < 5) (hk : k = (a + i) % 4) :
    ∀ w, (do eqGuard .rem T x y (.int .i64 ((a : Int) + (i : Int))) (.int .i64 4); binOp .rem T (.int .i64 ((a : Int) + (i : Int))) (.int .i64 4) : Sem Value).run Tryz.prog w = .ok (.int .i64 (k : Nat)) w := by
 have h : ((a : Int) + (i : Int)).tmod 4 = (k : Nat) := by
  rw [Int.tmod_eq_emod_of_nonneg Zo]; omega
 intro w
 go_simp
 first | done | exact h | (rw [h])
def Tq.rot (a i : Nat) : List ByteArray := (List.range i).map fun j => Tq.srcs.getD ((a + j) % 4) { data := #[] }
theorem Tq.rot_len (a i : Nat) : (Tq.rot a i).length = i := by unfold Tq.rot; rw [List.length_map, List.length_range]
theorem Tq.rot_snoc {a i : Nat} {s : ByteArray} (h : Tq.srcs[(a + i) % 4]? = some s) : Tq.rot a (i + 1) = Tq.rot a i ++ [s] := by
 unfold Tq.rot
 rw [List.range_succ, List.map_append, List.map_singleton, List.getD_eq_getElem?_getD, h]; rfl
theorem Tq.rot_nd : ∀ a, a < 4 → ∀ i, i < 5 → (Tq.rot a i).Nodup := by decide +kernel
theorem Tq.rot_all : ∀ a, a < 4 → ∀ i, i < 5 → ((Tq.rot a i).all fun s => Tq.srcs.any fun t => decide (t = s)) = true := by decide +kernel
theorem Tq.rot_mem {a i : Nat} (ha : a < 4) (hi : i < 5) : ∀ s ∈ Tq.rot a i, s ∈ Tq.srcs := fun s hs => by
 obtain ⟨t, ht, e⟩ := List.any_eq_true.1 (List.all_eq_true.1 (Tq.rot_all a ha i hi) s hs)
 rw [← of_decide_eq_true e]; exact ht
structure Tq.MPo (p : WP) (ss : List ByteArray) (tol : Rat) : Prop where
 nd : ss.Nodup
 mem : ∀ s ∈ ss, s ∈ Tq.srcs
 n0 : 1 ≤ ss.length
 n1 : ss.length ≤ 4
 tl : p.tol = rr tol
 pr : Ac.Pr tol
 st : 0 ≤ p.stale ∧ p.stale ≤ 30
theorem Tq.src_name : ∀ s ∈ Tq.srcs, Nm.usableB s = true := by decide +kernel
theorem Tq.MPo.pol {p : WP} {ss : List ByteArray} {tol : Rat} (h : Tq.MPo p ss tol) {w : World} (hr : RdS 1 w p.src.v (V1 (Tq.V ss))) : Tq.Pol p ss tol w := by
 have hp := Ac.pr_ok h.pr
 exact ⟨hr, h.nd, fun s hs => Tq.src_name s (h.mem s hs), h.n0, Nat.le_trans h.n1 Zd, h.tl, hp.1, hp.2.1, hp.2.2, h.st.1, h.st.2⟩
theorem sl_of {n : Nat} {s : Value} {l : List (Array Value)} {B : List (Nat × Array Value)} (h : SlAt n s l B) : ∃ S : Sl, s = S.v := by
 obtain ⟨A, cap, e, _⟩ := h.val
 exact ⟨⟨A, l.length, cap⟩, e⟩
theorem WP.put (x : Rat) (h : Rt.Fit x) (st : Int) (w : World) : (Instr.build 37 #[(1, .agg (Rt.qA x)), (2, .int .i64 st)]).run Tryz.prog w = .ok (.agg (WP.c ⟨⟨none, 0, 0⟩, rr x, st⟩)) w :=
 WP.bld (parts := #[(1, .agg (Rt.qA x)), (2, .int .i64 st)]) (r := ⟨⟨none, 0, 0⟩, rr x, st⟩) (by simp [Value.cells, qA_size]) (by rw [WP.rows]; show _ = rowsOf [_, (rr x).c, _]; rw [rr_c h]; rfl) w
theorem mpolicy_any (W : World) (tb m : Nat) (w : World) (hT : Tp W tb m w) (hm : m ≤ 700000000) :
    Calls Tryz.prog 7 #[.pointer (some ⟨tb, 0, none⟩)] w fun e w' => ∃ (p : WP) (ss : List ByteArray) (tol : Rat) (B : List (Nat × Array Value)) (c : Array Value), e = .returned (.agg p.c) ∧ Hid (Tq.MPo p ss tol) ∧ Hid (SlAt 1 p.src.v (V1 (Tq.V ss)) B) ∧ Hid (TapeC W (m + 1020) c) ∧ Mem w [tb] ((tb, c) :: B) w' := by
 obtain ⟨c0, hbl, hc0, hb, hle0⟩ := hT
 have HM := Mem.start1 w hbl
 have HC := Zi hc0
 have H0 := Zi hb
 have hle : ∀ b ∈ [tb], W.heap.size ≤ b := by simpa using hle0
 have zp := WP.za
 have elr : elemB 86 35 66 264 = true := by kernel_rfl
 have els : elemB 29 9 1 16 = true := by kernel_rfl
 have O1 := fun w => mkof_q 0 1 _ Zd Zd Zd Zd Zd (Zi rfl) w
 have O2 := fun w => mkof_q 3 100 _ Zd Zd Zd Zd Zd (Zi rfl) w
 have O3 := fun w => mkof_q 1 2 _ Zd Zd Zd Zd Zd (Zi rfl) w
 have p1 := Ac.pr_of (n := 0) (d := 1) (k := 100000000) Zd Zd Zd Zd
 have p2 := Ac.pr_of (n := 3) (d := 100) (k := 1000000) Zd Zd Zd Zd
 have p3 := Ac.pr_of (n := 1) (d := 2) (k := 50000000) Zd Zd Zd Zd
 generalize Rat.divInt 0 1 = x1 at *
 generalize Rat.divInt 3 100 = x2 at *
 generalize Rat.divInt 1 2 = x3 at *
 have z1 := qA_size x1
 have z2 := qA_size x2
 have z3 := qA_size x3
 clear hbl hc0 hb
 go_enter Tryz.func7, Tryz.ntmps7
 go_wp2_with (first | (go_at_call 19; (with_reducible refine Zc HM (O1 _) ?_; clear HM; intro w2 HM)) | (go_at_call 19; (with_reducible refine Zc HM (O2 _) ?_; clear HM; intro w2 HM)) | (go_at_call 19; (with_reducible refine Zc HM (O3 _) ?_; clear HM; intro w2 HM)) | (first | ((with_reducible refine g_ld ?_); refine a_ld HM ?_) | ((with_reducible refine g_st ?_); refine a_st HM ?_; clear HM; intro w1 HM) | ((with_reducible refine g_al ?_); refine a_al HM ?_; clear HM; intro bk w1 HM) | ((with_reducible refine g_bld ?_); refine a_bld ?_)))
 refine (percent_any W tb _ _ (HM.tp Zl HC.out H0.out hle) Zo).mono ?_
 rintro e9 w2 ⟨x4, rfl, p4, ⟨c1, hb1, hc1, -, -⟩, hg9⟩
 replace HM := HM.put (c' := c1) Zg hb1 (Only.of_grown hg9)
 clear hg9 hb1 O1 O2 O3
 replace HC := Zi hc1
 clear hc1
 have z4 := qA_size x4
 obtain ⟨b2, rfl⟩ := HM.nm0
 go_wp2_with (first | ((with_reducible refine g_bs4 ?_); refine a_bs4 (c0 := Rt.qA x1) (c1 := Rt.qA x2) (c2 := Rt.qA x3) (c3 := Rt.qA x4) HM ?_; clear HM; intro b9 w1 HM) | (first | ((with_reducible refine g_ld ?_); refine a_ld HM ?_) | ((with_reducible refine g_st ?_); refine a_st HM ?_; clear HM; intro w1 HM) | ((with_reducible refine g_al ?_); refine a_al HM ?_; clear HM; intro bk w1 HM) | ((with_reducible refine g_bld ?_); refine a_bld ?_)))
 have hne := Tq.ne HM (b' := tb) Zs
 refine (pickr_any W tb _ b9 [Rt.qA x1, Rt.qA x2, Rt.qA x3, Rt.qA x4] 4 _ (HM.tp Zl HC.out H0.out hle) Zo (HM.get Zl) hne rfl Zd Zd (fun c hc => by simp only [List.mem_cons, List.not_mem_nil, or_false] at hc; rcases hc with rfl | rfl | rfl | rfl <;> assumption) (fun c hc => by simp only [List.mem_cons, List.not_mem_nil, or_false] at hc; rcases hc with rfl | rfl | rfl | rfl <;> exact qA_one _)).mono ?_
 rintro e9 w2 ⟨cx, rfl, hcx, ⟨c2, hb1, hc1, -, -⟩, hg9⟩
 replace HM := HM.put (c' := c2) Zg hb1 (Only.of_grown hg9)
 clear hg9 hb1 hne
 replace HC := Zi hc1
 clear hc1
 obtain ⟨x, rfl, hx⟩ : ∃ x, cx = Rt.qA x ∧ Ac.Pr x := by
  simp only [List.mem_cons, List.not_mem_nil, or_false] at hcx
  rcases hcx with rfl | rfl | rfl | rfl
  ·exact ⟨_, rfl, p1⟩
  ·exact ⟨_, rfl, p2⟩
  ·exact ⟨_, rfl, p3⟩
  ·exact ⟨_, rfl, p4⟩
 clear hcx p1 p2 p3 p4 z1 z2 z3 z4
 replace HM := HM.tail
 have HX := Zi hx
 clear hx
 have e5 : elemB 22 3 1 8 = true := by kernel_rfl
 go_wp2_with (first | ((with_reducible refine g_ld ?_); refine a_ld HM ?_) | ((with_reducible refine g_st ?_); refine a_st HM ?_; clear HM; intro w1 HM) | ((with_reducible refine g_al ?_); refine a_al HM ?_; clear HM; intro bk w1 HM) | ((with_reducible refine g_bld ?_); refine a_bld ?_))
 (refine (pick_new (tb := tb) (W := W) HM Zl HC.out H0.out (by first | exact hle | simpa using hle) [0, 1, 2, 5, 30] _ Zo Zs Zs).mono ?_; rintro e9 w2 ⟨v1, c1, rfl, hv, hc1, hb1, hg⟩; replace HM := HM.put (c' := c1) Zg hb1 hg; clear hg hb1; replace HC := Zi hc1; clear hc1)
 have hst : 0 ≤ v1 ∧ v1 ≤ 30 := by
  exact z9_91
 clear hv
 obtain ⟨st, rfl⟩ : ∃ st, st = v1 := ⟨_, rfl⟩
 have HB := WP.put x (Ac.pr_ok HX.out).1.fit st
 have sp := (WP.mk ⟨none, 0, 0⟩ (rr x) st).sa (z := WP.zero.c) (WP.size _)
 go_wp2_with (first | ((with_reducible refine g_bld ?_); refine a_rbl (v := .agg (WP.c ⟨⟨none, 0, 0⟩, rr x, st⟩)) ?_ (hy := h_bg2 rfl Zw Zw (by with_reducible exact (HB)))) | (go_at_call 21; refine (msrc_at _).mono ?_; rintro e9 w9 ⟨bS, off, cv, rfl, HL, hB9⟩; replace HM := HM.join hB9; clear hB9; simp only [List.cons_append, List.nil_append] at HM) | (first | ((with_reducible refine g_ld ?_); refine a_ld HM ?_) | ((with_reducible refine g_st ?_); refine a_st HM ?_; clear HM; intro w1 HM) | ((with_reducible refine g_al ?_); refine a_al HM ?_; clear HM; intro bk w1 HM) | ((with_reducible refine g_bld ?_); refine a_bld ?_)))
 (refine (next_any W tb _ _ _ (HM.tp Zl HC.out H0.out hle) Zo Zo Zo).mono ?_; rintro e9 w2 ⟨v, rfl, v0, v1, ⟨c1, hb1, hc1, -, -⟩, hg⟩; replace HM := HM.put (c' := c1) Zg hb1 (Only.of_grown hg); clear hg hb1; replace HC := Zi hc1; clear hc1)
 obtain ⟨at0, rfl⟩ : ∃ k : Nat, v = k := ⟨v.toNat, by omega⟩
 obtain ⟨b3, rfl⟩ := HM.nm1
 clear HB sp
 go_wp2_with (first | ((with_reducible refine g_ld ?_); refine a_ld HM ?_) | ((with_reducible refine g_st ?_); refine a_st HM ?_; clear HM; intro w1 HM) | ((with_reducible refine g_al ?_); refine a_al HM ?_; clear HM; intro bk w1 HM) | ((with_reducible refine g_bld ?_); refine a_bld ?_))
 go_loopw [6] (fun iv wr => ∃ (i : Nat) (S : Sl) (B : List (Nat × Array Value)) (c : Array Value), iv = .int .i64 (i : Nat) ∧ i ≤ 4 ∧ Hid (SlAt 1 S.v (V1 (Tq.V (Tq.rot at0 i))) B) ∧ Hid (TapeC W (m + 1003 + i) c) ∧ Mem w [tb] ((b3, WP.c ⟨S, rr x, st⟩) :: (bS, cv) :: (b2, WP.zero.c) :: (tb, c) :: B) wr) (fun iv _ => 4 - (intOf iv).toNat)
 case atStart => exact ⟨0, ⟨none, 0, 0⟩, [], _, rfl, by omega, Zi .nil, HC, HM.pick⟩
 case round =>
  clear HM HC
  obtain ⟨i, S, B, c, rfl, hi, HS, HC, HM⟩ := hrel
  go_wp2_with (first | ((with_reducible refine g_ld ?_); refine a_ld HM ?_) | ((with_reducible refine g_st ?_); refine a_st HM ?_; clear HM; intro w1 HM) | ((with_reducible refine g_al ?_); refine a_al HM ?_; clear HM; intro bk w1 HM) | ((with_reducible refine g_bld ?_); refine a_bld ?_))
  (refine (next_any W tb _ _ _ (HM.tp Zl HC.out H0.out hle) Zo Zo Zo).mono ?_; rintro e9 w2 ⟨u, rfl, u0, u1, ⟨c1, hb1, hc1, -, -⟩, hg⟩; replace HM := HM.put (c' := c1) Zg hb1 (Only.of_grown hg); clear hg hb1; replace HC := Zi hc1; clear hc1)
  by_cases hlt : (i : Int) < 1 + u
  ·obtain ⟨k, hk⟩ : ∃ k, k = (at0 + i) % 4 := ⟨_, rfl⟩
   obtain ⟨s, hs⟩ : ∃ s, Tq.srcs[k]? = some s := ⟨_, List.getElem?_eq_getElem (show k < Tq.srcs.length by show k < 4; omega)⟩
   have ls := HL.out k s hs
   have HRS := Zi (Tq.rot_snoc (a := at0) (i := i) (hk ▸ hs))
   have HK := Zi hk
   have ha4 : at0 < 4 := by omega
   have hi5 : i < 5 := by omega
   have hk4 : (k : Int) < 4 := by omega
   have l1 : LA 29 (WP.c ⟨S, rr x, st⟩) 0 (Sl.v S) := (WP.f_src _).la
   clear hk hs
   go_upto_region 7 with (first | ((with_reducible refine g_ld ?_); refine a_ld HM ?_) | ((with_reducible refine g_st ?_); refine a_st HM ?_; clear HM; intro w1 HM) | ((with_reducible refine g_al ?_); refine a_al HM ?_; clear HM; intro bk w1 HM) | ((with_reducible refine g_bld ?_); refine a_bld ?_))
   refine start_M2 [12] HM ((Sub.keep (Sub.keep (Sub.keep Sub.nil)))) Zk (fun w0x H9 => ?_)
   replace HM := H9; clear H9
   refine k_fa 0 (heldE HM) ?_
   refine k_ld 1 [10, 11, 12] (heldE HM) ?_
   refine k_mv 2 (heldE HM) ?_
   refine k_mv 3 (heldE HM) ?_
   refine k_mv 4 (heldE HM) ?_
   refine k_add 5 (heldE HM) ?_
   refine t_pure (i := 6) (v := .int .i64 (k : Nat)) rfl rfl Zk (fun _ _ _ h => h) (heldE HM) Zv ?_ ?_; (focus (exact h_bin rfl Zw Zw (v_rem4 ha4 hi5 HK.out))); ((try simp only [Za]); (try simp only [Zx]); (try simp only [Zy]))
   refine k_ia 7 (heldE HM) ?_
   refine k_ld 8 [9, 10, 11, 12] (heldE HM) ?_
   refine j_one 9 fun K9 hK9 => ?_
   refine j_bs1 (c0 := #[.string s]) HM ?_ (hT := els); clear HM; intro b9 w1 HM
   refine hK9 _ _ (heldE HM) ?_; clear hK9 K9; ((try simp only [Za]); (try simp only [Zx]); (try simp only [Zy]))
   refine j_one 10 fun K9 hK9 => ?_
   refine j_app (m := [#[.string s]]) (F := fun X => (b3, WP.c ⟨S, rr x, st⟩) :: (bS, cv) :: (b2, WP.zero.c) :: (tb, c1) :: X) HM HS.out ((SlAt.made1 b9 rfl).rd HM Zs) ?_ (by simp [Value.oneCell']) (hT := els) (hTx := els) (hlen := by rw [Tq.V_len, Tq.rot_len]; simp; omega); clear HM; intro s9 B9 w9 HSS HM; obtain ⟨S9, rfl⟩ := sl_of HSS; have s12 : SA 29 (WP.c ⟨S, rr x, st⟩) 0 (Sl.v S9) (WP.c ⟨S9, rr x, st⟩) := WP.s_src _ S9
   refine hK9 _ _ (heldE HM) ?_; clear hK9 K9; ((try simp only [Za]); (try simp only [Zx]); (try simp only [Zy]))
   refine k_fa 11 (heldE HM) ?_
   refine j_one 12 fun K9 hK9 => ?_
   refine j_st HM ?_; clear HM; intro w1 HM
   refine hK9 _ _ heldN ?_; clear hK9 K9
   refine wpAnyL_done Zk ?_ _
   (go_wp2_with fail; go_roundw; (case rel => exact ⟨i + 1, S9, B9, c1, by go_num, by omega, Zi (by rw [HRS.out]; simpa [Tq.V, V1] using HSS), Zi (HC.out.mono Zo), HM⟩); (case measure => simp [intOf]; omega))
  ·have lp := (WP.mk S (rr x) st).la
   have sp := (WP.mk S (rr x) st).sa (z := WP.zero.c) (WP.size _)
   go_wp2_with (first | ((with_reducible refine g_ld ?_); refine a_ld HM ?_) | ((with_reducible refine g_st ?_); refine a_st HM ?_; clear HM; intro w1 HM) | ((with_reducible refine g_al ?_); refine a_al HM ?_; clear HM; intro bk w1 HM) | ((with_reducible refine g_bld ?_); refine a_bld ?_))
   refine bodyPost_ret (r_c rfl rfl (HM.get Zl) lp) rfl ?_
   exact ⟨⟨S, rr x, st⟩, Tq.rot at0 i, x, B, c1, rfl, Zi ⟨Tq.rot_nd at0 Zo i Zo, Tq.rot_mem Zo Zo, by rw [Tq.rot_len]; omega, by rw [Tq.rot_len]; omega, rfl, HX.out, hst⟩, HS, Zi (HC.out.mono Zo), HM.pick⟩
end
end Go.Proofs.YtiekmabiecalbaaGreatDoor
