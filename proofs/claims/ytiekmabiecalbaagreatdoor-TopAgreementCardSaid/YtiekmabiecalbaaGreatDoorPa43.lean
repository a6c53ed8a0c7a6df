/- Walks. -/
import Derived.Test.YtiekmabiecalbaaGreatDoorPa40
import Derived.Test.YtiekmabiecalbaaGreatDoorPa42
namespace Go.Proofs.YtiekmabiecalbaaGreatDoor
set_option maxHeartbeats 16000000
open Go.RowKit
set_option maxRecDepth 8000
set_option linter.unusedSimpArgs false
set_option linter.unusedVariables false
section
open Jb
theorem Dt.txt11 : Dt.txt 9497 = Dt.t11 := by rw [Tq.txt7.2.2.2.2.2.1]; decide +kernel
theorem Tl.join5 (a b c d e : ByteArray) : (⟨(Lib.join ([a, b, c, d, e].map (·.data.toList)) ({ data := #[44] } : ByteArray).data.toList).toArray⟩ : ByteArray) = Tl.ln [a, b, c, d, e] := by
 refine ByteArray.ext (Array.toList_inj.1 ?_)
 simp only [Tl.ln, Tl.cm, ByteArray.data_append, Array.toList_append, Lib.join, List.map_cons, List.map_nil, List.intercalate, List.intersperse, List.flatten_cons, List.flatten_nil, List.append_nil]
theorem Tl.join_x (a b c d e : ByteArray) (bs : Nat) (w : World) (hB : Blk w bs (rowsOf (V1 (Tq.V [a, b, c, d, e])))) (hl : (Tl.ln [a, b, c, d, e]).size ≤ 1000) :
    Calls Tryz.prog 42 #[.slice (some ⟨bs, 0, none⟩) 5 5, .string { data := #[44] }] w fun e9 w' => e9 = .returned (.string (Tl.ln [a, b, c, d, e])) ∧ Below w.heap.size w w' := by
 have hj5 := Tl.join5 a b c d e
 have hlen : (Lib.join ([a, b, c, d, e].map (·.data.toList)) ({ data := #[44] } : ByteArray).data.toList).length = (Tl.ln [a, b, c, d, e]).size := by
  rw [← hj5]
  show _ = Array.size _
  rw [List.size_toArray]
 have JN := Tryz.strings_Join bs 0 5 [a, b, c, d, e] { data := #[44] } w (fun j x hj => by
  rw [Nat.zero_add, hB.cell j]
  have h9 := rows_at (n := 1) (l := V1 (Tq.V [a, b, c, d, e])) (k := j) (j := 0) (c := #[.string x]) (by intro c hc; obtain ⟨v, _, rfl⟩ := List.mem_map.1 hc; rfl) (by unfold V1; rw [List.getElem?_map, Tq.V_at hj]; rfl) Zd
  rw [Nat.one_mul, Nat.add_zero] at h9
  exact h9) hB.lt (show 5 ≤ 140737488355328 by decide) (Nat.le_refl 5) (by rw [hlen]; omega)
 rw [hj5] at JN
 exact JN
theorem qformat_x (q : JQ) (x : Rat) (n : Nat) (hd : q.day = 9497) (hv : q.vd = false) (hk : known q.kn = true) (hp : q.prc = rr x) (hx : Rt.Fit x) (hl : Ac.lo x 6 = n) (hr : Ac.re x 6 = 0) (hn : (Tx.txt false n).size ≤ 21) (hq : q.line = true) (hw : q.wf) (hs0 : q.src.size ≤ 100) (hs1 : q.ins.size ≤ 100) (hs2 : q.cur.size ≤ 100) (w : World) :
    Calls Tryz.prog 15 #[.agg q.c] w fun e w' => (∃ s : ByteArray, e = .returned (.tuple #[.string s, .int .i64 0]) ∧ Hid (∃ W Q, s = Tl.ln [q.src, q.ins, q.cur, Dt.t11, Ac.dec W Q] ∧ Ac.DecOf n W Q)) ∧ Below w.heap.size w w' := by
 have HM := Mem.start w
 have QL := fun w => qline_any q hw w
 rw [hq] at QL
 have QK := fun w => below_eq (qkn_any q.kn true (Zi hk.symm) w)
 have DF := fun w => dfmt_x 9497 Zd w
 rw [Dt.txt11] at DF
 have TX := fun w => text_x x hx n hl hr hn w
 have l0 := (JQ.f_src q).la
 have l1 := (JQ.f_ins q).la
 have l2 := (JQ.f_cur q).la
 have l3 := (JQ.f_day q).la
 have l4 := (JQ.f_prc q).la
 have l5 := (JQ.f_kn q).la
 have l6 := (JQ.f_vd q).la
 have lq := q.la
 rw [hd] at l3
 rw [hv] at l6
 rw [hp, rr_c hx] at l4
 obtain ⟨t11, ht11⟩ := Zh (Dt.t11)
 rw [← ht11.out] at DF
 have els : elemB 29 9 1 16 = true := by kernel_rfl
 obtain ⟨hw1, hw2, hw3⟩ := hw
 have t11s : t11.size = 10 := by rw [ht11.out]; rfl
 have HT := Zi t11s
 clear hd hv hk hp hx hl hr hn hq t11s
 go_enter Tryz.func15, Tryz.ntmps15
 go_upto_region 7 with (first | (go_at_call 31; (with_reducible refine Zc HM (QL _) ?_; clear HM; intro w2 HM)) | (go_at_call 32; (with_reducible refine Zc HM (QK _) ?_; clear HM; intro w2 HM)) | (go_at_call 40; (with_reducible refine Zc HM (DF _) ?_; clear HM; intro w2 HM)) | (go_at_call 41; refine (TX _).mono ?_; rintro e9 w2 ⟨⟨W, Q, rfl, HD⟩, hL⟩; replace HM := HM.call hL; clear hL) | (first | ((with_reducible refine g_ld ?_); refine a_ld HM ?_) | ((with_reducible refine g_bx ?_); refine a_bx HM ?_; clear HM; intro bk w1 HM)))
 obtain ⟨f4, hf4⟩ := Zh (Ac.dec W Q)
 rw [← hf4.out]
 have hf4s : f4.size ≤ 30 := by
  rw [hf4.out, ← Tx.ns_len, Ac.dec_ns W Q HD.out.dw HD.out.dq, List.length_append, List.length_map]
  have h1 := HD.out.w1
  have h2 := HD.out.q1
  split
  ·simp; omega
  ·rw [List.length_cons, List.length_map]; omega
 go_wp2_with (first | ((with_reducible refine g_bs5 ?_); refine a_bs5 (c0 := #[Value.string q.src]) (c1 := #[Value.string q.ins]) (c2 := #[Value.string q.cur]) (c3 := #[Value.string t11]) (c4 := #[Value.string f4]) HM ?_; clear HM; intro bs w9 HM) | (first | ((with_reducible refine g_ld ?_); refine a_ld HM ?_) | ((with_reducible refine g_bx ?_); refine a_bx HM ?_; clear HM; intro bk w1 HM)))
 have hlen : (Tl.ln [q.src, q.ins, q.cur, t11, f4]).size ≤ 1000 := by
  have h9 := HT.out
  have h8 : Tl.cm.size = 1 := rfl
  show (q.src ++ (Tl.cm ++ (q.ins ++ (Tl.cm ++ (q.cur ++ (Tl.cm ++ (t11 ++ (Tl.cm ++ f4)))))))).size ≤ 1000
  simp only [ByteArray.size_append]
  omega
 refine (Tl.join_x q.src q.ins q.cur t11 f4 bs _ (HM.get Zl) hlen).mono ?_
 rintro e9 w2 ⟨rfl, hL⟩
 replace HM := HM.call hL
 clear hL
 have HFIN : Hid (∃ W Q, Tl.ln [q.src, q.ins, q.cur, t11, f4] = Tl.ln [q.src, q.ins, q.cur, Dt.t11, Ac.dec W Q] ∧ Ac.DecOf n W Q) := Zi ⟨W, Q, by rw [ht11.out, hf4.out], HD.out⟩
 go_wp2_with (first | ((with_reducible refine g_ld ?_); refine a_ld HM ?_) | ((with_reducible refine g_bx ?_); refine a_bx HM ?_; clear HM; intro bk w1 HM))
 go_ret2
 exact ⟨⟨_, rfl, HFIN⟩, HM.low⟩
end
section
open Jb
theorem Tq.mp_six {x : Rat} (h : Tq.MP x) (w : World) : ∃ n : Nat, Ac.lo x 6 = n ∧ Ac.re x 6 = 0 ∧ (Tx.txt false n).size ≤ 21 ∧ x = Rat.divInt n 1000000 := by
 have hf := h.1.fit
 obtain ⟨⟨h1, h2⟩, h0, -⟩ := (Jb.price_iff (o := some x) ⟨hf, rr_c hf⟩ w).1 h.2.2.1
 have hl0 : 0 ≤ Ac.lo x 6 := Int.ediv_nonneg (Int.mul_nonneg (Rat.num_nonneg.2 h0) (by have := Ac.p10_pos 6; omega)) (Int.le_of_lt (Ac.den_pos x))
 refine ⟨(Ac.lo x 6).toNat, by omega, h1, ?_, ?_⟩
 ·rw [show (Ac.lo x 6).natAbs = (Ac.lo x 6).toNat by omega] at h2
  exact h2
 ·have e1 : x.num * 1000000 = x.den * Ac.lo x 6 := by
    have h9 := Int.mul_ediv_add_emod (x.num * Ac.p10 6) x.den
    unfold Ac.re at h1
    rw [h1, Int.add_zero] at h9
    exact h9.symm
  rw [show (((Ac.lo x 6).toNat : Nat) : Int) = Ac.lo x 6 by omega]
  conv => lhs; rw [← Rat.num_divInt_den x]
  rw [Rat.divInt_eq_divInt_iff (by have := x.den_pos; omega) Zd, e1, Int.mul_comm]
namespace Tq
def acme : ByteArray := { data := #[65, 67, 77, 69] }
def aq (x : Rat) (s : ByteArray) (k : Int) : JQ := ⟨s, acme, usd, 9497, rr x, k, false⟩
theorem aq_qd {x : Rat} (hx : MP x) {s : ByteArray} (hs : s ∈ srcs) (k : Int) : Qd (aq x s k) :=
 ⟨hs, .head _, .head _, by show (9492 : Int) ≤ 9497; decide, by show (9497 : Int) ≤ 9498; decide, fun _ => ⟨x, rfl, hx⟩, fun e => by cases e⟩
structure Ag (x : Rat) (S : List ByteArray) (M : List JQ) : Prop where
 bk : Book M
 vs : vis Dt.txt M 9 = M
 eq : M.map (·.src) = S
 el : ∀ q ∈ M, q.src ∈ srcs ∧ ∃ k : Int, q = aq x q.src k ∧ 1 ≤ k ∧ k ≤ S.length
 hd : ∀ s r, S = s :: r → ∃ m, M = aq x s 1 :: m
theorem Ag.start (x : Rat) : Ag x [] [] := ⟨⟨by simp, by simp, rfl, by simp⟩, rfl, rfl, by simp, fun s r h => by cases h⟩
theorem Ag.len {x : Rat} {S : List ByteArray} {M : List JQ} (h : Ag x S M) : M.length = S.length := by rw [← h.eq, List.length_map]
theorem Ag.step {x : Rat} (hx : MP x) {S : List ByteArray} {M : List JQ} (h : Ag x S M) {s : ByteArray} (hs : s ∈ srcs) (hn : s ∉ S) (hl : S.length < 8) : Ag x (S ++ [s]) (M ++ [aq x s (S.length + 1)]) := by
 have hq := aq_qd hx hs (S.length + 1)
 have hqd : ∀ q ∈ M, Qd q := fun q hq => by
  obtain ⟨h1, k, e, -⟩ := h.el q hq
  rw [e]; exact aq_qd hx h1 k
 refine ⟨h.bk.snoc hq (fun y hy => ?_) (by show 1 ≤ (S.length : Int) + 1; omega) (by show (S.length : Int) + 1 ≤ _; omega) (by rw [h.len]; omega), ?_, by rw [List.map_append, h.eq]; rfl, fun q hq => ?_, fun s' r e => ?_⟩
 ·obtain ⟨h1, k, e, h2, h3⟩ := h.el y hy
  rw [e]
  show k < (S.length : Int) + 1
  omega
 ·rw [vis_app (by show (S.length : Int) + 1 ≤ 9; omega), h.vs, filter_all]
  ·rfl
  ·intro y hy e
   have := (Qd.inj (hqd y hy) hq e).1
   refine hn ?_
   rw [← h.eq, show s = y.src from this.symm]
   exact List.mem_map_of_mem hy
 ·rcases List.mem_append.1 hq with hq | hq
  ·obtain ⟨h1, k, e, h2, h3⟩ := h.el q hq
   exact ⟨h1, k, e, h2, by rw [List.length_append]; show k ≤ ((S.length + 1 : Nat) : Int); omega⟩
  ·rw [List.mem_singleton.1 hq]
   exact ⟨hs, S.length + 1, rfl, by omega, by rw [List.length_append]; show (S.length : Int) + 1 ≤ ((S.length + 1 : Nat) : Int); omega⟩
 ·cases S with
  | nil =>
   injection e with e1 e2
   subst e1
   have : M = [] := List.length_eq_zero_iff.1 h.len
   subst this
   exact ⟨[], rfl⟩
  | cons a b =>
   injection e with e1 e2
   subst e1
   obtain ⟨m, hm⟩ := h.hd a b rfl
   exact ⟨m ++ [aq x s ((a :: b).length + 1)], by rw [hm]; rfl⟩
theorem Ag.sel {x : Rat} (hx : MP x) {s : ByteArray} {r : List ByteArray} {M : List JQ} (h : Ag x (s :: r) M) (d st : Int) (h0 : 9497 ≤ d) (h1 : d ≤ 9497 + st) (tol : Rat) (ht : 0 ≤ tol) (C : List JQ) (hC : C = cand (vis Dt.txt M 9) (s :: r) acme d st) :
    C ≠ [] ∧ Tq.sel C tol = (some (aq x s 1), []) := by
 obtain ⟨m, hm⟩ := h.hd s r rfl
 have hq0 : aq x s 1 ∈ M := by rw [hm]; exact List.mem_cons_self
 have hall : ∀ q ∈ C, q.cur = usd ∧ q.prc = rr x := fun q hq => by
  have hq2 : q ∈ M := by
   have := cand_mem (hC ▸ hq)
   rwa [h.vs] at this
  obtain ⟨-, k, e, -⟩ := h.el q hq2
  rw [e]; exact ⟨rfl, rfl⟩
 have hfit : fit s acme d st (aq x s 1) = true := by
  unfold fit
  rw [show ((aq x s 1).src == s) = true from (jb_str _ _).2 rfl, show ((aq x s 1).ins == acme) = true from (jb_str _ _).2 rfl, Zt (show (aq x s 1).day ≤ d from h0), Zt (show d - st ≤ (aq x s 1).day from by show d - st ≤ 9497; omega)]
  rfl
 have hnw : nw (fit s acme d st) none (vis Dt.txt M 9) = some (aq x s 1) := by
  rw [h.vs]
  cases hw : nw (fit s acme d st) none M with
  | none =>
   have := (nw_none _ M none hw).2 _ hq0
   rw [hfit] at this; cases this
  | some q =>
   obtain ⟨hq, -, -⟩ := nw_some _ M none q hw
   rcases hq with hq | ⟨hq, hf⟩
   ·cases hq
   ·have hsrc : q.src = s := by
      simp only [fit, Bool.and_eq_true] at hf
      exact (jb_str _ _).1 hf.1
    obtain ⟨-, k, e, -⟩ := h.el q hq
    have hk : key Dt.txt q = key Dt.txt (aq x s 1) := by
     rw [e, hsrc]; rfl
    have hnd := (vis_facts (T := Dt.txt) M 9).1
    rw [h.vs] at hnd
    rw [nodup_key hnd hq hq0 hk]
 obtain ⟨C', hC'⟩ : ∃ C', C = aq x s 1 :: C' := by
  rw [hC]
  unfold cand
  rw [List.filterMap_cons, hnw]
  exact ⟨_, rfl⟩
 refine ⟨by rw [hC']; exact List.cons_ne_nil _ _, ?_⟩
 have hcur : ∀ q ∈ C, (q.cur == (aq x s 1).cur) = true := fun q hq => (jb_str _ _).2 (hall q hq).1
 have hy : px (yard C (aq x s 1)).prc = x := by
  have hne : C.filter (fun q => !(!(q.cur == (aq x s 1).cur))) ≠ [] := by
   rw [hC', List.filter_cons_of_pos (by rw [hcur _ (by rw [hC']; exact List.mem_cons_self)]; rfl)]
   exact List.cons_ne_nil _ _
  have hmem := (List.mem_filter.1 (md_mem hne)).1
  have := (hall _ hmem).2
  unfold yard
  rw [this]
  exact px_rr hx.1.fit
 have hbad : ∀ q ∈ C, bad (aq x s 1) x tol q = false := fun q hq => by
  unfold bad
  rw [hcur q hq, (hall q hq).2, px_rr hx.1.fit]
  have hz : Rt.abs (x - x) = 0 := by rw [Rat.sub_self]; rfl
  have hp : 0 ≤ tol * x := Rat.mul_nonneg ht (Rat.le_of_lt hx.2.1)
  have hn : near x x tol = true := by
   unfold near
   rw [hz]
   refine Zt ?_
   rcases Rt.cmp_cases 0 (tol * x) with ⟨e, -⟩ | ⟨e, -⟩ | ⟨e, h9⟩
   ·rw [e]; decide
   ·rw [e]; decide
   ·exact absurd h9 (Rat.not_lt.2 hp)
  rw [hn]; rfl
 have e1 : C.find? (fun q => !bad (aq x s 1) x tol q) = some (aq x s 1) := by
  rw [hC', List.find?_cons, hbad _ (by rw [hC']; exact List.mem_cons_self)]; rfl
 have e2 : C.filter (bad (aq x s 1) x tol) = [] := List.filter_eq_nil_iff.2 fun q hq => by rw [hbad q hq]; exact Bool.false_ne_true
 have e3 : Tq.sel C tol = (C.find? (fun q => !bad (aq x s 1) (px (yard C (aq x s 1)).prc) tol q), (C.filter (bad (aq x s 1) (px (yard C (aq x s 1)).prc) tol)).map (·.src)) := by
  rw [hC']; rfl
 rw [e3, hy, e1, e2]; rfl
end Tq
end
section
theorem z9_96 {P : Prop} (h : P := by
 refine j_one 13 fun K9 hK9 => ?_
 refine j_st HM ?_; clear HM; intro w1 HM
 refine hK9 _ _ (heldE HM) ?_; clear hK9 K9
 refine k_mv 14 (heldE HM) ?_
 refine wpAnyL_done Zk ?_ _
 (go_wp2_with fail; go_meet; (case rel => exact ⟨_, c, rfl, rfl, HCH, HM.pick⟩))) : P := h
theorem z9_97 {P : Prop} (h : P := by
 refine j_one 8 fun K9 hK9 => ?_
 refine o_callg (SE (9497 + v) Zo Zo _ (HRM.out _ _ HM Zs) (HRP.out _ _ HM Zs)) rfl ?_ ?_; (focus (refine h_call5 (ts := ?_) (x1 := ?_) (x2 := ?_) (x3 := ?_) (x4 := ?_) (x5 := ?_) ?_ Zk ?_ ?_ ?_ ?_ ?_; rotate_left 6; (focus rfl); (focus rfl); (focus rfl); (focus rfl); (focus rfl); rfl)); rintro e9 w1 ⟨⟨c, rfl, HCH⟩, hL⟩; replace HM := HM.call hL; clear hL; have sc := c.sa (z := CH.zero.c) (CH.size _); refine ⟨_, rfl, ?_⟩
 refine hK9 _ _ (heldE HM) ?_; clear hK9 K9; ((try simp only [Za]); (try simp only [Zx]); (try simp only [Zy]))
 refine k_mv 9 (heldE HM) ?_
 refine k_ext 10 (heldE HM) ?_
 refine k_ext 11 (heldE HM) ?_
 refine j_one 13 fun K9 hK9 => ?_
 refine j_st HM ?_; clear HM; intro w1 HM
 refine hK9 _ _ (heldE HM) ?_; clear hK9 K9
 refine k_mv 14 (heldE HM) ?_
 refine wpAnyL_done Zk ?_ _
 (go_wp2_with fail; go_meet; (case rel => exact ⟨_, c, rfl, rfl, HCH, HM.pick⟩))) : P := h
end
section
open Jb
def Tl.src (s : ByteArray) : ByteArray := s ++ { data := #[44, 65, 67, 77, 69, 44, 85, 83, 68, 44, 50, 48, 50, 54, 45, 48, 49, 45, 48, 49, 44, 45] }
theorem Tl.src_ln (s : ByteArray) : Tl.src s = Tl.ln [s, Tq.acme, Tq.usd, Dt.t11, { data := #[45] }] := by
 unfold Tl.src
 show _ = s ++ (Tl.cm ++ (Tq.acme ++ (Tl.cm ++ (Tq.usd ++ (Tl.cm ++ (Dt.t11 ++ (Tl.cm ++ { data := #[45] })))))))
 congr 1
theorem Tl.src_ok {s : ByteArray} (h : s ∈ Tq.srcs) : (44 : UInt8) ∉ s.data.toList ∧ 1 ≤ s.size := by
 simp only [Tq.srcs, List.mem_cons, List.not_mem_nil, or_false] at h
 rcases h with rfl | rfl | rfl | rfl <;> exact ⟨by decide, by decide⟩
theorem Tl.lits : (∀ x ∈ [Tq.acme, Tq.usd, Dt.t11, ({ data := #[45] } : ByteArray)], (44 : UInt8) ∉ x.data.toList ∧ 1 ≤ x.size) := by
 intro x hx
 simp only [List.mem_cons, List.not_mem_nil, or_false] at hx
 rcases hx with rfl | rfl | rfl | rfl <;> exact ⟨by decide, by decide⟩
theorem Tl.dec_ok {n : Nat} {W Q : List Nat} (h : Ac.DecOf n W Q) : (44 : UInt8) ∉ (Ac.dec W Q).data.toList ∧ 1 ≤ (Ac.dec W Q).size ∧ (Ac.dec W Q).size ≤ 30 ∧ ((Ac.dec W Q).toList == [45]) = false := by
 have hns := Ac.dec_ns W Q h.dw h.dq
 obtain ⟨c, hc, hc9, h9, e9⟩ := Ac.dec_head h
 refine ⟨fun hm => ?_, by omega, ?_, ?_⟩
 ·have h44 : (44 : Nat) ∈ Tx.ns (Ac.dec W Q) := List.mem_map.2 ⟨44, hm, rfl⟩
  rw [hns] at h44
  rcases List.mem_append.1 h44 with h1 | h1
  ·obtain ⟨d, -, e⟩ := List.mem_map.1 h1
   omega
  ·split at h1
   ·simp at h1
   ·rcases List.mem_cons.1 h1 with h1 | h1
    ·omega
    ·obtain ⟨d, -, e⟩ := List.mem_map.1 h1
     omega
 ·rw [← Tx.ns_len, hns, List.length_append, List.length_map]
  have h1 := h.w1
  have h2 := h.q1
  split
  ·simp; omega
  ·rw [List.length_cons, List.length_map]; omega
 ·cases hb : ((Ac.dec W Q).toList == [45]) with
  | false => rfl
  | true =>
   have e2 := beq_iff_eq.1 hb
   rw [ByteArray.toList_eq] at e2
   have e3 : Tx.ns (Ac.dec W Q) = [45] := by unfold Tx.ns; rw [e2]; rfl
   have e4 := Tx.ns_get (Ac.dec W Q) h9
   rw [e3] at e4
   have : (45 : Nat) = (Ac.dec W Q)[0].toNat := Option.some.inj e4
   omega
theorem Qd.line {q : JQ} (h : Tq.Qd q) : q.line = true := by
 have h1 := ({ h.kn 1 with } : Tq.Qd { q with kn := 1 }).right (by show (1 : Int) ≤ 1; decide) (by show (1 : Int) ≤ 2147483647; decide)
 rw [JQ.right_w] at h1
 simp only [Bool.and_eq_true] at h1
 exact h1.1
theorem vparse_x {s : ByteArray} (hs : s ∈ Tq.srcs) (k : Int) (hk : known k = true) (w : World) :
    Calls Tryz.prog 13 #[.string (Tl.src s), .int .i64 k] w fun e w' => e = .returned (.tuple #[.agg (JQ.c ⟨s, Tq.acme, Tq.usd, 9497, Rr.zero, k, true⟩), .int .i64 0]) ∧ Below w.heap.size w w' := by
 have hq : Tq.Qd (JQ.mk s Tq.acme Tq.usd 9497 Rr.zero k true) := ⟨hs, .head _, .head _, by show (9492 : Int) ≤ 9497; decide, by show (9497 : Int) ≤ 9498; decide, fun e => (by cases e), fun _ => rfl⟩
 have hsz := Tq.src_sz hs
 refine qparse_x s Tq.acme Tq.usd { data := #[45] } (Tl.src s) (Zi (Tl.src_ln s)) (Zi ?_) ?_ k hk true ?_ Rr.zero (fun _ => rfl) (fun e => by cases e) (Qd.line hq) hq.wf w
 ·intro x hx
  rcases List.mem_cons.1 hx with rfl | hx
  ·exact Tl.src_ok hs
  ·exact Tl.lits x hx
 ·unfold Tl.src
  rw [ByteArray.size_append]
  show s.size + 22 ≤ 100
  omega
 ·decide +kernel
theorem bparse_x {x : Rat} (hx : Tq.MP x) {s : ByteArray} (hs : s ∈ Tq.srcs) (n : Nat) (hn : x = Rat.divInt n 1000000) (l : ByteArray) (hl : Hid (∃ W Q, l = Tl.ln [s, Tq.acme, Tq.usd, Dt.t11, Ac.dec W Q] ∧ Ac.DecOf n W Q)) (w : World) :
    Calls Tryz.prog 13 #[.string l, .int .i64 1] w fun e w' => e = .returned (.tuple #[.agg (Tq.aq x s 1).c, .int .i64 0]) ∧ Below w.heap.size w w' := by
 obtain ⟨W, Q, e, hd⟩ := hl.out
 obtain ⟨h1, h2, h3, h4⟩ := Tl.dec_ok hd
 have hq := Tq.aq_qd hx hs 1
 have hsz := Tq.src_sz hs
 refine qparse_x s Tq.acme Tq.usd (Ac.dec W Q) l (Zi e) (Zi ?_) ?_ 1 (by unfold known; decide) false h4 (rr x) (fun e => by cases e) (fun _ w => ?_) (Qd.line hq) hq.wf w
 ·intro y hy
  simp only [List.mem_cons, List.not_mem_nil, or_false] at hy
  rcases hy with rfl | rfl | rfl | rfl | rfl
  ·exact Tl.src_ok hs
  ·exact Tl.lits _ Zs
  ·exact Tl.lits _ Zs
  ·exact Tl.lits _ Zs
  ·exact ⟨h1, h2⟩
 ·rw [e]
  show (s ++ (Tl.cm ++ (Tq.acme ++ (Tl.cm ++ (Tq.usd ++ (Tl.cm ++ (Dt.t11 ++ (Tl.cm ++ Ac.dec W Q)))))))).size ≤ 100
  simp only [ByteArray.size_append]
  have a1 : Tl.cm.size = 1 := rfl
  have a2 : Tq.acme.size = 4 := rfl
  have a3 : Tq.usd.size = 3 := rfl
  have a4 : Dt.t11.size = 10 := rfl
  omega
 ·rw [rr_c hx.1.fit]
  exact parse_x W Q n hd x (Zi hn) hx.1.fit w
theorem h_call5 {o : Oper} {a : Act} {f : FuncId} {ts : Array TypeId} {x1 x2 x3 x4 x5 : Operand} {v1 v2 v3 v4 v5 : Value} (ho : o.op = .call { callee := .value (.func f), args := #[x1, x2, x3, x4, x5], argTypes := ts }) (hf : goF f = true) (h1 : a.eval x1 = v1) (h2 : a.eval x2 = v2) (h3 : a.eval x3 = v3) (h4 : a.eval x4 = v4) (h5 : a.eval x5 = v5) : ∀ w, (execOp a.eval o).run Tryz.prog w = .ok (.enter f #[v1, v2, v3, v4, v5]) w := h_call ho hf (by simp [h1, h2, h3, h4, h5])
def Tl.Cho (c : CH) (s : ByteArray) (x : Rat) : Prop := c.src = s ∧ c.prc = rr x ∧ ∃ A cap, c.chl.v = .slice A 0 cap
set_option maxRecDepth 100000 in
theorem tagree_any (A : Option Addr) (xs : List Int) (c0 : Nat) (W : World) (hI : IntsAt W A xs) (hxl : xs.length ≤ 9223372036854775807) :
    Calls Tryz.prog 4 #[.slice A xs.length c0] W fun e w' => e = .returned (.bool true) ∧ Below W.heap.size W w' := by
 have HM := Mem.start W
 have HI := Zi hI
 have zq := JQ.za
 have zp := WP.za
 have zc := CH.za
 have zr := za_rat
 have hel := qel
 clear hI
 go_enter Tryz.func4, Tryz.ntmps4
 go_upto_region 2 with (first | ((with_reducible refine g_ld ?_); refine a_ld HM ?_) | ((with_reducible refine g_st ?_); refine a_st HM ?_; clear HM; intro w1 HM) | ((with_reducible refine g_al ?_); refine a_al HM ?_; clear HM; intro bk w1 HM) | ((with_reducible refine g_bx ?_); refine a_bx HM ?_; clear HM; intro bk w1 HM) | ((with_reducible refine g_bld ?_); refine a_bld ?_))
 obtain ⟨tb, rfl⟩ := HM.nm0
 have HC : Hid (TapeC W 0 #[.slice A xs.length c0, .int .i64 0]) := ⟨A, xs, c0, 0, rfl, by omega, by omega, HI.out, hxl⟩
 have H0 : Hid (Below W.heap.size W W) := Below.refl _ _
 have hle : ∀ b ∈ ([] : List Nat), W.heap.size ≤ b := by simp
 clear HI
 go_wp2_with fail
 refine (mpolicy_any W tb _ _ (HM.tp Zl HC.out H0.out hle) Zo).mono ?_
 rintro e9 w3 ⟨p, ss, tol, B2, c2, rfl, HPo, HSp, HC1, HM1⟩
 replace HM := HM.joinT .here HM1
 replace HC := HC1
 clear HM1 HC1
 obtain ⟨n0, n1⟩ : 1 ≤ ss.length ∧ ss.length ≤ 4 := ⟨HPo.out.n0, HPo.out.n1⟩
 obtain ⟨bS, spS, hps, rfl, hsz⟩ := SlAt.inv HSp.out (fun h => by
  have := congrArg List.length h
  rw [Tq.V_len] at this
  have h0 : ss.length = 0 := this
  omega)
 rw [Tq.V_len] at hps
 obtain ⟨cS, hcS⟩ : ∃ cS, cS = rowsOf (V1 (Tq.V ss) ++ spS) := ⟨_, rfl⟩
 have HLS : Hid (∀ (i : Nat) (s : ByteArray), ss[i]? = some s → LA 9 cS i (.string s)) := Zi (fun i s h => by
  have h9 := rows_at (n := 1) (l := V1 (Tq.V ss) ++ spS) (k := i) (j := 0) (c := #[.string s]) hsz (by
   rw [List.getElem?_append_left (by rw [Tq.V_len]; exact (List.getElem?_eq_some_iff.1 h).1)]
   unfold V1; rw [List.getElem?_map, Tq.V_at h]; rfl) Zd
  rw [Nat.one_mul, Nat.add_zero, ← hcS] at h9
  exact LA.one Zk h9)
 have HRP : Hid (∀ (w' : World) K, Mem W [] K w' → (bS, cS) ∈ K → Tq.Pol p ss tol w') := Zi (fun w' K H h => HPo.out.pol (HSp.out.rd H (fun q hq => by rw [List.mem_singleton.1 hq, ← hcS]; exact h)))
 obtain ⟨cpS, hcp⟩ : ∃ c, c = ss.length + spS.length := ⟨_, rfl⟩
 rw [← hcp] at hps
 replace HM : Mem W [] [(bS, cS), (tb, c2)] w3 := by rw [hcS]; exact HM
 have st0 := HPo.out.st.1
 have st1 := HPo.out.st.2
 have spp := p.sa (z := WP.zero.c) (WP.size _)
 have lp := p.la
 have lps := (WP.f_src p).la
 have lst := (WP.f_stale p).la
 rw [hps] at lps
 have HTL : Hid (0 ≤ tol) := Zi (Ac.pr_ok HPo.out.pr).2.1.2.1
 have HPM := HPo
 clear hcS hsz HSp hcp hps
 go_wp2_with (first | ((with_reducible refine g_ld ?_); refine a_ld HM ?_) | ((with_reducible refine g_st ?_); refine a_st HM ?_; clear HM; intro w1 HM) | ((with_reducible refine g_al ?_); refine a_al HM ?_; clear HM; intro bk w1 HM) | ((with_reducible refine g_bx ?_); refine a_bx HM ?_; clear HM; intro bk w1 HM) | ((with_reducible refine g_bld ?_); refine a_bld ?_))
 refine (mprice_any W tb _ _ (HM.tp Zl HC.out H0.out hle) Zo).mono ?_
 rintro e9 w2 ⟨x, rfl, hx, ⟨c1, hb1, hc1, -, -⟩, hg9⟩
 replace HM := HM.put (c' := c1) Zg hb1 (Only.of_grown hg9)
 clear hg9 hb1
 replace HC := Zi hc1
 clear hc1
 have HX := Zi hx
 have fx := hx.1.fit
 have sx := sa_q x (c := Bg.rZ 0 0) (rZ_size 0 0)
 have lx := la_q x
 clear hx spp
 go_upto_region 5 with (first | ((with_reducible refine g_ld ?_); refine a_ld HM ?_) | ((with_reducible refine g_st ?_); refine a_st HM ?_; clear HM; intro w1 HM) | ((with_reducible refine g_al ?_); refine a_al HM ?_; clear HM; intro bk w1 HM) | ((with_reducible refine g_bx ?_); refine a_bx HM ?_; clear HM; intro bk w1 HM) | ((with_reducible refine g_bld ?_); refine a_bld ?_))
 obtain ⟨b5, rfl⟩ := HM.nm0
 obtain ⟨b4, rfl⟩ := HM.nm1
 have HAG0 : Hid (Tq.Ag x (ss.take 0) []) := Zi (Tq.Ag.start x)
 go_wp2_with (first | ((with_reducible refine g_ld ?_); refine a_ld HM ?_) | ((with_reducible refine g_st ?_); refine a_st HM ?_; clear HM; intro w1 HM) | ((with_reducible refine g_al ?_); refine a_al HM ?_; clear HM; intro bk w1 HM) | ((with_reducible refine g_bx ?_); refine a_bx HM ?_; clear HM; intro bk w1 HM) | ((with_reducible refine g_bld ?_); refine a_bld ?_))
 go_loopw [6, 7] (fun lv iv wr => ∃ (i : Nat) (M : List JQ) (B : List (Nat × Array Value)), iv = .int .i64 (i : Nat) ∧ i ≤ ss.length ∧ Hid (Tq.Ag x (ss.take i) M) ∧ Hid (SlAt 72 lv (M.map JQ.c) B) ∧ Mem W [] ((b5, Rt.qA x) :: (b4, p.c) :: (bS, cS) :: (tb, c1) :: B) wr) (fun _ iv _ => ss.length - (intOf iv).toNat)
 case atStart => exact ⟨0, [], [], rfl, by omega, HAG0, Zi .nil, HM⟩
 case round =>
  clear HM HAG0
  obtain ⟨i, M, B, rfl, hi, HAG, HSM, HM⟩ := hrel
  obtain ⟨SM, rfl⟩ := sl_of HSM.out
  by_cases hlt : i < ss.length
  ·have hlt1 : (i : Int) < ss.length := by omega
   obtain ⟨s, hs⟩ : ∃ s, ss[i]? = some s := ⟨_, List.getElem?_eq_getElem hlt⟩
   have ls := HLS.out i s hs
   have hsm := HPM.out.mem s (List.mem_of_getElem? hs)
   have hss := Tq.src_sz hsm
   have hi4 : i < 4 := by omega
   have HAG2 : Hid (Tq.Ag x (ss.take (i + 1)) (M ++ [Tq.aq x s ((i : Int) + 1)])) := Zi (by
    have hlen : (ss.take i).length = i := by rw [List.length_take]; omega
    have h := HAG.out.step HX.out hsm (fun hm => by
     obtain ⟨j, hj, e⟩ := List.mem_take_iff_getElem.1 hm
     have h1 : ss[j]? = ss[i]? := by rw [hs, List.getElem?_eq_getElem Zo, e]
     have := (List.getElem?_inj Zo HPM.out.nd).1 h1
     omega) (by rw [hlen]; omega)
    rw [hlen] at h
    rw [List.take_add_one, hs]
    exact h)
   have VP := fun w => vparse_x hsm ((i : Int) + 1) (by unfold known; simp; omega) w
   have hml : M.length = i := by rw [HAG.out.len, List.length_take]; omega
   have hcap : ((M.map JQ.c).length + 1) * (336 + 1) ≤ 140737488355328 := by rw [List.length_map]; omega
   have s0 := (JQ.mk s Tq.acme Tq.usd 9497 Rr.zero ((i : Int) + 1) true).sa JQ.zero.size
   have s1 := JQ.s_vd (JQ.mk s Tq.acme Tq.usd 9497 Rr.zero ((i : Int) + 1) true) false
   have s2 := JQ.s_prc (JQ.mk s Tq.acme Tq.usd 9497 Rr.zero ((i : Int) + 1) false) (rr x)
   rw [rr_c fx] at s2
   have l2 := (Tq.aq x s ((i : Int) + 1)).la
   unfold Tl.src at VP
   clear hs hsm HAG hml
   go_upto_region 11 with (first | (go_at_call 13; (with_reducible refine Zc HM (VP _) ?_; clear HM; intro w2 HM)) | (first | ((with_reducible refine g_ld ?_); refine a_ld HM ?_) | ((with_reducible refine g_st ?_); refine a_st HM ?_; clear HM; intro w1 HM) | ((with_reducible refine g_al ?_); refine a_al HM ?_; clear HM; intro bk w1 HM) | ((with_reducible refine g_bx ?_); refine a_bx HM ?_; clear HM; intro bk w1 HM) | ((with_reducible refine g_bld ?_); refine a_bld ?_)))
   obtain ⟨b8, rfl⟩ := HM.nm0
   clear VP
   replace HM : Mem W [] ((b5, Rt.qA x) :: (b8, _) :: (b4, p.c) :: (bS, cS) :: (tb, c1) :: B) _ := HM.pick
   refine start_M2 [] HM ((Sub.keep Sub.nil)) Zk (fun w0x H9 => ?_)
   replace HM := H9; clear H9
   refine k_ld 0 [] (heldE HM) ?_
   refine k_fa 1 (heldE HM) ?_
   refine j_one 2 fun K9 hK9 => ?_
   refine j_st HM ?_; clear HM; intro w1 HM
   refine hK9 _ _ (heldE HM) ?_; clear hK9 K9
   refine k_fa 3 (heldE HM) ?_
   refine j_one 4 fun K9 hK9 => ?_
   refine j_st HM ?_; clear HM; intro w1 HM
   refine hK9 _ _ (heldE HM) ?_; clear hK9 K9
   refine wpAnyL_done Zk ?_ _
   obtain ⟨q, hq⟩ : ∃ q, q = Tq.aq x s ((i : Int) + 1) := ⟨_, rfl⟩
   go_wp2_with (first | ((with_reducible refine g_bs1 ?_); refine a_bs1 (c0 := (Tq.aq x s ((i : Int) + 1)).c) HM ?_ (z0 := JQ.size _); clear HM; intro bx w1 HM) | ((with_reducible refine g_app ?_); refine a_app (m := [(Tq.aq x s ((i : Int) + 1)).c]) (F := fun X => (b5, Rt.qA x) :: (b4, p.c) :: (bS, cS) :: (tb, c1) :: X) HM HSM.out ((SlAt.made1 bx (JQ.size _)).rd HM Zs) ?_ (jq_ones [Tq.aq x s ((i : Int) + 1)]) (hlen := hcap); clear HM; intro s9 B9 w1 HS9 HM) | (first | ((with_reducible refine g_ld ?_); refine a_ld HM ?_) | ((with_reducible refine g_st ?_); refine a_st HM ?_; clear HM; intro w1 HM) | ((with_reducible refine g_al ?_); refine a_al HM ?_; clear HM; intro bk w1 HM) | ((with_reducible refine g_bx ?_); refine a_bx HM ?_; clear HM; intro bk w1 HM) | ((with_reducible refine g_bld ?_); refine a_bld ?_)))
   go_roundw
   case rel => exact ⟨i + 1, M ++ [Tq.aq x s ((i : Int) + 1)], B9, by go_num, by omega, HAG2, Zi (by rw [List.map_append]; exact HS9), HM⟩
   case measure => simp [intOf]; omega
  ·obtain rfl : i = ss.length := by omega
   have hAG : Tq.Ag x ss M := by have h := HAG.out; rwa [List.take_length] at h
   obtain ⟨s, r, hsr⟩ : ∃ s r, ss = s :: r := by
    cases h : ss with
    | nil => rw [h] at n0; simp at n0
    | cons s r => exact ⟨s, r, rfl⟩
   have ls := HLS.out 0 s (by rw [hsr]; rfl)
   have hsm := HPM.out.mem s (by rw [hsr]; exact List.mem_cons_self)
   obtain ⟨m, hMm⟩ := hAG.hd s r hsr
   obtain ⟨bL, spL, hSMv, rfl, hszL⟩ := SlAt.inv HSM.out (by rw [hMm]; simp)
   obtain ⟨cL, hcL⟩ : ∃ cL, cL = rowsOf (M.map JQ.c ++ spL) := ⟨_, rfl⟩
   have lq : LA 40 cL 0 (.agg (Tq.aq x s 1).c) := by
    have h := Tq.row_at hszL (i := 0) (x := Tq.aq x s 1) (by rw [hMm]; rfl)
    rw [Nat.zero_mul, ← hcL] at h
    exact h
   have HRM : Hid (∀ (w' : World) K, Mem W [] K w' → (bL, cL) ∈ K → RdS 72 w' SM.v (M.map JQ.c)) := Zi (fun w' K H h => HSM.out.rd H (fun q hq => by rw [List.mem_singleton.1 hq, ← hcL]; exact h))
   have HBK := Zi hAG.bk
   have HSEL : Hid (∀ d, 9497 ≤ d → d ≤ 9497 + p.stale → ∀ C, C = Tq.cand (Tq.vis Dt.txt M 9) ss Tq.acme d p.stale → C ≠ [] ∧ Tq.sel C tol = (some (Tq.aq x s 1), [])) := Zi (by
    intro d h1 h2 C hC
    rw [hsr] at hC hAG
    exact hAG.sel HX.out d p.stale h1 h2 tol HTL.out C hC)
   have SE : ∀ (d : Int), 9497 ≤ d → d ≤ 9497 + p.stale → ∀ w', RdS 72 w' SM.v (M.map JQ.c) → Tq.Pol p ss tol w' → Calls Tryz.prog 14 #[SM.v, .agg p.c, .int .i64 9, .string { data := #[65, 67, 77, 69] }, .int .i64 d] w' fun e w'' => (∃ c : CH, e = .returned (.tuple #[.agg c.c, .int .i64 0]) ∧ Hid (Tl.Cho c s x)) ∧ Below w'.heap.size w' w'' := fun d h1 h2 w' hR hP => by
    obtain ⟨hne, hsel⟩ := HSEL.out d h1 h2 _ rfl
    refine (select_any M HBK.out 9 p ss tol Tq.acme d Zo Zo SM.v w' hR hP _ (Zi rfl)).mono ?_
    rintro e w'' ⟨⟨c, rfl, H⟩, hb⟩
    have H := H.out
    rw [hsel] at H
    obtain ⟨A9, cp9, e9⟩ := RdS.form1 H.chl
    exact ⟨⟨c, by rw [if_neg hne], Zi ⟨H.src, H.prc, A9, cp9, e9⟩⟩, hb⟩
   have lM : SM.v = .slice (some ⟨bL, 0, none⟩) M.length (M.length + spL.length) := by rw [hSMv, List.length_map]
   have hM1 : 1 ≤ M.length := by rw [hMm]; simp
   obtain ⟨svM, hsv⟩ : ∃ v, v = SM.v := ⟨_, rfl⟩
   replace HM : Mem W [] [(b5, Rt.qA x), (b4, p.c), (bS, cS), (tb, c1), (bL, cL)] wr := by rw [hcL]; exact HM
   have hHC : Hid (TapeC W 1023 c1) := HC
   rw [lM] at SE HRM ⊢
   obtain ⟨nM, hnM⟩ : ∃ n, n = M.length := ⟨_, rfl⟩
   rw [← hnM] at SE HRM hM1 ⊢
   obtain ⟨cpM, hcpM⟩ : ∃ n, n = nM + spL.length := ⟨_, rfl⟩
   rw [← hcpM] at SE HRM ⊢
   have hnc : nM ≤ cpM := by omega
   clear hcL hSMv hszL hAG hMm lM hsv HSEL HAG hsr hnM hcpM HBK HSM
   go_upto_region 13 with (first | ((with_reducible refine g_ld ?_); refine a_ld HM ?_) | ((with_reducible refine g_st ?_); refine a_st HM ?_; clear HM; intro w1 HM) | ((with_reducible refine g_al ?_); refine a_al HM ?_; clear HM; intro bk w1 HM) | ((with_reducible refine g_bx ?_); refine a_bx HM ?_; clear HM; intro bk w1 HM) | ((with_reducible refine g_bld ?_); refine a_bld ?_))
   go_cut [10, 11] (fun p1 p2 wc => ∃ (b10 : Nat) (c : CH), p1 = .pointer (some ⟨b10, 0, none⟩) ∧ p2 = .int .i64 0 ∧ Hid (Tl.Cho c s x) ∧ Mem W [] [(b10, c.c), (b5, Rt.qA x), (b4, p.c), (bS, cS), (bL, cL)] wc)
   case first =>
    refine start_M2 [] HM ((Sub.keep (Sub.keep (Sub.keep Sub.nil)))) Zk (fun w0x H9 => ?_)
    replace HM := H9; clear H9
    refine k_mv 0 (heldE HM) ?_
    refine k_ld 1 [] (heldE HM) ?_
    refine k_mv 2 (heldE HM) ?_
    refine k_fa 3 (heldE HM) ?_
    refine k_ld 4 [] (heldE HM) ?_
    refine k_add 5 (heldE HM) ?_
    refine j_two 6 12 ?_ ?_
    ·refine o_callg (next_any W tb _ (p.stale + 1) _ (HM.tp Zl HC.out H0.out hle) Zo Zo Zo) rfl ?_ ?_; (focus (refine h_call2 (ts := ?_) (x1 := ?_) (x2 := ?_) ?_ Zk ?_ ?_; rotate_left 3; (focus rfl); (focus rfl); rfl)); rintro e9 w1 ⟨v, rfl, v0, v1, ⟨c1, hb1, hc1, -, -⟩, hg9⟩; replace HM := HM.put (c' := c1) Zg hb1 (Only.of_grown hg9); clear hg9 hb1; replace HC := Zi hc1; clear hc1; refine ⟨_, rfl, ?_⟩
     refine ⟨(heldE HM), ?_⟩; ((try simp only [Za]); (try simp only [Zx]); (try simp only [Zy]))
     refine k_add 7 (heldE HM) ?_
     refine j_two 8 12 ?_ ?_
     ·refine o_callg (SE (9497 + v) Zo Zo _ (HRM.out _ _ HM Zs) (HRP.out _ _ HM Zs)) rfl ?_ ?_; (focus (refine h_call5 (ts := ?_) (x1 := ?_) (x2 := ?_) (x3 := ?_) (x4 := ?_) (x5 := ?_) ?_ Zk ?_ ?_ ?_ ?_ ?_; rotate_left 6; (focus rfl); (focus rfl); (focus rfl); (focus rfl); (focus rfl); rfl)); rintro e9 w1 ⟨⟨c, rfl, HCH⟩, hL⟩; replace HM := HM.call hL; clear hL; have sc := c.sa (z := CH.zero.c) (CH.size _); refine ⟨_, rfl, ?_⟩
      refine ⟨(heldE HM), ?_⟩; ((try simp only [Za]); (try simp only [Zx]); (try simp only [Zy]))
      refine k_mv 9 (heldE HM) ?_
      refine k_ext 10 (heldE HM) ?_
      refine k_ext 11 (heldE HM) ?_
      refine j_one 12 fun K9 hK9 => ?_
      refine j_al HM ?_; clear HM; intro bk w1 HM
      refine hK9 _ _ (heldE HM) ?_; clear hK9 K9
      exact z9_96
     ·refine j_al HM ?_; clear HM; intro bk w1 HM
      refine ⟨(heldE HM), ?_⟩
      exact z9_97
    ·refine j_al HM ?_; clear HM; intro bk w1 HM
     refine ⟨(heldE HM), ?_⟩
     refine j_one 6 fun K9 hK9 => ?_
     refine o_callg (next_any W tb _ (p.stale + 1) _ (HM.tp Zl HC.out H0.out hle) Zo Zo Zo) rfl ?_ ?_; (focus (refine h_call2 (ts := ?_) (x1 := ?_) (x2 := ?_) ?_ Zk ?_ ?_; rotate_left 3; (focus rfl); (focus rfl); rfl)); rintro e9 w1 ⟨v, rfl, v0, v1, ⟨c1, hb1, hc1, -, -⟩, hg9⟩; replace HM := HM.put (c' := c1) Zg hb1 (Only.of_grown hg9); clear hg9 hb1; replace HC := Zi hc1; clear hc1; refine ⟨_, rfl, ?_⟩
     refine hK9 _ _ (heldE HM) ?_; clear hK9 K9; ((try simp only [Za]); (try simp only [Zx]); (try simp only [Zy]))
     refine k_add 7 (heldE HM) ?_
     exact z9_97
   case rest =>
    clear HM HC hHC
    obtain ⟨b10, c, rfl, rfl, HCH, HM⟩ := hcut
    obtain ⟨n, hl, hr, hn, hxn⟩ := Tq.mp_six HX.out W
    have hqd := Tq.aq_qd HX.out hsm 1
    have hss := Tq.src_sz hsm
    have FM := fun w => qformat_x (Tq.aq x s 1) x n rfl rfl (show known 1 = true by unfold known; decide) rfl fx hl hr hn (Qd.line hqd) hqd.wf (by show s.size ≤ 100; omega) (by show Tq.acme.size ≤ 100; decide) (by show Tq.usd.size ≤ 100; decide) w
    have PB := fun l HL w => bparse_x HX.out hsm n hxn l HL w
    have E := JQ.eq9 (Tq.aq x s 1) (Tq.aq x s 1)
    rw [JQ.b_iff.2 rfl] at E
    have sb := (Tq.aq x s 1).sa JQ.zero.size
    have lq2 := (Tq.aq x s 1).la
    obtain ⟨h1, h2, A9, cp9, h3⟩ := HCH.out
    have lc0 : LA 9 c.c 0 (.string s) := by rw [← h1]; exact c.f_src.la
    have lc3 : LA 35 c.c 3 (.agg (Rt.qA x)) := by rw [← rr_c fx, ← h2]; exact c.f_prc.la
    have lc4 : LA 29 c.c 69 (.slice A9 0 cp9) := by rw [← h3]; exact c.f_chl.la
    have hst : (s.toList == s.toList) = true := beq_self_eq_true _
    have n00 : 0 < ss.length := n0
    have m00 : 0 < nM := hM1
    clear hl hr hn hxn hqd hss h1 h2 h3 HCH SE HRM HRP HLS HPo HPM
    generalize (Tq.aq x s 1).c = qc at *
    go_step
    go_upto_region 15 with (first | (go_at_call 15; refine (FM _).mono ?_; rintro e9 w2 ⟨⟨l, rfl, HL⟩, hL⟩; replace HM := HM.call hL; clear hL) | (first | ((with_reducible refine g_ld ?_); refine a_ld HM ?_) | ((with_reducible refine g_st ?_); refine a_st HM ?_; clear HM; intro w1 HM) | ((with_reducible refine g_al ?_); refine a_al HM ?_; clear HM; intro bk w1 HM) | ((with_reducible refine g_bx ?_); refine a_bx HM ?_; clear HM; intro bk w1 HM) | ((with_reducible refine g_bld ?_); refine a_bld ?_)))
    have PB2 := fun w => PB l HL w
    clear PB FM
    go_upto_region 16 with (first | (go_at_call 13; (with_reducible refine Zc HM (PB2 _) ?_; clear HM; intro w2 HM)) | (first | ((with_reducible refine g_ld ?_); refine a_ld HM ?_) | ((with_reducible refine g_st ?_); refine a_st HM ?_; clear HM; intro w1 HM) | ((with_reducible refine g_al ?_); refine a_al HM ?_; clear HM; intro bk w1 HM) | ((with_reducible refine g_bx ?_); refine a_bx HM ?_; clear HM; intro bk w1 HM) | ((with_reducible refine g_bld ?_); refine a_bld ?_)))
    obtain ⟨b14, rfl⟩ := HM.nm0
    clear PB2
    refine start_M2 [] HM ((Sub.keep (Sub.keep (Sub.keep (Sub.keep (Sub.keep (Sub.keep Sub.nil))))))) Zk (fun w0x H9 => ?_)
    replace HM := H9; clear H9
    refine j_one 0 fun K9 hK9 => ?_
    refine j_call0 (v := ?_) HM ?_ ?_; rotate_left 1; (focus (with_reducible (exact awake16_any _))); clear HM; intro w1 HM
    refine hK9 _ _ (heldE HM) ?_; clear hK9 K9
    refine k_mv 1 (heldE HM) ?_
    refine k_mv 2 (heldE HM) ?_
    refine k_bin 3 (heldE HM) ?_
    refine k_pick 4 (heldE HM) ?_
    refine k_mv 5 (heldE HM) ?_
    refine k_fa 6 (heldE HM) ?_
    refine k_ld 7 [] (heldE HM) ?_
    refine k_fa 8 (heldE HM) ?_
    refine k_ld 9 [] (heldE HM) ?_
    refine t_pure (i := 10) (v := .pointer (some ⟨bS, 0, none⟩)) rfl rfl Zk (fun _ _ _ h => h) (heldE HM) Zv ?_ ?_; (focus (exact h_ia rfl Zw Zw (fun w9 => by go_simp; first | done | (rw [if_pos n00]) | (simp [n00])))); ((try simp only [Za]); (try simp only [Zx]); (try simp only [Zy]))
    refine k_ld 11 [] (heldE HM) ?_
    refine t_pure (i := 12) (v := .bool true) rfl rfl Zk (fun _ _ _ h => h) (heldE HM) Zv ?_ ?_; (focus (exact h_bin rfl Zw Zw (fun w9 => by go_simp))); ((try simp only [Za]); (try simp only [Zx]); (try simp only [Zy]))
    refine k_pick 13 (heldE HM) ?_
    refine k_mv 14 (heldE HM) ?_
    refine k_fa 15 (heldE HM) ?_
    refine k_ld 16 [] (heldE HM) ?_
    refine k_ld 17 [] (heldE HM) ?_
    refine t_eq (i := 18) (v := ?_) [] rfl rfl rfl Zk (fun _ _ _ h => h) (heldE HM) ?_ ?_; rotate_left 1; (focus ((refine y_cmpq .eql (x) (x) true (.inl rfl) Zs (fx) (fx) (x := ?_) (y := ?_) (t := ?_) ?_ ?_ ?_ ?_; rotate_left 3; (focus rfl); (focus rfl); (focus ((conv => lhs; whnf) <;> rfl)); ((conv => lhs; whnf) <;> rfl)))); ((try simp only [Za]); (try simp only [Zx]); (try simp only [Zy]))
    refine k_pick 19 (heldE HM) ?_
    refine k_mv 20 (heldE HM) ?_
    refine k_fa 21 (heldE HM) ?_
    refine k_ld 22 [] (heldE HM) ?_
    refine k_pv 23 (heldE HM) ?_
    refine k_bin 24 (heldE HM) ?_
    refine k_pick 25 (heldE HM) ?_
    refine k_mv 26 (heldE HM) ?_
    refine k_mv 27 (heldE HM) ?_
    refine k_bin 28 (heldE HM) ?_
    refine k_pick 29 (heldE HM) ?_
    refine k_mv 30 (heldE HM) ?_
    refine k_mv 31 (heldE HM) ?_
    refine k_bin 32 (heldE HM) ?_
    refine k_pick 33 (heldE HM) ?_
    refine k_mv 34 (heldE HM) ?_
    refine k_ld 35 [] (heldE HM) ?_
    refine k_mv 36 (heldE HM) ?_
    refine t_pure (i := 37) (v := .pointer (some ⟨bL, 0, none⟩)) rfl rfl Zk (fun _ _ _ h => h) (heldE HM) Zv ?_ ?_; (focus (exact h_ia rfl Zw Zw (fun w9 => by go_simp; first | done | (rw [if_pos m00]) | (simp [m00])))); ((try simp only [Za]); (try simp only [Zx]); (try simp only [Zy]))
    refine k_ld 38 [] (heldE HM) ?_
    refine t_eq (i := 39) (v := ?_) [] rfl rfl rfl Zk (fun _ _ _ h => h) (heldE HM) ?_ ?_; rotate_left 1; (focus ((refine y_cmps .eql true (.inl rfl) (E) rfl Zk (x := ?_) (y := ?_) (t := ?_) ?_ ?_ ?_ ?_; rotate_left 3; (focus rfl); (focus rfl); (focus ((conv => lhs; whnf) <;> rfl)); ((conv => lhs; whnf) <;> rfl)))); ((try simp only [Za]); (try simp only [Zx]); (try simp only [Zy]))
    refine k_pick 40 (heldE HM) ?_
    refine k_mv 41 (heldE HM) ?_
    exact z9_95
end
end Go.Proofs.YtiekmabiecalbaaGreatDoor
