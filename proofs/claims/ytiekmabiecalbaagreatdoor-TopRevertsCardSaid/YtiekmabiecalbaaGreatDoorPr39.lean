/- Walks. -/
import Derived.Test.YtiekmabiecalbaaGreatDoorPr37
import Derived.Test.YtiekmabiecalbaaGreatDoorPr38
import Derived.Test.YtiekmabiecalbaaGreatDoorPr34
namespace Go.Proofs.YtiekmabiecalbaaGreatDoor
set_option maxHeartbeats 16000000
open Go.RowKit
set_option maxRecDepth 8000
set_option linter.unusedSimpArgs false
set_option linter.unusedVariables false
section
open Jb
namespace As
theorem okFrom_made : ∀ (M : List Mk) (l : Int), (∀ m ∈ M, l < m.kn ∧ m.kn ≤ 2147483647 ∧ 1 ≤ m.key.size ∧ m.key.size ≤ 64) → M.Pairwise (fun a b => a.kn < b.kn) → okFrom l M = true
 | [], _, _, _ => rfl
 | m :: M, l, h, hp => by
  obtain ⟨a1, a2, a3, a4⟩ := h m List.mem_cons_self
  rw [okFrom, Zf Zo, Zf Zo, Zf Zo, Zf Zo]
  rw [List.pairwise_cons] at hp
  rw [okFrom_made M m.kn (fun x hx => ⟨hp.1 x hx, (h x (List.mem_cons_of_mem _ hx)).2⟩) hp.2]
  rfl
end As
namespace Tq
theorem src_sz : ∀ {s : ByteArray}, s ∈ srcs → 1 ≤ s.size ∧ s.size ≤ 2 := by
 intro s h
 simp only [srcs, List.mem_cons, List.not_mem_nil, or_false] at h
 rcases h with rfl | rfl | rfl | rfl <;> exact ⟨by decide, by decide⟩
theorem ins_sz : ∀ {s : ByteArray}, s ∈ papers → 1 ≤ s.size ∧ s.size ≤ 6 := by
 intro s h
 simp only [papers, List.mem_cons, List.not_mem_nil, or_false] at h
 rcases h with rfl | rfl | rfl | rfl | rfl | rfl <;> exact ⟨by decide, by decide⟩
theorem cur_sz : ∀ {s : ByteArray}, s ∈ codes → s.size = 3 := by
 intro s h
 simp only [codes, List.mem_cons, List.not_mem_nil, or_false] at h
 rcases h with rfl | rfl | rfl | rfl <;> decide
structure Qd (q : JQ) : Prop where
 src : q.src ∈ srcs
 ins : q.ins ∈ papers
 cur : q.cur ∈ codes
 d0 : 9492 ≤ q.day
 d1 : q.day ≤ 9498
 pr : q.vd = false → ∃ x, q.prc = rr x ∧ MP x
 no : q.vd = true → q.prc = Rr.zero
theorem MQ.qd {d k : Int} {q : JQ} (h : MQ d k q) (h0 : 9497 ≤ d) (h1 : d ≤ 9498) : Qd q := by
 have a := h.day0
 have b := h.day1
 exact ⟨h.src, h.ins, h.cur, by omega, by omega, h.pr, h.no⟩
theorem Qd.kn {q : JQ} (h : Qd q) (k : Int) : Qd { q with kn := k } := ⟨h.src, h.ins, h.cur, h.d0, h.d1, h.pr, h.no⟩
theorem Qd.void {q : JQ} (h : Qd q) (k : Int) : Qd ⟨q.src, q.ins, q.cur, q.day, Rr.zero, k, true⟩ := ⟨h.src, h.ins, h.cur, h.d0, h.d1, fun e => by (cases e), fun _ => rfl⟩
theorem Qd.right {q : JQ} (h : Qd q) (k0 : 1 ≤ q.kn) (k1 : q.kn ≤ 2147483647) : q.right = true := by
 have a := h.d0
 have b := h.d1
 unfold JQ.right
 rw [src_name _ h.src, paper_ok h.ins, code_ok h.cur, show Dt.isDay q.day = true by unfold Dt.isDay; simp only [Bool.and_eq_true, decide_eq_true_eq]; omega, show known q.kn = true by unfold known; simp only [Bool.and_eq_true, decide_eq_true_eq]; omega]
 cases hv : q.vd with
 | true => rw [h.no hv, if_pos rfl, Rr.b_iff.2 rfl]; rfl
 | false =>
  obtain ⟨x, e, hx⟩ := h.pr hv
  rw [if_neg Zd, e, hx.2.2.1, hx.2.2.2]; rfl
theorem Qd.wf {q : JQ} (h : Qd q) : q.wf := by
 have a := src_sz h.src
 have b := ins_sz h.ins
 have c := cur_sz h.cur
 exact ⟨by omega, by omega, by omega⟩
theorem Qd.key {q : JQ} (h : Qd q) : 1 ≤ (key Dt.txt q).size ∧ (key Dt.txt q).size ≤ 64 := by
 have a := src_sz h.src
 have b := ins_sz h.ins
 have c := Dt.txt_size q.day
 unfold Tq.key
 simp only [ByteArray.size_append, c]
 have e : ({ data := #[44] } : ByteArray).size = 1 := rfl
 rw [e]
 omega
theorem Qd.pq {q : JQ} (h : Qd q) (hv : q.vd = false) : Pq q := by
 obtain ⟨x, e, hx⟩ := h.pr hv
 exact ⟨x, e, hx.1, hx.2.1⟩
theorem Qd.inj {x q : JQ} (hx : Qd x) (hq : Qd q) (h : Tq.key Dt.txt x = Tq.key Dt.txt q) : x.src = q.src ∧ x.ins = q.ins ∧ x.day = q.day := by
 have e : x.src = q.src := src_inj _ hx.src _ hq.src (by rw [← key_head (T := Dt.txt) hx.src, ← key_head (T := Dt.txt) hq.src, h])
 exact key_inj (T := Dt.txt) (by rw [e]) (by rw [Dt.txt_size, Dt.txt_size]) (day_inj hx.d0 hx.d1 hq.d0 hq.d1) h
theorem MQs.qd {L : List JQ} {n : Int} (h : MQs 9497 L n) : ∀ q ∈ L, Qd q := fun q hq => by
 obtain ⟨d, h0, h1, h2⟩ := h.el q hq
 exact h2.qd h0 Zo
theorem MQs.book {L : List JQ} {n : Int} (h : MQs 9497 L n) (hl : L.length ≤ 12) : Book L := by
 have hn := h.n1
 refine ⟨fun q hq => (h.qd q hq).wf, fun q hq => ?_, ?_, fun q hq hv => (h.qd q hq).pq hv⟩
 ·have := h.lo q hq
  exact (h.qd q hq).right Zo Zo
 ·unfold As.ok
  rw [As.okFrom_made, Zt (by rw [List.length_map]; omega)]
  ·rfl
  ·intro m hm
   obtain ⟨q, hq, rfl⟩ := List.mem_map.1 hm
   have h1 := h.lo q hq
   have h2 := (h.qd q hq).key
   exact ⟨h1.1, (by omega : q.kn ≤ 2147483647), h2.1, h2.2⟩
  ·exact List.pairwise_map.2 h.inc
def back (V : List JQ) (q : JQ) : JQ := match V.find? (hit q.src q.ins q.day) with
 | some x => { x with kn := q.kn + 1 }
 | none => ⟨q.src, q.ins, q.cur, q.day, Rr.zero, q.kn + 1, true⟩
structure Ch (L0 L : List JQ) (i : Nat) : Prop where
 bk : Book L
 qd : ∀ q ∈ L, Qd q
 kn : ∀ q ∈ L, q.kn < 200 + 2 * i
 sim : Sim (vis Dt.txt L 1000) (vis Dt.txt L0 1000)
 old : vis Dt.txt L 199 = vis Dt.txt L0 1000
 len : L.length = L0.length + 2 * i
theorem Ch.start {L : List JQ} {n : Int} (h : MQs 9497 L n) (hl : L.length ≤ 12) : Ch L L 0 := by
 have hn := h.n1
 refine ⟨h.book hl, h.qd, fun q hq => ?_, Sim.refl _, ?_, rfl⟩
 ·have := h.lo q hq
  omega
 ·exact vis_at L fun x hx => by
    have := h.lo x hx
    omega
theorem Book.snoc {L : List JQ} (h : Book L) {q : JQ} (hq : Qd q) (hk : ∀ x ∈ L, x.kn < q.kn) (h1 : 1 ≤ q.kn) (h2 : q.kn ≤ 2147483647) (hl : L.length < 4096) : Book (L ++ [q]) := by
 have hkey := hq.key
 refine ⟨fun x hx => ?_, fun x hx => ?_, ?_, fun x hx hv => ?_⟩
 ·rcases List.mem_append.1 hx with hx | hx
  ·exact h.wf x hx
  ·rw [List.mem_singleton.1 hx]; exact hq.wf
 ·rcases List.mem_append.1 hx with hx | hx
  ·exact h.ok x hx
  ·rw [List.mem_singleton.1 hx]; exact hq.right h1 h2
 ·rw [List.map_append, List.map_singleton]
  refine As.ok_app h.er (by rw [List.length_map]; exact hl) (fun m hm => ?_) h1 h2 hkey.1 hkey.2
  obtain ⟨x, hx, rfl⟩ := List.mem_map.1 hm
  exact hk x hx
 ·rcases List.mem_append.1 hx with hx | hx
  ·exact h.pr x hx hv
  ·rw [List.mem_singleton.1 hx] at hv ⊢; exact hq.pq hv
theorem Ch.step {L0 L : List JQ} {i : Nat} (h : Ch L0 L i) (hi : i < 3) (hl : L0.length ≤ 12) {q : JQ} (hq : MQ 9497 (200 + 2 * (i : Int)) q) : Ch L0 (L ++ [q, back (vis Dt.txt L 1000) q]) (i + 1) := by
 have hk := hq.kn
 have qq := hq.qd Zd Zd
 have hlen := h.len
 obtain ⟨b, hb⟩ : ∃ b, b = back (vis Dt.txt L 1000) q := ⟨_, rfl⟩
 have hf := (vis_facts (T := Dt.txt) L 1000).2
 have hsb : Sim (vis Dt.txt (L ++ [q, b]) 1000) (vis Dt.txt L 1000) ∧ Qd b ∧ b.kn = q.kn + 1 := by
  unfold back at hb
  cases e : (vis Dt.txt L 1000).find? (hit q.src q.ins q.day) with
  | some x =>
   rw [e] at hb
   have hx := List.mem_of_find?_eq_some e
   have hh := List.find?_some e
   simp only [hit, Bool.and_eq_true, beq_iff_eq] at hh
   have ek : key Dt.txt x = key Dt.txt q := by
    unfold key
    rw [(jb_str _ _).1 hh.1, (jb_str _ _).1 hh.2.1, hh.2.2]
   have hbk : b.kn = q.kn + 1 := by rw [hb]
   exact ⟨back_found Zo Zo hx ek (by rw [hb]), by rw [hb]; exact (h.qd x (hf x hx).1).kn _, hbk⟩
  | none =>
   rw [e] at hb
   have hbk : b.kn = q.kn + 1 := by rw [hb]
   refine ⟨back_none Zo Zo (fun x hx he => ?_) (by rw [hb]; rfl) (by rw [hb]), by rw [hb]; exact qq.void _, hbk⟩
   obtain ⟨e1, e2, e3⟩ := (h.qd x (hf x hx).1).inj qq he
   have := List.find?_eq_none.1 e x hx
   exact this (by simp only [hit, e1, e2, e3, Bool.and_eq_true, beq_iff_eq]; exact ⟨(jb_str _ _).2 rfl, (jb_str _ _).2 rfl, trivial⟩)
 rw [← hb]
 obtain ⟨hs, hbq, hbk⟩ := hsb
 have hkn := h.kn
 have b1 := h.bk.snoc qq (fun x hx => by have := hkn x hx; omega) Zo Zo Zo
 have b2 := b1.snoc hbq (fun x hx => by
  rcases List.mem_append.1 hx with hx | hx
  ·have := hkn x hx; omega
  ·rw [List.mem_singleton.1 hx]; omega) Zo Zo (by rw [List.length_append, List.length_singleton]; omega)
 rw [List.append_assoc] at b2
 refine ⟨b2, fun x hx => ?_, fun x hx => ?_, hs.trans h.sim, (vis_more Zo Zo).trans h.old, by rw [List.length_append]; simp; omega⟩
 ·rcases List.mem_append.1 hx with hx | hx
  ·exact h.qd x hx
  ·simp only [List.mem_cons, List.not_mem_nil, or_false] at hx
   rcases hx with rfl | rfl
   ·exact qq
   ·exact hbq
 ·rcases List.mem_append.1 hx with hx | hx
  ·have := hkn x hx; omega
  ·simp only [List.mem_cons, List.not_mem_nil, or_false] at hx
   rcases hx with rfl | rfl <;> omega
def Same (V W : List JQ) (ss : List ByteArray) (d st : Int) : Prop := ∀ i, (cand V ss i d st).map er = (cand W ss i d st).map er
theorem Ch.same {L0 L : List JQ} {i : Nat} (h : Ch L0 L i) (ss : List ByteArray) (d st : Int) : Same (vis Dt.txt L0 1000) (vis Dt.txt L 1000) ss d st ∧ Same (vis Dt.txt L0 1000) (vis Dt.txt L 199) ss d st := by
 refine ⟨fun k => cand_sim h.sim.symm (vis_facts (T := Dt.txt) L0 1000).1 ss k d st, fun k => ?_⟩
 rw [h.old]
end Tq
end
section
open Jb
theorem Tq.vs (l : List ByteArray) : Vs (l.map fun s => s.data.toList) = V1 (Tq.V l) := by
 unfold Vs Tq.V
 rw [List.map_map]
 congr 1
theorem same16_any (x y : CH) (o : Option JQ) (l : List ByteArray) (hl : l.length ≤ 1000) (w : World) (hx : Tq.ChR w x o l) (hy : Tq.ChR w y o l) :
    Calls Tryz.prog 27 #[.agg x.c, .agg y.c] w fun e w' => e = .returned (.bool true) ∧ Below w.heap.size w w' := by
 have HM := Mem.start w
 have a1 := x.f_src.la
 have a2 := x.f_cur.la
 have a3 := x.f_day.la
 have a4 := x.f_prc.la
 have a5 := x.f_chl.la
 have b1 : LA 9 y.c 0 (.string x.src) := by rw [hx.src, ← hy.src]; exact y.f_src.la
 have b2 : LA 9 y.c 1 (.string x.cur) := by rw [hx.cur, ← hy.cur]; exact y.f_cur.la
 have b3 : LA 3 y.c 2 (.int .i64 x.day) := by rw [hx.day, ← hy.day]; exact y.f_day.la
 have b4 : LA 35 y.c 3 (.agg x.prc.c) := by rw [hx.prc, ← hy.prc]; exact y.f_prc.la
 have b5 := y.f_chl.la
 have E := Rr.eqT 9996 x.prc x.prc
 rw [Rr.b_iff.2 rfl] at E
 have ST := fun w' (hB : Below w.heap.size w w') => sameTexts_any x.chl.v y.chl.v (l.map fun s => s.data.toList) (l.map fun s => s.data.toList) w' (by rw [Tq.vs]; exact hx.chl.below hB) (by rw [Tq.vs]; exact hy.chl.below hB) (by rw [List.length_map]; omega) (by rw [List.length_map]; omega) true (Zi (Zt rfl).symm)
 clear hx hy
 have lx := x.la
 have ly := y.la
 go_enter Tryz.func27, Tryz.ntmps27
 go_wp2_with (first | ((with_reducible refine g_bin ?_); refine a_seqb (E) Zk ?_) | (go_at_call 52; (with_reducible refine Zc HM (ST _ HM.low) ?_; clear HM; intro w2 HM)) | (first | ((with_reducible refine g_ld ?_); refine a_ld HM ?_) | ((with_reducible refine g_bx ?_); refine a_bx HM ?_; clear HM; intro bk w1 HM)))
 go_ret
 exact ⟨rfl, HM.low⟩
theorem Tq.ChR.below {w w' : World} {c : CH} {o : Option JQ} {l : List ByteArray} (h : Tq.ChR w c o l) (hb : Below w.heap.size w w') : Tq.ChR w' c o l := { h with chl := h.chl.below hb }
theorem Tq.sel_len (C : List JQ) (tol : Rat) : (Tq.sel C tol).2.length ≤ C.length := by
 cases C with
 | nil => exact Nat.le_refl _
 | cons a r =>
  show ((List.filter _ (a :: r)).map _).length ≤ _
  rw [List.length_map]; exact List.length_filter_le _ _
theorem Tq.v_la {L : List ByteArray} {i : Nat} {s : ByteArray} (h : L[i]? = some s) : LA 9 (rowsOf (V1 (Tq.V L))) i (.string s) := by
 have hv := Tq.V_at h
 have h9 := rows_at (n := 1) (l := V1 (Tq.V L)) (k := i) (j := 0) (c := #[.string s]) (by intro c hc; obtain ⟨v, _, rfl⟩ := List.mem_map.1 hc; rfl) (by unfold V1; rw [List.getElem?_map, hv]; rfl) Zd
 refine LA.one Zk ?_
 rw [Nat.one_mul, Nat.add_zero] at h9
 exact h9
theorem Tq.rc_eq (o : Option Rat) (h : ∀ x, o = some x → Rt.Fit x) : EqT 10000 35 (.agg (Tq.rc o)) (.agg (Tq.rc o)) true := by
 obtain ⟨r, hr⟩ : ∃ r : Rr, Tq.rc o = r.c := by
  cases o with
  | none => exact ⟨Rr.zero, by rw [Rr.zero_c]; show Bg.rZ 0 0 = _; rw [rZ_ratA]; rfl⟩
  | some x => exact ⟨rr x, (rr_c (h x rfl)).symm⟩
 rw [hr]
 have E := Rr.eqT 9996 r r
 rwa [Rr.b_iff.2 rfl] at E
def Tq.insts : List ByteArray := [{ data := #[65, 67, 77, 69] }, { data := #[71, 79, 76, 68] }, { data := #[69, 85, 82, 85, 83, 68] }]
def Tq.curs : List ByteArray := [{ data := #[69, 85, 82] }, { data := #[71, 66, 80] }]
theorem Tq.cd_usd : Tq.Cd { data := #[85, 83, 68] } := by unfold Tq.Cd; decide +kernel
theorem Tq.cd_cur {s : ByteArray} (h : s ∈ Tq.curs) : Tq.Cd s ∧ (s == { data := #[85, 83, 68] }) = false := by
 simp only [Tq.curs, List.mem_cons, List.not_mem_nil, or_false] at h
 rcases h with rfl | rfl
 ·unfold Tq.Cd; decide +kernel
 ·unfold Tq.Cd; decide +kernel
theorem agree16_any (L1 L2 : List JQ) (hb1 : Tq.Book L1) (hb2 : Tq.Book L2) (k1 k2 : Int) (p : WP) (ss : List ByteArray) (tol : Rat) (d : Int) (hd0 : 0 ≤ d) (hd1 : d ≤ 73048) (x1 x2 : Sl) (w : World) (hR1 : RdS 72 w x1.v (L1.map JQ.c)) (hR2 : RdS 72 w x2.v (L2.map JQ.c)) (hP : Tq.Pol p ss tol w) (hS : Tq.Same (Tq.vis Dt.txt L1 k1) (Tq.vis Dt.txt L2 k2) ss d p.stale) :
    Calls Tryz.prog 11 #[x1.v, .int .i64 k1, x2.v, .int .i64 k2, .agg p.c, .int .i64 d] w fun e w' => e = .returned (.bool true) ∧ Below w.heap.size w w' := by
 have HM := Mem.start w
 have HS := Zi hS
 have hpl := hP.n1
 have C1 := fun inst w' (hB : Below w.heap.size w w') C hC => select_any L1 hb1 k1 p ss tol inst d hd0 hd1 x1.v w' (hR1.below hB) (hP.below hB) C hC
 have C2 := fun inst w' (hB : Below w.heap.size w w') C hC => select_any L2 hb2 k2 p ss tol inst d hd0 hd1 x2.v w' (hR2.below hB) (hP.below hB) C hC
 have R1 := fun a ha hne w' (hB : Below w.heap.size w w') o ho => rate_any L1 p ss tol k1 d a { data := #[85, 83, 68] } ha Tq.cd_usd hne x1 w' ⟨hb1, hR1.below hB, hP.below hB, hd0, hd1⟩ o ho
 have R2 := fun a ha hne w' (hB : Below w.heap.size w w') o ho => rate_any L2 p ss tol k2 d a { data := #[85, 83, 68] } ha Tq.cd_usd hne x2 w' ⟨hb2, hR2.below hB, hP.below hB, hd0, hd1⟩ o ho
 have HLG : Hid (∀ a b, Tq.lg ⟨x1, p, k1, d⟩ L1 ss tol a b = Tq.lg ⟨x2, p, k2, d⟩ L2 ss tol a b) := Zi fun a b => Tq.lg_same (m1 := ⟨x1, p, k1, d⟩) (m2 := ⟨x2, p, k2, d⟩) hS a b
 have HBD : Hid (∀ a b o, Tq.Cd a → Tq.Cd b → o = Tq.lg ⟨x1, p, k1, d⟩ L1 ss tol a b → ∀ x, o = some x → Rt.Fit x) := Zi fun a b o ha hb ho x hx => (Tq.lg_bd hb1 ha.sz.2 hb.sz.2 (ho.symm.trans hx)).fit
 have els : elemB 29 9 1 16 = true := by kernel_rfl
 have lp := p.la
 have zc := CH.za
 have zr := za_rat
 clear hR1 hR2 hP hS hb1 hb2
 go_enter Tryz.func11, Tryz.ntmps11
 go_upto_region 1 with (first | ((with_reducible refine g_ld ?_); refine a_ld HM ?_) | ((with_reducible refine g_st ?_); refine a_st HM ?_; clear HM; intro w1 HM) | ((with_reducible refine g_al ?_); refine a_al HM ?_; clear HM; intro bk w1 HM) | ((with_reducible refine g_bx ?_); refine a_bx HM ?_; clear HM; intro bk w1 HM))
 go_wp2_with (first | ((with_reducible refine g_bs3 ?_); refine a_bs3 (c0 := #[Value.string { data := #[65, 67, 77, 69] }]) (c1 := #[Value.string { data := #[71, 79, 76, 68] }]) (c2 := #[Value.string { data := #[69, 85, 82, 85, 83, 68] }]) HM ?_; clear HM; intro bs w9 HM) | (first | ((with_reducible refine g_ld ?_); refine a_ld HM ?_) | ((with_reducible refine g_st ?_); refine a_st HM ?_; clear HM; intro w1 HM) | ((with_reducible refine g_al ?_); refine a_al HM ?_; clear HM; intro bk w1 HM) | ((with_reducible refine g_bx ?_); refine a_bx HM ?_; clear HM; intro bk w1 HM)))
 obtain ⟨b10, rfl⟩ := HM.nm1
 go_loopw [27] (fun iv wr => ∃ (i : Nat), iv = .int .i64 (i : Nat) ∧ i ≤ 3 ∧ Mem w [] [(bs, rowsOf (V1 (Tq.V Tq.insts))), (b10, p.c)] wr) (fun iv _ => 3 - (intOf iv).toNat)
 case atStart => exact ⟨0, rfl, by omega, HM⟩
 case round =>
  clear HM
  obtain ⟨i, rfl, hi, HM⟩ := hrel
  by_cases hlt : i < 3
  ·have hlt1 : (i : Int) < 3 := by omega
   obtain ⟨s, hs⟩ : ∃ s, Tq.insts[i]? = some s := ⟨_, List.getElem?_eq_getElem (show i < Tq.insts.length by show i < 3; omega)⟩
   have ls := Tq.v_la hs
   obtain ⟨D1, hD1⟩ := Zh (Tq.cand (Tq.vis Dt.txt L1 k1) ss s d p.stale)
   obtain ⟨D2, hD2⟩ := Zh (Tq.cand (Tq.vis Dt.txt L2 k2) ss s d p.stale)
   have hDD : D1.map Tq.er = D2.map Tq.er := by rw [hD1.out, hD2.out]; exact HS.out s
   have hDl : D1.length ≤ 8 := by rw [hD1.out]; exact Nat.le_trans (Tq.cand_len _ _ _ _ _) hpl
   have S1 := fun w' hB => C1 s w' hB D1 hD1
   have S2 := fun w' hB => C2 s w' hB D2 hD2
   obtain ⟨ev, hev⟩ : ∃ ev : Int, ev = if D1 = [] then 151 else 0 := ⟨_, rfl⟩
   have hev2 : (if D2 = [] then (151 : Int) else 0) = ev := by
    rw [hev]
    have := Tq.nil_same hDD
    by_cases h : D1 = []
    ·rw [if_pos h, if_pos (this.1 h)]
    ·rw [if_neg h, if_neg (fun e => h (this.2 e))]
   rw [← hev] at S1
   rw [hev2] at S2
   obtain ⟨e1, e2⟩ := Tq.sel_same hDD tol
   have hl9 := Nat.le_trans (Tq.sel_len D1 tol) hDl
   rw [← e2] at S2
   generalize (Tq.sel D1 tol).2 = l9 at *
   generalize (Tq.sel D1 tol).1 = o1 at *
   generalize (Tq.sel D2 tol).1 = o2 at *
   have E1 := Zi e1
   clear C1 C2 R1 R2 hs hev hev2 hDD hDl hD1 hD2 e1 e2
   go_wp2_with (first | ((with_reducible refine g_ld ?_); refine a_ld HM ?_) | ((with_reducible refine g_st ?_); refine a_st HM ?_; clear HM; intro w1 HM) | ((with_reducible refine g_al ?_); refine a_al HM ?_; clear HM; intro bk w1 HM) | ((with_reducible refine g_bx ?_); refine a_bx HM ?_; clear HM; intro bk w1 HM))
   refine (S1 _ HM.low).mono ?_
   rintro e9 w1 ⟨⟨c1, rfl, HC1⟩, hL⟩
   replace HM := HM.call hL
   clear hL
   have HM0 := Zi HM
   have HP1 := Zi (HM.get (b := b10) (c := p.c) Zl)
   replace HM := Mem.start w1
   have sc1 := c1.sa CH.zero.size
   have lc1 := c1.la
   go_wp2_with (first | ((with_reducible refine g_ld ?_); refine a_ld HM ?_) | ((with_reducible refine g_st ?_); refine a_st HM ?_; clear HM; intro w1 HM) | ((with_reducible refine g_al ?_); refine a_al HM ?_; clear HM; intro bk w1 HM) | ((with_reducible refine g_bx ?_); refine a_bx HM ?_; clear HM; intro bk w1 HM))
   refine (S2 _ (below_seq HM0.out.low HM.low)).mono ?_
   rintro e9 w2 ⟨⟨c2, rfl, HC2⟩, hL⟩
   replace HM := HM.call hL
   clear hL
   obtain ⟨b15, rfl⟩ := HM.nm0
   have HM1 := Zi HM
   have HP2 := Zi (HM.get (b := b15) (c := c1.c) Zl)
   have HC3 := Zi (HC1.out.below HM.low)
   replace HM := Mem.start w2
   have sc2 := c2.sa CH.zero.size
   have lc2 := c2.la
   have ST := fun w' (hB : Below w2.heap.size w2 w') => same16_any c1 c2 o1 l9 (Nat.le_trans hl9 Zd) w' (HC3.out.below hB) ((HC2.out.below hB).er E1.out.symm)
   go_wp2_with (first | (go_at_call 27; (with_reducible refine Zc HM (ST _ HM.low) ?_; clear HM; intro w2 HM)) | (first | ((with_reducible refine g_ld ?_); refine a_ld HM ?_) | ((with_reducible refine g_st ?_); refine a_st HM ?_; clear HM; intro w1 HM) | ((with_reducible refine g_al ?_); refine a_al HM ?_; clear HM; intro bk w1 HM) | ((with_reducible refine g_bx ?_); refine a_bx HM ?_; clear HM; intro bk w1 HM)))
   go_roundw
   case rel => exact ⟨i + 1, by go_num, by omega, HM0.out.call (below_seq HM1.out.low HM.low)⟩
   case measure => simp [intOf]; omega
  ·obtain rfl : i = 3 := by omega
   rw [show ((3 : Nat) : Int) = 3 from rfl]
   replace HM := HM.tail
   clear C1 C2 hi hlt HS
   go_wp2_with (first | ((with_reducible refine g_bs2 ?_); refine a_bs2 (c0 := #[Value.string { data := #[69, 85, 82] }]) (c1 := #[Value.string { data := #[71, 66, 80] }]) HM ?_; clear HM; intro b59 w9 HM) | (first | ((with_reducible refine g_ld ?_); refine a_ld HM ?_) | ((with_reducible refine g_st ?_); refine a_st HM ?_; clear HM; intro w1 HM) | ((with_reducible refine g_al ?_); refine a_al HM ?_; clear HM; intro bk w1 HM) | ((with_reducible refine g_bx ?_); refine a_bx HM ?_; clear HM; intro bk w1 HM)))
   go_loopw [61] (fun iv wr => ∃ (i : Nat), iv = .int .i64 (i : Nat) ∧ i ≤ 2 ∧ Mem w [] [(b59, rowsOf (V1 (Tq.V Tq.curs))), (b10, p.c)] wr) (fun iv _ => 2 - (intOf iv).toNat)
   case atStart => exact ⟨0, rfl, by omega, HM⟩
   case round =>
    clear HM
    obtain ⟨i, rfl, hi, HM⟩ := hrel
    by_cases hlt : i < 2
    ·have hlt1 : (i : Int) < 2 := by omega
     obtain ⟨s, hs⟩ : ∃ s, Tq.curs[i]? = some s := ⟨_, List.getElem?_eq_getElem (show i < Tq.curs.length by show i < 2; omega)⟩
     have ls := Tq.v_la hs
     obtain ⟨hcd, hne⟩ := Tq.cd_cur (List.mem_of_getElem? hs)
     obtain ⟨o, ho⟩ := Zh (Tq.lg ⟨x1, p, k1, d⟩ L1 ss tol s { data := #[85, 83, 68] })
     have T1 := fun w' hB => R1 s hcd hne w' hB o ho
     have T2 := fun w' hB => R2 s hcd hne w' hB o (Zi (ho.out.trans (HLG.out _ _)))
     have E := Tq.rc_eq o (HBD.out _ _ o hcd Tq.cd_usd ho.out)
     have hsz : (Tq.rc o).size = 66 := by
      cases o with
      | none => exact rZ_size 0 0
      | some x => exact qA_size x
     have hon : (Tq.rc o).all (·.oneCell') = true := by
      cases o with
      | none => exact rZ_one 0 0
      | some x => exact qA_one x
     have sr := sa_c hsz hon (rZ_size 0 0)
     have lr := la_c hsz
     obtain ⟨ec, hec⟩ : ∃ ec : Int, ec = (if o.isSome then 0 else 161) := ⟨_, rfl⟩
     rw [← hec] at T1 T2
     generalize Tq.rc o = rv at *
     clear R1 R2 hs hcd hne ho hec hsz hon
     go_wp2_with (first | ((with_reducible refine g_ld ?_); refine a_ld HM ?_) | ((with_reducible refine g_st ?_); refine a_st HM ?_; clear HM; intro w1 HM) | ((with_reducible refine g_al ?_); refine a_al HM ?_; clear HM; intro bk w1 HM) | ((with_reducible refine g_bx ?_); refine a_bx HM ?_; clear HM; intro bk w1 HM))
     refine (T1 _ HM.low).mono ?_
     rintro e9 w1 ⟨rfl, hL⟩
     replace HM := HM.call hL
     clear hL
     go_wp2_with (first | ((with_reducible refine g_ld ?_); refine a_ld HM ?_) | ((with_reducible refine g_st ?_); refine a_st HM ?_; clear HM; intro w1 HM) | ((with_reducible refine g_al ?_); refine a_al HM ?_; clear HM; intro bk w1 HM) | ((with_reducible refine g_bx ?_); refine a_bx HM ?_; clear HM; intro bk w1 HM))
     refine (T2 _ HM.low).mono ?_
     rintro e9 w2 ⟨rfl, hL⟩
     replace HM := HM.call hL
     clear hL
     go_wp2_with (first | ((with_reducible refine g_bin ?_); refine a_sneb (E) Zk false rfl ?_) | (first | ((with_reducible refine g_ld ?_); refine a_ld HM ?_) | ((with_reducible refine g_st ?_); refine a_st HM ?_; clear HM; intro w1 HM) | ((with_reducible refine g_al ?_); refine a_al HM ?_; clear HM; intro bk w1 HM) | ((with_reducible refine g_bx ?_); refine a_bx HM ?_; clear HM; intro bk w1 HM)))
     exact z9_77
    ·go_wp2_with (first | ((with_reducible refine g_ld ?_); refine a_ld HM ?_) | ((with_reducible refine g_st ?_); refine a_st HM ?_; clear HM; intro w1 HM) | ((with_reducible refine g_al ?_); refine a_al HM ?_; clear HM; intro bk w1 HM) | ((with_reducible refine g_bx ?_); refine a_bx HM ?_; clear HM; intro bk w1 HM))
     go_ret
     exact ⟨rfl, HM.low⟩
end
section
open Jb
namespace Tq
def eurusd : ByteArray := { data := #[69, 85, 82, 85, 83, 68] }
def usd : ByteArray := { data := #[85, 83, 68] }
def eur : ByteArray := { data := #[69, 85, 82] }
def e5 : JQ := ⟨{ data := #[97] }, { data := #[69, 85, 82, 85, 83, 68] }, { data := #[85, 83, 68] }, 9, rr (Rat.divInt 5 4), 3, false⟩
theorem e5_mp : MP (Rat.divInt 5 4) := mp_of (k := 250000) Zd Zd Zd Zd Zd
theorem e5_px : px e5.prc = Rat.divInt 5 4 := px_rr e5_mp.1.fit
theorem e5_right : e5.right = true := by
 have hp := e5_mp
 unfold JQ.right
 rw [src_name e5.src (.head _), paper_ok (s := e5.ins) (by unfold papers e5; simp), code_ok (s := e5.cur) (.head _), show Dt.isDay e5.day = true by unfold Dt.isDay e5; simp, show known e5.kn = true by unfold known e5; simp]
 rw [show e5.vd = false from rfl, if_neg Zd, show e5.prc = rr (Rat.divInt 5 4) from rfl, hp.2.2.1, hp.2.2.2]; rfl
theorem e5_book : Book [e5] := by
 have hp := e5_mp
 refine ⟨fun q hq => ?_, fun q hq => ?_, ?_, fun q hq _ => ?_⟩
 ·rw [List.mem_singleton.1 hq]; exact ⟨by decide, by decide, by decide⟩
 ·rw [List.mem_singleton.1 hq]; exact e5_right
 ·unfold As.ok
  rw [As.okFrom_made, Zt (by rw [List.length_map]; decide)]
  ·rfl
  ·intro m hm
   obtain ⟨q, hq, rfl⟩ := List.mem_map.1 hm
   rw [List.mem_singleton.1 hq]
   have c := Dt.txt_size e5.day
   refine ⟨by decide, by decide, ?_⟩
   show 1 ≤ (key Dt.txt e5).size ∧ (key Dt.txt e5).size ≤ 64
   unfold Tq.key
   simp only [ByteArray.size_append, c]
   exact ⟨by decide, by decide⟩
  ·exact List.pairwise_singleton _ _
 ·rw [List.mem_singleton.1 hq]; exact ⟨_, rfl, hp.1, hp.2.1⟩
theorem e5_vis : vis Dt.txt [e5] 3 = [e5] := (vis_app (T := Dt.txt) (L := []) (q := e5) (k := 3) Zd).trans (by rw [vis_nil]; rfl)
theorem e5_cand : cand [e5] [{ data := #[97] }] eurusd 9 0 = [e5] := by
 have hf : fit { data := #[97] } eurusd 9 0 e5 = true := by
  unfold fit
  rw [show (e5.src == ({ data := #[97] } : ByteArray)) = true from (jb_str _ _).2 rfl, show (e5.ins == eurusd) = true from (jb_str _ _).2 rfl]
  rfl
 have hn : nw (fit { data := #[97] } eurusd 9 0) none [e5] = some e5 := by
  rw [nw, hf]; rfl
 unfold cand
 rw [List.filterMap_cons, hn]; rfl
theorem e5_sel : sel [e5] (Rat.divInt 0 1) = (some e5, []) := by
 have hc : (e5.cur == e5.cur) = true := (jb_str _ _).2 rfl
 have hy : yard [e5] e5 = e5 := by
  unfold yard
  rw [List.filter_cons_of_pos (by rw [hc]; rfl)]; rfl
 have hb : bad e5 (px e5.prc) (Rat.divInt 0 1) e5 = false := by
  unfold bad
  rw [hc]
  have h0 : Rt.cmp (Rt.abs (px e5.prc - px e5.prc)) (Rat.divInt 0 1 * px e5.prc) = 0 := Rt.cmp_eq.2 (by rw [Rat.sub_self, Rat.zero_divInt, Rat.zero_mul]; rfl)
  unfold near
  rw [h0]; rfl
 show ([e5].find? (fun q => !bad e5 (px (yard [e5] e5).prc) (Rat.divInt 0 1) q), ([e5].filter (bad e5 (px (yard [e5] e5).prc) (Rat.divInt 0 1))).map (·.src)) = _
 rw [hy, List.find?_cons, hb, List.filter_cons_of_neg (by rw [hb]; exact Bool.false_ne_true)]
 rfl
theorem e5_lg (x : Sl) (p : WP) (hp : p.stale = 0) : lg ⟨x, p, 3, 9⟩ [e5] [{ data := #[97] }] (Rat.divInt 0 1) eur usd = some (Rat.divInt 5 4) := by
 have e1 : (eur == usd) = false := by decide
 have e2 : eur ++ usd = eurusd := by decide
 have hc : cho ⟨x, p, 3, 9⟩ [e5] [{ data := #[97] }] (Rat.divInt 0 1) (eur ++ usd) = some e5 := by
  unfold cho
  show (sel (cand (vis Dt.txt [e5] 3) _ _ 9 p.stale) _).1 = _
  rw [hp, e5_vis, e2, e5_cand, e5_sel]
 have h2 : prc ⟨x, p, 3, 9⟩ [e5] [{ data := #[97] }] (Rat.divInt 0 1) eur usd = (e5.prc, true) := by
  unfold prc
  rw [hc]
  refine Prod.ext rfl ?_
  exact (jb_str _ _).2 rfl
 unfold lg
 rw [e1, h2]
 show some (px e5.prc) = _
 rw [e5_px]
theorem e5_pol {p : WP} (h1 : p.tol = rr (Rat.divInt 0 1)) (h2 : p.stale = 0) {w : World} (hr : RdS 1 w p.src.v (V1 (V [{ data := #[97] }]))) : Pol p [{ data := #[97] }] (Rat.divInt 0 1) w :=
 MPo.pol ⟨by simp, by intro s hs; rw [List.mem_singleton.1 hs]; exact .head _, by decide, by decide, h1, Ac.pr_of (n := 0) (d := 1) (k := 100000000) Zd Zd Zd Zd, by omega⟩ hr
end Tq
end
section
theorem z9_100 {P : Prop} (h : P := by
 refine wpAnyL_done Zk ?_ _
 (go_wp2_with fail; go_ret; exact ⟨rfl, HM.low⟩)) : P := h
end
section
open Jb
theorem Tq.e5_bld (w : World) : (Instr.build 40 #[(0, .string { data := #[97] }), (1, .string { data := #[69, 85, 82, 85, 83, 68] }), (2, .string { data := #[85, 83, 68] }), (3, .int .i64 9), (4, .agg (Rt.qA (Rat.divInt 5 4))), (5, .int .i64 3)]).run Tryz.prog w = .ok (.agg Tq.e5.c) w :=
 Tq.q0_bld { data := #[97] } { data := #[69, 85, 82, 85, 83, 68] } 9 (Rat.divInt 5 4) 3 Tq.e5_mp w
theorem WP.put2 (A : Option Addr) (n c : Nat) (x : Rat) (h : Rt.Fit x) (w : World) : (Instr.build 37 #[(0, .slice A n c), (1, .agg (Rt.qA x))]).run Tryz.prog w = .ok (.agg (WP.c ⟨⟨A, n, c⟩, rr x, 0⟩)) w :=
 WP.bld (parts := #[(0, .slice A n c), (1, .agg (Rt.qA x))]) (r := ⟨⟨A, n, c⟩, rr x, 0⟩) (by simp [Value.cells, qA_size]) (by rw [WP.rows]; show _ = rowsOf [_, (rr x).c, _]; rw [rr_c h]; rfl) w
theorem Tq.e5_select (p : WP) (h1 : p.tol = rr (Rat.divInt 0 1)) (h2 : p.stale = 0) (sv : Value) (w : World) (hR : RdS 72 w sv [Tq.e5.c]) (hS : RdS 1 w p.src.v [#[.string { data := #[97] }]]) :
    Calls Tryz.prog 14 #[sv, .agg p.c, .int .i64 3, .string { data := #[69, 85, 82, 85, 83, 68] }, .int .i64 9] w fun e w' => (∃ c : CH, e = .returned (.tuple #[.agg c.c, .int .i64 0]) ∧ Hid (c.prc = rr (Rat.divInt 5 4))) ∧ Below w.heap.size w w' := by
 refine (select_any [Tq.e5] Tq.e5_book 3 p [{ data := #[97] }] (Rat.divInt 0 1) Tq.eurusd 9 Zd Zd sv w hR (Tq.e5_pol h1 h2 hS) [Tq.e5] (Zi (by rw [Tq.e5_vis, h2, Tq.e5_cand]))).mono ?_
 rintro e w' ⟨⟨c, rfl, H⟩, hb⟩
 refine ⟨⟨c, by rw [if_neg (List.cons_ne_nil _ _)], Zi ?_⟩, hb⟩
 have h := H.out.prc
 rw [Tq.e5_sel] at h
 exact h
theorem Tq.e5_rate (p : WP) (h1 : p.tol = rr (Rat.divInt 0 1)) (h2 : p.stale = 0) (x : Sl) (w : World) (hR : RdS 72 w x.v [Tq.e5.c]) (hS : RdS 1 w p.src.v [#[.string { data := #[97] }]]) :
    Calls Tryz.prog 26 #[Sl.v x, .agg p.c, .int .i64 3, .string { data := #[85, 83, 68] }, .string { data := #[69, 85, 82] }, .string { data := #[85, 83, 68] }, .int .i64 9] w fun e w' => e = .returned (.tuple #[.agg (Rt.qA (Rat.divInt 5 4)), .int .i64 0]) ∧ Below w.heap.size w w' :=
 rate_any [Tq.e5] p [{ data := #[97] }] (Rat.divInt 0 1) 3 9 Tq.eur Tq.usd (Tq.cd_cur (s := Tq.eur) (.head _)).1 Tq.cd_usd (Tq.cd_cur (s := Tq.eur) (.head _)).2 x w ⟨Tq.e5_book, hR, Tq.e5_pol h1 h2 hS, by show (0 : Int) ≤ 9; decide, by show (9 : Int) ≤ 73048; decide⟩ (some (Rat.divInt 5 4)) (Zi (Tq.e5_lg x p h2).symm)
theorem awake16_any (w : World) :
    Calls Tryz.prog 10 #[] w fun e w' => e = .returned (.bool true) ∧ Below w.heap.size w w' := by
 have HM := Mem.start w
 have O1 := fun w => mkof_q 5 4 _ Zd Zd Zd Zd Zd (Zi rfl) w
 have O2 := fun w => mkof_q 0 1 _ Zd Zd Zd Zd Zd (Zi rfl) w
 have f1 : Rt.Fit (Rat.divInt 5 4) := Tq.e5_mp.1.fit
 have f0 : Rt.Fit (Rat.divInt 0 1) := (Ac.pr_ok (Ac.pr_of (n := 0) (d := 1) (k := 100000000) Zd Zd Zd Zd)).1.fit
 have HB := fun w => Tq.e5_bld w
 have SE := Tq.e5_select
 have RE := Tq.e5_rate
 have hel := qel
 have els : elemB 29 9 1 16 = true := by kernel_rfl
 have zp := WP.za
 have zc := CH.za
 have zr := za_rat
 generalize Rat.divInt 5 4 = x1 at *
 generalize Rat.divInt 0 1 = x0 at *
 have sr := sa_q x1 (c := Bg.rZ 0 0) (rZ_size 0 0)
 have lr := la_q x1
 go_enter Tryz.func10, Tryz.ntmps10
 go_upto_region 2 with (first | (go_at_call 19; (with_reducible refine Zc HM (O1 _) ?_; clear HM; intro w2 HM)) | ((with_reducible refine g_bld ?_); refine a_rbl (v := .agg Tq.e5.c) ?_ (hy := h_bg6 rfl Zw Zw Zw Zw Zw Zw (by with_reducible exact (HB)))) | ((with_reducible refine g_bs1 ?_); refine a_bs1 (c0 := Tq.e5.c) HM ?_ (z0 := Tq.e5.size); clear HM; intro bQ w9 HM) | (first | ((with_reducible refine g_ld ?_); refine a_ld HM ?_) | ((with_reducible refine g_st ?_); refine a_st HM ?_; clear HM; intro w1 HM) | ((with_reducible refine g_al ?_); refine a_al HM ?_; clear HM; intro bk w1 HM) | ((with_reducible refine g_bld ?_); refine a_bld ?_)))
 go_upto_region 3 with (first | (go_at_call 19; (with_reducible refine Zc HM (O2 _) ?_; clear HM; intro w2 HM)) | ((with_reducible refine g_bs1 ?_); refine a_bs1 (c0 := #[Value.string { data := #[97] }]) HM ?_; clear HM; intro bS w9 HM; have sp := (WP.mk ⟨some ⟨bS, 0, none⟩, 1, 1⟩ (rr x0) 0).sa (z := WP.zero.c) (WP.size _); have lp := (WP.mk ⟨some ⟨bS, 0, none⟩, 1, 1⟩ (rr x0) 0).la) | ((with_reducible refine g_bld ?_); refine a_rbl (v := .agg (WP.c ⟨⟨some ⟨bS, 0, none⟩, 1, 1⟩, rr x0, 0⟩)) ?_ (hy := h_bg2 rfl Zw Zw (by with_reducible exact (WP.put2 _ _ _ x0 f0)))) | (first | ((with_reducible refine g_ld ?_); refine a_ld HM ?_) | ((with_reducible refine g_st ?_); refine a_st HM ?_; clear HM; intro w1 HM) | ((with_reducible refine g_al ?_); refine a_al HM ?_; clear HM; intro bk w1 HM) | ((with_reducible refine g_bld ?_); refine a_bld ?_)))
 obtain ⟨bP, rfl⟩ := HM.nm0
 obtain ⟨p, hp⟩ : ∃ p, p = WP.mk ⟨some ⟨bS, 0, none⟩, 1, 1⟩ (rr x0) 0 := ⟨_, rfl⟩
 have hp1 : p.tol = rr x0 := by rw [hp]
 have hp2 : p.stale = 0 := by rw [hp]
 have hp3 : p.src.v = .slice (some ⟨bS, 0, none⟩) 1 1 := by rw [hp]; rfl
 rw [← hp] at HM lp
 clear hp sp O2 HB
 go_wp2_with (first | ((with_reducible refine g_ld ?_); refine a_ld HM ?_) | ((with_reducible refine g_st ?_); refine a_st HM ?_; clear HM; intro w1 HM) | ((with_reducible refine g_al ?_); refine a_al HM ?_; clear HM; intro bk w1 HM) | ((with_reducible refine g_bld ?_); refine a_bld ?_))
 refine (SE p hp1 hp2 _ _ ((SlAt.made1 bQ Tq.e5.size).rd HM Zs) (by rw [hp3]; exact (SlAt.made1 bS rfl).rd HM Zs)).mono ?_
 rintro e9 w2 ⟨⟨c, rfl, HC⟩, hL⟩
 replace HM := HM.call hL
 clear hL SE
 have sc := c.sa CH.zero.size
 have lc : LA 35 c.c 3 (.agg (Rt.qA x1)) := by rw [← rr_c f1, ← HC.out]; exact c.f_prc.la
 go_wp2_with (first | ((with_reducible refine g_ld ?_); refine a_ld HM ?_) | ((with_reducible refine g_st ?_); refine a_st HM ?_; clear HM; intro w1 HM) | ((with_reducible refine g_al ?_); refine a_al HM ?_; clear HM; intro bk w1 HM) | ((with_reducible refine g_bld ?_); refine a_bld ?_))
 refine (RE p hp1 hp2 ⟨some ⟨bQ, 0, none⟩, 1, 1⟩ _ ((SlAt.made1 bQ Tq.e5.size).rd HM Zs) (by rw [hp3]; exact (SlAt.made1 bS rfl).rd HM Zs)).mono ?_
 rintro e9 w2 ⟨rfl, hL⟩
 replace HM := HM.call hL
 clear hL RE HC hp1 hp2 hp3
 go_upto_region 5 with (first | ((with_reducible refine g_ld ?_); refine a_ld HM ?_) | ((with_reducible refine g_st ?_); refine a_st HM ?_; clear HM; intro w1 HM) | ((with_reducible refine g_al ?_); refine a_al HM ?_; clear HM; intro bk w1 HM) | ((with_reducible refine g_bld ?_); refine a_bld ?_))
 obtain ⟨b5, rfl⟩ := HM.nm0
 obtain ⟨b3, rfl⟩ := HM.nm1
 refine start_M2 [] HM ((Sub.keep (Sub.keep Sub.nil))) Zk (fun w0x H9 => ?_)
 replace HM := H9; clear H9
 refine k_mv 0 (heldE HM) ?_
 refine k_bin 1 (heldE HM) ?_
 refine k_mv 2 (heldE HM) ?_
 refine k_fa 3 (heldE HM) ?_
 refine k_ld 4 [] (heldE HM) ?_
 refine j_one 5 fun K9 hK9 => ?_
 refine j_call2 (v := ?_) HM ?_ ?_; rotate_left 1; (focus (with_reducible (exact O1 _))); clear HM; intro w1 HM
 refine hK9 _ _ (heldE HM) ?_; clear hK9 K9
 refine t_eq (i := 6) (v := ?_) [] rfl rfl rfl Zk (fun _ _ _ h => h) (heldE HM) ?_ ?_; rotate_left 1; (focus ((refine y_cmpq .eql (x1) (x1) true (.inl rfl) Zs (f1) (f1) (x := ?_) (y := ?_) (t := ?_) ?_ ?_ ?_ ?_; rotate_left 3; (focus rfl); (focus rfl); (focus ((conv => lhs; whnf) <;> rfl)); ((conv => lhs; whnf) <;> rfl)))); ((try simp only [Za]); (try simp only [Zx]); (try simp only [Zy]))
 refine k_pick 7 (heldE HM) ?_
 refine k_mv 8 (heldE HM) ?_
 refine k_mv 9 (heldE HM) ?_
 refine k_bin 10 (heldE HM) ?_
 refine k_pick 11 (heldE HM) ?_
 refine k_mv 12 (heldE HM) ?_
 refine k_ld 13 [] (heldE HM) ?_
 refine k_fa 14 (heldE HM) ?_
 refine k_ld 15 [] (heldE HM) ?_
 refine t_eq (i := 16) (v := ?_) [] rfl rfl rfl Zk (fun _ _ _ h => h) (heldE HM) ?_ ?_; rotate_left 1; (focus ((refine y_cmpq .eql (x1) (x1) true (.inl rfl) Zs (f1) (f1) (x := ?_) (y := ?_) (t := ?_) ?_ ?_ ?_ ?_; rotate_left 3; (focus rfl); (focus rfl); (focus ((conv => lhs; whnf) <;> rfl)); ((conv => lhs; whnf) <;> rfl)))); ((try simp only [Za]); (try simp only [Zx]); (try simp only [Zy]))
 refine k_pick 17 (heldE HM) ?_
 refine k_mv 18 (heldE HM) ?_
 exact z9_100
end
section
open Jb
def Tq.bk0 (V : List JQ) (q : JQ) : JQ := match V.find? (Tq.hit q.src q.ins q.day) with
 | some x => x
 | none => ⟨q.src, q.ins, q.cur, q.day, Rr.zero, 0, true⟩
theorem Tq.bk0_kn (V : List JQ) (q : JQ) : { Tq.bk0 V q with kn := q.kn + 1 } = Tq.back V q := by
 unfold Tq.bk0 Tq.back
 cases V.find? (Tq.hit q.src q.ins q.day) <;> rfl
theorem JQ.bldV (s i u : ByteArray) (d : Int) (w : World) : (Instr.build 40 #[(0, .string s), (1, .string i), (2, .string u), (3, .int .i64 d), (6, .bool true)]).run Tryz.prog w = .ok (.agg (JQ.c ⟨s, i, u, d, Rr.zero, 0, true⟩)) w :=
 JQ.bld (parts := #[(0, .string s), (1, .string i), (2, .string u), (3, .int .i64 d), (6, .bool true)]) (r := ⟨s, i, u, d, Rr.zero, 0, true⟩) (by simp [Value.cells]) (by rw [JQ.rows]; rfl) w
theorem jq_sz (L : List JQ) : ∀ c ∈ L.map JQ.c, c.size = 72 := by
 intro c hc
 obtain ⟨q, _, rfl⟩ := List.mem_map.1 hc
 exact q.size
set_option maxRecDepth 100000 in
theorem treverts_any (A : Option Addr) (xs : List Int) (c0 : Nat) (W : World) (hI : IntsAt W A xs) (hxl : xs.length ≤ 9223372036854775807) :
    Calls Tryz.prog 3 #[.slice A xs.length c0] W fun e w' => e = .returned (.bool true) ∧ Below W.heap.size W w' := by
 have HM := Mem.start W
 have HI := Zi hI
 have zq := JQ.za
 have zp := WP.za
 have hel := qel
 clear hI
 go_enter Tryz.func3, Tryz.ntmps3
 go_upto_region 2 with (first | ((with_reducible refine g_ld ?_); refine a_ld HM ?_) | ((with_reducible refine g_st ?_); refine a_st HM ?_; clear HM; intro w1 HM) | ((with_reducible refine g_al ?_); refine a_al HM ?_; clear HM; intro bk w1 HM) | ((with_reducible refine g_bx ?_); refine a_bx HM ?_; clear HM; intro bk w1 HM) | ((with_reducible refine g_bld ?_); refine a_bld ?_))
 obtain ⟨tb, rfl⟩ := HM.nm0
 have HC : Hid (TapeC W 0 #[.slice A xs.length c0, .int .i64 0]) := ⟨A, xs, c0, 0, rfl, by omega, by omega, HI.out, hxl⟩
 have H0 : Hid (Below W.heap.size W W) := Below.refl _ _
 have hle : ∀ b ∈ ([] : List Nat), W.heap.size ≤ b := by simp
 clear HI
 go_wp2_with fail
 (refine (next_any W tb _ _ _ (HM.tp Zl HC.out H0.out hle) Zo Zo Zo).mono ?_; rintro e9 w2 ⟨v, rfl, v0, v1, ⟨c1, hb1, hc1, -, -⟩, hg⟩; replace HM := HM.put (c' := c1) Zg hb1 (Only.of_grown hg); clear hg hb1; replace HC := Zi hc1; clear hc1)
 obtain ⟨k, rfl⟩ : ∃ k : Nat, v = k := ⟨v.toNat, by omega⟩
 go_wp2_with fail
 refine (mquotes_any W tb _ k 9497 Zo Zd Zd _ (HM.tp Zl HC.out H0.out hle) Zo).mono ?_
 rintro e9 w2 ⟨sv, L, n, B, c1, rfl, HMD, hLl, HS, HC1, HM1⟩
 replace HM := HM.joinT .here HM1
 replace HM : Mem W [] ((tb, c1) :: B) w2 := HM.swapA
 obtain ⟨S, rfl⟩ := sl_of HS.out
 replace HC := HC1
 clear HM1 HC1
 go_wp2_with fail
 refine (mpolicy_any W tb _ _ (HM.tp Zl HC.out H0.out hle) Zo).mono ?_
 rintro e9 w3 ⟨p, ss, tol, B2, c2, rfl, HPo, HSp, HC1, HM1⟩
 replace HM := HM.joinT .here HM1
 replace HM : Mem W [] ((tb, c2) :: (B2 ++ B)) w3 := HM.perm List.perm_middle.symm
 replace HC := HC1
 clear HM1 HC1
 obtain ⟨R, hR⟩ : ∃ R, R = B2 ++ B := ⟨_, rfl⟩
 rw [← hR] at HM
 have HRQ : Hid (∀ (w' : World) K, Mem W [] K w' → (∀ p ∈ R, p ∈ K) → RdS 72 w' S.v (L.map JQ.c)) := Zi (fun w' K H h => HS.out.rd H (fun p hp => h p (by rw [hR]; exact List.mem_append_right _ hp)))
 have HRP : Hid (∀ (w' : World) K, Mem W [] K w' → (∀ p ∈ R, p ∈ K) → Tq.Pol p ss tol w') := Zi (fun w' K H h => HPo.out.pol (HSp.out.rd H (fun p hp => h p (by rw [hR]; exact List.mem_append_left _ hp))))
 have HST := Zi (Tq.Ch.start HMD.out hLl)
 have HBL := Zi (HMD.out.book hLl)
 have sp := p.sa (z := WP.zero.c) (WP.size _)
 have lp := p.la
 have hml : (L.map JQ.c).length ≤ 12 := by rw [List.length_map]; exact hLl
 clear hR HS HSp HMD HPo v0 v1
 go_upto_region 5 with (first | ((with_reducible refine g_bs0 ?_); refine a_bs0 HM ?_; clear HM; intro b0 w9 HM) | ((with_reducible refine g_app ?_); refine a_app (m := L.map JQ.c) (F := fun X => (_, p.c) :: (tb, c2) :: (X ++ R)) HM (SlAt.made0 b0) (HRQ.out _ _ HM (by intro p hp; (repeat (first | exact hp | exact List.mem_append_left _ hp | exact (List.mem_singleton.1 hp) ▸ List.mem_cons_self | apply List.mem_append_right | apply List.mem_cons_of_mem)); done)) ?_ (jq_ones L) (hlen := by simp only [List.length_nil]; omega); clear HM; intro s9 B9 w9 HS9 HM) | (first | ((with_reducible refine g_ld ?_); refine a_ld HM ?_) | ((with_reducible refine g_st ?_); refine a_st HM ?_; clear HM; intro w1 HM) | ((with_reducible refine g_al ?_); refine a_al HM ?_; clear HM; intro bk w1 HM) | ((with_reducible refine g_bx ?_); refine a_bx HM ?_; clear HM; intro bk w1 HM) | ((with_reducible refine g_bld ?_); refine a_bld ?_)))
 obtain ⟨b6, rfl⟩ := HM.nm0
 have HS0 : Hid (SlAt 72 s9 (L.map JQ.c) B9) := Zi HS9
 clear HS9 sp
 go_wp2_with fail
 go_loopw [7, 8] (fun mv iv wr => ∃ (i : Nat) (M : List JQ) (B : List (Nat × Array Value)) (c : Array Value), iv = .int .i64 (i : Nat) ∧ i ≤ 3 ∧ Hid (Tq.Ch L M i) ∧ Hid (SlAt 72 mv (M.map JQ.c) B) ∧ Hid (TapeC W (1200 + 10 * i) c) ∧ Mem W [] ((b6, p.c) :: (tb, c) :: (B ++ R)) wr) (fun _ iv _ => 3 - (intOf iv).toNat)
 case atStart => exact ⟨0, L, B9, c2, rfl, by omega, HST, HS0, Zi (HC.out.mono Zo), HM⟩
 case round =>
  clear HM HC HS0 HST
  obtain ⟨i, M, B, c, rfl, hi, HCH, HSM, HC, HM⟩ := hrel
  obtain ⟨SM, rfl⟩ := sl_of HSM.out
  by_cases hlt : i < 3
  ·have hlt1 : (i : Int) < 3 := by omega
   go_wp2_with fail
   refine (mquote_any W tb _ 9497 (200 + 2 * (i : Int)) Zd Zd _ (HM.tp Zl HC.out H0.out hle) Zo).mono ?_
   rintro e9 w2 ⟨q, rfl, hq, ⟨c1, hb1, hc1, -, -⟩, hg9⟩
   replace HM := HM.put (c' := c1) Zg hb1 (Only.of_grown hg9)
   clear hg9 hb1
   replace HC := Zi hc1
   clear hc1
   have HCH2 := Zi (HCH.out.step hlt hLl hq)
   obtain ⟨hk0, hk1⟩ : 0 ≤ q.kn ∧ q.kn ≤ 1000 := by have := hq.kn; omega
   have hMl : M.length ≤ 18 := by have := HCH.out.len; omega
   obtain ⟨V, hV⟩ : ∃ V, V = Tq.vis Dt.txt M 1000 := ⟨_, rfl⟩
   rw [← hV, ← Tq.bk0_kn] at HCH2
   obtain ⟨r, t, hr⟩ : ∃ r t, Hid ((r, t) = match V.find? (Tq.hit q.src q.ins q.day) with | some q => (q, true) | none => (JQ.zero, false)) := ⟨_, _, Zi rfl⟩
   have HBK : Hid ((t = true → Tq.bk0 V q = r) ∧ (t = false → Tq.bk0 V q = ⟨q.src, q.ins, q.cur, q.day, Rr.zero, 0, true⟩)) := Zi (by
    have h := hr.out
    unfold Tq.bk0
    cases hf : V.find? (Tq.hit q.src q.ins q.day) with
    | none => rw [hf] at h; obtain ⟨rfl, rfl⟩ := Prod.mk.inj h; exact ⟨fun e => (by cases e), fun _ => rfl⟩
    | some x => rw [hf] at h; obtain ⟨rfl, rfl⟩ := Prod.mk.inj h; exact ⟨fun _ => rfl, fun e => (by cases e)⟩)
   have QA := fun w' h => qat_any M HCH.out.bk 1000 q.src q.ins q.day SM.v w' h r t (by rw [← hV]; exact hr)
   have sq := q.sa JQ.zero.size
   have sr := r.sa JQ.zero.size
   have q1 := (JQ.f_src q).la
   have q2 := (JQ.f_ins q).la
   have q3 := (JQ.f_cur q).la
   have q4 := (JQ.f_day q).la
   have q5 := (JQ.f_kn q).la
   have q6 := q.la
   have hcap : ((M.map JQ.c).length + 2) * (336 + 1) ≤ 140737488355328 := by rw [List.length_map]; omega
   have HB := fun w => JQ.bldV q.src q.ins q.cur q.day w
   clear hq hr hV HCH
   go_upto_region 12 with (first | (go_at_call 9; refine (QA _ (HSM.out.rd HM (by intro p hp; (repeat (first | exact hp | exact List.mem_append_left _ hp | exact (List.mem_singleton.1 hp) ▸ List.mem_cons_self | apply List.mem_append_right | apply List.mem_cons_of_mem)); done))).mono ?_; rintro e9 w9 ⟨rfl, hL⟩; replace HM := HM.call hL; clear hL) | (first | ((with_reducible refine g_ld ?_); refine a_ld HM ?_) | ((with_reducible refine g_st ?_); refine a_st HM ?_; clear HM; intro w1 HM) | ((with_reducible refine g_al ?_); refine a_al HM ?_; clear HM; intro bk w1 HM) | ((with_reducible refine g_bx ?_); refine a_bx HM ?_; clear HM; intro bk w1 HM) | ((with_reducible refine g_bld ?_); refine a_bld ?_)))
   obtain ⟨b10, rfl⟩ := HM.nm0
   obtain ⟨b9, rfl⟩ := HM.nm1
   clear QA
   cases t with
   | true =>
    obtain rfl : Tq.bk0 V q = r := HBK.out.1 rfl
    generalize Tq.bk0 V q = y at *
    have sk := JQ.s_kn y (q.kn + 1)
    have ly := ({ y with kn := q.kn + 1 } : JQ).la
    clear HBK HB
    go_wp2_with (first | ((with_reducible refine g_bs2 ?_); refine a_bs2 (c0 := q.c) (c1 := JQ.c { y with kn := q.kn + 1 }) HM ?_ (z0 := q.size) (z1 := JQ.size _); clear HM; intro bx w1 HM) | ((with_reducible refine g_app ?_); refine a_app (m := [q.c, JQ.c { y with kn := q.kn + 1 }]) (F := fun X => (b6, p.c) :: (tb, c1) :: (X ++ R)) HM HSM.out ((SlAt.made bx [q.c, JQ.c { y with kn := q.kn + 1 }] (jq_sz [q, { y with kn := q.kn + 1 }])).rd HM Zs) ?_ (jq_ones [q, { y with kn := q.kn + 1 }]) (hlen := hcap); clear HM; intro s2 B2 w1 HS2 HM) | (first | ((with_reducible refine g_ld ?_); refine a_ld HM ?_) | ((with_reducible refine g_st ?_); refine a_st HM ?_; clear HM; intro w1 HM) | ((with_reducible refine g_al ?_); refine a_al HM ?_; clear HM; intro bk w1 HM) | ((with_reducible refine g_bx ?_); refine a_bx HM ?_; clear HM; intro bk w1 HM) | ((with_reducible refine g_bld ?_); refine a_bld ?_)))
    go_roundw
    case rel => exact ⟨i + 1, M ++ [q, { y with kn := q.kn + 1 }], B2, c1, by go_num, by omega, HCH2, Zi (by rw [List.map_append]; exact HS2), Zi (HC.out.mono Zo), HM⟩
    case measure => simp [intOf]; omega
   | false =>
    rw [HBK.out.2 rfl] at HCH2
    have sv := (JQ.mk q.src q.ins q.cur q.day Rr.zero 0 true).sa (z := r.c) r.size
    have sk := JQ.s_kn (JQ.mk q.src q.ins q.cur q.day Rr.zero 0 true) (q.kn + 1)
    have ly := (JQ.mk q.src q.ins q.cur q.day Rr.zero (q.kn + 1) true).la
    clear HBK
    go_wp2_with (first | ((with_reducible refine g_bld ?_); refine a_rbl (v := .agg (JQ.c ⟨q.src, q.ins, q.cur, q.day, Rr.zero, 0, true⟩)) ?_ (hy := h_bg5 rfl Zw Zw Zw Zw Zw (by with_reducible exact (HB)))) | ((with_reducible refine g_bs2 ?_); refine a_bs2 (c0 := q.c) (c1 := JQ.c ⟨q.src, q.ins, q.cur, q.day, Rr.zero, q.kn + 1, true⟩) HM ?_ (z0 := q.size) (z1 := JQ.size _); clear HM; intro bx w1 HM) | ((with_reducible refine g_app ?_); refine a_app (m := [q.c, JQ.c ⟨q.src, q.ins, q.cur, q.day, Rr.zero, q.kn + 1, true⟩]) (F := fun X => (b6, p.c) :: (tb, c1) :: (X ++ R)) HM HSM.out ((SlAt.made bx [q.c, JQ.c ⟨q.src, q.ins, q.cur, q.day, Rr.zero, q.kn + 1, true⟩] (jq_sz [q, ⟨q.src, q.ins, q.cur, q.day, Rr.zero, q.kn + 1, true⟩])).rd HM Zs) ?_ (jq_ones [q, ⟨q.src, q.ins, q.cur, q.day, Rr.zero, q.kn + 1, true⟩]) (hlen := hcap); clear HM; intro s2 B2 w1 HS2 HM) | (first | ((with_reducible refine g_ld ?_); refine a_ld HM ?_) | ((with_reducible refine g_st ?_); refine a_st HM ?_; clear HM; intro w1 HM) | ((with_reducible refine g_al ?_); refine a_al HM ?_; clear HM; intro bk w1 HM) | ((with_reducible refine g_bx ?_); refine a_bx HM ?_; clear HM; intro bk w1 HM) | ((with_reducible refine g_bld ?_); refine a_bld ?_)))
    go_roundw
    case rel => exact ⟨i + 1, M ++ [q, ⟨q.src, q.ins, q.cur, q.day, Rr.zero, q.kn + 1, true⟩], B2, c1, by go_num, by omega, HCH2, Zi (by rw [List.map_append]; exact HS2), Zi (HC.out.mono Zo), HM⟩
    case measure => simp [intOf]; omega
  ·obtain rfl : i = 3 := by omega
   obtain ⟨hS1, hS2⟩ := HCH.out.same ss 9497 p.stale
   have AG1 := fun w' h1 h2 h3 => agree16_any L M HBL.out HCH.out.bk 1000 1000 p ss tol 9497 Zd Zd S SM w' h1 h2 h3 hS1
   have AG2 := fun w' h1 h2 h3 => agree16_any L M HBL.out HCH.out.bk 1000 199 p ss tol 9497 Zd Zd S SM w' h1 h2 h3 hS2
   rw [show ((3 : Nat) : Int) = 3 from rfl]
   clear hS1 hS2 hi hlt
   go_wp2_with (first | (go_at_call 10; (with_reducible refine Zc HM (awake16_any _) ?_; clear HM; intro w2 HM)) | (go_at_call 11; ((with_reducible refine (AG1 _ (HRQ.out _ _ HM (by intro p hp; (repeat (first | exact hp | exact List.mem_append_left _ hp | exact (List.mem_singleton.1 hp) ▸ List.mem_cons_self | apply List.mem_append_right | apply List.mem_cons_of_mem)); done)) (HSM.out.rd HM (by intro p hp; (repeat (first | exact hp | exact List.mem_append_left _ hp | exact (List.mem_singleton.1 hp) ▸ List.mem_cons_self | apply List.mem_append_right | apply List.mem_cons_of_mem)); done)) (HRP.out _ _ HM (by intro p hp; (repeat (first | exact hp | exact List.mem_append_left _ hp | exact (List.mem_singleton.1 hp) ▸ List.mem_cons_self | apply List.mem_append_right | apply List.mem_cons_of_mem)); done))).mono ?_); rintro e9 w2 ⟨rfl, hL⟩; replace HM := HM.call hL; clear hL)) | (go_at_call 11; ((with_reducible refine (AG2 _ (HRQ.out _ _ HM (by intro p hp; (repeat (first | exact hp | exact List.mem_append_left _ hp | exact (List.mem_singleton.1 hp) ▸ List.mem_cons_self | apply List.mem_append_right | apply List.mem_cons_of_mem)); done)) (HSM.out.rd HM (by intro p hp; (repeat (first | exact hp | exact List.mem_append_left _ hp | exact (List.mem_singleton.1 hp) ▸ List.mem_cons_self | apply List.mem_append_right | apply List.mem_cons_of_mem)); done)) (HRP.out _ _ HM (by intro p hp; (repeat (first | exact hp | exact List.mem_append_left _ hp | exact (List.mem_singleton.1 hp) ▸ List.mem_cons_self | apply List.mem_append_right | apply List.mem_cons_of_mem)); done))).mono ?_); rintro e9 w2 ⟨rfl, hL⟩; replace HM := HM.call hL; clear hL)) | (first | ((with_reducible refine g_ld ?_); refine a_ld HM ?_) | ((with_reducible refine g_st ?_); refine a_st HM ?_; clear HM; intro w1 HM) | ((with_reducible refine g_al ?_); refine a_al HM ?_; clear HM; intro bk w1 HM) | ((with_reducible refine g_bx ?_); refine a_bx HM ?_; clear HM; intro bk w1 HM) | ((with_reducible refine g_bld ?_); refine a_bld ?_)))
   go_ret
   exact ⟨rfl, HM.low⟩
end
end Go.Proofs.YtiekmabiecalbaaGreatDoor
