/- Walks. -/
import Derived.Test.YtiekmabiecalbaaGreatDoorPa41
import Derived.Test.YtiekmabiecalbaaGreatDoorPa39
namespace Go.Proofs.YtiekmabiecalbaaGreatDoor
set_option maxHeartbeats 16000000
open Go.RowKit
set_option maxRecDepth 8000
set_option linter.unusedSimpArgs false
set_option linter.unusedVariables false
section
open Jb
structure Tq.MQs (day : Int) (L : List JQ) (n : Int) : Prop where
 el : ∀ q ∈ L, ∃ d, day ≤ d ∧ d ≤ day + 1 ∧ Tq.MQ d q.kn q
 lo : ∀ q ∈ L, 0 < q.kn ∧ q.kn ≤ n
 inc : L.Pairwise (fun a b => a.kn < b.kn)
 n0 : 0 ≤ n
 n1 : n ≤ 6 * L.length
end
section
open Jb
namespace Tq
theorem civ7 : Dt.civ 9492 = (2025, 12, 27) ∧ Dt.civ 9493 = (2025, 12, 28) ∧ Dt.civ 9494 = (2025, 12, 29) ∧ Dt.civ 9495 = (2025, 12, 30) ∧ Dt.civ 9496 = (2025, 12, 31) ∧ Dt.civ 9497 = (2026, 1, 1) ∧ Dt.civ 9498 = (2026, 1, 2) := by
 refine ⟨Dt.civ_of ?_, Dt.civ_of ?_, Dt.civ_of ?_, Dt.civ_of ?_, Dt.civ_of ?_, Dt.civ_of ?_, Dt.civ_of ?_⟩ <;> (unfold Dt.isCiv; decide +kernel)
theorem txt7 : Dt.txt 9492 = Tx.bytes (Dt.tl 2025 12 27) ∧ Dt.txt 9493 = Tx.bytes (Dt.tl 2025 12 28) ∧ Dt.txt 9494 = Tx.bytes (Dt.tl 2025 12 29) ∧ Dt.txt 9495 = Tx.bytes (Dt.tl 2025 12 30) ∧ Dt.txt 9496 = Tx.bytes (Dt.tl 2025 12 31) ∧ Dt.txt 9497 = Tx.bytes (Dt.tl 2026 1 1) ∧ Dt.txt 9498 = Tx.bytes (Dt.tl 2026 1 2) := by
 obtain ⟨h1, h2, h3, h4, h5, h6, h7⟩ := civ7
 unfold Dt.txt
 rw [h1, h2, h3, h4, h5, h6, h7]
 exact ⟨rfl, rfl, rfl, rfl, rfl, rfl, rfl⟩
theorem day_last {d : Int} (h0 : 9492 ≤ d) (h1 : d ≤ 9498) : (Dt.txt d).data.toList.getLast? = some ((([55, 56, 57, 48, 49, 49, 50] : List UInt8)).getD (d - 9492).toNat 0) ∧ (Dt.txt d).data.toList.getD 3 0 = (if d ≤ 9496 then 53 else 54) := by
 obtain ⟨e1, e2, e3, e4, e5, e6, e7⟩ := txt7
 have h : d = 9492 ∨ d = 9493 ∨ d = 9494 ∨ d = 9495 ∨ d = 9496 ∨ d = 9497 ∨ d = 9498 := by omega
 rcases h with rfl | rfl | rfl | rfl | rfl | rfl | rfl
 ·rw [e1]; decide +kernel
 ·rw [e2]; decide +kernel
 ·rw [e3]; decide +kernel
 ·rw [e4]; decide +kernel
 ·rw [e5]; decide +kernel
 ·rw [e6]; decide +kernel
 ·rw [e7]; decide +kernel
theorem day_inj {d e : Int} (h0 : 9492 ≤ d) (h1 : d ≤ 9498) (k0 : 9492 ≤ e) (k1 : e ≤ 9498) (h : Dt.txt d = Dt.txt e) : d = e := by
 obtain ⟨a1, a2⟩ := day_last h0 h1
 obtain ⟨b1, b2⟩ := day_last k0 k1
 rw [h] at a1 a2
 rw [a1] at b1
 rw [a2] at b2
 have hd : d = 9492 ∨ d = 9493 ∨ d = 9494 ∨ d = 9495 ∨ d = 9496 ∨ d = 9497 ∨ d = 9498 := by omega
 have he : e = 9492 ∨ e = 9493 ∨ e = 9494 ∨ e = 9495 ∨ e = 9496 ∨ e = 9497 ∨ e = 9498 := by omega
 rcases hd with rfl | rfl | rfl | rfl | rfl | rfl | rfl <;> rcases he with rfl | rfl | rfl | rfl | rfl | rfl | rfl <;> first | rfl | exact absurd b1 Zd | exact absurd b2 Zd
theorem src_inj : ∀ s ∈ srcs, ∀ t ∈ srcs, s.data.toList.head? = t.data.toList.head? → s = t := by
 intro s hs t ht h
 simp only [srcs, List.mem_cons, List.not_mem_nil, or_false] at hs ht
 rcases hs with rfl | rfl | rfl | rfl <;> rcases ht with rfl | rfl | rfl | rfl <;> first | rfl | exact absurd h Zd
theorem key_head {T : Int → ByteArray} {q : JQ} (h : q.src ∈ srcs) : (key T q).data.toList.head? = q.src.data.toList.head? := by
 have hne : q.src.data.toList ≠ [] := by
  simp only [srcs, List.mem_cons, List.not_mem_nil, or_false] at h
  rcases h with h | h | h | h <;> rw [h] <;> decide
 unfold key
 simp only [ByteArray.data_append, Array.toList_append, List.append_assoc]
 cases e : q.src.data.toList with
 | nil => exact absurd e hne
 | cons a r => rfl
end Tq
end
section
open Jb
namespace As
theorem okFrom_made : ∀ (M : List Mk) (l : Int), (∀ m ∈ M, l < m.kn ∧ m.kn ≤ 2147483647 ∧ 1 ≤ m.key.size ∧ m.key.size ≤ 64) → M.Pairwise (fun a b => a.kn < b.kn) → okFrom l M = true
 | [], _, _, _ => rfl
 | m :: M, l, h, hp => by
  obtain ⟨a1, a2, a3, a4⟩ := h m List.mem_cons_self
  rw [okFrom, Zf Zo, Zf Zo, Zf Zo, Zf Zo]
  rw [List.pairwise_cons] at hp
  rw [okFrom_made M m.kn (fun x hx => ⟨hp.1 x hx, (h x (List.mem_cons_of_mem _ hx)).2⟩) hp.2]
  rfl
end As
namespace Tq
theorem src_sz : ∀ {s : ByteArray}, s ∈ srcs → 1 ≤ s.size ∧ s.size ≤ 2 := by
 intro s h
 simp only [srcs, List.mem_cons, List.not_mem_nil, or_false] at h
 rcases h with rfl | rfl | rfl | rfl <;> exact ⟨by decide, by decide⟩
theorem ins_sz : ∀ {s : ByteArray}, s ∈ papers → 1 ≤ s.size ∧ s.size ≤ 6 := by
 intro s h
 simp only [papers, List.mem_cons, List.not_mem_nil, or_false] at h
 rcases h with rfl | rfl | rfl | rfl | rfl | rfl <;> exact ⟨by decide, by decide⟩
theorem cur_sz : ∀ {s : ByteArray}, s ∈ codes → s.size = 3 := by
 intro s h
 simp only [codes, List.mem_cons, List.not_mem_nil, or_false] at h
 rcases h with rfl | rfl | rfl | rfl <;> decide
structure Qd (q : JQ) : Prop where
 src : q.src ∈ srcs
 ins : q.ins ∈ papers
 cur : q.cur ∈ codes
 d0 : 9492 ≤ q.day
 d1 : q.day ≤ 9498
 pr : q.vd = false → ∃ x, q.prc = rr x ∧ MP x
 no : q.vd = true → q.prc = Rr.zero
theorem Qd.kn {q : JQ} (h : Qd q) (k : Int) : Qd { q with kn := k } := ⟨h.src, h.ins, h.cur, h.d0, h.d1, h.pr, h.no⟩
theorem Qd.right {q : JQ} (h : Qd q) (k0 : 1 ≤ q.kn) (k1 : q.kn ≤ 2147483647) : q.right = true := by
 have a := h.d0
 have b := h.d1
 unfold JQ.right
 rw [src_name _ h.src, paper_ok h.ins, code_ok h.cur, show Dt.isDay q.day = true by unfold Dt.isDay; simp only [Bool.and_eq_true, decide_eq_true_eq]; omega, show known q.kn = true by unfold known; simp only [Bool.and_eq_true, decide_eq_true_eq]; omega]
 cases hv : q.vd with
 | true => rw [h.no hv, if_pos rfl, Rr.b_iff.2 rfl]; rfl
 | false =>
  obtain ⟨x, e, hx⟩ := h.pr hv
  rw [if_neg Zd, e, hx.2.2.1, hx.2.2.2]; rfl
theorem Qd.wf {q : JQ} (h : Qd q) : q.wf := by
 have a := src_sz h.src
 have b := ins_sz h.ins
 have c := cur_sz h.cur
 exact ⟨by omega, by omega, by omega⟩
theorem Qd.key {q : JQ} (h : Qd q) : 1 ≤ (key Dt.txt q).size ∧ (key Dt.txt q).size ≤ 64 := by
 have a := src_sz h.src
 have b := ins_sz h.ins
 have c := Dt.txt_size q.day
 unfold Tq.key
 simp only [ByteArray.size_append, c]
 have e : ({ data := #[44] } : ByteArray).size = 1 := rfl
 rw [e]
 omega
theorem Qd.pq {q : JQ} (h : Qd q) (hv : q.vd = false) : Pq q := by
 obtain ⟨x, e, hx⟩ := h.pr hv
 exact ⟨x, e, hx.1, hx.2.1⟩
theorem Qd.inj {x q : JQ} (hx : Qd x) (hq : Qd q) (h : Tq.key Dt.txt x = Tq.key Dt.txt q) : x.src = q.src ∧ x.ins = q.ins ∧ x.day = q.day := by
 have e : x.src = q.src := src_inj _ hx.src _ hq.src (by rw [← key_head (T := Dt.txt) hx.src, ← key_head (T := Dt.txt) hq.src, h])
 exact key_inj (T := Dt.txt) (by rw [e]) (by rw [Dt.txt_size, Dt.txt_size]) (day_inj hx.d0 hx.d1 hq.d0 hq.d1) h
def back (V : List JQ) (q : JQ) : JQ := match V.find? (hit q.src q.ins q.day) with
 | some x => { x with kn := q.kn + 1 }
 | none => ⟨q.src, q.ins, q.cur, q.day, Rr.zero, q.kn + 1, true⟩
structure Ch (L0 L : List JQ) (i : Nat) : Prop where
 bk : Book L
 qd : ∀ q ∈ L, Qd q
 kn : ∀ q ∈ L, q.kn < 200 + 2 * i
 sim : Sim (vis Dt.txt L 1000) (vis Dt.txt L0 1000)
 old : vis Dt.txt L 199 = vis Dt.txt L0 1000
 len : L.length = L0.length + 2 * i
theorem Book.snoc {L : List JQ} (h : Book L) {q : JQ} (hq : Qd q) (hk : ∀ x ∈ L, x.kn < q.kn) (h1 : 1 ≤ q.kn) (h2 : q.kn ≤ 2147483647) (hl : L.length < 4096) : Book (L ++ [q]) := by
 have hkey := hq.key
 refine ⟨fun x hx => ?_, fun x hx => ?_, ?_, fun x hx hv => ?_⟩
 ·rcases List.mem_append.1 hx with hx | hx
  ·exact h.wf x hx
  ·rw [List.mem_singleton.1 hx]; exact hq.wf
 ·rcases List.mem_append.1 hx with hx | hx
  ·exact h.ok x hx
  ·rw [List.mem_singleton.1 hx]; exact hq.right h1 h2
 ·rw [List.map_append, List.map_singleton]
  refine As.ok_app h.er (by rw [List.length_map]; exact hl) (fun m hm => ?_) h1 h2 hkey.1 hkey.2
  obtain ⟨x, hx, rfl⟩ := List.mem_map.1 hm
  exact hk x hx
 ·rcases List.mem_append.1 hx with hx | hx
  ·exact h.pr x hx hv
  ·rw [List.mem_singleton.1 hx] at hv ⊢; exact hq.pq hv
def Same (V W : List JQ) (ss : List ByteArray) (d st : Int) : Prop := ∀ i, (cand V ss i d st).map er = (cand W ss i d st).map er
end Tq
end
section
open Jb
def Tq.curs : List ByteArray := [{ data := #[69, 85, 82] }, { data := #[71, 66, 80] }]
theorem Tq.cd_usd : Tq.Cd { data := #[85, 83, 68] } := by unfold Tq.Cd; decide +kernel
theorem Tq.cd_cur {s : ByteArray} (h : s ∈ Tq.curs) : Tq.Cd s ∧ (s == { data := #[85, 83, 68] }) = false := by
 simp only [Tq.curs, List.mem_cons, List.not_mem_nil, or_false] at h
 rcases h with rfl | rfl
 ·unfold Tq.Cd; decide +kernel
 ·unfold Tq.Cd; decide +kernel
end
section
open Jb
namespace Tq
def eurusd : ByteArray := { data := #[69, 85, 82, 85, 83, 68] }
def usd : ByteArray := { data := #[85, 83, 68] }
def eur : ByteArray := { data := #[69, 85, 82] }
def e5 : JQ := ⟨{ data := #[97] }, { data := #[69, 85, 82, 85, 83, 68] }, { data := #[85, 83, 68] }, 9, rr (Rat.divInt 5 4), 3, false⟩
theorem e5_mp : MP (Rat.divInt 5 4) := mp_of (k := 250000) Zd Zd Zd Zd Zd
theorem e5_px : px e5.prc = Rat.divInt 5 4 := px_rr e5_mp.1.fit
theorem e5_right : e5.right = true := by
 have hp := e5_mp
 unfold JQ.right
 rw [src_name e5.src (.head _), paper_ok (s := e5.ins) (by unfold papers e5; simp), code_ok (s := e5.cur) (.head _), show Dt.isDay e5.day = true by unfold Dt.isDay e5; simp, show known e5.kn = true by unfold known e5; simp]
 rw [show e5.vd = false from rfl, if_neg Zd, show e5.prc = rr (Rat.divInt 5 4) from rfl, hp.2.2.1, hp.2.2.2]; rfl
theorem e5_book : Book [e5] := by
 have hp := e5_mp
 refine ⟨fun q hq => ?_, fun q hq => ?_, ?_, fun q hq _ => ?_⟩
 ·rw [List.mem_singleton.1 hq]; exact ⟨by decide, by decide, by decide⟩
 ·rw [List.mem_singleton.1 hq]; exact e5_right
 ·unfold As.ok
  rw [As.okFrom_made, Zt (by rw [List.length_map]; decide)]
  ·rfl
  ·intro m hm
   obtain ⟨q, hq, rfl⟩ := List.mem_map.1 hm
   rw [List.mem_singleton.1 hq]
   have c := Dt.txt_size e5.day
   refine ⟨by decide, by decide, ?_⟩
   show 1 ≤ (key Dt.txt e5).size ∧ (key Dt.txt e5).size ≤ 64
   unfold Tq.key
   simp only [ByteArray.size_append, c]
   exact ⟨by decide, by decide⟩
  ·exact List.pairwise_singleton _ _
 ·rw [List.mem_singleton.1 hq]; exact ⟨_, rfl, hp.1, hp.2.1⟩
theorem e5_vis : vis Dt.txt [e5] 3 = [e5] := (vis_app (T := Dt.txt) (L := []) (q := e5) (k := 3) Zd).trans (by rw [vis_nil]; rfl)
theorem e5_cand : cand [e5] [{ data := #[97] }] eurusd 9 0 = [e5] := by
 have hf : fit { data := #[97] } eurusd 9 0 e5 = true := by
  unfold fit
  rw [show (e5.src == ({ data := #[97] } : ByteArray)) = true from (jb_str _ _).2 rfl, show (e5.ins == eurusd) = true from (jb_str _ _).2 rfl]
  rfl
 have hn : nw (fit { data := #[97] } eurusd 9 0) none [e5] = some e5 := by
  rw [nw, hf]; rfl
 unfold cand
 rw [List.filterMap_cons, hn]; rfl
theorem e5_sel : sel [e5] (Rat.divInt 0 1) = (some e5, []) := by
 have hc : (e5.cur == e5.cur) = true := (jb_str _ _).2 rfl
 have hy : yard [e5] e5 = e5 := by
  unfold yard
  rw [List.filter_cons_of_pos (by rw [hc]; rfl)]; rfl
 have hb : bad e5 (px e5.prc) (Rat.divInt 0 1) e5 = false := by
  unfold bad
  rw [hc]
  have h0 : Rt.cmp (Rt.abs (px e5.prc - px e5.prc)) (Rat.divInt 0 1 * px e5.prc) = 0 := Rt.cmp_eq.2 (by rw [Rat.sub_self, Rat.zero_divInt, Rat.zero_mul]; rfl)
  unfold near
  rw [h0]; rfl
 show ([e5].find? (fun q => !bad e5 (px (yard [e5] e5).prc) (Rat.divInt 0 1) q), ([e5].filter (bad e5 (px (yard [e5] e5).prc) (Rat.divInt 0 1))).map (·.src)) = _
 rw [hy, List.find?_cons, hb, List.filter_cons_of_neg (by rw [hb]; exact Bool.false_ne_true)]
 rfl
theorem e5_lg (x : Sl) (p : WP) (hp : p.stale = 0) : lg ⟨x, p, 3, 9⟩ [e5] [{ data := #[97] }] (Rat.divInt 0 1) eur usd = some (Rat.divInt 5 4) := by
 have e1 : (eur == usd) = false := by decide
 have e2 : eur ++ usd = eurusd := by decide
 have hc : cho ⟨x, p, 3, 9⟩ [e5] [{ data := #[97] }] (Rat.divInt 0 1) (eur ++ usd) = some e5 := by
  unfold cho
  show (sel (cand (vis Dt.txt [e5] 3) _ _ 9 p.stale) _).1 = _
  rw [hp, e5_vis, e2, e5_cand, e5_sel]
 have h2 : prc ⟨x, p, 3, 9⟩ [e5] [{ data := #[97] }] (Rat.divInt 0 1) eur usd = (e5.prc, true) := by
  unfold prc
  rw [hc]
  refine Prod.ext rfl ?_
  exact (jb_str _ _).2 rfl
 unfold lg
 rw [e1, h2]
 show some (px e5.prc) = _
 rw [e5_px]
theorem e5_pol {p : WP} (h1 : p.tol = rr (Rat.divInt 0 1)) (h2 : p.stale = 0) {w : World} (hr : RdS 1 w p.src.v (V1 (V [{ data := #[97] }]))) : Pol p [{ data := #[97] }] (Rat.divInt 0 1) w :=
 MPo.pol ⟨by simp, by intro s hs; rw [List.mem_singleton.1 hs]; exact .head _, by decide, by decide, h1, Ac.pr_of (n := 0) (d := 1) (k := 100000000) Zd Zd Zd Zd, by omega⟩ hr
end Tq
end
section
theorem z9_95 {P : Prop} (h : P := by
 refine wpAnyL_done Zk ?_ _
 (go_wp2_with fail; go_ret; exact ⟨rfl, HM.low⟩)) : P := h
end
section
open Jb
theorem Tq.e5_bld (w : World) : (Instr.build 40 #[(0, .string { data := #[97] }), (1, .string { data := #[69, 85, 82, 85, 83, 68] }), (2, .string { data := #[85, 83, 68] }), (3, .int .i64 9), (4, .agg (Rt.qA (Rat.divInt 5 4))), (5, .int .i64 3)]).run Tryz.prog w = .ok (.agg Tq.e5.c) w :=
 Tq.q0_bld { data := #[97] } { data := #[69, 85, 82, 85, 83, 68] } 9 (Rat.divInt 5 4) 3 Tq.e5_mp w
theorem WP.put2 (A : Option Addr) (n c : Nat) (x : Rat) (h : Rt.Fit x) (w : World) : (Instr.build 37 #[(0, .slice A n c), (1, .agg (Rt.qA x))]).run Tryz.prog w = .ok (.agg (WP.c ⟨⟨A, n, c⟩, rr x, 0⟩)) w :=
 WP.bld (parts := #[(0, .slice A n c), (1, .agg (Rt.qA x))]) (r := ⟨⟨A, n, c⟩, rr x, 0⟩) (by simp [Value.cells, qA_size]) (by rw [WP.rows]; show _ = rowsOf [_, (rr x).c, _]; rw [rr_c h]; rfl) w
theorem Tq.e5_select (p : WP) (h1 : p.tol = rr (Rat.divInt 0 1)) (h2 : p.stale = 0) (sv : Value) (w : World) (hR : RdS 72 w sv [Tq.e5.c]) (hS : RdS 1 w p.src.v [#[.string { data := #[97] }]]) :
    Calls Tryz.prog 14 #[sv, .agg p.c, .int .i64 3, .string { data := #[69, 85, 82, 85, 83, 68] }, .int .i64 9] w fun e w' => (∃ c : CH, e = .returned (.tuple #[.agg c.c, .int .i64 0]) ∧ Hid (c.prc = rr (Rat.divInt 5 4))) ∧ Below w.heap.size w w' := by
 refine (select_any [Tq.e5] Tq.e5_book 3 p [{ data := #[97] }] (Rat.divInt 0 1) Tq.eurusd 9 Zd Zd sv w hR (Tq.e5_pol h1 h2 hS) [Tq.e5] (Zi (by rw [Tq.e5_vis, h2, Tq.e5_cand]))).mono ?_
 rintro e w' ⟨⟨c, rfl, H⟩, hb⟩
 refine ⟨⟨c, by rw [if_neg (List.cons_ne_nil _ _)], Zi ?_⟩, hb⟩
 have h := H.out.prc
 rw [Tq.e5_sel] at h
 exact h
theorem Tq.e5_rate (p : WP) (h1 : p.tol = rr (Rat.divInt 0 1)) (h2 : p.stale = 0) (x : Sl) (w : World) (hR : RdS 72 w x.v [Tq.e5.c]) (hS : RdS 1 w p.src.v [#[.string { data := #[97] }]]) :
    Calls Tryz.prog 26 #[Sl.v x, .agg p.c, .int .i64 3, .string { data := #[85, 83, 68] }, .string { data := #[69, 85, 82] }, .string { data := #[85, 83, 68] }, .int .i64 9] w fun e w' => e = .returned (.tuple #[.agg (Rt.qA (Rat.divInt 5 4)), .int .i64 0]) ∧ Below w.heap.size w w' :=
 rate_any [Tq.e5] p [{ data := #[97] }] (Rat.divInt 0 1) 3 9 Tq.eur Tq.usd (Tq.cd_cur (s := Tq.eur) (.head _)).1 Tq.cd_usd (Tq.cd_cur (s := Tq.eur) (.head _)).2 x w ⟨Tq.e5_book, hR, Tq.e5_pol h1 h2 hS, by show (0 : Int) ≤ 9; decide, by show (9 : Int) ≤ 73048; decide⟩ (some (Rat.divInt 5 4)) (Zi (Tq.e5_lg x p h2).symm)
theorem awake16_any (w : World) :
    Calls Tryz.prog 10 #[] w fun e w' => e = .returned (.bool true) ∧ Below w.heap.size w w' := by
 have HM := Mem.start w
 have O1 := fun w => mkof_q 5 4 _ Zd Zd Zd Zd Zd (Zi rfl) w
 have O2 := fun w => mkof_q 0 1 _ Zd Zd Zd Zd Zd (Zi rfl) w
 have f1 : Rt.Fit (Rat.divInt 5 4) := Tq.e5_mp.1.fit
 have f0 : Rt.Fit (Rat.divInt 0 1) := (Ac.pr_ok (Ac.pr_of (n := 0) (d := 1) (k := 100000000) Zd Zd Zd Zd)).1.fit
 have HB := fun w => Tq.e5_bld w
 have SE := Tq.e5_select
 have RE := Tq.e5_rate
 have hel := qel
 have els : elemB 29 9 1 16 = true := by kernel_rfl
 have zp := WP.za
 have zc := CH.za
 have zr := za_rat
 generalize Rat.divInt 5 4 = x1 at *
 generalize Rat.divInt 0 1 = x0 at *
 have sr := sa_q x1 (c := Bg.rZ 0 0) (rZ_size 0 0)
 have lr := la_q x1
 go_enter Tryz.func10, Tryz.ntmps10
 go_upto_region 2 with (first | (go_at_call 19; (with_reducible refine Zc HM (O1 _) ?_; clear HM; intro w2 HM)) | ((with_reducible refine g_bld ?_); refine a_rbl (v := .agg Tq.e5.c) ?_ (hy := h_bg6 rfl Zw Zw Zw Zw Zw Zw (by with_reducible exact (HB)))) | ((with_reducible refine g_bs1 ?_); refine a_bs1 (c0 := Tq.e5.c) HM ?_ (z0 := Tq.e5.size); clear HM; intro bQ w9 HM) | (first | ((with_reducible refine g_ld ?_); refine a_ld HM ?_) | ((with_reducible refine g_st ?_); refine a_st HM ?_; clear HM; intro w1 HM) | ((with_reducible refine g_al ?_); refine a_al HM ?_; clear HM; intro bk w1 HM) | ((with_reducible refine g_bld ?_); refine a_bld ?_)))
 go_upto_region 3 with (first | (go_at_call 19; (with_reducible refine Zc HM (O2 _) ?_; clear HM; intro w2 HM)) | ((with_reducible refine g_bs1 ?_); refine a_bs1 (c0 := #[Value.string { data := #[97] }]) HM ?_; clear HM; intro bS w9 HM; have sp := (WP.mk ⟨some ⟨bS, 0, none⟩, 1, 1⟩ (rr x0) 0).sa (z := WP.zero.c) (WP.size _); have lp := (WP.mk ⟨some ⟨bS, 0, none⟩, 1, 1⟩ (rr x0) 0).la) | ((with_reducible refine g_bld ?_); refine a_rbl (v := .agg (WP.c ⟨⟨some ⟨bS, 0, none⟩, 1, 1⟩, rr x0, 0⟩)) ?_ (hy := h_bg2 rfl Zw Zw (by with_reducible exact (WP.put2 _ _ _ x0 f0)))) | (first | ((with_reducible refine g_ld ?_); refine a_ld HM ?_) | ((with_reducible refine g_st ?_); refine a_st HM ?_; clear HM; intro w1 HM) | ((with_reducible refine g_al ?_); refine a_al HM ?_; clear HM; intro bk w1 HM) | ((with_reducible refine g_bld ?_); refine a_bld ?_)))
 obtain ⟨bP, rfl⟩ := HM.nm0
 obtain ⟨p, hp⟩ : ∃ p, p = WP.mk ⟨some ⟨bS, 0, none⟩, 1, 1⟩ (rr x0) 0 := ⟨_, rfl⟩
 have hp1 : p.tol = rr x0 := by rw [hp]
 have hp2 : p.stale = 0 := by rw [hp]
 have hp3 : p.src.v = .slice (some ⟨bS, 0, none⟩) 1 1 := by rw [hp]; rfl
 rw [← hp] at HM lp
 clear hp sp O2 HB
 go_wp2_with (first | ((with_reducible refine g_ld ?_); refine a_ld HM ?_) | ((with_reducible refine g_st ?_); refine a_st HM ?_; clear HM; intro w1 HM) | ((with_reducible refine g_al ?_); refine a_al HM ?_; clear HM; intro bk w1 HM) | ((with_reducible refine g_bld ?_); refine a_bld ?_))
 refine (SE p hp1 hp2 _ _ ((SlAt.made1 bQ Tq.e5.size).rd HM Zs) (by rw [hp3]; exact (SlAt.made1 bS rfl).rd HM Zs)).mono ?_
 rintro e9 w2 ⟨⟨c, rfl, HC⟩, hL⟩
 replace HM := HM.call hL
 clear hL SE
 have sc := c.sa CH.zero.size
 have lc : LA 35 c.c 3 (.agg (Rt.qA x1)) := by rw [← rr_c f1, ← HC.out]; exact c.f_prc.la
 go_wp2_with (first | ((with_reducible refine g_ld ?_); refine a_ld HM ?_) | ((with_reducible refine g_st ?_); refine a_st HM ?_; clear HM; intro w1 HM) | ((with_reducible refine g_al ?_); refine a_al HM ?_; clear HM; intro bk w1 HM) | ((with_reducible refine g_bld ?_); refine a_bld ?_))
 refine (RE p hp1 hp2 ⟨some ⟨bQ, 0, none⟩, 1, 1⟩ _ ((SlAt.made1 bQ Tq.e5.size).rd HM Zs) (by rw [hp3]; exact (SlAt.made1 bS rfl).rd HM Zs)).mono ?_
 rintro e9 w2 ⟨rfl, hL⟩
 replace HM := HM.call hL
 clear hL RE HC hp1 hp2 hp3
 go_upto_region 5 with (first | ((with_reducible refine g_ld ?_); refine a_ld HM ?_) | ((with_reducible refine g_st ?_); refine a_st HM ?_; clear HM; intro w1 HM) | ((with_reducible refine g_al ?_); refine a_al HM ?_; clear HM; intro bk w1 HM) | ((with_reducible refine g_bld ?_); refine a_bld ?_))
 obtain ⟨b5, rfl⟩ := HM.nm0
 obtain ⟨b3, rfl⟩ := HM.nm1
 refine start_M2 [] HM ((Sub.keep (Sub.keep Sub.nil))) Zk (fun w0x H9 => ?_)
 replace HM := H9; clear H9
 refine k_mv 0 (heldE HM) ?_
 refine k_bin 1 (heldE HM) ?_
 refine k_mv 2 (heldE HM) ?_
 refine k_fa 3 (heldE HM) ?_
 refine k_ld 4 [] (heldE HM) ?_
 refine j_one 5 fun K9 hK9 => ?_
 refine j_call2 (v := ?_) HM ?_ ?_; rotate_left 1; (focus (with_reducible (exact O1 _))); clear HM; intro w1 HM
 refine hK9 _ _ (heldE HM) ?_; clear hK9 K9
 refine t_eq (i := 6) (v := ?_) [] rfl rfl rfl Zk (fun _ _ _ h => h) (heldE HM) ?_ ?_; rotate_left 1; (focus ((refine y_cmpq .eql (x1) (x1) true (.inl rfl) Zs (f1) (f1) (x := ?_) (y := ?_) (t := ?_) ?_ ?_ ?_ ?_; rotate_left 3; (focus rfl); (focus rfl); (focus ((conv => lhs; whnf) <;> rfl)); ((conv => lhs; whnf) <;> rfl)))); ((try simp only [Za]); (try simp only [Zx]); (try simp only [Zy]))
 refine k_pick 7 (heldE HM) ?_
 refine k_mv 8 (heldE HM) ?_
 refine k_mv 9 (heldE HM) ?_
 refine k_bin 10 (heldE HM) ?_
 refine k_pick 11 (heldE HM) ?_
 refine k_mv 12 (heldE HM) ?_
 refine k_ld 13 [] (heldE HM) ?_
 refine k_fa 14 (heldE HM) ?_
 refine k_ld 15 [] (heldE HM) ?_
 refine t_eq (i := 16) (v := ?_) [] rfl rfl rfl Zk (fun _ _ _ h => h) (heldE HM) ?_ ?_; rotate_left 1; (focus ((refine y_cmpq .eql (x1) (x1) true (.inl rfl) Zs (f1) (f1) (x := ?_) (y := ?_) (t := ?_) ?_ ?_ ?_ ?_; rotate_left 3; (focus rfl); (focus rfl); (focus ((conv => lhs; whnf) <;> rfl)); ((conv => lhs; whnf) <;> rfl)))); ((try simp only [Za]); (try simp only [Zx]); (try simp only [Zy]))
 refine k_pick 17 (heldE HM) ?_
 refine k_mv 18 (heldE HM) ?_
 exact z9_95
end
section
open Jb
def Tq.bk0 (V : List JQ) (q : JQ) : JQ := match V.find? (Tq.hit q.src q.ins q.day) with
 | some x => x
 | none => ⟨q.src, q.ins, q.cur, q.day, Rr.zero, 0, true⟩
end
end Go.Proofs.YtiekmabiecalbaaGreatDoor
