/- Walks. -/
import Derived.Test.YtiekmabiecalbaaGreatDoorPr36
import Derived.Test.YtiekmabiecalbaaGreatDoorPr33
namespace Go.Proofs.YtiekmabiecalbaaGreatDoor
set_option maxHeartbeats 16000000
open Go.RowKit
set_option maxRecDepth 8000
set_option linter.unusedSimpArgs false
set_option linter.unusedVariables false
section
open Jb
structure Tq.MQs (day : Int) (L : List JQ) (n : Int) : Prop where
 el : ∀ q ∈ L, ∃ d, day ≤ d ∧ d ≤ day + 1 ∧ Tq.MQ d q.kn q
 lo : ∀ q ∈ L, 0 < q.kn ∧ q.kn ≤ n
 inc : L.Pairwise (fun a b => a.kn < b.kn)
 n0 : 0 ≤ n
 n1 : n ≤ 6 * L.length
theorem Tq.MQs.nil (day : Int) : Tq.MQs day [] 0 := ⟨by simp, by simp, .nil, by omega, by simp⟩
theorem Tq.MQs.snoc {day : Int} {L : List JQ} {n e d : Int} {q : JQ} (h : Tq.MQs day L n) (he : e = n + d) (d0 : 1 ≤ d) (d1 : d ≤ 6) {y : Int} (y0 : day ≤ y) (y1 : y ≤ day + 1) (hq : Tq.MQ y e q) : Tq.MQs day (L ++ [q]) e := by
 have h0 := h.n0
 have h1 := h.n1
 have hk := hq.kn
 refine ⟨fun x hx => ?_, fun x hx => ?_, List.pairwise_append.2 ⟨h.inc, by simp, fun a ha b hb => ?_⟩, by omega, by simp; omega⟩
 ·rcases List.mem_append.1 hx with hx | hx
  ·exact h.el x hx
  ·rw [List.mem_singleton.1 hx, hk]; exact ⟨y, y0, y1, hq⟩
 ·rcases List.mem_append.1 hx with hx | hx
  ·have := h.lo x hx; omega
  ·rw [List.mem_singleton.1 hx]; omega
 ·rw [List.mem_singleton.1 hb]; have := h.lo a ha; omega
theorem mquotes_any (W : World) (tb m k : Nat) (day : Int) (hk : k ≤ 12) (hd0 : 0 ≤ day) (hd1 : day ≤ 73000) (w : World) (hT : Tp W tb m w) (hm : m ≤ 700000000) :
    Calls Tryz.prog 5 #[.pointer (some ⟨tb, 0, none⟩), .int .i64 (k : Nat), .int .i64 day] w fun e w' => ∃ sv L n B c, e = .returned sv ∧ Hid (Tq.MQs day L n) ∧ L.length ≤ 12 ∧ Hid (SlAt 72 sv (L.map JQ.c) B) ∧ Hid (TapeC W (m + 144) c) ∧ Mem w [tb] ((tb, c) :: B) w' := by
 obtain ⟨c0, hbl, hc0, hb, hle0⟩ := hT
 have HM := Mem.start1 w hbl
 have HC := Zi hc0
 have H0 := Zi hb
 have hle : ∀ b ∈ [tb], W.heap.size ≤ b := by simpa using hle0
 have hel := qel
 clear hbl hc0 hb
 go_enter Tryz.func5, Tryz.ntmps5
 go_wp2_with fail
 go_loopw [7, 8, 9] (fun sv nv iv wr => ∃ (i : Nat) (n : Int) (L : List JQ) (B : List (Nat × Array Value)) (c : Array Value), iv = .int .i64 (i : Nat) ∧ nv = .int .i64 n ∧ i ≤ k ∧ L.length = i ∧ Hid (Tq.MQs day L n) ∧ Hid (SlAt 72 sv (L.map JQ.c) B) ∧ Hid (TapeC W (m + 12 * i) c) ∧ Mem w [tb] ((tb, c) :: B) wr) (fun _ _ iv _ => k - (intOf iv).toNat)
 case atStart => exact ⟨0, 0, [], [], _, rfl, rfl, by omega, rfl, Zi (.nil _), Zi .nil, HC, HM⟩
 case round =>
  clear HM HC
  obtain ⟨i, n, L, B, c, rfl, rfl, hi, hLl, HMD, HS, HC, HM⟩ := hrel
  by_cases hlt : (i : Int) < (k : Int)
  ·have hn0 := HMD.out.n0
   have hn1 := HMD.out.n1
   go_wp2_with fail
   (refine (pick_new (tb := tb) (W := W) HM Zl HC.out H0.out (by first | exact hle | simpa using hle) [0, 0, 1, 5] _ Zo Zs Zs).mono ?_; rintro e9 w2 ⟨v1, c1, rfl, hv, hc1, hb1, hg⟩; replace HM := HM.put (c' := c1) Zg hb1 hg; clear hg hb1; replace HC := Zi hc1; clear hc1)
   have hd : 1 ≤ 1 + v1 ∧ 1 + v1 ≤ 6 := by
    exact z9_91
   clear hv
   obtain ⟨d, hd0⟩ : ∃ d, d = 1 + v1 := ⟨_, rfl⟩
   rw [← hd0] at hd
   go_wp2_with fail
   rw [← hd0]
   clear hd0
   refine (pick_new (tb := tb) (W := W) HM Zl HC.out H0.out (by first | exact hle | simpa using hle) [0, 0, 0, 1] _ Zo Zs Zs).mono ?_
   rintro e9 w2 ⟨v2, c1, rfl, hv, hc1, hb1, hg⟩
   replace HM := HM.put (c' := c1) Zg hb1 hg
   clear hg hb1
   replace HC := Zi hc1
   clear hc1
   have hv2 : 0 ≤ v2 ∧ v2 ≤ 1 := by
    exact z9_91
   clear hv
   obtain ⟨y, hy⟩ : ∃ y, y = min 73048 (day + v2) := ⟨_, rfl⟩
   have hy1 : y < 73048 := by omega
   obtain ⟨e, he⟩ : ∃ e, e = n + d := ⟨_, rfl⟩
   go_wp2_with fail
   rw [← hy, ← he]
   refine (mquote_any W tb _ y e Zo Zo _ (HM.tp Zl HC.out H0.out hle) Zo).mono ?_
   rintro e9 w2 ⟨q, rfl, hq, ⟨c2, hb2, hc2, -, -⟩, hg9⟩
   replace HM := HM.put (c' := c2) Zg hb2 (Only.of_grown hg9)
   clear hg9 hb2
   replace HC := Zi hc2
   clear hc2
   have HMD2 := Zi (HMD.out.snoc he hd.1 hd.2 (y := y) Zo Zo hq)
   clear hq he hy
   have hcap : ((L.map JQ.c).length + [q.c].length) * (336 + 1) ≤ 140737488355328 := by simp; omega
   go_wp2_with (first | first
    | ((with_reducible refine g_bs1 ?_); refine a_bs1 (c0 := q.c) HM ?_ (z0 := q.size); clear HM; intro bx w1 HM)
    | ((with_reducible refine g_app ?_); refine a_app (m := [q.c]) (F := fun B => (tb, c2) :: B) HM HS.out ((SlAt.made1 bx q.size).rd HM Zs) ?_ (jq_ones [q]) (hlen := hcap); clear HM; intro s2 B2 w1 HS2 HM) | fail)
   go_roundw
   case rel => exact ⟨i + 1, e, L ++ [q], B2, c2, by go_num, rfl, by omega, by simp [hLl], HMD2, Zi (by rw [List.map_append]; exact HS2), Zi (HC.out.mono Zo), HM⟩
   case measure => simp [intOf]; omega
  ·go_wp2_with fail
   go_ret
   exact ⟨_, rfl, L, ⟨n, HMD⟩, by omega, B, HS, c, Zi (HC.out.mono Zo), HM⟩
end
section
open Jb
namespace Tq
theorem get_er (l : List JQ) (i : Nat) : (l.map er).getD i JQ.zero = er (l.getD i JQ.zero) := by
 rw [List.getD_eq_getElem?_getD, List.getD_eq_getElem?_getD, List.getElem?_map]
 cases l[i]? <;> rfl
theorem bub_er : ∀ (j : Nat) (l : List JQ), bub (l.map er) j = (bub l j).map er
 | 0, _ => rfl
 | j + 1, l => by
  rw [bub, bub, get_er, get_er]
  show (if cm (l.getD (j + 1) JQ.zero) (l.getD j JQ.zero) < 0 then _ else _) = _
  split
  ·rw [← List.map_set, ← List.map_set, bub_er j]
  ·rfl
theorem srtN_er : ∀ (k : Nat) (l : List JQ) (i : Nat), srtN k (l.map er) i = (srtN k l i).map er
 | 0, _, _ => rfl
 | k + 1, l, i => by rw [srtN, srtN, bub_er, srtN_er k]
theorem md_er (l : List JQ) : md (l.map er) = er (md l) := by
 unfold md srt
 rw [srtN_er, get_er, List.length_map]
theorem sel_er (C : List JQ) (tol : Rat) : sel (C.map er) tol = ((sel C tol).1.map er, (sel C tol).2) := by
 cases C with
 | nil => rfl
 | cons a r =>
  have hy : (yard ((a :: r).map er) (er a)).prc = (yard (a :: r) a).prc := by
   unfold yard
   have e : ((a :: r).map er).filter (fun q => !(!(q.cur == (er a).cur))) = ((a :: r).filter (fun q => !(!(q.cur == a.cur)))).map er := by
    rw [List.filter_map]; rfl
   rw [e, md_er]; rfl
  show (((a :: r).map er).find? (fun q => !bad (er a) (px (yard ((a :: r).map er) (er a)).prc) tol q), (((a :: r).map er).filter (bad (er a) (px (yard ((a :: r).map er) (er a)).prc) tol)).map (·.src)) = (((a :: r).find? (fun q => !bad a (px (yard (a :: r) a).prc) tol q)).map er, ((a :: r).filter (bad a (px (yard (a :: r) a).prc) tol)).map (·.src))
  rw [hy]
  refine Prod.ext ?_ ?_
  ·dsimp only
   rw [List.find?_map]; rfl
  ·dsimp only
   rw [List.filter_map, List.map_map]; rfl
theorem sel_same {C D : List JQ} (h : C.map er = D.map er) (tol : Rat) : (sel C tol).1.map er = (sel D tol).1.map er ∧ (sel C tol).2 = (sel D tol).2 := by
 have h1 := sel_er C tol
 rw [h, sel_er D tol] at h1
 exact ⟨(congrArg Prod.fst h1).symm, (congrArg Prod.snd h1).symm⟩
theorem nil_same {C D : List JQ} (h : C.map er = D.map er) : C = [] ↔ D = [] := by
 rw [← List.map_eq_nil_iff (f := er), h, List.map_eq_nil_iff]
theorem map_fm {α : Type} (f : α → Option JQ) : ∀ l : List α, (l.filterMap f).map er = l.filterMap fun a => (f a).map er
 | [] => rfl
 | a :: l => by
  rw [List.filterMap_cons, List.filterMap_cons]
  cases f a with
  | none => exact map_fm f l
  | some x => exact congrArg _ (map_fm f l)
theorem cand_sim {V W : List JQ} (hs : Sim V W) (hn : (V.map (key Dt.txt)).Nodup) (ss : List ByteArray) (i : ByteArray) (d st : Int) : (cand V ss i d st).map er = (cand W ss i d st).map er := by
 unfold cand
 rw [map_fm, map_fm]
 congr 1
 funext s
 refine nw_sim (fun q => rfl) hs fun x hx y hy h1 h2 h3 => nodup_key hn hx hy ?_
 simp only [fit, Bool.and_eq_true] at h1 h2
 unfold key
 rw [(jb_str _ _).1 h1.1, (jb_str _ _).1 h1.2.1, (jb_str _ _).1 h2.1, (jb_str _ _).1 h2.2.1, h3]
theorem cho_same {m1 m2 : MM} {L1 L2 : List JQ} {ss : List ByteArray} {tol : Rat} (h : ∀ i, (cand (vis Dt.txt L1 m1.k) ss i m1.day m1.p.stale).map er = (cand (vis Dt.txt L2 m2.k) ss i m2.day m2.p.stale).map er) (i : ByteArray) : (cho m1 L1 ss tol i).map er = (cho m2 L2 ss tol i).map er := (sel_same (h i) tol).1
theorem prc_same {m1 m2 : MM} {L1 L2 : List JQ} {ss : List ByteArray} {tol : Rat} (h : ∀ i, (cand (vis Dt.txt L1 m1.k) ss i m1.day m1.p.stale).map er = (cand (vis Dt.txt L2 m2.k) ss i m2.day m2.p.stale).map er) (a b : ByteArray) : prc m1 L1 ss tol a b = prc m2 L2 ss tol a b := by
 have h1 := cho_same (tol := tol) h (a ++ b)
 unfold prc
 generalize cho m1 L1 ss tol (a ++ b) = o1 at h1 ⊢
 generalize cho m2 L2 ss tol (a ++ b) = o2 at h1 ⊢
 cases o1 with
 | none => cases o2 with
  | none => rfl
  | some y => cases h1
 | some x => cases o2 with
  | none => cases h1
  | some y =>
   injection h1 with h1
   have h2 : x.prc = y.prc := (congrArg JQ.prc h1 : (er x).prc = (er y).prc)
   have h3 : x.cur = y.cur := (congrArg JQ.cur h1 : (er x).cur = (er y).cur)
   show (x.prc, x.cur == b) = (y.prc, y.cur == b)
   rw [h2, h3]
theorem lg_same {m1 m2 : MM} {L1 L2 : List JQ} {ss : List ByteArray} {tol : Rat} (h : ∀ i, (cand (vis Dt.txt L1 m1.k) ss i m1.day m1.p.stale).map er = (cand (vis Dt.txt L2 m2.k) ss i m2.day m2.p.stale).map er) (a b : ByteArray) : lg m1 L1 ss tol a b = lg m2 L2 ss tol a b := by
 unfold lg
 rw [prc_same h a b, prc_same h b a]
theorem ChR.er {w : World} {c : CH} {o o2 : Option JQ} {l : List ByteArray} (h : ChR w c o l) (e : o.map er = o2.map er) : ChR w c o2 l := by
 cases o <;> cases o2
 ·exact h
 ·cases e
 ·cases e
 ·next x y =>
  injection e with e
  exact ⟨h.src.trans (congrArg JQ.src e : (Tq.er x).src = (Tq.er y).src), h.cur.trans (congrArg JQ.cur e : (Tq.er x).cur = (Tq.er y).cur), h.day.trans (congrArg JQ.day e : (Tq.er x).day = (Tq.er y).day), h.prc.trans (congrArg JQ.prc e : (Tq.er x).prc = (Tq.er y).prc), h.chl⟩
theorem civ7 : Dt.civ 9492 = (2025, 12, 27) ∧ Dt.civ 9493 = (2025, 12, 28) ∧ Dt.civ 9494 = (2025, 12, 29) ∧ Dt.civ 9495 = (2025, 12, 30) ∧ Dt.civ 9496 = (2025, 12, 31) ∧ Dt.civ 9497 = (2026, 1, 1) ∧ Dt.civ 9498 = (2026, 1, 2) := by
 refine ⟨Dt.civ_of ?_, Dt.civ_of ?_, Dt.civ_of ?_, Dt.civ_of ?_, Dt.civ_of ?_, Dt.civ_of ?_, Dt.civ_of ?_⟩ <;> (unfold Dt.isCiv; decide +kernel)
theorem txt7 : Dt.txt 9492 = Tx.bytes (Dt.tl 2025 12 27) ∧ Dt.txt 9493 = Tx.bytes (Dt.tl 2025 12 28) ∧ Dt.txt 9494 = Tx.bytes (Dt.tl 2025 12 29) ∧ Dt.txt 9495 = Tx.bytes (Dt.tl 2025 12 30) ∧ Dt.txt 9496 = Tx.bytes (Dt.tl 2025 12 31) ∧ Dt.txt 9497 = Tx.bytes (Dt.tl 2026 1 1) ∧ Dt.txt 9498 = Tx.bytes (Dt.tl 2026 1 2) := by
 obtain ⟨h1, h2, h3, h4, h5, h6, h7⟩ := civ7
 unfold Dt.txt
 rw [h1, h2, h3, h4, h5, h6, h7]
 exact ⟨rfl, rfl, rfl, rfl, rfl, rfl, rfl⟩
theorem day_last {d : Int} (h0 : 9492 ≤ d) (h1 : d ≤ 9498) : (Dt.txt d).data.toList.getLast? = some ((([55, 56, 57, 48, 49, 49, 50] : List UInt8)).getD (d - 9492).toNat 0) ∧ (Dt.txt d).data.toList.getD 3 0 = (if d ≤ 9496 then 53 else 54) := by
 obtain ⟨e1, e2, e3, e4, e5, e6, e7⟩ := txt7
 have h : d = 9492 ∨ d = 9493 ∨ d = 9494 ∨ d = 9495 ∨ d = 9496 ∨ d = 9497 ∨ d = 9498 := by omega
 rcases h with rfl | rfl | rfl | rfl | rfl | rfl | rfl
 ·rw [e1]; decide +kernel
 ·rw [e2]; decide +kernel
 ·rw [e3]; decide +kernel
 ·rw [e4]; decide +kernel
 ·rw [e5]; decide +kernel
 ·rw [e6]; decide +kernel
 ·rw [e7]; decide +kernel
theorem day_inj {d e : Int} (h0 : 9492 ≤ d) (h1 : d ≤ 9498) (k0 : 9492 ≤ e) (k1 : e ≤ 9498) (h : Dt.txt d = Dt.txt e) : d = e := by
 obtain ⟨a1, a2⟩ := day_last h0 h1
 obtain ⟨b1, b2⟩ := day_last k0 k1
 rw [h] at a1 a2
 rw [a1] at b1
 rw [a2] at b2
 have hd : d = 9492 ∨ d = 9493 ∨ d = 9494 ∨ d = 9495 ∨ d = 9496 ∨ d = 9497 ∨ d = 9498 := by omega
 have he : e = 9492 ∨ e = 9493 ∨ e = 9494 ∨ e = 9495 ∨ e = 9496 ∨ e = 9497 ∨ e = 9498 := by omega
 rcases hd with rfl | rfl | rfl | rfl | rfl | rfl | rfl <;> rcases he with rfl | rfl | rfl | rfl | rfl | rfl | rfl <;> first | rfl | exact absurd b1 Zd | exact absurd b2 Zd
theorem src_inj : ∀ s ∈ srcs, ∀ t ∈ srcs, s.data.toList.head? = t.data.toList.head? → s = t := by
 intro s hs t ht h
 simp only [srcs, List.mem_cons, List.not_mem_nil, or_false] at hs ht
 rcases hs with rfl | rfl | rfl | rfl <;> rcases ht with rfl | rfl | rfl | rfl <;> first | rfl | exact absurd h Zd
theorem key_head {T : Int → ByteArray} {q : JQ} (h : q.src ∈ srcs) : (key T q).data.toList.head? = q.src.data.toList.head? := by
 have hne : q.src.data.toList ≠ [] := by
  simp only [srcs, List.mem_cons, List.not_mem_nil, or_false] at h
  rcases h with h | h | h | h <;> rw [h] <;> decide
 unfold key
 simp only [ByteArray.data_append, Array.toList_append, List.append_assoc]
 cases e : q.src.data.toList with
 | nil => exact absurd e hne
 | cons a r => rfl
end Tq
end
end Go.Proofs.YtiekmabiecalbaaGreatDoor
