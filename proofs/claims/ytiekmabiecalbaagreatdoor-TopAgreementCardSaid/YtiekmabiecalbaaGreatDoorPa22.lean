/- Walks. -/
import Derived.Lib.SlBytesConst
import Derived.Test.YtiekmabiecalbaaGreatDoorPa20
namespace Go.Proofs.YtiekmabiecalbaaGreatDoor
set_option maxHeartbeats 16000000
open Go.RowKit
set_option maxRecDepth 8000
set_option linter.unusedSimpArgs false
set_option linter.unusedVariables false
section
theorem z9_77 {P : Prop} (h : P := by
 refine ⟨⟨ho.os.trans h.only.os, ho.tape.trans h.only.tape, ho.output.trans h.only.output, Nat.le_trans h.only.size ho.size, fun k hk hn => ?_⟩, fun p hp => ?_, h.own, h.nod⟩
 ·exact (ho.block k (Nat.lt_of_lt_of_le hk h.only.size) (by simp; omega)).trans (h.only.block k hk hn)
 ·exact (h.blk p hp).kept (ho.block _ (h.blk p hp).lt (by simpa using hL p hp))) : P := h
end
section
def MB (w : World) (b : Nat) (c : Array Value) : Prop := w.heap[b]? = some (.cells c 5 (10, 11))
theorem MB.lt {w : World} {b : Nat} {c : Array Value} (h : MB w b c) : b < w.heap.size := (Array.getElem?_eq_some_iff.1 h).1
theorem MB.kept {w w' : World} {b : Nat} {c : Array Value} (h : MB w b c) (e : w'.heap[b]? = w.heap[b]?) : MB w' b c := e.trans h
theorem MB.rbk {w : World} {b : Nat} {c : Array Value} (h : MB w b c) : Rbk w b c := ⟨_, _, h⟩
theorem jMem.rebase {w0 w : World} {X : List Nat} {L : List (Nat × Array Value)} (h : Mem w0 X L w) : Mem w (L.map (·.1)) L w :=
 ⟨Only.refl _ _, h.blk, fun p hp => .inr (List.mem_map_of_mem hp), h.nod⟩
theorem jMem.besideK {w w' : World} {L L' : List (Nat × Array Value)} {b : Nat} (k : Mem w (L.map (·.1)) L' w') (hb : b < w.heap.size) (hL : ∀ p ∈ L, p.1 ≠ b) : w'.heap[b]? = w.heap[b]? :=
 k.only.block b hb fun hm => by obtain ⟨q, hq, e⟩ := List.mem_map.1 hm; exact hL q hq e
theorem jMem.beside {w w' : World} {L L' : List (Nat × Array Value)} {b : Nat} (k : Mem w (L.map (·.1)) L' w') (hb : b < w.heap.size) (hL : ∀ p ∈ L, p.1 ≠ b) : ∀ p ∈ L', p.1 ≠ b := fun _ hp e => by
 rcases k.own _ hp with h1 | h1
 ·omega
 ·obtain ⟨q, hq, e2⟩ := List.mem_map.1 h1
  exact hL q hq (e2.trans e)
theorem jMem.onto {w0 w w' : World} {X : List Nat} {L L' : List (Nat × Array Value)} (h : Mem w0 X L w) (k : Mem w (L.map (·.1)) L' w') : Mem w0 X L' w' := by
 have ho : ∀ b ∈ L.map (·.1), w0.heap.size ≤ b ∨ b ∈ X := fun b hb => by
  obtain ⟨p, hp, rfl⟩ := List.mem_map.1 hb
  exact h.own p hp
 refine ⟨⟨k.only.os.trans h.only.os, k.only.tape.trans h.only.tape, k.only.output.trans h.only.output, Nat.le_trans h.only.size k.only.size, fun i hi hn => ?_⟩, k.blk, fun p hp => ?_, k.nod⟩
 ·refine (k.only.block i (Nat.lt_of_lt_of_le hi h.only.size) fun hm => ?_).trans (h.only.block i hi hn)
  rcases ho i hm with h1 | h1
  ·omega
  ·exact hn h1
 ·rcases k.own p hp with h1 | h1
  ·exact .inl (Nat.le_trans h.only.size h1)
  ·exact ho _ h1
theorem jMem.side {w0 w w' : World} {X : List Nat} {L : List (Nat × Array Value)} (h : Mem w0 X L w) {b : Nat} (ho : Only [b] w w') (hb : w0.heap.size ≤ b) (hL : ∀ p ∈ L, p.1 ≠ b) : Mem w0 X L w' := by
 exact z9_77
section
variable {md : Region.Mode} {ops : Array Oper} {Q : Exit → Act → World → Prop} {K : List Nat} {w0 w : World} {X : List Nat} {L : List (Nat × Array Value)} {oi : Oper} {d : Tmp} {fuel : Nat} {listed : Array Bool} {a a2 : Act} {b k : Nat} {c : Array Value} {v : Value}
theorem start_P {id : Nat} {ops : Array Oper} (K : List Nat) (HM : Mem w0 X L w) (HB : MB w b c) (hm : Tryz.prog.follows .mixedOrders = true)
    (h : ∀ w1, Mem w0 X L w1 → MB w1 b c → wpAnyL Tryz.prog .any ops Q (fun _ => True) (fun w' => Mem w0 X L w' ∧ MB w' b c) K ops.size (Array.replicate ops.size false) a w1) : (Code.region id ops true).wp Tryz.prog Q a w :=
 start_L _ _ K hm (h _ HM.drew HB)
theorem heldP (HM : Mem w0 X L w) (HB : MB w b c) : Held (fun _ => True) (fun w' => Mem w0 X L w' ∧ MB w' b c) K listed w := ⟨trivial, fun _ => ⟨HM, HB⟩⟩
theorem p_ld (i : Nat) (D : List Nat) {T : TypeId} {x : Operand} {S2 : World → Prop} (hH : Held (fun _ => True) S2 K listed w) (hl : ∀ w, S2 w → Rbk w b c) (hv : LA T c k v) (h : wpAnyL Tryz.prog md ops Q (fun _ => True) S2 K fuel (listed.setIfInBounds i true) a2 w) (hKD : K.all (D.contains ·) = true := by rfl) (hi : ops[i]? = some oi := by rfl) (hd : oi.dst = some d := by rfl) (hb : Region.takeB md ops listed i K D = true := by kernel_rfl) (hQ : ∀ c a w, Q (.panic c) (a.put (some d) v) w → Q (.panic c) a w := by exact fun _ _ _ h => h) (hw : Region.wanted oi (yielded ops a.tmps) = true := by rfl) (ho : oi.op = .load T x := by rfl) (hx : a.eval x = .pointer (some ⟨b, k, none⟩) := by first | rfl | ((conv => lhs; whnf) <;> rfl)) (ha : ({ a with tmps := a.tmps.setIfInBounds d v } : Act) = a2 := by ((try simp only [Za, Zx, Zy]) <;> rfl)) : wpAnyL Tryz.prog md ops Q (fun _ => True) S2 K (fuel + 1) listed a w :=
 take2 D hKD hi hd hb hQ hH (y_ld hw ho hx (fun w hS => hl w hS.2) hv) (ha ▸ h)
theorem o_stM {R : Act → World → Prop} {x y : Operand} (HM : Mem w0 X L w) (HB : MB w b c) (hX : w0.heap.size ≤ b) (hL : ∀ p ∈ L, p.1 ≠ b) (hc : c.size = 10) (hk : k < 10) (hv : v.oneCell' = true) (h : ∀ w', Mem w0 X L w' → MB w' b (c.setIfInBounds k v) → R a w') (hd : oi.dst = none := by rfl) (ho : oi.op = .store 5 x y := by rfl) (hx : a.eval x = .pointer (some ⟨b, k, none⟩) := by (conv => lhs; whnf) <;> rfl) (hy : a.eval y = v := by (conv => lhs; whnf) <;> rfl) : Oper.wp Tryz.prog oi a w R Q := by
 have hcell : w.cell? ⟨b, k, none⟩ = some c[k] := by rw [cell_of_row w b k c _ _ HB, Array.getElem?_eq_getElem Zo]
 have hf : w.frozen? ⟨b, k, none⟩ = false := by
  have hB : w.heap[b]? = some (.cells c 5 (10, 11)) := HB
  simp [World.frozen?, hB]; omega
 have hcs : v.cells = #[v] := by cases v <;> simp_all [Value.oneCell', Value.cells]
 have e : (⟨b, k, none⟩ : Addr).add 0 = ⟨b, k, none⟩ := by rw [Addr.add_mid]; rfl
 have hr : (storeVar 5 ⟨b, k, none⟩ v).run Tryz.prog w = .ok () (w.setCell ⟨b, k, none⟩ v) := by
  simp only [storeVar, Sem.run_bind, run_siz (show sizT 5 = some 1 by kernel_rfl), Result.andThen_ok, hcs]
  simp [storeCells, e, run_store _ _ _ _ _ hv, hcell, hf]
 unfold Oper.wp execOp
 simp only [ho, hx, hy, Instr.storeAt, Instr.sureAddr, Sem.run_bind, Sem.run_pure, Result.andThen_ok, hr, Oper.upon_skip]
 rw [hd]
 have es := setCell_eq_setRow w b k c _ (10, 11) v HB
 refine h _ (jMem.side HM ?_ hX hL) ?_
 ·rw [es]; exact Only.setRow _ _ _
 ·unfold MB; rw [es]; exact setRow_heap w b c _ _ _ HB
end
def Dt.rw (n l : Int) : Array Value := #[.int .i64 n, .int .i64 l]
def Dt.by_ (l : List Nat) : Array Value := (l.map fun d : Nat => Value.int .u8 (d : Int)).toArray
theorem Dt.by_size (l : List Nat) : (Dt.by_ l).size = l.length := by simp [Dt.by_]
theorem Dt.by_at {l : List Nat} {k : Nat} (h : k < l.length) : (Dt.by_ l)[k]? = some (.int .u8 (l[k] : Int)) := by simp [Dt.by_, h]
theorem Dt.by_set (l : List Nat) (k d : Nat) : (Dt.by_ l).setIfInBounds k (.int .u8 (d : Int)) = Dt.by_ (l.set k d) := by
 unfold Dt.by_
 simp [List.map_set]
theorem jMem.alloc {w0 w : World} {X : List Nat} {L : List (Nat × Array Value)} (h : Mem w0 X L w) (o : Obj) : Mem w0 X L (w.alloc o) :=
 ⟨⟨h.only.os, h.only.tape, h.only.output, by have := h.only.size; simp; omega, fun k hk hn => (Below.heap_alloc w _ k (Nat.lt_of_lt_of_le hk h.only.size)).trans (h.only.block k hk hn)⟩, fun p hp => (h.blk p hp).alloc _, h.own, h.nod⟩
theorem conv_mb {w : World} {b : Nat} {l : List Nat} (hb : MB w b (Dt.by_ l)) (hl : l.length = 10) (h2 : ∀ d ∈ l, d < 256) : (convert 70 9 (.slice (some ⟨b, 0, none⟩) 10 10)).run Tryz.prog w = .ok (.string (Tx.bytes l)) w := by
 have hs : (Tx.bytes l).size = 10 := by show (l.map UInt8.ofNat).toArray.size = _; simp [hl]
 have := Lib.run_convert_whole (P := Tryz.prog) w 70 5 9 Zk Zk Zk b 0 (Tx.bytes l) (fun i hi => by
  have hi2 : i < l.length := by omega
  rw [cell_of_row w b (0 + i) _ _ _ hb, Nat.zero_add, Dt.by_at hi2]
  have hd : (Tx.bytes l)[i].toNat = l[i] := by
   exact z9_60
  rw [hd]) 10
 rw [hs] at this
 exact this
theorem Dt.set_lt {l : List Nat} (h : ∀ d ∈ l, d < 256) {k e : Nat} (he : e < 256) : ∀ d ∈ l.set k e, d < 256 := fun d hd => by
 rcases List.mem_or_eq_of_mem_set hd with h1 | rfl
 ·exact h d h1
 ·exact he
theorem Dt.u8_add (a r : Nat) (hr : r ≤ 9) : IntKind.u8.wrap ((a : Int) + (r : Int)) = (((a + r) % 256 : Nat) : Int) := by
 simp [IntKind.wrap, IntKind.bits, IntKind.signed]
end
section
namespace Dt
def put : Nat → List Nat → Nat → Nat → List Nat
 | 0, l, _, _ => l
 | q + 1, l, v, lo => if v = 0 then l else put q (l.set (lo + q) ((l.getD (lo + q) 0 + v % 10) % 256)) (v / 10) lo
theorem put_zero : ∀ (j : Nat) (l : List Nat) (lo : Nat), put j l 0 lo = l
 | 0, _, _ => rfl
 | _ + 1, _, _ => rfl
theorem put_step {q v r a lo : Nat} {l : List Nat} (hv : v ≠ 0) (ha : l[lo + q]? = some a) (hr : v % 10 = r) : put (q + 1) l v lo = put q (l.set (lo + q) ((a + r) % 256)) (v / 10) lo := by
 rw [put, if_neg hv, List.getD_eq_getElem?_getD, ha, hr]; rfl
def digs (y m d : Nat) : List (Nat × Nat × Nat) := [(4, y, 0), (2, m, 5), (2, d, 8)]
def fin (D : List (Nat × Nat × Nat)) (l : List Nat) : List Nat := D.foldl (fun l p => put p.1 l p.2.1 p.2.2) l
theorem fin_step {D : List (Nat × Nat × Nat)} {i j v lo : Nat} (h : D[i]? = some (j, v, lo)) (l : List Nat) : fin (D.drop i) l = fin (D.drop (i + 1)) (put j l v lo) := by
 obtain ⟨hi, e⟩ := List.getElem?_eq_some_iff.1 h
 rw [List.drop_eq_getElem_cons hi, e]; rfl
def tl (y m d : Nat) : List Nat := fin (digs y m d) [48, 48, 48, 48, 45, 48, 48, 45, 48, 48]
noncomputable def txt (n : Int) : ByteArray := Tx.bytes (tl (civ n).1.toNat (civ n).2.1.toNat (civ n).2.2.toNat)
theorem put_len : ∀ (j : Nat) (l : List Nat) (v lo : Nat), (put j l v lo).length = l.length
 | 0, _, _, _ => rfl
 | q + 1, l, v, lo => by
  rw [put]
  split
  ·rfl
  ·rw [put_len q, List.length_set]
theorem tl_len (y m d : Nat) : (tl y m d).length = 10 := by
 show (put 2 (put 2 (put 4 _ y 0) m 5) d 8).length = 10
 rw [put_len, put_len, put_len]; rfl
theorem txt_size (n : Int) : (txt n).size = 10 := by
 show ((tl _ _ _).map UInt8.ofNat).toArray.size = 10
 rw [List.size_toArray, List.length_map, tl_len]
end Dt
theorem dfmt_x (n : Int) (h : Dt.isDay n = true) (w : World) :
    Calls Tryz.prog 40 #[.int .i64 n] w fun e w' => e = .returned (.tuple #[.string (Dt.txt n), .int .i64 0]) ∧ Below w.heap.size w w' := by
 have HM := Mem.start w
 have CV := fun w => civil_yes n w h ahead_c
 obtain ⟨tx, htx⟩ := Zh (Dt.txt n)
 rw [← htx.out]
 clear h
 go_enter Tryz.func40, Tryz.ntmps40
 go_upto_region 4 with (first | (go_at_call 75; refine (CV _).mono ?_; rintro e9 w2 ⟨y, m, d, hc, rfl, rfl⟩) | (first | ((with_reducible refine g_ld ?_); refine a_ld HM ?_) | ((with_reducible refine g_st ?_); refine a_st HM ?_; clear HM; intro w1 HM) | ((with_reducible refine g_al ?_); refine a_al HM ?_; clear HM; intro bk w1 HM) | ((with_reducible refine g_bld ?_); refine a_bld ?_)))
 obtain ⟨c1, c2, c3, c4, c5, c6⟩ := Dt.civ_small hc
 obtain ⟨TT, hTT⟩ : ∃ TT, TT = Dt.tl y.toNat m.toNat d.toNat := ⟨_, rfl⟩
 have htxt : Dt.txt n = Tx.bytes TT := by unfold Dt.txt; rw [Dt.civ_of hc, hTT]
 have HTX := Zi (htx.out.trans htxt)
 have HT0 := Zi hTT
 clear htxt hTT htx
 clear hc
 go_wp2_with (first | ((with_reducible refine g_ld ?_); refine a_ld HM ?_) | ((with_reducible refine g_st ?_); refine a_st HM ?_; clear HM; intro w1 HM) | ((with_reducible refine g_al ?_); refine a_al HM ?_; clear HM; intro bk w1 HM) | ((with_reducible refine g_bld ?_); refine a_bld ?_))
 rw [Lib.run_convert_bytes_const (P := Tryz.prog) w 70 5 _ 10 10 Tryz.underlying70 Tryz.underlying5]
 have HB : MB (w.alloc (.cells (Dt.by_ [48, 48, 48, 48, 45, 48, 48, 45, 48, 48]) 5 (10, 11))) w.heap.size (Dt.by_ [48, 48, 48, 48, 45, 48, 48, 45, 48, 48]) := heap_alloc_last w _
 have HM0 := jMem.alloc HM (.cells (Dt.by_ [48, 48, 48, 48, 45, 48, 48, 45, 48, 48]) 5 (10, 11))
 obtain ⟨w4, hw4⟩ : ∃ w4, w4 = w.alloc (.cells (Dt.by_ [48, 48, 48, 48, 45, 48, 48, 45, 48, 48]) 5 (10, 11)) := ⟨_, rfl⟩
 rw [← hw4] at HB HM0
 change Oper.upon _ _ _ _ _ ((Result.ok (Value.slice (some ⟨w.heap.size, 0, none⟩) 10 10) (w.alloc (.cells (Dt.by_ [48, 48, 48, 48, 45, 48, 48, 45, 48, 48]) 5 (10, 11)))).andThen _)
 rw [← hw4]
 obtain ⟨b8, hb8⟩ : ∃ b, b = w.heap.size := ⟨_, rfl⟩
 rw [← hb8] at HB ⊢
 have hle : w.heap.size ≤ b8 := by omega
 clear hw4 HM hb8
 have HM := jMem.rebase HM0
 have el2 : elemB 125 124 2 16 = true := by kernel_rfl
 go_wp2_with (first | ((with_reducible refine g_bs3 ?_); refine a_bs3 (c0 := Dt.rw y 3) (c1 := Dt.rw m 6) (c2 := Dt.rw d 9) HM ?_; clear HM; intro bs w1 HM) | (first | ((with_reducible refine g_ld ?_); refine a_ld HM ?_) | ((with_reducible refine g_st ?_); refine a_st HM ?_; clear HM; intro w1 HM) | ((with_reducible refine g_al ?_); refine a_al HM ?_; clear HM; intro bk w1 HM) | ((with_reducible refine g_bld ?_); refine a_bld ?_)))
 have HB5 := HB.kept (jMem.besideK HM HB.lt Zs)
 have hne : bs ≠ b8 := jMem.beside HM HB.lt Zs (bs, rowsOf [Dt.rw y 3, Dt.rw m 6, Dt.rw d 9]) Zs
 have HM5 := jMem.onto HM0 HM
 clear HM HM0 HB
 have HM := HM5
 clear HM5
 obtain ⟨R, hR⟩ := Zh ([Dt.rw y 3, Dt.rw m 6, Dt.rw d 9])
 rw [← hR.out] at HM
 have HR : Hid (∀ i : Nat, i < 3 → ∃ (n0 l0 : Int) (lo j : Nat), R[i]? = some (Dt.rw n0 l0) ∧ 0 ≤ n0 ∧ n0 < 10 ^ j ∧ l0 + 1 = (lo : Int) + j ∧ lo + j ≤ 10 ∧ n0 ≤ 3000 ∧ (Dt.digs y.toNat m.toNat d.toNat)[i]? = some (j, n0.toNat, lo)) := Zi (by
  intro i hi
  rw [hR.out]
  have : i = 0 ∨ i = 1 ∨ i = 2 := by omega
  rcases this with rfl | rfl | rfl
  ·exact ⟨y, 3, 0, 4, rfl, by omega, by omega, by omega, by omega, by omega, rfl⟩
  ·exact ⟨m, 6, 5, 2, rfl, by omega, by omega, by omega, by omega, by omega, rfl⟩
  ·exact ⟨d, 9, 8, 2, rfl, by omega, by omega, by omega, by omega, by omega, rfl⟩)
 have HRS : Hid (∀ c ∈ R, c.size = 2) := Zi (by rw [hR.out]; intro c hc; simp at hc; rcases hc with rfl | rfl | rfl <;> rfl)
 have zs : ZA 124 (Dt.rw 0 0) := ⟨.agg (Dt.rw 0 0), rfl, fun w => by kernel_rfl⟩
 obtain ⟨DG, hDG⟩ : ∃ DG, DG = Dt.digs y.toNat m.toNat d.toNat := ⟨_, rfl⟩
 have HT1 : Hid (Dt.fin (DG.drop 0) [48, 48, 48, 48, 45, 48, 48, 45, 48, 48] = TT) := Zi (by rw [hDG, HT0.out]; rfl)
 have hDl : DG.length = 3 := by rw [hDG]; rfl
 have HDL := Zi hDl
 rw [← hDG] at HR
 clear c1 c2 c3 c4 c5 c6 hR hDG HT0 hDl
 go_loopw [32] (fun iv wr => ∃ (i : Nat) (l : List Nat), iv = .int .i64 (i : Nat) ∧ i ≤ 3 ∧ l.length = 10 ∧ Hid (Dt.fin (DG.drop i) l = TT) ∧ Hid (∀ d ∈ l, d < 256) ∧ Hid (MB wr b8 (Dt.by_ l)) ∧ Mem w [] [(bs, rowsOf R)] wr) (fun iv _ => 3 - (intOf iv).toNat)
 case atStart => exact ⟨0, [48, 48, 48, 48, 45, 48, 48, 45, 48, 48], rfl, by omega, rfl, HT1, Zi Zd, Zi HB5, HM⟩
 case round =>
  clear HM HB5 HT1
  obtain ⟨i, l, rfl, hi, hl, HT2, HL, HB, HM⟩ := hrel
  by_cases hlt : i < 3
  ·have hlt1 : (i : Int) < 3 := by omega
   obtain ⟨n0, l0, lo, j0, hk, h1, h2, h3, h4, h5, h6⟩ := HR.out i hlt
   obtain ⟨T2, hT2⟩ : ∃ T2, T2 = Dt.put j0 l n0.toNat lo := ⟨_, rfl⟩
   have HT3 : Hid (Dt.fin (DG.drop (i + 1)) T2 = TT) := Zi (by rw [← HT2.out, hT2]; exact (Dt.fin_step h6 l).symm)
   have HT4 : Hid (Dt.put j0 l n0.toNat lo = T2) := Zi hT2.symm
   clear h6 hT2 HT2
   have lr : LA 124 (rowsOf R) (i * 2) (.agg (Dt.rw n0 l0)) := la_row Zk Zk HRS.out hk
   have sr : SA 124 (Dt.rw 0 0) 0 (.agg (Dt.rw n0 l0)) (Dt.rw n0 l0) := SA.whole Zk (by simp [Dt.rw, Value.oneCell']) rfl
   have f1 : LA 3 (Dt.rw n0 l0) 1 (.int .i64 l0) := LA.one Zk rfl
   have HM0 := HM
   replace HM := jMem.rebase HM0
   clear hk
   go_wp2_with (first | ((with_reducible refine g_ld ?_); refine a_ld HM ?_) | ((with_reducible refine g_st ?_); refine a_st HM ?_; clear HM; intro w1 HM) | ((with_reducible refine g_al ?_); refine a_al HM ?_; clear HM; intro bk w1 HM) | ((with_reducible refine g_bld ?_); refine a_bld ?_))
   obtain ⟨bp, rfl⟩ := HM.nm0
   have HB7 := Zi (HB.out.kept (jMem.besideK HM HB.out.lt (by simpa using hne)))
   have hnp : bp ≠ b8 := jMem.beside HM HB.out.lt (by simpa using hne) (bp, Dt.rw n0 l0) Zs
   have HM7 := jMem.onto HM0 HM
   clear HM HM0 HB f1 lr sr zs
   have HM := HM7
   clear HM7
   have hn9 : n0.toNat < 10 ^ j0 := by
    have e9 : ((10 ^ j0 : Nat) : Int) = (10 : Int) ^ j0 := Int.natCast_pow 10 j0
    omega
   have hL0 : l0 = (lo : Int) + (j0 : Nat) - 1 := by omega
   go_loopw [11] (fun tv wr => ∃ (j : Nat) (v : Nat) (l : List Nat), tv = .int .i64 ((lo : Int) + (j : Nat) - 1) ∧ j ≤ j0 ∧ v < 10 ^ j ∧ v ≤ 3000 ∧ l.length = 10 ∧ Hid (Dt.put j l v lo = T2) ∧ Hid (∀ d ∈ l, d < 256) ∧ Hid (MB wr b8 (Dt.by_ l)) ∧ Mem w [] [(bp, Dt.rw v l0), (bs, rowsOf R)] wr) (fun tv _ => (intOf tv + 1 - lo).toNat)
   case atStart => exact ⟨j0, n0.toNat, l, by rw [hL0], by omega, hn9, by omega, hl, HT4, HL, HB7, by rw [Int.toNat_of_nonneg h1]; exact HM⟩
   case round =>
    clear HM HB7 HL hl HT4
    obtain ⟨j, v, l, rfl, hj, hv, hv3, hl, HT5, HL, HB, HM⟩ := hrel
    have f0 : LA 3 (Dt.rw v l0) 0 (.int .i64 (v : Int)) := LA.one Zk rfl
    by_cases hv0 : v = 0
    ·have g0 : ¬ (0 : Int) < v := by omega
     have g1 : decide ((0 : Int) < v) = false := Zf g0
     have HT6 : Hid (Dt.fin (DG.drop (i + 1)) l = TT) := Zi (by have h := HT5.out; rw [hv0, Dt.put_zero] at h; rw [h]; exact HT3.out)
     clear hv0 hv
     go_wp2_with (first | ((with_reducible refine g_ld ?_); refine a_ld HM ?_) | ((with_reducible refine g_st ?_); refine a_st HM ?_; clear HM; intro w1 HM) | ((with_reducible refine g_al ?_); refine a_al HM ?_; clear HM; intro bk w1 HM) | ((with_reducible refine g_bld ?_); refine a_bld ?_))
     go_roundw
     case rel => exact ⟨i + 1, l, by go_num, by omega, hl, HT6, HL, HB, HM.pick⟩
     case measure => simp [intOf]; omega
    ·have g0 : (0 : Int) < v := by omega
     have g1 : decide ((0 : Int) < v) = true := Zt g0
     obtain ⟨q, rfl⟩ : ∃ q, j = q + 1 := ⟨j - 1, by
      cases j with
      | zero => simp at hv; omega
      | succ q => omega⟩
     obtain ⟨kk, hkk⟩ : ∃ kk : Nat, kk = lo + q := ⟨_, rfl⟩
     have hk : kk < l.length := by omega
     have e1 : (lo : Int) + ((q + 1 : Nat) : Int) - 1 = ((kk : Nat) : Int) := by omega
     have hlk : ((kk : Nat) : Int) < 10 := by omega
     have HKK := Zi hkk
     obtain ⟨a, ha⟩ : ∃ a, l[kk]? = some a := ⟨_, List.getElem?_eq_getElem hk⟩
     have lb : LA 5 (Dt.by_ l) (kk) (.int .u8 (a : Int)) := LA.one Zk (by rw [Dt.by_at hk]; rw [List.getElem?_eq_getElem hk] at ha; injection ha with ha; rw [ha])
     obtain ⟨r, hr⟩ : ∃ r : Nat, Hid (v % 10 = r) := ⟨_, Zi rfl⟩
     have hr9 : r ≤ 9 := by have := hr.out; omega
     have hmod : ((v : Nat) : Int).tmod 10 = r := by have := hr.out; rw [Int.tmod_eq_emod_of_nonneg Zo]; omega
     have hcv : IntKind.u8.wrap (r : Int) = r := IntWalk.u8_in _ Zo
     have hadd := Dt.u8_add a r hr9
     obtain ⟨x, hx⟩ : ∃ x : Nat, x = (a + r) % 256 := ⟨_, rfl⟩
     rw [← hx] at hadd
     have hx2 : x < 256 := by omega
     have hpow : v / 10 < 10 ^ q := by rw [Nat.pow_succ] at hv; omega
     have hdiv : ((v : Nat) : Int).tdiv 10 = ((v / 10 : Nat) : Int) := by rw [Int.tdiv_eq_ediv_of_nonneg Zo]; rfl
     have HT7 : Hid (Dt.put q (l.set kk x) (v / 10) lo = T2) := Zi (by rw [← HT5.out, hx, hkk]; rw [hkk] at ha; exact (Dt.put_step hv0 ha hr.out).symm)
     rw [e1]
     clear hv0 hv e1 hkk HT5
     go_upto_region 11 with (first | ((with_reducible refine g_ld ?_); refine a_ld HM ?_) | ((with_reducible refine g_st ?_); refine a_st HM ?_; clear HM; intro w1 HM) | ((with_reducible refine g_al ?_); refine a_al HM ?_; clear HM; intro bk w1 HM) | ((with_reducible refine g_bld ?_); refine a_bld ?_))
     refine start_P [10] HM HB.out Zk (fun w0x H9 HB9 => ?_)
     replace HM := H9
     clear H9
     refine k_mv 0 (heldP HM HB9) ?_
     refine k_mv 1 (heldP HM HB9) ?_
     refine k_ia 2 (heldP HM HB9) ?_
     refine p_ld 3 [8, 9, 10] (heldP HM HB9) (fun w h => h.2.rbk) lb ?_
     refine k_fa 4 (heldP HM HB9) ?_
     refine p_ld 5 [6, 7, 8, 9, 10] (heldP HM HB9) (fun w h => (h.1.get Zl).rbk) f0 ?_
     refine t_pure (i := 6) (v := .int .i64 ((r : Nat) : Int)) rfl rfl Zk (fun _ _ _ h => h) (heldP HM HB9) Zv ?_ ?_; (focus (exact h_bin Zv Zv Zv (by intro w9; first | (go_simp; done) | (go_simp; rw [IntWalk.i64_in _ Zo])))); ((try simp only [Za]); (try simp only [Zx]); (try simp only [Zy]))
     refine t_pure (i := 7) (v := .int .u8 ((r : Nat) : Int)) rfl rfl Zk (fun _ _ _ h => h) (heldP HM HB9) Zv ?_ ?_; (focus (refine h_cv (T := ?_) (T2 := ?_) (x := ?_) (vx := ?_) ?_ ?_ ?_; rotate_left 4; (focus rfl); (focus ((conv => lhs; whnf) <;> rfl)); intro w9; go_simp)); ((try simp only [Za]); (try simp only [Zx]); (try simp only [Zy]))
     refine t_pure (i := 8) (v := .int .u8 ((x : Nat) : Int)) rfl rfl Zk (fun _ _ _ h => h) (heldP HM HB9) Zv ?_ ?_; (focus (exact h_bin Zv Zv Zv (by intro w9; first | (go_simp; done) | (go_simp; rw [hadd])))); ((try simp only [Za]); (try simp only [Zx]); (try simp only [Zy]))
     refine k_ia 9 (heldP HM HB9) ?_
     refine j_one 10 fun K9 hK9 => ?_
     refine o_stM HM HB9 hle (by simp [hne, hnp]) (by rw [Dt.by_size, hl]) (k := kk) Zo rfl ?_
     clear HM
     intro w1 HM HB1
     refine hK9 _ _ heldN ?_
     clear hK9 K9 HB9 HB
     refine wpAnyL_done Zk ?_ _
     rw [Dt.by_set] at HB1
     have HM0 := HM
     replace HM := jMem.rebase HM0
     have s0 : SA 3 (Dt.rw v l0) 0 (.int .i64 ((v / 10 : Nat) : Int)) (Dt.rw ((v / 10 : Nat) : Int) l0) := SA.one Zk rfl (by simp [Dt.rw])
     go_wp2_with (first | ((with_reducible refine g_ld ?_); refine a_ld HM ?_) | ((with_reducible refine g_st ?_); refine a_st HM ?_; clear HM; intro w1 HM) | ((with_reducible refine g_al ?_); refine a_al HM ?_; clear HM; intro bk w1 HM) | ((with_reducible refine g_bld ?_); refine a_bld ?_))
     have HB2 := HB1.kept (jMem.besideK HM HB1.lt (by simp [hne, hnp]))
     have HM2 := jMem.onto HM0 HM
     go_roundw
     case rel => exact ⟨q, v / 10, l.set (kk) x, by first | go_num | (have := HKK.out; congr 1; omega), by omega, hpow, by omega, by simp [hl], HT7, Zi (Dt.set_lt HL.out hx2), Zi HB2, HM2⟩
     case measure => have := HKK.out; simp [intOf]; omega
  ·obtain rfl : i = 3 := by omega
   have cv := conv_mb HB.out hl HL.out
   go_wp2_with (first | ((with_reducible refine g_ld ?_); refine a_ld HM ?_) | ((with_reducible refine g_st ?_); refine a_st HM ?_; clear HM; intro w1 HM) | ((with_reducible refine g_al ?_); refine a_al HM ?_; clear HM; intro bk w1 HM) | ((with_reducible refine g_bld ?_); refine a_bld ?_))
   go_ret2
   have hlT : l = TT := by
    have h := HT2.out
    rw [List.drop_eq_nil_of_le (by rw [HDL.out]; exact Nat.le_refl _)] at h
    exact h
   rw [HTX.out, ← hlT]
   exact ⟨rfl, HM.low⟩
end
end Go.Proofs.YtiekmabiecalbaaGreatDoor
