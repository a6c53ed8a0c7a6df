/- Walks. -/
import Derived.Laws.IdiomCopy
import Derived.Test.YtiekmabiecalbaaGreatDoorPa36
namespace Go.Proofs.YtiekmabiecalbaaGreatDoor
set_option maxHeartbeats 16000000
open Go.RowKit
set_option maxRecDepth 8000
set_option linter.unusedSimpArgs false
set_option linter.unusedVariables false
section
open Jb
def Tq.zs (m : Nat) : List Value := (Builtin.zeroCells JQ.zero.c m).toList
theorem Tq.zs_len (m : Nat) : (Tq.zs m).length = m * 72 := by
 unfold Tq.zs Builtin.zeroCells
 rw [Array.length_toList, Array.size_map, Array.size_range, JQ.size]
theorem Tq.zs_one (m : Nat) : ∀ v ∈ Tq.zs m, v.oneCell' = true := by
 intro v hv
 unfold Tq.zs Builtin.zeroCells at hv
 rw [Array.mem_toList_iff, Array.mem_map] at hv
 obtain ⟨i, -, rfl⟩ := hv
 have hz := JQ.zero.size
 have hlt : i % JQ.zero.c.size < JQ.zero.c.size := Nat.mod_lt _ Zo
 rw [getElem!_pos JQ.zero.c _ hlt]
 exact (Array.all_eq_true'.1 JQ.zero.one) _ (Array.getElem_mem hlt)
theorem run_clear_q (w : World) (ty : TypeId) {b k m cap : Nat} {c : Array Value} (hb : Blk w b c) (hk : k + m * 72 ≤ c.size) (hm : 0 < m) :
    (Builtin.clear_ #[26] ty #[.slice (some ⟨b, k, none⟩) m cap]).run Tryz.prog w = .ok (.tuple #[]) (w.setCells b k (Tq.zs m)) := by
 have hst := Go.run_storeCells_cells (P := Tryz.prog) b k (Tq.zs m) 0 w
  (fun j hj => by
   rw [Tq.zs_len] at hj
   rw [Nat.add_zero, hb.cell (k + j), Array.getElem?_eq_getElem Zo]; rfl)
  (fun j hj => by rw [Nat.add_zero]; exact hb.free (k + j)) (Tq.zs_one m)
 simp only [Nat.add_zero] at hst
 obtain ⟨n, rfl⟩ : ∃ n, m = n + 1 := ⟨m - 1, by omega⟩
 have hz : ∀ w, (zeroValue 40).run Tryz.prog w = .ok (.agg JQ.zero.c) w := fun w => by rw [JQ.zeroF]
 have hs : storeCells ⟨b, k, none⟩ (Builtin.zeroCells (Value.agg JQ.zero.c).cells (n + 1)).toList = storeCells ⟨b, k, none⟩ (Tq.zs (n + 1)) := rfl
 simp [Builtin.clear_, run_underlying Tryz.underlying26, hz, Sem.run_bind, Result.andThen_ok, hs, hst]
theorem Tq.setAll_lt : ∀ (l : List Value) (c : Array Value) (k j : Nat), j < k → (setAll c k l)[j]? = c[j]?
 | [], _, _, _, _ => rfl
 | v :: l, c, k, j, h => by
  show (setAll (c.setIfInBounds k v) (k + 1) l)[j]? = _
  rw [Tq.setAll_lt l _ (k + 1) j Zo, Array.getElem?_setIfInBounds, if_neg Zo]
section
variable {ops : Array Oper} {rest : List Oper} {a a2 : Act} {w w0 : World} {X : List Nat} {L : List (Nat × Array Value)} {Q : Exit → Act → World → Prop} {d : Option Tmp} {ty : TypeId} {ps : String} {af : Array Edge} {x : Operand} {b k m cap : Nat} {c : Array Value} {t : TypeId}
theorem g_clr (h : OpG ops Q rest a w { dst := d, op := .call { callee := .builtin .clear, args := #[x], argTypes := #[t] }, type := ty, pos := ps, after := af, guard := none }) : wpList Tryz.prog ops Q ({ dst := d, op := .call { callee := .builtin .clear, args := #[x], argTypes := #[t] }, type := ty, pos := ps, after := af, guard := none } :: rest) a w := h
theorem a_clr (HM : Mem w0 X ((b, c) :: L) w) (hk : k + m * 72 ≤ c.size) (hm : 0 < m) (h : ∀ w', Mem w0 X ((b, setAll c k (Tq.zs m)) :: L) w' → wpList Tryz.prog ops Q rest a2 w')
    (hx : a.eval x = .slice (some ⟨b, k, none⟩) m cap := by (conv => lhs; whnf) <;> rfl) (ha : a.put d (.tuple #[]) = a2 := by ((try simp only [Act.put, Za, Zx, Zy]) <;> rfl)) :
    OpG ops Q rest a w { dst := d, op := .call { callee := .builtin .clear, args := #[x], argTypes := #[26] }, type := ty, pos := ps, after := af, guard := none } := by
 have hb : Blk w b c := HM.blk (b, c) List.mem_cons_self
 have hr := run_clear_q w ty (cap := cap) hb hk hm
 refine wpList_step fun K hK => ?_
 rw [if_pos (show Region.wanted _ _ = true by simp [Region.wanted])]
 unfold Oper.wp execOp
 simp [resolve, invoke, builtin, hx, hr, Result.andThen]
 refine hK _ _ (ha ▸ h _ ?_)
 exact HM.put .here (blk_setCells _ _ _ _ hb) (only_setCells _ _ _ _ hb)
end
end
section
open Jb
theorem qel : elemB 26 40 72 336 = true := by kernel_rfl
theorem run_from_q {b n cap i : Nat} (hi : i < n) (hc : n ≤ cap) (w : World) : (Instr.sliceAt 26 (.slice (some ⟨b, 0, none⟩) n cap) (some (.int .i64 (i : Nat))) none none).run Tryz.prog w = .ok (.slice (some ⟨b, i * 72, none⟩) (n - i) (cap - i)) w := by
 obtain ⟨i9, z, hE⟩ := elemT qel
 have hb := run_sliceBound (P := Tryz.prog) w IntKind.i64 (i : Int) n .sliceB Zo Zo
 have hne : ¬ cap = i := by omega
 simp [Instr.sliceAt, Instr.slice, run_underlying hE.ht, Instr.sliceBounds, sizeOf, typeInfo, hE.hi, hE.hn, hb, hne, Addr.add_lit']
theorem run_upto_q {b n cap i : Nat} (hi : i ≤ n) (hc : n ≤ cap) (h0 : 0 < n) (w : World) : (Instr.sliceAt 26 (.slice (some ⟨b, 0, none⟩) n cap) none (some (.int .i64 (i : Nat))) none).run Tryz.prog w = .ok (.slice (some ⟨b, 0, none⟩) i cap) w := by
 obtain ⟨i9, z, hE⟩ := elemT qel
 have hb := run_sliceBound (P := Tryz.prog) w IntKind.i64 (i : Int) cap .sliceAcap Zo Zo
 have hne : ¬ cap = 0 := by omega
 simp [Instr.sliceAt, Instr.slice, run_underlying hE.ht, Instr.sliceBounds, sizeOf, typeInfo, hE.hi, hb, hne, Addr.add_lit']
theorem sdel_any (q q0 : JQ) (C : List JQ) (bc : Nat) (A : Option Addr) (n cap : Nat) (w : World) (hb : Blk w bc #[.slice A n cap]) (hR : RdS 72 w (.slice A n cap) (C.map JQ.c)) (h0 : C[0]? = some q0) :
    Calls Tryz.prog 36 #[.agg q.c, .pointer (some ⟨bc, 0, none⟩)] w fun e w' => e = .returned (.bool (!(q.cur == q0.cur))) ∧ Below w.heap.size w w' := by
 have HM := Mem.start w
 have HBC := Zi hb
 obtain ⟨b0, off, cs, c2, e1, hb1, hc1⟩ := RdS.get hR (k := 0) (c := q0.c) (by rw [List.getElem?_map, h0]; rfl)
 have hn : n = C.length := by
  obtain ⟨A', cap', e⟩ := RdS.form1 hR
  injection e with e1 e2 e3
  rw [e2, List.length_map]
 injection e1 with e11 e12 e13
 subst e11
 have hpos : (0 : Int) < n := by
  have := (List.getElem?_eq_some_iff.1 h0).1
  omega
 have hpos1 : 0 < n := by omega
 have lsl : LA 26 #[Value.slice (some ⟨b0, off, none⟩) n cap] 0 (.slice (some ⟨b0, off, none⟩) n cap) := LA.one Zk rfl
 have l0 : LA 9 cs (off + 2) (.string q0.cur) := by simpa using LA.inRow (p := off + 0 * 72) q0.f_cur Zk hc1 Zd
 have l1 := (JQ.f_cur q).la
 have HB0 := Zi hb1
 have hst := Jb.str_l q.cur q0.cur
 generalize (q.cur == q0.cur) = v at *
 clear hb hR h0 hb1 hc1 e12 e13 hn
 go_enter Tryz.func36, Tryz.ntmps36
 go_upto_region 1 with (first | ((with_reducible refine g_ld ?_); refine a_ld HM ?_) | ((with_reducible refine g_bx ?_); refine a_bx HM ?_; clear HM; intro bk w1 HM))
 obtain ⟨b2, rfl⟩ := HM.nm0
 cases v
 all_goals
  refine start_M2 [] HM ((Sub.keep Sub.nil)) Zk (fun w0x H9 => ?_)
  replace HM := H9; clear H9
  refine k_fa 0 (heldE HM) ?_
  refine k_ld 1 [] (heldE HM) ?_
  refine k_ld 2 [] (heldE HM) ?_
  refine k_ia 3 (heldE HM) ?_
  refine k_fa 4 (heldE HM) ?_
  refine k_ld 5 [] (heldE HM) ?_
  refine k_bin 6 (heldE HM) ?_
  refine k_mv 7 (heldE HM) ?_
  refine wpAnyL_done Zk ?_ _
  (go_wp2_with fail; go_ret; exact ⟨rfl, HM.low⟩)
def Tq.ix (l : List JQ) (d : JQ → Bool) : Int := match l.findIdx? d with | some i => (i : Int) | none => -1
theorem Tq.ix_step {l : List JQ} {d : JQ → Bool} {i : Nat} {x : JQ} (hx : l[i]? = some x) (hp : ∀ y ∈ l.take i, d y = false) (h : d x = true) : Tq.ix l d = (i : Int) := by
 unfold Tq.ix
 have : l.findIdx? d = some i := by
  obtain ⟨hi, e⟩ := List.getElem?_eq_some_iff.1 hx
  rw [List.findIdx?_eq_some_iff_getElem]
  refine ⟨hi, by rw [e]; exact h, fun j hj => ?_⟩
  have := hp l[j] (by rw [List.mem_take_iff_getElem]; exact ⟨j, by omega, rfl⟩)
  simp [this]
 rw [this]
theorem Tq.ix_none {l : List JQ} {d : JQ → Bool} (hp : ∀ y ∈ l, d y = false) : Tq.ix l d = -1 := by
 unfold Tq.ix
 have : l.findIdx? d = none := List.findIdx?_eq_none_iff.2 hp
 rw [this]
theorem qidx_any (l : List JQ) (hl : l.length ≤ 1000) (d : JQ → Bool) (bc : Nat) (sv : Value) (w : World) (hR : RdS 72 w sv (l.map JQ.c)) (hT : ∀ (q : JQ) (w' : World), Below w.heap.size w w' → Calls Tryz.prog 36 #[.agg q.c, .pointer (some ⟨bc, 0, none⟩)] w' fun e w'' => e = .returned (.bool (d q)) ∧ Below w'.heap.size w' w'') :
    Calls Tryz.prog 69 #[sv, .func (.func 36) #[] #[.pointer (some ⟨bc, 0, none⟩)]] w fun e w' => e = .returned (.int .i64 (Tq.ix l d)) ∧ Below w.heap.size w w' := by
 have HM := Mem.start w
 obtain ⟨A, cap, ef⟩ := RdS.form1 hR
 rw [List.length_map] at ef
 subst ef
 have HR := Zi hR
 have HT := Zi hT
 obtain ⟨I, hI⟩ := Zh (Tq.ix l d)
 rw [← hI.out]
 clear hR hT
 go_enter Tryz.func69, Tryz.ntmps69
 go_wp2_with ((with_reducible refine g_ld ?_); refine a_ld HM ?_)
 go_loopw [5, 8] (fun _ iv wr => ∃ (i : Nat), iv = .int .i64 (i : Nat) ∧ i ≤ l.length ∧ Hid (∀ y ∈ l.take i, d y = false) ∧ Mem w [] [] wr) (fun _ iv _ => l.length - (intOf iv).toNat)
 case atStart => exact ⟨0, rfl, by omega, Zi Zs, HM⟩
 case round =>
  clear HM
  obtain ⟨i, rfl, hi, HP, HM⟩ := hrel
  by_cases hlt : i < l.length
  ·have hlt1 : (i : Int) < l.length := by omega
   obtain ⟨x, hx⟩ : ∃ x, l[i]? = some x := ⟨_, List.getElem?_eq_getElem hlt⟩
   obtain ⟨b, off, cs, c1, e1, hb1, hc1⟩ := RdS.get HR.out (k := i) (c := x.c) (by rw [List.getElem?_map, hx]; rfl)
   injection e1 with e11 e12 e13
   subst e11
   have l0 : LA 40 cs (off + i * 72) (.agg x.c) := la_in (n := 72) Zk Zk x.size hc1 Zd
   have HB := Zi hb1
   have HX := Zi hx
   have TX := fun w' hB => HT.out x w' hB
   clear hb1 hc1 hx e12 e13
   cases hd : d x with
   | true =>
    have hIi : I = (i : Int) := hI.out.trans (Tq.ix_step HX.out HP.out hd)
    subst hIi
    rw [hd] at TX
    clear hd
    go_wp2_with (first | (go_at_call 36; (with_reducible refine Zc HM (TX _ HM.low) ?_; clear HM; intro w2 HM)) | ((with_reducible refine g_ld ?_); refine a_ld HM ?_))
    go_ret
    exact ⟨rfl, HM.low⟩
   | false =>
    have HP2 : Hid (∀ y ∈ l.take (i + 1), d y = false) := Zi (by
     intro y hy
     rw [List.take_add_one, HX.out] at hy
     rcases List.mem_append.1 hy with hy | hy
     ·exact HP.out y hy
     ·simp only [Option.toList_some, List.mem_singleton] at hy
      rw [hy]; exact hd)
    rw [hd] at TX
    clear hd
    go_wp2_with (first | (go_at_call 36; (with_reducible refine Zc HM (TX _ HM.low) ?_; clear HM; intro w2 HM)) | ((with_reducible refine g_ld ?_); refine a_ld HM ?_))
    go_roundw
    case rel => exact ⟨i + 1, by go_num, by omega, HP2, HM⟩
    case measure => simp [intOf]; omega
  ·obtain rfl : i = l.length := by omega
   have hIi : I = -1 := hI.out.trans (Tq.ix_none (by have := HP.out; rwa [List.take_length] at this))
   subst hIi
   exact z9_86
theorem Tq.ix_some {l : List JQ} {d : JQ → Bool} {i : Nat} (h : l.findIdx? d = some i) : Tq.ix l d = (i : Int) := by unfold Tq.ix; rw [h]
end
section
open Jb
theorem Tq.set_take {m : List JQ} {p : Nat} {x : JQ} (hp : p < m.length) : (m.set p x).take (p + 1) = m.take p ++ [x] := by
 rw [List.take_add_one, List.getElem?_set_self hp, List.take_set_of_le (Nat.le_refl _)]; rfl
theorem Tq.filt_take {l : List JQ} {d : JQ → Bool} {j : Nat} {x : JQ} (hx : l[j]? = some x) : (l.take (j + 1)).filter (fun q => !d q) = (l.take j).filter (fun q => !d q) ++ (if d x then [] else [x]) := by
 rw [List.take_add_one, hx, List.filter_append]
 congr 1
 show List.filter _ [x] = _
 rw [List.filter_cons, List.filter_nil]
 cases d x <;> rfl
theorem qdel_any {W0 w : World} {X : List Nat} {R : List (Nat × Array Value)} {b : Nat} (n cap : Nat) (l : List JQ) (hn : n = l.length) (sp : List (Array Value)) (hcap : cap = l.length + sp.length) (hs : ∀ c ∈ l.map JQ.c ++ sp, c.size = 72) (hl : l.length ≤ 1000) (h0 : 0 < l.length) (d : JQ → Bool) (bc : Nat) (HM : Mem W0 X ((b, rowsOf (l.map JQ.c ++ sp)) :: R) w)
    (hT : ∀ (cs : Array Value) (q : JQ) (w' : World), Mem W0 X ((b, cs) :: R) w' → Calls Tryz.prog 36 #[.agg q.c, .pointer (some ⟨bc, 0, none⟩)] w' fun e w'' => e = .returned (.bool (d q)) ∧ Below w'.heap.size w' w'') :
    Calls Tryz.prog 34 #[.slice (some ⟨b, 0, none⟩) n cap, .func (.func 36) #[] #[.pointer (some ⟨bc, 0, none⟩)]] w fun e w' => ∃ (s : Value) (c' : Array Value), e = .returned s ∧ Hid (RdS 72 w' s ((l.filter fun q => !d q).map JQ.c)) ∧ Mem W0 X ((b, c') :: R) w' := by
 have HT := Zi hT
 have HZ := Zi hs
 obtain ⟨F, hF⟩ : ∃ F, F = l.filter (fun q => !d q) := ⟨_, rfl⟩
 have HRD : ∀ (m : List JQ) (w' : World), m.length = l.length → Mem W0 X ((b, rowsOf (m.map JQ.c ++ sp)) :: R) w' → RdS 72 w' (.slice (some ⟨b, 0, none⟩) l.length (l.length + sp.length)) (m.map JQ.c) := fun m w' hm H => by
  have h := (SlAt.row (n := 72) b (m.map JQ.c) sp (Tq.row_sz HZ.out)).rd H (fun p hp => by simp only [List.mem_singleton] at hp; subst hp; exact List.mem_cons_self)
  rw [List.length_map, hm] at h
  exact h
 rw [← hF]
 have CI : ∀ w', Mem W0 X ((b, rowsOf (l.map JQ.c ++ sp)) :: R) w' → Calls Tryz.prog 69 #[.slice (some ⟨b, 0, none⟩) n cap, .func (.func 36) #[] #[.pointer (some ⟨bc, 0, none⟩)]] w' fun e w'' => e = .returned (.int .i64 (Tq.ix l d)) ∧ Below w'.heap.size w' w'' := fun w' H => by
  rw [hn, hcap]
  exact qidx_any l hl d bc (.slice (some ⟨b, 0, none⟩) l.length (l.length + sp.length)) w' (HRD l w' rfl H) (fun q w'' hB => HT.out _ q w'' (H.call hB))
 have HRDH : Hid (∀ (w' : World), Mem W0 X ((b, rowsOf (l.map JQ.c ++ sp)) :: R) w' → RdS 72 w' (.slice (some ⟨b, 0, none⟩) n cap) (l.map JQ.c)) := Zi (fun w' H => by rw [hn, hcap]; exact HRD l w' rfl H)
 have hnc : n ≤ cap := by omega
 have hl9 : n ≤ 1000 := by omega
 have HN := Zi hn
 clear hT hs HRD hl h0 hcap
 cases hI : l.findIdx? d with
 | none =>
  have hix : Tq.ix l d = -1 := by unfold Tq.ix; rw [hI]
  have hFl : F = l := by
   rw [hF, List.filter_eq_self]
   intro q hq
   have := List.findIdx?_eq_none_iff.1 hI q hq
   simp [this]
  subst hFl
  rw [hix] at CI
  clear hI hF hix hn
  go_enter Tryz.func34, Tryz.ntmps34
  go_wp2_with (first | (go_at_call 69; refine (CI _ HM).mono ?_; rintro e9 w9 ⟨rfl, hL⟩; replace HM := HM.call hL; clear hL) | (first | ((with_reducible refine g_ld ?_); refine a_ld HM ?_) | ((with_reducible refine g_st ?_); refine a_st HM ?_; clear HM; intro w1 HM) | ((with_reducible refine g_al ?_); refine a_al HM ?_; clear HM; intro bk w1 HM)))
  go_ret
  exact ⟨_, _, rfl, Zi (HRDH.out _ HM), HM⟩
 | some i =>
  have hix := Tq.ix_some hI
  obtain ⟨hil, hdi, hpre⟩ := List.findIdx?_eq_some_iff_getElem.1 hI
  have hm1 : ((i : Int) == -1) = false := Zb Zo
  have HF0 : Hid (l.take i = (l.take (i + 1)).filter (fun q => !d q)) := Zi (by
   rw [Tq.filt_take (List.getElem?_eq_getElem hil), hdi, if_pos rfl, List.append_nil]
   refine (List.filter_eq_self.2 fun q hq => ?_).symm
   obtain ⟨j, hj, e⟩ := List.mem_take_iff_getElem.1 hq
   have := hpre j Zo
   rw [e] at this
   simpa using this)
  have hin : i < n := by omega
  have HFF := Zi hF
  rw [hix] at CI
  have CI2 := Zi CI
  have za0 := JQ.za
  clear hI hF hix hdi hpre hil CI hn
  go_enter Tryz.func34, Tryz.ntmps34
  go_wp2_with (first | (go_at_call 69; refine (CI2.out _ HM).mono ?_; rintro e9 w9 ⟨rfl, hL⟩; replace HM := HM.call hL; clear hL) | (first | ((with_reducible refine g_ld ?_); refine a_ld HM ?_) | ((with_reducible refine g_st ?_); refine a_st HM ?_; clear HM; intro w1 HM) | ((with_reducible refine g_al ?_); refine a_al HM ?_; clear HM; intro bk w1 HM)))
  clear CI2 hm1
  go_loopw [5, 6] (fun pv jv wr => ∃ (p j : Nat) (m : List JQ), pv = .int .i64 (p : Nat) ∧ jv = .int .i64 (j : Nat) ∧ p < j ∧ j ≤ n ∧ Hid (m.length = n) ∧ Hid (m.take p = (l.take j).filter (fun q => !d q)) ∧ Hid (m.drop j = l.drop j) ∧ Mem W0 X ((b, rowsOf (m.map JQ.c ++ sp)) :: R) wr) (fun _ jv _ => n - (intOf jv).toNat)
  case atStart => exact ⟨i, i + 1, l, rfl, by go_num, by omega, by omega, Zi HN.out.symm, HF0, Zi rfl, HM⟩
  case round =>
   clear HM HF0
   obtain ⟨p, j, m, rfl, rfl, hpj, hj, HML, HTK, HDR, HM⟩ := hrel
   by_cases hlt : j < n
   ·have hlt1 : (j : Int) < n := by omega
    have hml := HML.out
    have hnl := HN.out
    obtain ⟨x, hx⟩ : ∃ x, l[j]? = some x := ⟨_, List.getElem?_eq_getElem Zo⟩
    have hmx : m[j]? = some x := by
     have h := congrArg (fun z => z[0]?) HDR.out
     simp only [List.getElem?_drop, Nat.add_zero] at h
     rw [h, hx]
    obtain ⟨y, hy⟩ : ∃ y, m[p]? = some y := ⟨_, List.getElem?_eq_getElem Zo⟩
    have hsz := Tq.row_sz (m := m) HZ.out
    have lx := Tq.row_at hsz hmx
    have sp1 := Tq.row_set (y := x) hsz hy
    have sx := x.sa JQ.zero.size
    have lxx := x.la
    have HX := Zi hx
    have hpn : (p : Int) < n := by omega
    have HDR2 : m.drop (j + 1) = l.drop (j + 1) := by
     have h := congrArg List.tail HDR.out
     rwa [List.tail_drop, List.tail_drop] at h
    clear hx hmx hy hsz hml hnl
    cases hd : d x with
    | true =>
     have HTK2 : Hid (m.take p = (l.take (j + 1)).filter (fun q => !d q)) := Zi (by rw [Tq.filt_take HX.out, hd, if_pos rfl, List.append_nil]; exact HTK.out)
     have TX := fun cs w' H => HT.out cs x w' H
     rw [hd] at TX
     have HDR3 := Zi HDR2
     clear hd HTK HDR2 sp1
     go_wp2_with (first | (go_at_call 36; (with_reducible refine Zc HM (TX _ _ HM.tail) ?_; clear HM; intro w2 HM)) | (first | ((with_reducible refine g_ld ?_); refine a_ld HM ?_) | ((with_reducible refine g_st ?_); refine a_st HM ?_; clear HM; intro w1 HM) | ((with_reducible refine g_al ?_); refine a_al HM ?_; clear HM; intro bk w1 HM)))
     go_roundw
     case rel => exact ⟨p, j + 1, m, rfl, by go_num, by omega, by omega, HML, HTK2, HDR3, HM.tail⟩
     case measure => simp [intOf]; omega
    | false =>
     have HTK2 : Hid ((m.set p x).take (p + 1) = (l.take (j + 1)).filter (fun q => !d q)) := Zi (by rw [Tq.filt_take HX.out, hd, if_neg Bool.false_ne_true, Tq.set_take (by have := HML.out; omega), HTK.out])
     have HML2 : Hid ((m.set p x).length = n) := Zi (by rw [List.length_set]; exact HML.out)
     have HDR3 : Hid ((m.set p x).drop (j + 1) = l.drop (j + 1)) := Zi (by rw [List.drop_set_of_lt Zo]; exact HDR2)
     have TX := fun cs w' H => HT.out cs x w' H
     rw [hd] at TX
     clear hd HTK HDR2
     go_wp2_with (first | (go_at_call 36; (with_reducible refine Zc HM (TX _ _ HM.tail) ?_; clear HM; intro w2 HM)) | (first | ((with_reducible refine g_ld ?_); refine a_ld HM ?_) | ((with_reducible refine g_st ?_); refine a_st HM ?_; clear HM; intro w1 HM) | ((with_reducible refine g_al ?_); refine a_al HM ?_; clear HM; intro bk w1 HM)))
     go_roundw
     case rel => exact ⟨p + 1, j + 1, m.set p x, by go_num, by go_num, by omega, by omega, HML2, HTK2, HDR3, HM.tail⟩
     case measure => simp [intOf]; omega
   ·obtain rfl : j = n := by omega
    have hFp : m.take p = F := by rw [HTK.out, HFF.out, List.take_of_length_le (by have := HN.out; omega)]
    have hpn : p < j := hpj
    have hml := HML.out
    have hsize : (rowsOf (m.map JQ.c ++ sp)).size = 72 * (j + sp.length) := by
     rw [rows_size (Tq.row_sz HZ.out), List.length_append, List.length_map, hml]
    have hfit : p * 72 + (j - p) * 72 ≤ (rowsOf (m.map JQ.c ++ sp)).size := by rw [hsize]; omega
    have hgo : 0 < j - p := by omega
    have RF := fun w => run_from_q (b := b) (n := j) (cap := cap) (i := p) hpn hnc w
    have RU := fun w => run_upto_q (b := b) (n := j) (cap := cap) (i := p) Zo hnc Zo w
    have ecast : ((j - p : Nat) : Int) = (j : Int) - p := by omega
    have HFIN : ∀ (w' : World), Mem W0 X ((b, setAll (rowsOf (m.map JQ.c ++ sp)) (p * 72) (Tq.zs (j - p))) :: R) w' → RdS 72 w' (.slice (some ⟨b, 0, none⟩) p cap) (F.map JQ.c) := fun w' H => by
     have hFl : F.length = p := by rw [← hFp, List.length_take]; omega
     refine ⟨?_, some ⟨b, 0, none⟩, cap, by rw [List.length_map, hFl], by rw [List.length_map, hFl]; omega, .inr ⟨b, 0, _, rfl, (H.blk (b, _) List.mem_cons_self).rbk, fun k hk => ?_⟩⟩
     ·intro c hc
      obtain ⟨r, _, rfl⟩ := List.mem_map.1 hc
      exact r.size
     ·rw [List.length_map, hFl] at hk
      rw [Nat.zero_add, Tq.setAll_lt _ _ _ _ hk]
      have e1 : m.map JQ.c ++ sp = F.map JQ.c ++ ((m.drop p).map JQ.c ++ sp) := by
       rw [← List.append_assoc, ← List.map_append, ← hFp, List.take_append_drop]
      rw [e1, rows_append, Array.getElem?_append, if_pos]
      rw [rows_size (n := 72) (by intro c hc; obtain ⟨r, _, rfl⟩ := List.mem_map.1 hc; exact r.size), List.length_map, hFl]
      omega
    have HFINH := Zi HFIN
    have RFH := Zi RF
    have RUH := Zi RU
    clear HTK HDR HFF RF RU HFIN hFp hml hsize
    go_wp2_with (first | ((with_reducible refine g_sl ?_); refine a_sl ?_ (fun w9 => by simpa [Act.eval] using RFH.out w9)) | ((with_reducible refine g_sl ?_); refine a_sl ?_ (fun w9 => by simpa [Act.eval] using RUH.out w9)) | ((with_reducible refine g_clr ?_); refine a_clr (m := j - p) HM hfit hgo ?_; clear HM; intro w1 HM) | (first | ((with_reducible refine g_ld ?_); refine a_ld HM ?_) | ((with_reducible refine g_st ?_); refine a_st HM ?_; clear HM; intro w1 HM) | ((with_reducible refine g_al ?_); refine a_al HM ?_; clear HM; intro bk w1 HM)))
    go_ret
    exact ⟨_, _, rfl, Zi (HFINH.out _ HM), HM⟩
end
section
open Jb
namespace Tq
def fit (s i : ByteArray) (d st : Int) (q : JQ) : Bool := (q.src == s) && ((q.ins == i) && (decide (q.day ≤ d) && decide (d - st ≤ q.day)))
def cand (V : List JQ) (ss : List ByteArray) (i : ByteArray) (d st : Int) : List JQ := ss.filterMap fun s => nw (fit s i d st) none V
theorem nw_step {f : JQ → Bool} {a : Option JQ} {V : List JQ} {j : Nat} {q : JQ} (h : V[j]? = some q) : nw f a (V.drop j) = nw f (if f q && later a q then some q else a) (V.drop (j + 1)) := by
 obtain ⟨hj, e⟩ := List.getElem?_eq_some_iff.1 h
 rw [List.drop_eq_getElem_cons hj, e]; rfl
theorem nw_mem {f : JQ → Bool} {V : List JQ} {q : JQ} (h : nw f none V = some q) : q ∈ V := by
 obtain ⟨h1, -, -⟩ := nw_some f V none q h
 rcases h1 with h1 | h1
 ·cases h1
 ·exact h1.1
theorem cand_mem {V : List JQ} {ss : List ByteArray} {i : ByteArray} {d st : Int} {q : JQ} (h : q ∈ cand V ss i d st) : q ∈ V := by
 obtain ⟨s, -, e⟩ := List.mem_filterMap.1 h
 exact nw_mem e
theorem cand_len (V : List JQ) (ss : List ByteArray) (i : ByteArray) (d st : Int) : (cand V ss i d st).length ≤ ss.length := List.length_filterMap_le _ _
end Tq
theorem cands_any (L : List JQ) (hb : Tq.Book L) (k : Int) (p : WP) (ss : List ByteArray) (tol : Rat) (inst : ByteArray) (d : Int) (hd0 : 0 ≤ d) (hd1 : d ≤ 73048) (sv : Value) (w : World) (hR : RdS 72 w sv (L.map JQ.c)) (hP : Tq.Pol p ss tol w) :
    Calls Tryz.prog 33 #[sv, .agg p.c, .int .i64 k, .string inst, .int .i64 d] w fun e w' => ∃ s B, e = .returned (.tuple #[s, .int .i64 0]) ∧ Hid (SlAt 72 s ((Tq.cand (Tq.vis Dt.txt L k) ss inst d p.stale).map JQ.c) B) ∧ Mem w [] B w' := by
 have HM := Mem.start w
 have HR := Zi hR
 have HP0 := Zi hP
 have CV := fun w => qvis_any L hb k sv w
 have hVl : (Tq.vis Dt.txt L k).length ≤ 4096 := by
  unfold Tq.vis
  refine Nat.le_trans (List.length_filterMap_le _ _) (Nat.le_trans (List.length_filter_le _ _) ?_)
  rw [List.length_range, List.length_map]; exact hb.len
 generalize Tq.vis Dt.txt L k = V at *
 have hss := hP.n1
 have hst0 := hP.s0
 have hst1 := hP.s1
 have za0 := JQ.za
 have lsrc := (WP.f_src p).la
 have lst := (WP.f_stale p).la
 have lpp := p.la
 have hd2 : decide (d < 0) = false := Zf Zo
 have hd3 : decide ((73048 : Int) < d) = false := Zf Zo
 clear hR hb hP
 go_enter Tryz.func33, Tryz.ntmps33
 go_upto_region 2 with (first | (go_at_call 25; refine (CV _ (HR.out.below HM.low)).mono ?_; rintro e9 w2 ⟨⟨s9, rfl, HS9⟩, hL⟩; replace HM := HM.call hL; clear hL) | (first | ((with_reducible refine g_ld ?_); refine a_ld HM ?_) | ((with_reducible refine g_st ?_); refine a_st HM ?_; clear HM; intro w1 HM) | ((with_reducible refine g_al ?_); refine a_al HM ?_; clear HM; intro bk w1 HM) | ((with_reducible refine g_bx ?_); refine a_bx HM ?_; clear HM; intro bk w1 HM)))
 obtain ⟨b6, rfl⟩ := HM.nm0
 have HM0 := Zi HM
 have HB6 := Zi (HM.get .here)
 have HP := Zi (HP0.out.below HM.low)
 clear CV HR HP0 HM
 have HM := Mem.start w2
 obtain ⟨A9, c9, e9⟩ := RdS.form1 HS9.out
 rw [List.length_map] at e9
 subst e9
 obtain ⟨As, cs9, e8⟩ := RdS.form1 HP.out.rd
 rw [Tq.V_len] at e8
 have HSR := Zi HP.out.rd
 rw [e8] at HSR lsrc
 clear e8
 go_upto_region 8 with (first | (go_at_call 68; refine (polCheck_any p ss tol _ (HP.out.below HM.low)).mono ?_; rintro e9 w9 ⟨rfl, hL⟩; replace HM := HM.call hL; clear hL) | (first | ((with_reducible refine g_ld ?_); refine a_ld HM ?_) | ((with_reducible refine g_st ?_); refine a_st HM ?_; clear HM; intro w1 HM) | ((with_reducible refine g_al ?_); refine a_al HM ?_; clear HM; intro bk w1 HM) | ((with_reducible refine g_bx ?_); refine a_bx HM ?_; clear HM; intro bk w1 HM)))
 clear hd2 hd3 HP
 go_wp2_with (first | ((with_reducible refine g_ld ?_); refine a_ld HM ?_) | ((with_reducible refine g_st ?_); refine a_st HM ?_; clear HM; intro w1 HM) | ((with_reducible refine g_al ?_); refine a_al HM ?_; clear HM; intro bk w1 HM) | ((with_reducible refine g_bx ?_); refine a_bx HM ?_; clear HM; intro bk w1 HM))
 obtain ⟨N, hN⟩ : ∃ N, N = fun s => Tq.nw (Tq.fit s inst d p.stale) none V := ⟨_, rfl⟩
 have HCN : Hid (Tq.cand V ss inst d p.stale = ss.filterMap N) := Zi (by rw [hN]; rfl)
 have HN := Zi hN
 have el9 := qel
 clear hN
 go_loopw [14, 45] (fun ov iv wr => ∃ (i : Nat) (B : List (Nat × Array Value)), iv = .int .i64 (i : Nat) ∧ i ≤ ss.length ∧ Hid (SlAt 72 ov (((ss.take i).filterMap N).map JQ.c) B) ∧ Mem w2 [] B wr) (fun _ iv _ => ss.length - (intOf iv).toNat)
 case atStart => exact ⟨0, [], rfl, by omega, Zi .nil, HM⟩
 case round =>
  clear HM
  obtain ⟨i, B, rfl, hi, HS, HM⟩ := hrel
  by_cases hlt : i < ss.length
  ·have hlt1 : (i : Int) < ss.length := by omega
   obtain ⟨s, hs⟩ : ∃ s, ss[i]? = some s := ⟨_, List.getElem?_eq_getElem hlt⟩
   obtain ⟨b8, off8, cs8, e8, HB8, l8⟩ := HSR.out.at1 (i := i) (Tq.V_at hs) (T := 9) Zk
   subst e8
   obtain ⟨F, hF⟩ : ∃ F, F = Tq.fit s inst d p.stale := ⟨_, rfl⟩
   have hNs : N s = Tq.nw F none V := by rw [HN.out, hF]
   have HFF := Zi hF
   have HS2 := Zi hs
   have hBl : (((ss.take i).filterMap N).map JQ.c).length ≤ 8 := by
    exact z9_84
   have HBL := Zi hBl
   obtain ⟨G, hG⟩ : ∃ G, G = N s := ⟨_, rfl⟩
   have HG0 : Hid (Tq.nw F none (V.drop 0) = G) := Zi (by rw [hG, hNs]; rfl)
   have HGN := Zi hG
   clear hs hF hNs hBl hG
   go_upto_region 13 with (first | ((with_reducible refine g_ld ?_); refine a_ld HM ?_) | ((with_reducible refine g_st ?_); refine a_st HM ?_; clear HM; intro w1 HM) | ((with_reducible refine g_al ?_); refine a_al HM ?_; clear HM; intro bk w1 HM) | ((with_reducible refine g_bx ?_); refine a_bx HM ?_; clear HM; intro bk w1 HM))
   obtain ⟨bn, rfl⟩ := HM.nm0
   go_wp2_with (first | ((with_reducible refine g_ld ?_); refine a_ld HM ?_) | ((with_reducible refine g_st ?_); refine a_st HM ?_; clear HM; intro w1 HM) | ((with_reducible refine g_al ?_); refine a_al HM ?_; clear HM; intro bk w1 HM) | ((with_reducible refine g_bx ?_); refine a_bx HM ?_; clear HM; intro bk w1 HM))
   go_loopw [18, 51] (fun fv jv wr => ∃ (j : Nat) (a : Option JQ), fv = .bool a.isSome ∧ jv = .int .i64 (j : Nat) ∧ j ≤ V.length ∧ Hid (Tq.nw F a (V.drop j) = G) ∧ Mem w2 [] ((bn, (a.getD JQ.zero).c) :: B) wr) (fun _ jv _ => V.length - (intOf jv).toNat)
   case atStart => exact ⟨0, none, rfl, rfl, by omega, HG0, HM⟩
   case round =>
    clear HM HG0
    obtain ⟨j, a, rfl, rfl, hj, HG, HM⟩ := hrel
    by_cases hjt : j < V.length
    ·have hjt1 : (j : Int) < V.length := by omega
     obtain ⟨q, hq⟩ : ∃ q, V[j]? = some q := ⟨_, List.getElem?_eq_getElem hjt⟩
     obtain ⟨b, off, cs, c1, e1, hb1, hc1⟩ := RdS.get HS9.out (k := j) (c := q.c) (by rw [List.getElem?_map, hq]; rfl)
     injection e1 with e11 e12 e13
     subst e11
     have l0 : LA 40 cs (off + j * 72) (.agg q.c) := la_in (n := 72) Zk Zk q.size hc1 Zd
     have HB := Zi hb1
     have HGS := Zi (HG.out.symm.trans (Tq.nw_step hq))
     have sq := q.sa JQ.zero.size
     have lq := q.la
     have l1 := (JQ.f_src q).la
     have l2 := (JQ.f_ins q).la
     have l3 := (JQ.f_day q).la
     have h4 : decide (d - p.stale ≤ q.day) = decide (q.day ≥ d - p.stale) := rfl
     have hc : Hid (F q = ((q.src == s) && ((q.ins == inst) && (decide (q.day ≤ d) && decide (d - p.stale ≤ q.day))))) := Zi (by rw [HFF.out]; rfl)
     have HST1 := Zi (Jb.str_l q.src s)
     have HST2 := Zi (Jb.str_l q.ins inst)
     clear hb1 hc1 hq e12 e13 HG h4
     have hcases : ((q.src.toList == s.toList) = false ∧ F q = false) ∨ ((q.src.toList == s.toList) = true ∧ (q.ins.toList == inst.toList) = false ∧ F q = false) ∨ ((q.src.toList == s.toList) = true ∧ (q.ins.toList == inst.toList) = true ∧ decide (q.day ≤ d) = false ∧ F q = false) ∨ ((q.src.toList == s.toList) = true ∧ (q.ins.toList == inst.toList) = true ∧ decide (q.day ≤ d) = true ∧ decide (d - p.stale ≤ q.day) = false ∧ F q = false) ∨ ((q.src.toList == s.toList) = true ∧ (q.ins.toList == inst.toList) = true ∧ decide (q.day ≤ d) = true ∧ decide (d - p.stale ≤ q.day) = true ∧ F q = true) := by
      rw [hc.out, HST1.out, HST2.out]
      cases q.src == s <;> cases q.ins == inst <;> cases decide (q.day ≤ d) <;> cases decide (d - p.stale ≤ q.day) <;> simp
     clear HST1 HST2 hc
     rcases hcases with ⟨c1, hf⟩ | ⟨c1, c2, hf⟩ | ⟨c1, c2, c3, hf⟩ | ⟨c1, c2, c3, c4, hf⟩ | ⟨c1, c2, c3, c4, hf⟩
     iterate 4
      ·have HG2 : Hid (Tq.nw F a (V.drop (j + 1)) = G) := Zi (by have h := HGS.out; rw [hf, Bool.false_and, if_neg Bool.false_ne_true] at h; exact h.symm)
       clear hf HGS
       go_wp2_with (first | ((with_reducible refine g_ld ?_); refine a_ld HM ?_) | ((with_reducible refine g_st ?_); refine a_st HM ?_; clear HM; intro w1 HM) | ((with_reducible refine g_al ?_); refine a_al HM ?_; clear HM; intro bk w1 HM) | ((with_reducible refine g_bx ?_); refine a_bx HM ?_; clear HM; intro bk w1 HM))
       go_roundw
       case rel => exact ⟨j + 1, a, rfl, by go_num, by omega, HG2, HM.tail⟩
       case measure => simp [intOf]; omega
     cases a with
     | none =>
      have HG2 : Hid (Tq.nw F (some q) (V.drop (j + 1)) = G) := Zi (by have h := HGS.out; rw [hf] at h; exact h.symm)
      have sz : SA 40 ((none : Option JQ).getD JQ.zero).c 0 (.agg q.c) q.c := sq
      clear hf HGS
      go_wp2_with (first | ((with_reducible refine g_ld ?_); refine a_ld HM ?_) | ((with_reducible refine g_st ?_); refine a_st HM ?_; clear HM; intro w1 HM) | ((with_reducible refine g_al ?_); refine a_al HM ?_; clear HM; intro bk w1 HM) | ((with_reducible refine g_bx ?_); refine a_bx HM ?_; clear HM; intro bk w1 HM))
      go_roundw
      case rel => exact ⟨j + 1, some q, rfl, by go_num, by omega, HG2, HM.tail⟩
      case measure => simp [intOf]; omega
     | some o =>
      have ln : LA 3 ((some o).getD JQ.zero).c 3 (.int .i64 o.day) := (JQ.f_day o).la
      have sz : SA 40 ((some o).getD JQ.zero).c 0 (.agg q.c) q.c := q.sa o.size
      by_cases hlat : o.day < q.day
      ·have h9 : decide (o.day < q.day) = true := Zt hlat
       have HG2 : Hid (Tq.nw F (some q) (V.drop (j + 1)) = G) := Zi (by have h := HGS.out; rw [hf, Bool.true_and, show Tq.later (some o) q = true from h9] at h; exact h.symm)
       clear hf HGS hlat
       go_wp2_with (first | ((with_reducible refine g_ld ?_); refine a_ld HM ?_) | ((with_reducible refine g_st ?_); refine a_st HM ?_; clear HM; intro w1 HM) | ((with_reducible refine g_al ?_); refine a_al HM ?_; clear HM; intro bk w1 HM) | ((with_reducible refine g_bx ?_); refine a_bx HM ?_; clear HM; intro bk w1 HM))
       go_roundw
       case rel => exact ⟨j + 1, some q, rfl, by go_num, by omega, HG2, HM.tail⟩
       case measure => simp [intOf]; omega
      ·have h9 : decide (o.day < q.day) = false := Zf hlat
       have HG2 : Hid (Tq.nw F (some o) (V.drop (j + 1)) = G) := Zi (by have h := HGS.out; rw [hf, Bool.true_and, show Tq.later (some o) q = false from h9, if_neg Bool.false_ne_true] at h; exact h.symm)
       clear hf HGS hlat
       go_wp2_with (first | ((with_reducible refine g_ld ?_); refine a_ld HM ?_) | ((with_reducible refine g_st ?_); refine a_st HM ?_; clear HM; intro w1 HM) | ((with_reducible refine g_al ?_); refine a_al HM ?_; clear HM; intro bk w1 HM) | ((with_reducible refine g_bx ?_); refine a_bx HM ?_; clear HM; intro bk w1 HM))
       go_roundw
       case rel => exact ⟨j + 1, some o, rfl, by go_num, by omega, HG2, HM.tail⟩
       case measure => simp [intOf]; omega
    ·obtain rfl : j = V.length := by omega
     have hGa : a = G := by
      have h := HG.out
      rw [List.drop_length] at h
      exact h
     subst hGa
     have HNX : Hid ((ss.take (i + 1)).filterMap N = (ss.take i).filterMap N ++ a.toList) := Zi (by
      rw [List.take_add_one, HS2.out, List.filterMap_append, HGN.out]
      congr 1)
     cases a with
     | none =>
      go_wp2_with (first | ((with_reducible refine g_ld ?_); refine a_ld HM ?_) | ((with_reducible refine g_st ?_); refine a_st HM ?_; clear HM; intro w1 HM) | ((with_reducible refine g_al ?_); refine a_al HM ?_; clear HM; intro bk w1 HM) | ((with_reducible refine g_bx ?_); refine a_bx HM ?_; clear HM; intro bk w1 HM))
      go_roundw
      case rel => exact ⟨i + 1, B, by go_num, by omega, Zi (by rw [HNX.out, Option.toList_none, List.append_nil]; exact HS.out), HM.tail⟩
      case measure => simp [intOf]; omega
     | some o =>
      have lo : LA 40 ((some o).getD JQ.zero).c 0 (.agg o.c) := o.la
      have hone : ∀ c ∈ [o.c], c.all (·.oneCell') = true := fun c hc => by rw [List.mem_singleton.1 hc]; exact o.one
      have so := o.size
      go_wp2_with (first | ((with_reducible refine g_bs1 ?_); refine a_bs1 (c0 := o.c) HM ?_ (z0 := so); clear HM; intro b9 w9 HM) | ((with_reducible refine g_app ?_); refine a_app (m := [o.c]) (F := fun X => (bn, ((some o).getD JQ.zero).c) :: X) HM HS.out ((SlAt.made1 b9 so).rd HM Zs) ?_ hone (hlen := by have := HBL.out; simp only [List.length_singleton]; omega); clear HM; intro s9 B9 w9 HS9 HM) | (first | ((with_reducible refine g_ld ?_); refine a_ld HM ?_) | ((with_reducible refine g_st ?_); refine a_st HM ?_; clear HM; intro w1 HM) | ((with_reducible refine g_al ?_); refine a_al HM ?_; clear HM; intro bk w1 HM) | ((with_reducible refine g_bx ?_); refine a_bx HM ?_; clear HM; intro bk w1 HM)))
      go_roundw
      case rel => exact ⟨i + 1, B9, by go_num, by omega, Zi (by rw [HNX.out, List.map_append]; exact HS9), HM.tail⟩
      case measure => simp [intOf]; omega
  ·obtain rfl : i = ss.length := by omega
   go_wp2_with (first | ((with_reducible refine g_ld ?_); refine a_ld HM ?_) | ((with_reducible refine g_st ?_); refine a_st HM ?_; clear HM; intro w1 HM) | ((with_reducible refine g_al ?_); refine a_al HM ?_; clear HM; intro bk w1 HM) | ((with_reducible refine g_bx ?_); refine a_bx HM ?_; clear HM; intro bk w1 HM))
   go_ret2
   refine ⟨_, B, rfl, Zi ?_, (HM0.out.join HM).pick⟩
   have h := HS.out
   rw [List.take_length, ← HCN.out] at h
   exact h
end
end Go.Proofs.YtiekmabiecalbaaGreatDoor
