/- Walks. -/
import Derived.Test.YtiekmabiecalbaaGreatDoorPa32
import Derived.Test.YtiekmabiecalbaaGreatDoorPa35
namespace Go.Proofs.YtiekmabiecalbaaGreatDoor
set_option maxHeartbeats 16000000
open Go.RowKit
set_option maxRecDepth 8000
set_option linter.unusedSimpArgs false
set_option linter.unusedVariables false
section
theorem z9_84 {P : Prop} (h : P := by
 rw [List.length_map]
 refine Nat.le_trans (List.length_filterMap_le _ _) ?_
 rw [List.length_take]; omega) : P := h
end
section
open Jb
theorem below_seq {w w2 w3 : World} (h : Below w.heap.size w w2) (k : Below w2.heap.size w2 w3) : Below w.heap.size w w3 :=
 ⟨k.os.trans h.os, k.tape.trans h.tape, k.output.trans h.output, Nat.le_trans h.size k.size, fun b hb => (k.block b (Nat.lt_of_lt_of_le hb h.size)).trans (h.block b hb)⟩
def Tq.Pq (q : JQ) : Prop := ∃ x : Rat, q.prc = rr x ∧ Rt.Bd x 50 20 ∧ 0 < x
def Tq.px (r : Rr) : Rat := Rat.divInt (if r.s then -(r.M : Int) else r.M) r.N
theorem Tq.px_rr {x : Rat} (h : Rt.Fit x) : Tq.px (rr x) = x := by
 unfold Tq.px rr
 rw [dif_pos ⟨lt480_lim h.1, lt480_lim h.2⟩]
 have e : (if decide (x.num < 0) = true then -((x.num.natAbs : Nat) : Int) else ((x.num.natAbs : Nat) : Int)) = x.num := by
  by_cases hn : x.num < 0
  ·rw [if_pos (Zt hn)]; omega
  ·rw [if_neg (by simpa using hn)]; omega
 show Rat.divInt (if decide (x.num < 0) = true then -((x.num.natAbs : Nat) : Int) else ((x.num.natAbs : Nat) : Int)) (x.den : Int) = x
 rw [e]
 exact Rat.num_divInt_den x
theorem Tq.Pq.get {q : JQ} (h : Tq.Pq q) : q.prc.c = Rt.qA (Tq.px q.prc) ∧ Rt.Bd (Tq.px q.prc) 50 20 ∧ 0 < Tq.px q.prc := by
 obtain ⟨x, e, hb, h0⟩ := h
 have hf := hb.fit
 rw [e, Tq.px_rr hf]
 exact ⟨rr_c hf, hb, h0⟩
structure Tq.Book (L : List JQ) : Prop where
 wf : ∀ q ∈ L, q.wf
 ok : ∀ q ∈ L, q.right = true
 er : As.ok (L.map (Tq.mk Dt.txt)) = true
 pr : ∀ q ∈ L, q.vd = false → Tq.Pq q
theorem Tq.Book.len {L : List JQ} (h : Tq.Book L) : L.length ≤ 4096 := by
 have := As.ok_len h.er
 rwa [List.length_map] at this
theorem qkey_x (s i : ByteArray) (d : Int) (h1 : s.size ≤ 16) (h2 : i.size ≤ 12) (hd : Dt.isDay d = true) (w : World) :
    Calls Tryz.prog 91 #[.string s, .string i, .int .i64 d] w fun e w' => e = .returned (.string (s ++ { data := #[44] } ++ i ++ { data := #[44] } ++ Dt.txt d)) ∧ Below w.heap.size w w' := by
 have HM := Mem.start w
 have DF := fun w => dfmt_x d hd w
 have ht := Dt.txt_size d
 clear hd
 generalize Dt.txt d = t at *
 go_enter Tryz.func91, Tryz.ntmps91
 go_wp2_with (first | (go_at_call 40; (with_reducible refine Zc HM (DF _) ?_; clear HM; intro w2 HM)) | fail)
 go_ret
 exact ⟨rfl, HM.low⟩
theorem qmarks_any (L : List JQ) (hr : ∀ q ∈ L, q.right = true) (hl : L.length ≤ 4096) (sv : Value) (w : World) (hR : RdS 72 w sv (L.map JQ.c)) :
    Calls Tryz.prog 48 #[sv] w fun e w' => (∃ s, e = .returned s ∧ Hid (As.Rd w' s (L.map (Tq.mk Dt.txt)))) ∧ Below w.heap.size w w' := by
 have HM := Mem.start w
 obtain ⟨A, cap, ef⟩ := RdS.form1 hR
 rw [List.length_map] at ef
 subst ef
 have HR := Zi hR
 have HRI := Zi hr
 have za0 := JQ.za
 have elm := mk_el
 clear hR hr
 go_enter Tryz.func48, Tryz.ntmps48
 go_wp2_with (first | ((with_reducible refine g_ld ?_); refine a_ld HM ?_) | ((with_reducible refine g_st ?_); refine a_st HM ?_; clear HM; intro w1 HM) | ((with_reducible refine g_al ?_); refine a_al HM ?_; clear HM; intro bk w1 HM) | ((with_reducible refine g_bld ?_); refine a_bld ?_))
 go_loopw [3, 8] (fun ov iv wr => ∃ (i : Nat) (B : List (Nat × Array Value)), iv = .int .i64 (i : Nat) ∧ i ≤ L.length ∧ Hid (SlAt 3 ov (((L.take i).map (Tq.mk Dt.txt)).map As.c) B) ∧ Mem w [] B wr) (fun _ iv _ => L.length - (intOf iv).toNat)
 case atStart => exact ⟨0, [], rfl, by omega, Zi .nil, HM⟩
 case round =>
  clear HM
  obtain ⟨i, B, rfl, hi, HS, HM⟩ := hrel
  by_cases hlt : i < L.length
  ·have hlt1 : (i : Int) < L.length := by omega
   obtain ⟨x, hx⟩ : ∃ x, L[i]? = some x := ⟨_, List.getElem?_eq_getElem hlt⟩
   obtain ⟨b, off, cs, c1, e1, hb1, hc1⟩ := RdS.get HR.out (k := i) (c := x.c) (by rw [List.getElem?_map, hx]; rfl)
   injection e1 with e11 e12 e13
   subst e11
   have l0 : LA 40 cs (off + i * 72) (.agg x.c) := la_in (n := 72) Zk Zk x.size hc1 Zd
   have HB := Zi hb1
   have hv := HRI.out x (List.mem_of_getElem? hx)
   obtain ⟨q1, q2, q3, q4, q5, q6⟩ := JQ.facts hv
   have KY := fun w => qkey_x x.src x.ins x.day q2 q3 q4 w
   have sx := x.sa JQ.zero.size
   have l1 := (JQ.f_src x).la
   have l2 := (JQ.f_ins x).la
   have l3 := (JQ.f_day x).la
   have l5 := (JQ.f_kn x).la
   have l6 := (JQ.f_vd x).la
   have HX := Zi hx
   obtain ⟨k, hk⟩ : ∃ k, k = x.src ++ ({ data := #[44] } : ByteArray) ++ x.ins ++ { data := #[44] } ++ Dt.txt x.day := ⟨_, rfl⟩
   rw [← hk] at KY
   have HK := Zi (show Tq.mk Dt.txt x = ⟨k, x.kn, x.vd⟩ by rw [hk]; rfl)
   clear hb1 hc1 hv q1 q2 q3 q4 q5 q6 hx hk e12 e13
   go_upto_region 5 with (first | ((with_reducible refine g_ld ?_); refine a_ld HM ?_) | ((with_reducible refine g_st ?_); refine a_st HM ?_; clear HM; intro w1 HM) | ((with_reducible refine g_al ?_); refine a_al HM ?_; clear HM; intro bk w1 HM) | ((with_reducible refine g_bld ?_); refine a_bld ?_))
   obtain ⟨bq, rfl⟩ := HM.nm0
   refine start_M2 [] HM ((Sub.keep Sub.nil)) Zk (fun w0x H9 => ?_)
   replace HM := H9; clear H9
   refine k_mv 0 (heldF HM) ?_
   refine k_fa 1 (heldF HM) ?_
   refine k_ld 2 [] (heldF HM) ?_
   refine k_fa 3 (heldF HM) ?_
   refine k_ld 4 [] (heldF HM) ?_
   refine k_fa 5 (heldF HM) ?_
   refine k_ld 6 [] (heldF HM) ?_
   refine k_fa 8 (heldF HM) ?_
   refine k_ld 9 [] (heldF HM) ?_
   refine k_fa 10 (heldF HM) ?_
   refine k_ld 11 [] (heldF HM) ?_
   refine j_one 7 fun K9 hK9 => ?_
   refine j_call3 (v := ?_) HM ?_ ?_; rotate_left 1; (focus (with_reducible (exact KY _))); clear HM; intro w1 HM
   refine hK9 _ _ (heldF HM) ?_; clear hK9 K9
   refine t_pure (i := 12) (v := .agg (As.c ⟨k, x.kn, x.vd⟩)) rfl rfl Zk (fun _ _ _ h => h) (heldF HM) Zv ?_ ?_; (focus (exact h_bg3 rfl Zw Zw Zw (fun w => mk_build ⟨k, x.kn, x.vd⟩ w))); ((try simp only [Za]); (try simp only [Zx]); (try simp only [Zy]))
   refine j_one 13 fun K9 hK9 => ?_
   refine j_bs1 (c0 := As.c ⟨k, x.kn, x.vd⟩) HM ?_; clear HM; intro b9 w9 HM
   refine hK9 _ _ (heldF HM) ?_; clear hK9 K9; ((try simp only [Za]); (try simp only [Zx]); (try simp only [Zy]))
   refine j_one 14 fun K9 hK9 => ?_
   refine j_app (m := [As.c ⟨k, x.kn, x.vd⟩]) (F := fun X => (bq, x.c) :: X) HM HS.out ((SlAt.made1 b9 rfl).rd HM Zs) ?_ (mk_one _) (hlen := by rw [List.length_map, List.length_map, List.length_take]; simp; omega); clear HM; intro s9 B9 w9 HS9 HM
   refine hK9 _ _ (heldF HM) ?_; clear hK9 K9; ((try simp only [Za]); (try simp only [Zx]); (try simp only [Zy]))
   refine k_mv 15 (heldF HM) ?_
   refine wpAnyL_done Zk ?_ _
   go_wp2_with fail
   go_roundw
   case rel => exact ⟨i + 1, B9, by go_num, by omega, Zi (by rw [List.take_add_one, HX.out, List.map_append, List.map_append]; show SlAt 3 _ (_ ++ [As.c (Tq.mk Dt.txt x)]) _; rw [HK.out]; exact HS9), HM.tail⟩
   case measure => simp [intOf]; omega
  ·obtain rfl : i = L.length := by omega
   go_wp2_with (first | ((with_reducible refine g_ld ?_); refine a_ld HM ?_) | ((with_reducible refine g_st ?_); refine a_st HM ?_; clear HM; intro w1 HM) | ((with_reducible refine g_al ?_); refine a_al HM ?_; clear HM; intro bk w1 HM) | ((with_reducible refine g_bld ?_); refine a_bld ?_))
   go_ret
   refine ⟨⟨_, rfl, Zi ⟨?_, ?_⟩⟩, HM.low⟩
   ·have h := HS.out.rd HM (fun p hp => hp)
    rwa [List.take_length] at h
   ·rw [List.length_map]; omega
theorem qbook_any (L : List JQ) (hb : Tq.Book L) (sv : Value) (w : World) (hR : RdS 72 w sv (L.map JQ.c)) :
    Calls Tryz.prog 46 #[sv] w fun e w' => e = .returned (.int .i64 0) ∧ Below w.heap.size w w' := by
 have HM := Mem.start w
 obtain ⟨A, cap, ef⟩ := RdS.form1 hR
 rw [List.length_map] at ef
 subst ef
 have HR := Zi hR
 have hl := hb.len
 have HO := Zi hb.ok
 have HW := Zi hb.wf
 have HE : Hid (0 = As.err (L.map (Tq.mk Dt.txt))) := Zi (As.err_ok hb.er).symm
 have MK := fun w => qmarks_any L hb.ok hl (.slice A L.length cap) w
 have za0 := JQ.za
 clear hR hb
 go_enter Tryz.func46, Tryz.ntmps46
 go_wp2_with (first | ((with_reducible refine g_ld ?_); refine a_ld HM ?_) | ((with_reducible refine g_st ?_); refine a_st HM ?_; clear HM; intro w1 HM) | ((with_reducible refine g_al ?_); refine a_al HM ?_; clear HM; intro bk w1 HM))
 go_loopw [7] (fun iv wr => ∃ (i : Nat), iv = .int .i64 (i : Nat) ∧ i ≤ L.length ∧ Mem w [] [] wr) (fun iv _ => L.length - (intOf iv).toNat)
 case atStart => exact ⟨0, rfl, by omega, HM⟩
 case round =>
  clear HM
  obtain ⟨i, rfl, hi, HM⟩ := hrel
  by_cases hlt : i < L.length
  ·have hlt1 : (i : Int) < L.length := by omega
   obtain ⟨x, hx⟩ : ∃ x, L[i]? = some x := ⟨_, List.getElem?_eq_getElem hlt⟩
   obtain ⟨b, off, cs, c1, e1, hb1, hc1⟩ := RdS.get HR.out (k := i) (c := x.c) (by rw [List.getElem?_map, hx]; rfl)
   injection e1 with e11 e12 e13
   subst e11
   have l0 : LA 40 cs (off + i * 72) (.agg x.c) := la_in (n := 72) Zk Zk x.size hc1 Zd
   have HB := Zi hb1
   have hv := HO.out x (List.mem_of_getElem? hx)
   have C1 := fun w => qline_any x (HW.out x (List.mem_of_getElem? hx)) w
   have C2 := fun w => belt (qkn_any x.kn (known x.kn) (Zi rfl) w)
   rw [JQ.right_w, Bool.and_eq_true] at hv
   rw [hv.1] at C1
   rw [hv.2] at C2
   have sx := x.sa JQ.zero.size
   have lx := x.la
   have lkn := (JQ.f_kn x).la
   clear hb1 hc1 hv hx e12 e13
   go_wp2_with (first | (go_at_call 31; (with_reducible refine Zc HM (C1 _) ?_; clear HM; intro w2 HM)) | (go_at_call 32; (with_reducible refine Zc HM (C2 _) ?_; clear HM; intro w2 HM)) | (first | ((with_reducible refine g_ld ?_); refine a_ld HM ?_) | ((with_reducible refine g_st ?_); refine a_st HM ?_; clear HM; intro w1 HM) | ((with_reducible refine g_al ?_); refine a_al HM ?_; clear HM; intro bk w1 HM)))
   go_roundw
   case rel => exact ⟨i + 1, by go_num, by omega, HM.pick⟩
   case measure => simp [intOf]; omega
  ·obtain rfl : i = L.length := by omega
   go_wp2_with (first | (go_at_call 48; refine (MK _ (HR.out.below HM.low)).mono ?_; rintro e9 w2 ⟨⟨s9, rfl, HS9⟩, hL⟩; replace HM := HM.call hL; clear hL) | (go_at_call 88; refine (check_any s9 _ _ HS9.out 0 HE).mono ?_; rintro e9 w2 ⟨rfl, hL⟩; replace HM := HM.call hL; clear hL) | (first | ((with_reducible refine g_ld ?_); refine a_ld HM ?_) | ((with_reducible refine g_st ?_); refine a_st HM ?_; clear HM; intro w1 HM) | ((with_reducible refine g_al ?_); refine a_al HM ?_; clear HM; intro bk w1 HM)))
   go_ret
   exact ⟨rfl, HM.low⟩
theorem qvis_any (L : List JQ) (hb : Tq.Book L) (k : Int) (sv : Value) (w : World) (hR : RdS 72 w sv (L.map JQ.c)) :
    Calls Tryz.prog 25 #[sv, .int .i64 k] w fun e w' => (∃ s, e = .returned (.tuple #[s, .int .i64 0]) ∧ Hid (RdS 72 w' s ((Tq.vis Dt.txt L k).map JQ.c))) ∧ Below w.heap.size w w' := by
 have HM := Mem.start w
 obtain ⟨A, cap, ef⟩ := RdS.form1 hR
 rw [List.length_map] at ef
 subst ef
 have HR := Zi hR
 have hl := hb.len
 have CB := fun w => qbook_any L hb (.slice A L.length cap) w
 have MK := fun w => qmarks_any L hb.ok hl (.slice A L.length cap) w
 obtain ⟨Z, hZ⟩ : ∃ Z, Z = As.vis (L.map (Tq.mk Dt.txt)) k := ⟨_, rfl⟩
 have hv : Tq.vis Dt.txt L k = Z.filterMap (L[·]?) := by rw [hZ]; rfl
 have HZL : Hid (∀ i ∈ Z, i < L.length) := Zi (by rw [hZ]; exact Tq.vis_lt)
 have hZl : Z.length ≤ 4096 := by
  rw [hZ]
  refine Nat.le_trans (List.length_filter_le _ _) ?_
  rw [List.length_range, List.length_map]; exact hl
 have HVR : Hid ((Z.map (fun i : Nat => (i : Int)), (0 : Int)) = As.visR (L.map (Tq.mk Dt.txt)) k) := Zi (by unfold As.visR; rw [if_pos hb.er, hZ])
 rw [hv]
 have el9 : elemB 26 40 72 336 = true := by kernel_rfl
 clear hR hb hZ hv
 go_enter Tryz.func25, Tryz.ntmps25
 go_upto_region 5 with (first | (go_at_call 46; refine (CB _ (HR.out.below HM.low)).mono ?_; rintro e9 w2 ⟨rfl, hL⟩; replace HM := HM.call hL; clear hL) | (go_at_call 48; refine (MK _ (HR.out.below HM.low)).mono ?_; rintro e9 w2 ⟨⟨s9, rfl, HS9⟩, hL⟩; replace HM := HM.call hL; clear hL) | (go_at_call 47; refine (visible_any s9 _ k _ HS9.out _ 0 HVR).mono ?_; rintro e9 w2 ⟨s8, B8, rfl, HS8, HM8⟩) | ((with_reducible refine g_ld ?_); refine a_ld HM ?_))
 have HI := Zi (HS8.out.rd HM8 (fun p hp => hp))
 have HL := Zi (HM.call HM8.low).low
 have HR2 := Zi (HR.out.below HL.out)
 clear HM HM8 HS8 HS9 HR CB MK HVR
 have HM := Mem.start w2
 obtain ⟨A8, c8, e8⟩ := RdS.form1 HI.out
 rw [V1_len, List.length_map, List.length_map] at e8
 subst e8
 go_wp2_with ((with_reducible refine g_ld ?_); refine a_ld HM ?_)
 go_loopw [9, 26] (fun ov iv wr => ∃ (i : Nat) (B : List (Nat × Array Value)), iv = .int .i64 (i : Nat) ∧ i ≤ Z.length ∧ Hid (SlAt 72 ov (((Z.take i).filterMap (L[·]?)).map JQ.c) B) ∧ Mem w2 [] B wr) (fun _ iv _ => Z.length - (intOf iv).toNat)
 case atStart => exact ⟨0, [], rfl, by omega, Zi .nil, HM⟩
 case round =>
  clear HM
  obtain ⟨i, B, rfl, hi, HS, HM⟩ := hrel
  by_cases hlt : i < Z.length
  ·have hlt1 : (i : Int) < Z.length := by omega
   obtain ⟨z, hz⟩ : ∃ z, Z[i]? = some z := ⟨_, List.getElem?_eq_getElem hlt⟩
   have hzl := HZL.out z (List.mem_of_getElem? hz)
   have hzl1 : (z : Int) < L.length := by omega
   obtain ⟨x, hx⟩ : ∃ x, L[z]? = some x := ⟨_, List.getElem?_eq_getElem hzl⟩
   obtain ⟨b8, off8, cs8, e8, HB8, l8⟩ := HI.out.at1 (i := i) (v := .int .i64 (z : Nat)) (by rw [List.getElem?_map, List.getElem?_map, hz]; rfl) (T := 3) Zk
   subst e8
   obtain ⟨b, off, cs, c1, e1, hb1, hc1⟩ := RdS.get HR2.out (k := z) (c := x.c) (by rw [List.getElem?_map, hx]; rfl)
   injection e1 with e11 e12 e13
   subst e11
   have l0 : LA 40 cs (off + z * 72) (.agg x.c) := la_in (n := 72) Zk Zk x.size hc1 Zd
   have HB := Zi hb1
   have HX := Zi hx
   have HZ := Zi hz
   have sx := x.size
   have hone : ∀ c ∈ [x.c], c.all (·.oneCell') = true := fun c hc => by rw [List.mem_singleton.1 hc]; exact x.one
   have hlen : (((Z.take i).filterMap (L[·]?)).map JQ.c).length ≤ 4096 := by
    exact z9_84
   have HLEN := Zi hlen
   clear hb1 hc1 hx hz hzl e12 e13 hlen
   go_wp2_with (first | ((with_reducible refine g_bs1 ?_); refine a_bs1 (c0 := x.c) HM ?_ (z0 := sx); clear HM; intro b9 w9 HM) | ((with_reducible refine g_app ?_); refine a_app (m := [x.c]) (F := fun X => X) HM HS.out ((SlAt.made1 b9 sx).rd HM Zs) ?_ hone (hlen := by have := HLEN.out; simp only [List.length_singleton]; omega); clear HM; intro s9 B9 w9 HS9 HM) | ((with_reducible refine g_ld ?_); refine a_ld HM ?_))
   go_roundw
   case rel => exact ⟨i + 1, B9, by go_num, by omega, Zi (by rw [List.take_add_one, HZ.out, List.filterMap_append, List.map_append]; simpa [HX.out] using HS9), HM⟩
   case measure => simp [intOf]; omega
  ·obtain rfl : i = Z.length := by omega
   go_wp2_with ((with_reducible refine g_ld ?_); refine a_ld HM ?_)
   go_ret2
   refine ⟨⟨_, rfl, Zi ?_⟩, below_seq HL.out HM.low⟩
   have h := HS.out.rd HM (fun p hp => hp)
   rwa [List.take_length] at h
def Tq.hit (s i : ByteArray) (d : Int) (q : JQ) : Bool := (q.src == s) && ((q.ins == i) && (q.day == d))
theorem h_bgz {o : Oper} {a : Act} {T : TypeId} {r : Array Value} (ho : o.op = .build T #[]) (hb : ∀ w, (Instr.build T #[]).run Tryz.prog w = .ok (.agg r) w) : ∀ w, (execOp a.eval o).run Tryz.prog w = .ok (.value (.agg r)) w := fun w => by
 have hb := hb w
 unfold execOp
 simp [ho, hb, Result.andThen]
end
section
theorem z9_85 {P : Prop} (h : P := by
 go_roundw
 case rel => exact ⟨i + 1, by go_num, by omega, HM⟩
 case measure => simp [intOf]; omega) : P := h
theorem z9_86 {P : Prop} (h : P := by
 go_wp2_with ((with_reducible refine g_ld ?_); refine a_ld HM ?_)
 go_ret
 exact ⟨rfl, HM.low⟩) : P := h
end
section
open Jb
def Tq.V (L : List ByteArray) : List Value := L.map Value.string
theorem Tq.V_at {L : List ByteArray} {i : Nat} {s : ByteArray} (h : L[i]? = some s) : (Tq.V L)[i]? = some (.string s) := by
 unfold Tq.V; rw [List.getElem?_map, h]; rfl
theorem Tq.V_len (L : List ByteArray) : (V1 (Tq.V L)).length = L.length := by rw [V1_len]; exact List.length_map _
theorem sidx_any (L : List ByteArray) (s : ByteArray) (hn : s ∉ L) (hl : L.length ≤ 100) (sv : Value) (w : World) (hR : RdS 1 w sv (V1 (Tq.V L))) :
    Calls Tryz.prog 153 #[sv, .string s] w fun e w' => e = .returned (.int .i64 (-1)) ∧ Below w.heap.size w w' := by
 have HM := Mem.start w
 obtain ⟨A, cap, ef⟩ := RdS.form1 hR
 rw [Tq.V_len] at ef
 subst ef
 have HR := Zi hR
 have HN := Zi hn
 clear hR hn
 go_enter Tryz.func153, Tryz.ntmps153
 go_wp2_with ((with_reducible refine g_ld ?_); refine a_ld HM ?_)
 go_loopw [8] (fun iv wr => ∃ (i : Nat), iv = .int .i64 (i : Nat) ∧ i ≤ L.length ∧ Mem w [] [] wr) (fun iv _ => L.length - (intOf iv).toNat)
 case atStart => exact ⟨0, rfl, by omega, HM⟩
 case round =>
  clear HM
  obtain ⟨i, rfl, hi, HM⟩ := hrel
  by_cases hlt : i < L.length
  ·have hlt1 : (i : Int) < L.length := by omega
   obtain ⟨x, hx⟩ : ∃ x, L[i]? = some x := ⟨_, List.getElem?_eq_getElem hlt⟩
   obtain ⟨b, off, cs, e8, HB, l8⟩ := HR.out.at1 (i := i) (Tq.V_at hx) (T := 9) Zk
   subst e8
   have hne : (s.toList == x.toList) = false := by
    rw [Jb.str_l]
    cases h : s == x with
    | false => rfl
    | true => exact absurd (List.mem_of_getElem? hx) (by rw [← (jb_str s x).1 h]; exact HN.out)
   clear hx
   go_wp2_with ((with_reducible refine g_ld ?_); refine a_ld HM ?_)
   exact z9_85
  ·obtain rfl : i = L.length := by omega
   exact z9_86
theorem scon_any (L : List ByteArray) (s : ByteArray) (hn : s ∉ L) (hl : L.length ≤ 100) (sv : Value) (w : World) (hR : RdS 1 w sv (V1 (Tq.V L))) :
    Calls Tryz.prog 111 #[sv, .string s] w fun e w' => e = .returned (.bool false) ∧ Below w.heap.size w w' := by
 have HM := Mem.start w
 have C := fun w' hB => sidx_any L s hn hl sv w' (hR.below hB)
 clear hR
 go_enter Tryz.func111, Tryz.ntmps111
 go_wp2_with (first | (go_at_call 153; (with_reducible refine Zc HM (C _ HM.low) ?_; clear HM; intro w2 HM)) | fail)
 go_ret
 exact ⟨rfl, HM.low⟩
structure Tq.Pol (p : WP) (ss : List ByteArray) (tol : Rat) (w : World) : Prop where
 rd : RdS 1 w p.src.v (V1 (Tq.V ss))
 nd : ss.Nodup
 nm : ∀ s ∈ ss, Nm.usableB s = true
 n0 : 1 ≤ ss.length
 n1 : ss.length ≤ 8
 tl : p.tol = rr tol
 bd : Rt.Bd tol 28 28
 pc : Ac.Pct (some tol)
 le : tol ≤ ((1 : Int) : Rat)
 s0 : 0 ≤ p.stale
 s1 : p.stale ≤ 30
theorem Tq.Pol.below {p : WP} {ss : List ByteArray} {tol : Rat} {w w' : World} (h : Tq.Pol p ss tol w) (hb : Below w.heap.size w w') : Tq.Pol p ss tol w' := { h with rd := h.rd.below hb }
theorem polCheck_any (p : WP) (ss : List ByteArray) (tol : Rat) (w : World) (hP : Tq.Pol p ss tol w) :
    Calls Tryz.prog 68 #[.agg p.c] w fun e w' => e = .returned (.int .i64 0) ∧ Below w.heap.size w w' := by
 have HM := Mem.start w
 obtain ⟨A, cap, ef⟩ := RdS.form1 hP.rd
 rw [Tq.V_len] at ef
 have HR := Zi hP.rd
 rw [ef] at HR
 have lsrc := (WP.f_src p).la
 rw [ef] at lsrc
 have ltol := (WP.f_tol p).la
 rw [hP.tl, rr_c hP.bd.fit] at ltol
 have lst := (WP.f_stale p).la
 have hst0 := hP.s0
 have hst1 := hP.s1
 have hn0 := hP.n0
 have hn1 := hP.n1
 have HND := Zi hP.nd
 have HNM := Zi hP.nm
 have el1 := el_str
 have sx := p.sa (z := WP.zero.c) (WP.size _)
 have CP := fun w => pct_any (some tol) (Rt.qA tol) ⟨hP.bd.fit, rfl⟩ w
 have HY := Zi hP.pc
 obtain ⟨one, hone⟩ := Zh ((((1 : Int)) : Rat))
 have fone : Rt.Fit one := by rw [hone.out]; exact Jb.fit_int Zd Zd
 have CW := fun w => whole_q 1 one Zd Zd hone w
 obtain ⟨g, hg⟩ := Zh (Rt.cmp tol one)
 have CC := fun w => cmp_q tol one g hP.bd.fit fone hg w
 have hg0 : decide (0 < g) = false := by
  have hle := hP.le
  rw [← hone.out] at hle
  have : ¬ 0 < g := by
   rw [hg.out]
   rcases Rt.cmp_cases tol one with ⟨h, h2⟩ | ⟨h, h2⟩ | ⟨h, h2⟩
   all_goals first | omega | (exfalso; grind)
  exact Zf this
 have hnz : ((ss.length : Int) == 0) = false := Zb Zo
 have hn8 : decide ((8 : Int) < ss.length) = false := Zf Zo
 have hs0 : decide (p.stale < 0) = false := Zf Zo
 have hs1 : decide ((30 : Int) < p.stale) = false := Zf Zo
 clear hP ef
 go_enter Tryz.func68, Tryz.ntmps68
 go_upto_region 1 with (first | ((with_reducible refine g_ld ?_); refine a_ld HM ?_) | ((with_reducible refine g_bx ?_); refine a_bx HM ?_; clear HM; intro bk w1 HM))
 obtain ⟨bp, rfl⟩ := HM.nm0
 go_wp2_with (first | ((with_reducible refine g_ld ?_); refine a_ld HM ?_) | ((with_reducible refine g_bx ?_); refine a_bx HM ?_; clear HM; intro bk w1 HM))
 clear hnz hn8 hs0 hs1 lst
 go_loopw [32] (fun iv wr => ∃ (i : Nat), iv = .int .i64 (i : Nat) ∧ i ≤ ss.length ∧ Mem w [] [(bp, p.c)] wr) (fun iv _ => ss.length - (intOf iv).toNat)
 case atStart => exact ⟨0, rfl, by omega, HM⟩
 case round =>
  clear HM
  obtain ⟨i, rfl, hi, HM⟩ := hrel
  by_cases hlt : i < ss.length
  ·have hlt1 : (i : Int) < ss.length := by omega
   obtain ⟨x, hx⟩ : ∃ x, ss[i]? = some x := ⟨_, List.getElem?_eq_getElem hlt⟩
   obtain ⟨b, off, cs, e8, HB, l8⟩ := HR.out.at1 (i := i) (Tq.V_at hx) (T := 9) Zk
   subst e8
   obtain ⟨sv1, hrun1, hrd1⟩ := run_take HR.out el1 (k := i) (by rw [Tq.V_len]; omega)
   have HRUN := Zi hrun1
   have hnx := HNM.out x (List.mem_of_getElem? hx)
   have hsz : x.size ≤ 16 := by
    by_cases hz : 16 < x.size
    ·rw [Nm.usable_no16 hz] at hnx; cases hnx
    ·omega
   have CN := fun w => tname_any x Zo w
   rw [hnx] at CN
   have hnin : x ∉ ss.take i := by
    intro hm
    obtain ⟨j, hj⟩ := List.getElem?_of_mem hm
    have hji : j < i := by
     have := (List.getElem?_eq_some_iff.1 hj).1
     rw [List.length_take] at this; omega
    rw [List.getElem?_take_of_lt hji] at hj
    obtain ⟨h1, e1⟩ := List.getElem?_eq_some_iff.1 hj
    obtain ⟨h2, e2⟩ := List.getElem?_eq_some_iff.1 hx
    have := (List.getElem_inj HND.out).1 (e1.trans e2.symm)
    omega
   have hRT : ∀ w', Below w.heap.size w w' → RdS 1 w' sv1 (V1 (Tq.V (ss.take i))) := fun w' hB => by
    have h := hrd1 w' (HR.out.below hB)
    unfold V1 Tq.V at h ⊢
    rwa [← List.map_take, ← List.map_take] at h
   have CK := fun w' hB => scon_any (ss.take i) x hnin (by rw [List.length_take]; omega) sv1 w' (hRT w' hB)
   clear hx hrun1 hrd1 hnx hnin hRT
   go_wp2_with (first | (go_at_call 64; (with_reducible refine Zc HM (CN _) ?_; clear HM; intro w2 HM)) | ((with_reducible refine g_sl ?_); refine a_sl ?_ (fun w9 => by simpa [Act.eval] using HRUN.out w9)) | (go_at_call 111; (with_reducible refine Zc HM (CK _ HM.low) ?_; clear HM; intro w2 HM)) | (first | ((with_reducible refine g_ld ?_); refine a_ld HM ?_) | ((with_reducible refine g_bx ?_); refine a_bx HM ?_; clear HM; intro bk w1 HM)))
   exact z9_85
  ·obtain rfl : i = ss.length := by omega
   go_upto_region 10 with (first | (go_at_call 112; refine (CP _).mono ?_; rintro e9 w2 ⟨⟨s9, e8, rfl, HE⟩, hL⟩; replace HM := HM.call hL; clear hL) | (first | ((with_reducible refine g_ld ?_); refine a_ld HM ?_) | ((with_reducible refine g_bx ?_); refine a_bx HM ?_; clear HM; intro bk w1 HM)))
   obtain rfl : e8 = 0 := HE.out.2 HY.out
   clear HE
   refine start_M2 [] HM ((Sub.keep Sub.nil)) Zk (fun w0x H9 => ?_)
   replace HM := H9; clear H9
   refine k_fa 0 (heldE HM) ?_
   refine k_ld 1 [] (heldE HM) ?_
   refine j_one 2 fun K9 hK9 => ?_
   refine j_call1 (v := ?_) HM ?_ ?_; rotate_left 1; (focus (with_reducible (first | exact CW _ | exact CC _))); clear HM; intro w1 HM
   refine hK9 _ _ (heldE HM) ?_; clear hK9 K9
   refine j_one 3 fun K9 hK9 => ?_
   refine j_call2 (v := ?_) HM ?_ ?_; rotate_left 1; (focus (with_reducible (first | exact CW _ | exact CC _))); clear HM; intro w1 HM
   refine hK9 _ _ (heldE HM) ?_; clear hK9 K9
   refine k_mv 4 (heldE HM) ?_
   refine k_ext 5 (heldE HM) ?_
   refine k_ext 6 (heldE HM) ?_
   refine k_mv 7 (heldE HM) ?_
   refine k_mv 8 (heldE HM) ?_
   refine wpAnyL_done Zk ?_ _
   exact z9_39
end
section
open Jb
theorem cheaper_any (x y : JQ) (hx : Tq.Pq x) (hy : Tq.Pq y) (w : World) :
    Calls Tryz.prog 38 #[.agg x.c, .agg y.c] w fun e w' => e = .returned (.int .i64 (Rt.cmp (Tq.px x.prc) (Tq.px y.prc))) ∧ Below w.heap.size w w' := by
 have HM := Mem.start w
 obtain ⟨ex, bx, -⟩ := hx.get
 obtain ⟨ey, by_, -⟩ := hy.get
 obtain ⟨g, hg⟩ := Zh (Rt.cmp (Tq.px x.prc) (Tq.px y.prc))
 have CC := fun w => cmp_q (Tq.px x.prc) (Tq.px y.prc) g bx.fit by_.fit hg w
 have l1 := (JQ.f_prc x).la
 have l2 := (JQ.f_prc y).la
 rw [ex] at l1
 rw [ey] at l2
 have sx := x.sa JQ.zero.size
 have sy := y.sa JQ.zero.size
 rw [← hg.out]
 generalize Tq.px x.prc = px at *
 generalize Tq.px y.prc = py at *
 clear hx hy bx by_ hg ex ey
 go_enter Tryz.func38, Tryz.ntmps38
 go_wp2_with (first | (go_at_call 71; (with_reducible refine Zc HM (CC _) ?_; clear HM; intro w2 HM)) | (first | ((with_reducible refine g_ld ?_); refine a_ld HM ?_) | ((with_reducible refine g_bx ?_); refine a_bx HM ?_; clear HM; intro bk w1 HM)))
 go_ret
 exact ⟨rfl, HM.low⟩
def Tq.near (x y t : Rat) : Bool := decide (Rt.cmp (Rt.abs (x - y)) (t * y) ≤ 0)
theorem near_any (x y t : Rat) (hx : Rt.Bd x 50 20) (hy : Rt.Bd y 50 20) (ht : Rt.Bd t 28 28) (w : World) :
    Calls Tryz.prog 39 #[.agg (Rt.qA x), .agg (Rt.qA y), .agg (Rt.qA t)] w fun e w' => e = .returned (.bool (Tq.near x y t)) ∧ Below w.heap.size w w' := by
 have HM := Mem.start w
 obtain ⟨d, hd⟩ := Zh (x - y)
 obtain ⟨a, ha⟩ := Zh (Rt.abs d)
 obtain ⟨m, hm⟩ := Zh (t * y)
 obtain ⟨g, hg⟩ := Zh (Rt.cmp a m)
 have bd : Rt.Bd d 71 40 := by rw [hd.out]; exact (hx.sub hy)
 have bm : Rt.Bd m 78 48 := by rw [hm.out]; exact (ht.mul hy)
 have ba : Rt.Fit a := by
  rw [ha.out]
  exact ⟨by show ((d.num.natAbs : Nat) : Int).natAbs < _; rw [Int.natAbs_natCast]; exact bd.fit.1, bd.fit.2⟩
 have za := za_rat
 have C1 := fun w => sub_q x y d hx.fit hy.fit hd bd.fit w
 have C2 := fun w => abs_q d a bd.fit ha w
 have C3 := fun w => mul_q t y m ht.fit hy.fit hm bm.fit w
 have C4 := fun w => cmp_q a m g ba bm.fit hg w
 have e : Tq.near x y t = decide (g ≤ 0) := by unfold Tq.near; rw [hg.out, ha.out, hm.out, hd.out]
 rw [e]
 have l1 := la_q x
 have l2 := la_q y
 have l3 := la_q t
 have l4 := la_q d
 have l5 := la_q a
 have l6 := la_q m
 have s1 := sa_q d (rZ_size 0 0)
 have s2 := sa_q a (qA_size d)
 have s3 := sa_q m (rZ_size 0 0)
 have s4 := sa_q x (rZ_size 0 0)
 have s5 := sa_q y (rZ_size 0 0)
 have s6 := sa_q t (rZ_size 0 0)
 clear hx hy ht bd bm ba hd ha hm hg e
 go_enter Tryz.func39, Tryz.ntmps39
 go_wp2_with (first | (go_at_call 72; (with_reducible refine Zc HM (C1 _) ?_; clear HM; intro w2 HM)) | (go_at_call 73; (with_reducible refine Zc HM (C2 _) ?_; clear HM; intro w2 HM)) | (go_at_call 74; (with_reducible refine Zc HM (C3 _) ?_; clear HM; intro w2 HM)) | (go_at_call 71; (with_reducible refine Zc HM (C4 _) ?_; clear HM; intro w2 HM)) | (first | ((with_reducible refine g_ld ?_); refine a_ld HM ?_) | ((with_reducible refine g_st ?_); refine a_st HM ?_; clear HM; intro w1 HM) | ((with_reducible refine g_al ?_); refine a_al HM ?_; clear HM; intro bk w1 HM) | ((with_reducible refine g_bx ?_); refine a_bx HM ?_; clear HM; intro bk w1 HM)))
 go_ret
 exact ⟨rfl, HM.low⟩
end
section
open Jb
section
variable {o oi : Oper} {a a2 : Act} {w0 w : World} {X : List Nat} {L : List (Nat × Array Value)} {d : Tmp} {v : Value} {Q : Exit → Act → World → Prop} {R : Act → World → Prop}
theorem h_callv {f : FuncId} {x0 : Operand} {xs : Array Operand} {ts : Array TypeId} {args : Array Value} (ho : o.op = .call { callee := .value x0, args := xs, argTypes := ts }) (h0 : a.eval x0 = .func (.func f) #[] #[]) (hf : goF f = true) (hx : xs.map a.eval = args) : ∀ w, (execOp a.eval o).run Tryz.prog w = .ok (.enter f args) w := fun w => by
 unfold goF at hf
 cases hg : Tryz.prog.funcs[f]? with
 | none => rw [hg] at hf; simp at hf
 | some fn =>
  rw [hg] at hf
  simp only [Bool.and_eq_true, Bool.not_eq_true'] at hf
  have h1 : ¬ fn.name = "runtime.NumGoroutine" := by simpa using hf.1
  have hb : ¬ fn.body = none := by intro h; simp [h] at hf
  unfold execOp
  simp [ho, resolve, h0, Deferred.ofValue, invoke, callFunc, hg, h1, hb, ← hx]
theorem j_callv2 {f : FuncId} {ts : Array TypeId} {x0 x1 x2 : Operand} {v1 v2 : Value} (HM : Mem w0 X L w) (hc : Calls Tryz.prog f #[v1, v2] w fun e w' => e = .returned v ∧ Below w.heap.size w w') (h : ∀ w', Mem w0 X L w' → R a2 w') (hd : oi.dst = some d := by rfl) (ho : oi.op = .call { callee := .value x0, args := #[x1, x2], argTypes := ts } := by rfl) (h0 : a.eval x0 = .func (.func f) #[] #[] := by (conv => lhs; whnf) <;> rfl) (hf : goF f = true := by kernel_rfl) (h1 : a.eval x1 = v1 := by (conv => lhs; whnf) <;> rfl) (h2 : a.eval x2 = v2 := by (conv => lhs; whnf) <;> rfl) (ha : ({ a with tmps := a.tmps.setIfInBounds d v } : Act) = a2 := by ((try simp only [Za, Zx, Zy]) <;> rfl)) : Oper.wp Tryz.prog oi a w R Q := o_call hc HM hd (h_callv ho h0 hf (by simp [h1, h2])) fun w9 h9 => ha ▸ h w9 h9
end
theorem v_prevq {T : TypeId} {x y : Operand} {j : Nat} (hj : j < 9223372036854775807) :
    ∀ w, (do eqGuard .sub T x y (.int .i64 ((j + 1 : Nat) : Int)) (.int .i64 1); binOp .sub T (.int .i64 ((j + 1 : Nat) : Int)) (.int .i64 1) : Sem Value).run Tryz.prog w = .ok (.int .i64 (j : Nat)) w :=
 v_arith (.inr (.inl ⟨rfl, by omega⟩)) (IntWalk.i64_in _ Zo)
namespace Tq
def cm (x y : JQ) : Int := Rt.cmp (px x.prc) (px y.prc)
def bub : List JQ → Nat → List JQ
 | l, 0 => l
 | l, j + 1 => if cm (l.getD (j + 1) JQ.zero) (l.getD j JQ.zero) < 0 then bub ((l.set (j + 1) (l.getD j JQ.zero)).set j (l.getD (j + 1) JQ.zero)) j else l
def srtN : Nat → List JQ → Nat → List JQ
 | 0, l, _ => l
 | k + 1, l, i => srtN k (bub l i) (i + 1)
def srt (l : List JQ) : List JQ := srtN (l.length - 1) l 1
theorem bub_step {l : List JQ} {j : Nat} {x y : JQ} (hx : l[j + 1]? = some x) (hy : l[j]? = some y) : bub l (j + 1) = if cm x y < 0 then bub ((l.set (j + 1) y).set j x) j else l := by
 rw [bub, List.getD_eq_getElem?_getD, List.getD_eq_getElem?_getD, hx, hy]; rfl
theorem bub_len : ∀ (j : Nat) (l : List JQ), (bub l j).length = l.length
 | 0, _ => rfl
 | j + 1, l => by
  rw [bub]
  split
  ·rw [bub_len j, List.length_set, List.length_set]
  ·rfl
theorem srtN_len : ∀ (k : Nat) (l : List JQ) (i : Nat), (srtN k l i).length = l.length
 | 0, _, _ => rfl
 | k + 1, l, i => by rw [srtN, srtN_len k, bub_len]
theorem srt_len (l : List JQ) : (srt l).length = l.length := srtN_len _ _ _
theorem row_set {l : List JQ} {sp : List (Array Value)} {i : Nat} {x y : JQ} (hs : ∀ c ∈ l.map JQ.c ++ sp, c.size = 72) (hx : l[i]? = some x) : SA 40 (rowsOf (l.map JQ.c ++ sp)) (i * 72) (.agg y.c) (rowsOf ((l.set i y).map JQ.c ++ sp)) := by
 have hi := (List.getElem?_eq_some_iff.1 hx).1
 have h := sa_row (T := 40) (k := i) (d := y.c) JQ.sT hs (by rw [List.getElem?_append_left (by rw [List.length_map]; exact hi), List.getElem?_map, hx]; rfl) y.size y.one
 rw [List.set_append_left _ _ (by rw [List.length_map]; exact hi), ← List.map_set] at h
 exact h
theorem row_at {l : List JQ} {sp : List (Array Value)} {i : Nat} {x : JQ} (hs : ∀ c ∈ l.map JQ.c ++ sp, c.size = 72) (hx : l[i]? = some x) : LA 40 (rowsOf (l.map JQ.c ++ sp)) (i * 72) (.agg x.c) :=
 la_row Zk JQ.sT hs (by rw [List.getElem?_append_left (by rw [List.length_map]; exact (List.getElem?_eq_some_iff.1 hx).1), List.getElem?_map, hx]; rfl)
theorem row_sz {l m : List JQ} {sp : List (Array Value)} (hs : ∀ c ∈ l.map JQ.c ++ sp, c.size = 72) : ∀ c ∈ m.map JQ.c ++ sp, c.size = 72 := by
 intro c hc
 rcases List.mem_append.1 hc with hc | hc
 ·obtain ⟨r, _, rfl⟩ := List.mem_map.1 hc
  exact r.size
 ·exact hs c (List.mem_append_right _ hc)
theorem mem_swap {l : List JQ} {i j : Nat} {x y : JQ} (hx : x ∈ l) (hy : y ∈ l) : ∀ z ∈ (l.set i y).set j x, z ∈ l := by
 intro z hz
 rcases List.mem_or_eq_of_mem_set hz with hz | rfl
 ·rcases List.mem_or_eq_of_mem_set hz with hz | rfl
  ·exact hz
  ·exact hy
 ·exact hx
end Tq
theorem isort_any {W0 w : World} {X : List Nat} {R : List (Nat × Array Value)} {b cap : Nat} (l : List JQ) (sp : List (Array Value)) (hs : ∀ c ∈ l.map JQ.c ++ sp, c.size = 72) (hq : ∀ q ∈ l, Tq.Pq q) (hl : l.length ≤ 1000) (hc : l.length ≤ cap) (HM : Mem W0 X ((b, rowsOf (l.map JQ.c ++ sp)) :: R) w) :
    Calls Tryz.prog 154 #[.slice (some ⟨b, 0, none⟩) l.length cap, .int .i64 0, .int .i64 l.length, .func (.func 38) #[] #[]] w fun e w' => e = .returned (.tuple #[]) ∧ Mem W0 X ((b, rowsOf ((Tq.srt l).map JQ.c ++ sp)) :: R) w' := by
 obtain ⟨S, hS⟩ : ∃ S, S = Tq.srt l := ⟨_, rfl⟩
 rw [← hS]
 have HS0 : Hid (Tq.srtN (l.length - 1) l 1 = S) := Zi hS.symm
 obtain ⟨n, hn⟩ : ∃ n, n = l.length := ⟨_, rfl⟩
 have HQ0 := Zi hq
 have HZ := Zi hs
 have HN0 : Hid (l.length = n) := Zi hn.symm
 rw [← hn] at HS0 hl hc ⊢
 clear hS hq hs hn
 go_enter Tryz.func154, Tryz.ntmps154
 go_wp2_with (first | ((with_reducible refine g_ld ?_); refine a_ld HM ?_) | ((with_reducible refine g_st ?_); refine a_st HM ?_; clear HM; intro w1 HM))
 go_loopw [8, 9] (fun iv _ wr => ∃ (i : Nat) (m : List JQ), iv = .int .i64 (i : Nat) ∧ 1 ≤ i ∧ Hid (m.length = n) ∧ Hid (Tq.srtN (n - i) m i = S) ∧ Hid (∀ q ∈ m, Tq.Pq q) ∧ Mem W0 X ((b, rowsOf (m.map JQ.c ++ sp)) :: R) wr) (fun iv _ _ => n - (intOf iv).toNat)
 case atStart => exact ⟨1, l, rfl, by omega, HN0, HS0, HQ0, HM⟩
 case round =>
  clear HM HN0 HS0 HQ0
  obtain ⟨i, m, rfl, hi, HN, HS, HQ, HM⟩ := hrel
  by_cases hlt : i < n
  ·have hlt1 : (i : Int) < n := by omega
   obtain ⟨B, hB⟩ : ∃ B, B = Tq.bub m i := ⟨_, rfl⟩
   have HS2 : Hid (Tq.srtN (n - (i + 1)) B (i + 1) = S) := Zi (by
    have h := HS.out
    rw [show n - i = (n - (i + 1)) + 1 by omega, Tq.srtN, ← hB] at h
    exact h)
   have HB0 : Hid (Tq.bub m i = B) := Zi hB.symm
   clear hB HS
   go_wp2_with (first | ((with_reducible refine g_ld ?_); refine a_ld HM ?_) | ((with_reducible refine g_st ?_); refine a_st HM ?_; clear HM; intro w1 HM))
   go_loopw [9] (fun jv wr => ∃ (j : Nat) (m : List JQ), jv = .int .i64 (j : Nat) ∧ j ≤ i ∧ Hid (m.length = n) ∧ Hid (Tq.bub m j = B) ∧ Hid (∀ q ∈ m, Tq.Pq q) ∧ Mem W0 X ((b, rowsOf (m.map JQ.c ++ sp)) :: R) wr) (fun jv _ => (intOf jv).toNat)
   case atStart => exact ⟨i, m, rfl, by omega, HN, HB0, HQ, HM⟩
   case round =>
    clear HM HN HB0 HQ
    obtain ⟨j, m, rfl, hj, HN, HB, HQ, HM⟩ := hrel
    rcases Nat.eq_zero_or_pos j with rfl | h0
    ·have hb0 : m = B := HB.out
     subst hb0
     go_upto_region 4 with (first | ((with_reducible refine g_ld ?_); refine a_ld HM ?_) | ((with_reducible refine g_st ?_); refine a_st HM ?_; clear HM; intro w1 HM))
     refine start_M2 [] HM ((Sub.keep Sub.nil)) Zk (fun w0x H9 => ?_)
     replace HM := H9; clear H9
     refine k_mv 0 (heldF HM) ?_
     refine k_mv 1 (heldF HM) ?_
     refine k_bin 2 (heldF HM) ?_
     refine k_mv 3 (heldF HM) ?_
     refine k_off 4 (heldF HM) ?_
     refine k_off 5 (heldF HM) ?_
     refine k_off 6 (heldF HM) ?_
     refine k_off 7 (heldF HM) ?_
     refine k_off 8 (heldF HM) ?_
     refine k_off 9 (heldF HM) ?_
     refine k_off 10 (heldF HM) ?_
     refine k_off 11 (heldF HM) ?_
     refine k_off 12 (heldF HM) ?_
     refine k_off 13 (heldF HM) ?_
     refine k_off 14 (heldF HM) ?_
     refine k_off 15 (heldF HM) ?_
     refine k_pick 16 (heldF HM) ?_
     refine wpAnyL_done Zk ?_ _
     go_wp2_with fail
     go_roundw
     case rel => exact ⟨i + 1, m, by go_num, by omega, HN, HS2, HQ, HM⟩
     case measure => simp [intOf]; omega
    ·obtain ⟨k, rfl⟩ : ∃ k, j = k + 1 := ⟨j - 1, by omega⟩
     have hml := HN.out
     obtain ⟨x, hx⟩ : ∃ x, m[k + 1]? = some x := ⟨_, List.getElem?_eq_getElem Zo⟩
     obtain ⟨y, hy⟩ : ∃ y, m[k]? = some y := ⟨_, List.getElem?_eq_getElem Zo⟩
     have hsz := Tq.row_sz (m := m) HZ.out
     have lx := Tq.row_at hsz hx
     have ly := Tq.row_at hsz hy
     have px := HQ.out x (List.mem_of_getElem? hx)
     have py := HQ.out y (List.mem_of_getElem? hy)
     have CC : ∀ w, Calls Tryz.prog 38 #[.agg x.c, .agg y.c] w fun e w' => e = .returned (.int .i64 (Tq.cm x y)) ∧ Below w.heap.size w w' := fun w => cheaper_any x y px py w
     have HBS := Zi (HB.out.symm.trans (Tq.bub_step hx hy))
     have s1 := Tq.row_set (y := y) hsz hx
     have s2 := Tq.row_set (l := m.set (k + 1) y) (sp := sp) (i := k) (x := y) (y := x) (Tq.row_sz HZ.out) (by rw [List.getElem?_set_ne Zo]; exact hy)
     have HQ2 : Hid (∀ q ∈ (m.set (k + 1) y).set k x, Tq.Pq q) := Zi (fun q hq => HQ.out q (Tq.mem_swap (List.mem_of_getElem? hx) (List.mem_of_getElem? hy) q hq))
     have HN2 : Hid (((m.set (k + 1) y).set k x).length = n) := Zi (by rw [List.length_set, List.length_set]; exact hml)
     have hi0 : decide ((0 : Int) < ((k + 1 : Nat) : Int)) = true := Zt Zo
     have hj9 : k < 9223372036854775807 := by omega
     have hkl : (k : Int) < n := by omega
     have hkl1 : ((k + 1 : Nat) : Int) < n := by omega
     have hkl2 : (k : Int) + 1 < n := by omega
     have hkl3 : (0 : Int) ≤ (k : Int) + 1 := by omega
     generalize Tq.cm x y = g at CC HBS
     clear hx hy px py HB hml hsz
     by_cases hg : g < 0
     ·have hg1 : decide (g < 0) = true := Zt hg
      have HB2 : Hid (Tq.bub ((m.set (k + 1) y).set k x) k = B) := Zi (by rw [HBS.out, if_pos hg])
      clear hg HBS
      go_upto_region 4 with (first | ((with_reducible refine g_ld ?_); refine a_ld HM ?_) | ((with_reducible refine g_st ?_); refine a_st HM ?_; clear HM; intro w1 HM))
      refine start_M2 [] HM ((Sub.keep Sub.nil)) Zk (fun w0x H9 => ?_)
      replace HM := H9; clear H9
      refine k_mv 0 (heldF HM) ?_
      refine k_mv 1 (heldF HM) ?_
      refine k_bin 2 (heldF HM) ?_
      refine k_mv 3 (heldF HM) ?_
      refine k_mv 4 (heldF HM) ?_
      refine k_mv 5 (heldF HM) ?_
      refine k_mv 6 (heldF HM) ?_
      refine k_ia 7 (heldF HM) ?_
      refine k_ld 8 [] (heldF HM) ?_
      refine k_mv 9 (heldF HM) ?_
      refine k_mv 10 (heldF HM) ?_
      refine t_pure (i := 11) (v := .int .i64 (k : Nat)) rfl rfl Zk (fun _ _ _ h => h) (heldF HM) Zv ?_ ?_; (focus (exact h_bin rfl Zw Zw (v_prevq hj9))); ((try simp only [Za]); (try simp only [Zx]); (try simp only [Zy]))
      refine k_ia 12 (heldF HM) ?_
      refine k_ld 13 [] (heldF HM) ?_
      refine j_one 14 fun K9 hK9 => ?_
      refine j_callv2 (v := ?_) HM ?_ ?_; rotate_left 1; (focus (exact CC _)); clear HM; intro w1 HM
      refine hK9 _ _ (heldF HM) ?_; clear hK9 K9; ((try simp only [Za]); (try simp only [Zx]); (try simp only [Zy]))
      refine k_bin 15 (heldF HM) ?_
      refine k_pick 16 (heldF HM) ?_
      refine wpAnyL_done Zk ?_ _
      go_upto_region 6 with fail
      refine start_M2 [15, 17] HM ((Sub.keep Sub.nil)) Zk (fun w0x H9 => ?_)
      replace HM := H9; clear H9
      refine k_mv 0 (heldF HM) ?_
      refine k_mv 1 (heldF HM) ?_
      refine k_mv 2 (heldF HM) ?_
      refine k_mv 3 (heldF HM) ?_
      refine t_pure (i := 4) (v := .int .i64 (k : Nat)) rfl rfl Zk (fun _ _ _ h => h) (heldF HM) Zv ?_ ?_; (focus (exact h_bin rfl Zw Zw (v_prevq hj9))); ((try simp only [Za]); (try simp only [Zx]); (try simp only [Zy]))
      refine k_mv 5 (heldF HM) ?_
      refine k_mv 6 (heldF HM) ?_
      refine t_pure (i := 7) (v := .int .i64 (k : Nat)) rfl rfl Zk (fun _ _ _ h => h) (heldF HM) Zv ?_ ?_; (focus (exact h_bin rfl Zw Zw (v_prevq hj9))); ((try simp only [Za]); (try simp only [Zx]); (try simp only [Zy]))
      refine k_ia 8 (heldF HM) ?_
      refine k_ld 9 [14, 15, 16, 17] (heldF HM) ?_
      refine k_mv 10 (heldF HM) ?_
      refine k_mv 11 (heldF HM) ?_
      refine k_ia 12 (heldF HM) ?_
      refine k_ld 13 [14, 15, 16, 17] (heldF HM) ?_
      refine k_ia 14 (heldF HM) ?_
      refine j_one 15 fun K9 hK9 => ?_
      refine j_st HM ?_; clear HM; intro w1 HM
      refine hK9 _ _ heldN ?_; clear hK9 K9
      refine k_ia 16 heldN ?_
      refine j_one 17 fun K9 hK9 => ?_
      refine j_st HM ?_; clear HM; intro w1 HM
      refine hK9 _ _ heldN ?_; clear hK9 K9
      refine wpAnyL_done Zk ?_ _
      go_wp2_with fail
      go_roundw
      case rel => exact ⟨k, (m.set (k + 1) y).set k x, by first | go_num | (congr 1; omega), by omega, HN2, HB2, HQ2, HM⟩
      case measure => simp [intOf]
     ·have hg1 : decide (g < 0) = false := Zf hg
      have hBm : B = m := by rw [HBS.out, if_neg hg]
      subst hBm
      clear hg HBS HQ2 HN2 s1 s2
      go_upto_region 4 with (first | ((with_reducible refine g_ld ?_); refine a_ld HM ?_) | ((with_reducible refine g_st ?_); refine a_st HM ?_; clear HM; intro w1 HM))
      refine start_M2 [] HM ((Sub.keep Sub.nil)) Zk (fun w0x H9 => ?_)
      replace HM := H9; clear H9
      refine k_mv 0 (heldF HM) ?_
      refine k_mv 1 (heldF HM) ?_
      refine k_bin 2 (heldF HM) ?_
      refine k_mv 3 (heldF HM) ?_
      refine k_mv 4 (heldF HM) ?_
      refine k_mv 5 (heldF HM) ?_
      refine k_mv 6 (heldF HM) ?_
      refine k_ia 7 (heldF HM) ?_
      refine k_ld 8 [] (heldF HM) ?_
      refine k_mv 9 (heldF HM) ?_
      refine k_mv 10 (heldF HM) ?_
      refine t_pure (i := 11) (v := .int .i64 (k : Nat)) rfl rfl Zk (fun _ _ _ h => h) (heldF HM) Zv ?_ ?_; (focus (exact h_bin rfl Zw Zw (v_prevq hj9))); ((try simp only [Za]); (try simp only [Zx]); (try simp only [Zy]))
      refine k_ia 12 (heldF HM) ?_
      refine k_ld 13 [] (heldF HM) ?_
      refine j_one 14 fun K9 hK9 => ?_
      refine j_callv2 (v := ?_) HM ?_ ?_; rotate_left 1; (focus (exact CC _)); clear HM; intro w1 HM
      refine hK9 _ _ (heldF HM) ?_; clear hK9 K9; ((try simp only [Za]); (try simp only [Zx]); (try simp only [Zy]))
      refine k_bin 15 (heldF HM) ?_
      refine k_pick 16 (heldF HM) ?_
      refine wpAnyL_done Zk ?_ _
      go_wp2_with fail
      go_roundw
      case rel => exact ⟨i + 1, B, by go_num, by omega, HN, HS2, HQ, HM⟩
      case measure => simp [intOf]; omega
  ·have hS : m = S := by
     have h := HS.out
     rw [show n - i = 0 by omega] at h
     exact h
   subst hS
   go_wp2_with (first | ((with_reducible refine g_ld ?_); refine a_ld HM ?_) | ((with_reducible refine g_st ?_); refine a_st HM ?_; clear HM; intro w1 HM))
   go_end0
   exact ⟨rfl, HM⟩
end
section
open Jb
theorem jq_ones (l : List JQ) : ∀ c ∈ l.map JQ.c, c.all (·.oneCell') = true := by
 intro c hc
 obtain ⟨x, _, rfl⟩ := List.mem_map.1 hc
 exact x.one
theorem qclone_any (l : List JQ) (hl : l.length ≤ 1000) (sv : Value) (w : World) (hR : RdS 72 w sv (l.map JQ.c)) :
    Calls Tryz.prog 35 #[sv] w fun e w' => ∃ s B, e = .returned s ∧ Hid (SlAt 72 s (l.map JQ.c) B) ∧ Mem w [] B w' := by
 have HM := Mem.start w
 have HR := Zi hR
 obtain ⟨A, cap, ef⟩ := RdS.form1 hR
 rw [List.length_map] at ef
 subst ef
 clear hR
 have el9 : elemB 26 40 72 336 = true := by kernel_rfl
 have h1 := jq_ones l
 go_enter Tryz.func35, Tryz.ntmps35
 cases A with
 | none =>
  have e0 : l = [] := by
   cases l with
   | nil => rfl
   | cons x l =>
    obtain ⟨b, off, cs, c2, e, _⟩ := RdS.get HR.out (k := 0) (c := x.c) rfl
    cases e
  subst e0
  have q0 : ∀ w, (binOp .eql 26 (.slice none 0 cap) (.slice none 0 0)).run Tryz.prog w = .ok (.bool true) w := fun w => Go.Lib.run_eql_slice_nil w _ _ none 0 cap 0 0 Tryz.underlying26
  go_wp2_with fail
  go_ret
  exact ⟨_, [], rfl, Zi SlAt.nil, HM⟩
 | some a =>
  have q0 : ∀ w, (binOp .eql 26 (.slice (some a) l.length cap) (.slice none 0 0)).run Tryz.prog w = .ok (.bool false) w := fun w => Go.Lib.run_eql_slice_nil w _ _ (some a) l.length cap 0 0 Tryz.underlying26
  have RB := Zi fun w' (hB : Below w.heap.size w w') => (HR.out.below hB : RdS 72 w' _ (l.map JQ.c))
  have hlen : ((([] : List (Array Value)).length) + (l.map JQ.c).length) * (336 + 1) ≤ 140737488355328 := by rw [List.length_map]; simp; omega
  go_upto_region 3 with fail
  go_wp2_with (first | ((with_reducible refine g_bs0 ?_); refine a_bs0 HM ?_; clear HM; intro b0 w1 HM) | ((with_reducible refine g_app ?_); refine a_app (m := l.map JQ.c) (F := fun X => X) HM (SlAt.made0 b0) (RB.out _ HM.low) ?_ h1 (hlen := hlen); clear HM; intro s2 B2 w2 HS2 HM) | fail)
  go_ret
  exact ⟨_, B2, rfl, Zi HS2, HM⟩
theorem stable_any {W0 w : World} {X : List Nat} {R : List (Nat × Array Value)} {b cap : Nat} (l : List JQ) (sp : List (Array Value)) (hs : ∀ c ∈ l.map JQ.c ++ sp, c.size = 72) (hq : ∀ q ∈ l, Tq.Pq q) (hl : l.length ≤ 19) (hc : l.length ≤ cap) (HM : Mem W0 X ((b, rowsOf (l.map JQ.c ++ sp)) :: R) w) :
    Calls Tryz.prog 113 #[.slice (some ⟨b, 0, none⟩) l.length cap, .int .i64 l.length, .func (.func 38) #[] #[]] w fun e w' => e = .returned (.tuple #[]) ∧ Mem W0 X ((b, rowsOf ((Tq.srt l).map JQ.c ++ sp)) :: R) w' := by
 have CI := fun w (HM : Mem W0 X ((b, rowsOf (l.map JQ.c ++ sp)) :: R) w) => isort_any l sp hs hq Zo hc HM
 generalize Tq.srt l = S at *
 have h20 : decide ((20 : Int) ≤ l.length) = false := Zf Zo
 have h21 : decide ((20 : Int) < l.length) = false := Zf Zo
 clear hs hq
 go_enter Tryz.func113, Tryz.ntmps113
 go_wp2_with fail
 go_loopw [7, 8] (fun av bv wr => av = .int .i64 0 ∧ bv = .int .i64 20 ∧ Mem W0 X ((b, rowsOf (l.map JQ.c ++ sp)) :: R) wr) (fun _ _ _ => 0)
 case atStart => exact ⟨rfl, rfl, HM⟩
 case round =>
  clear HM
  obtain ⟨rfl, rfl, HM⟩ := hrel
  go_wp2_with (first | (go_at_call 154; refine (CI _ HM).mono ?_; clear HM; rintro e9 w9 ⟨rfl, HM⟩) | fail)
  go_loopw [6, 7, 8, 9] (fun sv _ _ _ wr => sv = .int .i64 20 ∧ Mem W0 X ((b, rowsOf (S.map JQ.c ++ sp)) :: R) wr) (fun _ _ _ _ _ => 0)
  case atStart => exact ⟨rfl, HM⟩
  case round =>
   clear HM
   obtain ⟨rfl, HM⟩ := hrel
   go_wp2_with fail
   go_end0
   exact ⟨rfl, HM⟩
theorem sstable_any {W0 w : World} {X : List Nat} {R : List (Nat × Array Value)} {b cap : Nat} (l : List JQ) (sp : List (Array Value)) (hs : ∀ c ∈ l.map JQ.c ++ sp, c.size = 72) (hq : ∀ q ∈ l, Tq.Pq q) (hl : l.length ≤ 19) (hc : l.length ≤ cap) (HM : Mem W0 X ((b, rowsOf (l.map JQ.c ++ sp)) :: R) w) :
    Calls Tryz.prog 70 #[.slice (some ⟨b, 0, none⟩) l.length cap, .func (.func 38) #[] #[]] w fun e w' => e = .returned (.tuple #[]) ∧ Mem W0 X ((b, rowsOf ((Tq.srt l).map JQ.c ++ sp)) :: R) w' := by
 have CI := fun w (HM : Mem W0 X ((b, rowsOf (l.map JQ.c ++ sp)) :: R) w) => stable_any l sp hs hq hl hc HM
 generalize Tq.srt l = S at *
 clear hs hq
 go_enter Tryz.func70, Tryz.ntmps70
 go_wp2_with (first | (go_at_call 113; refine (CI _ HM).mono ?_; clear HM; rintro e9 w9 ⟨rfl, HM⟩) | fail)
 go_end0
 exact ⟨rfl, HM⟩
def Tq.md (l : List JQ) : JQ := (Tq.srt l).getD ((l.length - 1) / 2) JQ.zero
theorem median_any (l : List JQ) (hq : ∀ q ∈ l, Tq.Pq q) (hl : l.length ≤ 19) (h0 : l ≠ []) (sv : Value) (w : World) (hR : RdS 72 w sv (l.map JQ.c)) :
    Calls Tryz.prog 37 #[sv, .func (.func 38) #[] #[]] w fun e w' => e = .returned (.agg (Tq.md l).c) ∧ Below w.heap.size w w' := by
 have HM := Mem.start w
 have HR := Zi hR
 have CL := fun w' (hB : Below w.heap.size w w') => qclone_any l Zo sv w' (HR.out.below hB)
 have hlen : 1 ≤ l.length := by
  cases l with
  | nil => exact absurd rfl h0
  | cons _ _ => simp
 obtain ⟨x, hx⟩ : ∃ x, (Tq.srt l)[(l.length - 1) / 2]? = some x := ⟨_, List.getElem?_eq_getElem (by rw [Tq.srt_len]; omega)⟩
 have hmd : Tq.md l = x := by unfold Tq.md; rw [List.getD_eq_getElem?_getD, hx]; rfl
 rw [hmd]
 have za0 := JQ.za
 have sx := x.sa JQ.zero.size
 have hne : l.map JQ.c ≠ [] := fun h => h0 (List.map_eq_nil_iff.1 h)
 have HX := Zi hx
 have HQ := Zi hq
 have HNE := Zi hne
 clear hR hx hmd hq hne h0
 go_enter Tryz.func37, Tryz.ntmps37
 go_upto_region 2 with (first | (go_at_call 35; refine (CL _ HM.low).mono ?_; rintro e9 w9 ⟨s9, B9, rfl, HS9, HM9⟩; replace HM := HM.join HM9; clear HM9) | (first | ((with_reducible refine g_ld ?_); refine a_ld HM ?_) | ((with_reducible refine g_st ?_); refine a_st HM ?_; clear HM; intro w1 HM) | ((with_reducible refine g_al ?_); refine a_al HM ?_; clear HM; intro bk w1 HM)))
 obtain ⟨b, sp, e1, e2, hsz⟩ := SlAt.inv HS9.out HNE.out
 rw [List.length_map] at e1
 subst e1 e2
 have lx := Tq.row_at (l := Tq.srt l) (Tq.row_sz hsz) HX.out
 go_upto_region 3 with (first | (go_at_call 70; refine (sstable_any l sp hsz HQ.out hl (Nat.le_add_right _ _) HM).mono ?_; clear HM; rintro e9 w9 ⟨rfl, HM⟩) | (first | ((with_reducible refine g_ld ?_); refine a_ld HM ?_) | ((with_reducible refine g_st ?_); refine a_st HM ?_; clear HM; intro w1 HM) | ((with_reducible refine g_al ?_); refine a_al HM ?_; clear HM; intro bk w1 HM)))
 obtain ⟨bk, rfl⟩ := HM.nm1
 replace HM : Mem w [] [(b, rowsOf (List.map JQ.c (Tq.srt l) ++ sp)), (bk, JQ.zero.c)] _ := HM
 go_wp2_with (first | ((with_reducible refine g_ld ?_); refine a_ld HM ?_) | ((with_reducible refine g_st ?_); refine a_st HM ?_; clear HM; intro w1 HM) | ((with_reducible refine g_al ?_); refine a_al HM ?_; clear HM; intro bk w1 HM))
 refine bodyPost_ret (r_c (b := bk) (k := 0) rfl rfl (HM.get Zl) x.la) rfl ⟨rfl, HM.low⟩
end
end Go.Proofs.YtiekmabiecalbaaGreatDoor
