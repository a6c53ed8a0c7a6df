/- Walks. -/
import Derived.Test.YtkiempioeffhbaaGreatDoorPt34
namespace Go.Proofs.YtkiempioeffhbaaGreatDoor
set_option maxHeartbeats 16000000
open Go.RowKit
set_option maxRecDepth 8000
set_option linter.unusedSimpArgs false
set_option linter.unusedVariables false
section
theorem z9_155 {P : Prop} (h : P := by
 have HBF := Zi (HM.get .here)
 have HL := Zi HM.low
 clear HM
 have HM := Mem.start w2
 by_cases he : e0 = 0
 ·subst he
  cases bn with
  | true =>
   obtain rfl : ef = 0 := HE.out
   go_wp2_with (first | (go_at_call 63; (with_reducible refine Zc HM (CN _) ?_; clear HM; intro w2 HM)) | ((with_reducible refine g_ld ?_); refine a_ld HM ?_))
   obtain rfl : W1 = W0 := by rw [hW1.out, hW0.out]
   go_ret2
   exact ⟨⟨s, rfl, Zi (HS.out.below HM.low)⟩, below_seq HL.out HM.low⟩
  | false =>
   obtain rfl : ef = 241 := HE.out
   go_wp2_with (first | (go_at_call 63; (with_reducible refine Zc HM (CN _) ?_; clear HM; intro w2 HM)) | ((with_reducible refine g_ld ?_); refine a_ld HM ?_))
   obtain rfl : W1 = [] := by rw [hW1.out]; rfl
   go_ret2
   exact ⟨⟨_, rfl, Zi (RdS.nil0 _ _)⟩, below_seq HL.out HM.low⟩
 ·obtain rfl : ef = e0 := by rw [HE.out, if_neg he]
  have he1 : (ef == 0) = false := Zb he
  obtain rfl : W1 = W0 := by rw [hW1.out, hW0.out]
  clear he HE hW0 hW1
  go_wp2_with ((with_reducible refine g_offw ?_); refine a_offw ?_)
  go_ret2
  exact ⟨⟨s, rfl, HS⟩, below_seq HL.out HM.low⟩) : P := h
end
section
open Jb
theorem get_q (sv : Value) (L : List JR) (k : Int) (w : World) (hR : RdR w sv L) :
    Calls Tryz.prog 35 #[sv, .int .i64 k] w fun e w' => (∃ s, e = .returned (.tuple #[s, .int .i64 (Jb.err L k)]) ∧ Hid (RdS 72 w' s (if Jb.err L k = 0 then ((Jb.take L k (fun r => decide (r.kd = 1))).map fun r => r.q.c) else []))) ∧ Below w.heap.size w w' := by
 have HM := Mem.start w
 have CC := fun w' hB => jcol_q sv L k (fun r => decide (r.kd = 1)) w' (hR.below hB) (fun r v w'' _ hv => tk_q r v hv w'')
 generalize Jb.take L k (fun r => decide (r.kd = 1)) = T at *
 generalize Jb.err L k = e0 at *
 generalize (if e0 = 0 then T.map (fun r => r.q.c) else []) = W at *
 clear hR
 go_enter Tryz.func35, Tryz.ntmps35
 go_wp2_with (go_at_call 56; refine (CC _ HM.low).mono ?_; rintro e9 w2 ⟨⟨s, rfl, HS⟩, hL⟩; replace HM := HM.call hL; clear hL)
 go_ret2
 exact ⟨⟨s, rfl, HS⟩, HM.low⟩
theorem get_a (sv : Value) (L : List JR) (k : Int) (w : World) (hR : RdR w sv L) :
    Calls Tryz.prog 37 #[sv, .int .i64 k] w fun e w' => (∃ s, e = .returned (.tuple #[s, .int .i64 (Jb.err L k)]) ∧ Hid (RdS 76 w' s (if Jb.err L k = 0 then ((Jb.take L k (fun r => decide (r.kd = 2))).map fun r => r.a.c) else []))) ∧ Below w.heap.size w w' := by
 have HM := Mem.start w
 have CC := fun w' hB => jcol_a sv L k (fun r => decide (r.kd = 2)) w' (hR.below hB) (fun r v w'' _ hv => tk_a r v hv w'')
 generalize Jb.take L k (fun r => decide (r.kd = 2)) = T at *
 generalize Jb.err L k = e0 at *
 generalize (if e0 = 0 then T.map (fun r => r.a.c) else []) = W at *
 clear hR
 go_enter Tryz.func37, Tryz.ntmps37
 go_wp2_with (go_at_call 59; refine (CC _ HM.low).mono ?_; rintro e9 w2 ⟨⟨s, rfl, HS⟩, hL⟩; replace HM := HM.call hL; clear hL)
 go_ret2
 exact ⟨⟨s, rfl, HS⟩, HM.low⟩
theorem get_e (sv : Value) (L : List JR) (k : Int) (fund : ByteArray) (hf : fund.size ≤ 9223372036854775807) (w : World) (hR : RdR w sv L) :
    Calls Tryz.prog 39 #[sv, .int .i64 k, .string fund] w fun e w' => (∃ s, e = .returned (.tuple #[s, .int .i64 (Jb.errF L k fund)]) ∧ Hid (RdS 10 w' s (if Jb.errF L k fund = 0 then ((Jb.take L k (fun r => decide (r.kd = 3) && (r.fnd == fund))).map fun r => r.e.c) else []))) ∧ Below w.heap.size w w' := by
 have HM := Mem.start w
 have CC : ∀ bf w', Below w.heap.size w w' → Blk w' bf #[.string fund] → _ := fun bf w' hB hb => jcol_e sv L k (fun r => decide (r.kd = 3) && (r.fnd == fund)) bf w' (hR.below hB) (fun r v w'' hB2 hv => tk_e r fund bf v hv w'' (hb.below hB2 hb.lt))
 have CN := fun w => oname_any fund hf w
 have HE : Hid (Jb.errF L k fund = if Jb.err L k = 0 then (if name fund then 0 else 241) else Jb.err L k) := Zi rfl
 generalize Jb.take L k (fun r => decide (r.kd = 3) && (r.fnd == fund)) = T at *
 generalize Jb.errF L k fund = ef at *
 generalize Jb.err L k = e0 at *
 generalize name fund = bn at *
 obtain ⟨W0, hW0⟩ := Zh (if e0 = 0 then T.map (fun r => r.e.c) else [])
 obtain ⟨W1, hW1⟩ := Zh (if ef = 0 then T.map (fun r => r.e.c) else [])
 simp only [← hW0.out] at CC
 rw [← hW1.out]
 have lfu : LA 9 #[Value.string fund] 0 (.string fund) := LA.one Zk rfl
 clear hR
 go_enter Tryz.func39, Tryz.ntmps39
 go_upto_region 2 with (first | (go_at_call 61; refine (CC _ _ HM.low (HM.get .here)).mono ?_; rintro e9 w2 ⟨⟨s, rfl, HS⟩, hL⟩; replace HM := HM.call hL; clear hL) | ((with_reducible refine g_bx ?_); refine a_bx HM ?_; clear HM; intro bk w1 HM))
 exact z9_155
theorem get_o (sv : Value) (L : List JR) (k : Int) (w : World) (hR : RdR w sv L) :
    Calls Tryz.prog 13 #[sv, .int .i64 k] w fun e w' => (∃ s, e = .returned (.tuple #[s, .int .i64 (Jb.err L k)]) ∧ Hid (RdS 11 w' s (if Jb.err L k = 0 then ((Jb.take L k (fun r => decide (r.kd = 4))).map fun r => r.o.c) else []))) ∧ Below w.heap.size w w' := by
 have HM := Mem.start w
 have CC := fun w' hB => jcol_o sv L k (fun r => decide (r.kd = 4)) w' (hR.below hB) (fun r v w'' _ hv => tk_o r v hv w'')
 generalize Jb.take L k (fun r => decide (r.kd = 4)) = T at *
 generalize Jb.err L k = e0 at *
 generalize (if e0 = 0 then T.map (fun r => r.o.c) else []) = W at *
 clear hR
 go_enter Tryz.func13, Tryz.ntmps13
 go_wp2_with (go_at_call 32; refine (CC _ HM.low).mono ?_; rintro e9 w2 ⟨⟨s, rfl, HS⟩, hL⟩; replace HM := HM.call hL; clear hL)
 go_ret2
 exact ⟨⟨s, rfl, HS⟩, HM.low⟩
theorem get_t (sv : Value) (L : List JR) (k : Int) (fund : ByteArray) (hf : fund.size ≤ 9223372036854775807) (w : World) (hR : RdR w sv L) :
    Calls Tryz.prog 42 #[sv, .int .i64 k, .string fund] w fun e w' => (∃ s, e = .returned (.tuple #[s, .int .i64 (Jb.errF L k fund)]) ∧ Hid (RdS 11 w' s (if Jb.errF L k fund = 0 then ((Jb.take L k (fun r => decide (r.kd = 5) && (r.t.vd || r.t.fnd == fund))).map fun r => r.t.c) else []))) ∧ Below w.heap.size w w' := by
 have HM := Mem.start w
 have CC : ∀ bf w', Below w.heap.size w w' → Blk w' bf #[.string fund] → _ := fun bf w' hB hb => jcol_t sv L k (fun r => decide (r.kd = 5) && (r.t.vd || r.t.fnd == fund)) bf w' (hR.below hB) (fun r v w'' hB2 hv => tk_t r fund bf v hv w'' (hb.below hB2 hb.lt))
 have CN := fun w => oname_any fund hf w
 have HE : Hid (Jb.errF L k fund = if Jb.err L k = 0 then (if name fund then 0 else 241) else Jb.err L k) := Zi rfl
 generalize Jb.take L k (fun r => decide (r.kd = 5) && (r.t.vd || r.t.fnd == fund)) = T at *
 generalize Jb.errF L k fund = ef at *
 generalize Jb.err L k = e0 at *
 generalize name fund = bn at *
 obtain ⟨W0, hW0⟩ := Zh (if e0 = 0 then T.map (fun r => r.t.c) else [])
 obtain ⟨W1, hW1⟩ := Zh (if ef = 0 then T.map (fun r => r.t.c) else [])
 simp only [← hW0.out] at CC
 rw [← hW1.out]
 have lfu : LA 9 #[Value.string fund] 0 (.string fund) := LA.one Zk rfl
 clear hR
 go_enter Tryz.func42, Tryz.ntmps42
 go_upto_region 2 with (first | (go_at_call 64; refine (CC _ _ HM.low (HM.get .here)).mono ?_; rintro e9 w2 ⟨⟨s, rfl, HS⟩, hL⟩; replace HM := HM.call hL; clear hL) | ((with_reducible refine g_bx ?_); refine a_bx HM ?_; clear HM; intro bk w1 HM))
 exact z9_155
theorem get_s (sv : Value) (L : List JR) (k : Int) (w : World) (hR : RdR w sv L) :
    Calls Tryz.prog 31 #[sv, .int .i64 k] w fun e w' => (∃ s, e = .returned (.tuple #[s, .int .i64 (Jb.err L k)]) ∧ Hid (RdS 6 w' s (if Jb.err L k = 0 then ((Jb.take L k (fun r => decide (r.kd = 6))).map fun r => r.s.c) else []))) ∧ Below w.heap.size w w' := by
 have HM := Mem.start w
 have CC := fun w' hB => jcol_s sv L k (fun r => decide (r.kd = 6)) w' (hR.below hB) (fun r v w'' _ hv => tk_s r v hv w'')
 generalize Jb.take L k (fun r => decide (r.kd = 6)) = T at *
 generalize Jb.err L k = e0 at *
 generalize (if e0 = 0 then T.map (fun r => r.s.c) else []) = W at *
 clear hR
 go_enter Tryz.func31, Tryz.ntmps31
 go_wp2_with (go_at_call 51; refine (CC _ HM.low).mono ?_; rintro e9 w2 ⟨⟨s, rfl, HS⟩, hL⟩; replace HM := HM.call hL; clear hL)
 go_ret2
 exact ⟨⟨s, rfl, HS⟩, HM.low⟩
end
section
theorem z9_185 {P : Prop} (h : P := by
 go_wp2_with (go_at_call 29; (with_reducible refine Zc HM (C1 _ HM.low) ?_; clear HM; intro w2 HM))
 go_ret2
 exact ⟨⟨_, rfl, Zi (RdS.nil0 _ _)⟩, HM.low⟩) : P := h
theorem z9_186 {P : Prop} (h : P := by
 go_roundw
 case rel => exact ⟨i + 1, O ++ [⟨r.day, a, a⟩], B9, by first | go_num | (rw [← ha2]; rfl) | (congr 1; omega), by omega, by simp; omega, HF2, Zi (by rw [List.map_append]; exact HSS), HM⟩
 case measure => simp [intOf]; omega) : P := h
theorem z9_187 {P : Prop} (h : P := by
 rw [List.getElem?_append_left (by rw [List.length_map, hul]; exact hjl), List.getElem?_map, Jb.upd_at hc]; rfl) : P := h
theorem z9_188 {P : Prop} (h : P := by
 have h := sa_rowone (T := 3) (n := 3) (a := 2) (v := .int .i64 a) Zk hz hk Zd rfl
 rw [JC.set2] at h
 exact h) : P := h
theorem z9_189 {P : Prop} (h : P := by
 rw [if_pos hd, if_pos hd, List.map_set, List.set_append_left _ _ (by rw [List.length_map, hul]; exact hjl)]) : P := h
theorem z9_190 {P : Prop} (h : P := by
 refine wpAnyL_done Zk ?_ _
 go_wp2_with ((with_reducible refine g_st ?_); refine a_st HM ?_; clear HM; intro w1 HM)
 go_roundw
 case rel => exact ⟨j + 1, by go_num, by omega, by rw [HU2.out]; exact HM⟩
 case measure => simp [intOf]; omega) : P := h
theorem z9_191 {P : Prop} (h : P := by
 refine wpAnyL_done Zk ?_ _
 go_wp2_with fail
 go_roundw
 case rel => exact ⟨j + 1, by go_num, by omega, by rw [HU2.out]; exact HM⟩
 case measure => simp [intOf]; omega) : P := h
end
section
open Jb
theorem jclos_any (sv : Value) (L : List JR) (k : Int) (w : World) (hR : RdR w sv L) :
    Calls Tryz.prog 11 #[sv, .int .i64 k] w fun e w' => (∃ s, e = .returned (.tuple #[s, .int .i64 (Jb.err L k)]) ∧ Hid (RdS 3 w' s (if Jb.err L k = 0 then (Jb.clos L k).map JC.c else []))) ∧ Below w.heap.size w w' := by
 have HM := Mem.start w
 have C1 := fun w' hB => jerr_any sv L k w' (hR.below hB)
 obtain ⟨A, cap, rfl⟩ := hR.form
 have HR := Zi hR
 by_cases he : Jb.err L k = 0
 case neg =>
  rw [if_neg he]
  generalize Jb.err L k = e0 at *
  have he1 : (e0 != 0) = true := bne_iff_ne.2 he
  clear hR HR
  go_enter Tryz.func11, Tryz.ntmps11
  exact z9_185
 case pos =>
  obtain ⟨hL, hk1, hk2⟩ := Jb.err_ok he
  rw [if_pos he]
  rw [he] at C1 ⊢
  obtain ⟨m, hm⟩ : ∃ m : Nat, m = min k.toNat L.length := ⟨_, rfl⟩
  have hmin : min k (L.length : Int) = (m : Int) := by omega
  rw [Jb.clos_min L k hm]
  obtain ⟨sv2, hrun, hrd⟩ := run_take hR.1 jr_el (k := m) (by rw [List.length_map]; omega)
  obtain ⟨A2, cap2, e2⟩ := RdS.form1 (hrd w hR.1)
  have hlen2 : ((L.map JR.c).take m).length = m := by rw [List.length_take, List.length_map]; omega
  rw [hlen2] at e2
  subst e2
  have HRUN := Zi hrun
  have HRD := Zi hrd
  have hmL : m ≤ L.length := by omega
  have hm4 : m ≤ 4096 := by omega
  obtain ⟨M, hM⟩ : ∃ M, M = L.take m := ⟨_, rfl⟩
  have hMl : M.length = m := by rw [hM, List.length_take]; omega
  have HMM := Zi hM
  obtain ⟨F, hF⟩ := Zh (Jb.clo (L.take m) 0 [])
  rw [← hF.out]
  rw [← hM] at hF
  have za0 := JR.za
  have elc := jc_el
  clear hR hrun hrd hm hlen2 he hk1 hk2 hM
  go_enter Tryz.func11, Tryz.ntmps11
  go_wp2_with (first | (go_at_call 29; (with_reducible refine Zc HM (C1 _ HM.low) ?_; clear HM; intro w2 HM)) | ((with_reducible refine g_sl ?_); refine a_sl ?_ (fun w9 => by simpa [Act.eval] using HRUN.out w9)))
  go_loopw [7, 24] (fun ov iv wr => ∃ (i : Nat) (O : List JC) (B : List (Nat × Array Value)), iv = .int .i64 (i : Nat) ∧ i ≤ m ∧ O.length ≤ i ∧ Hid (F = Jb.clo (M.drop i) i O) ∧ Hid (SlAt 3 ov (O.map JC.c) B) ∧ Mem w [] B wr) (fun _ iv _ => m - (intOf iv).toNat)
  case atStart => exact ⟨0, [], [], rfl, by omega, by simp, hF, Zi .nil, HM⟩
  case round =>
   clear HM hF
   obtain ⟨i, O, B, rfl, hi, hO, HF, HS, HM⟩ := hrel
   by_cases hlt : i < m
   ·have hlt1 : (i : Int) < m := by omega
    obtain ⟨r, hr⟩ : ∃ r, M[i]? = some r := ⟨_, List.getElem?_eq_getElem Zo⟩
    have hrL : L[i]? = some r := by have h := hr; rw [HMM.out, List.getElem?_take_of_lt hlt] at h; exact h
    obtain ⟨b, off, cs, cap', e9, hb9, hc9⟩ := RdS.get (HRD.out _ HR.out.1) (k := i) (c := r.c) (by rw [List.getElem?_take_of_lt hlt, List.getElem?_map, hrL]; rfl)
    injection e9 with e91 e92 e93
    subst e91
    have l0 : LA 59 cs (off + i * 189) (.agg r.c) := la_in (n := 189) Zk Zk r.size hc9 Zd
    have HB := Zi hb9
    have sx := r.sa JR.zero.size
    have lk := (JR.f_kd r).la
    have ld := (JR.f_day r).la
    have HS9 := Zi (HF.out.trans (Jb.clo_step hr O))
    clear hb9 hc9 e92 e93 hr hrL HF
    by_cases h7 : r.kd = 7
    ·have h71 : (r.kd == 7) = true := beq_iff_eq.2 h7
     obtain ⟨a, ha⟩ : ∃ a : Int, Hid (a = (i : Int) + 1) := ⟨_, Zi rfl⟩
     have ha2 : (i : Int) + 1 = a := ha.out.symm
     have HF2 : Hid (F = Jb.clo (M.drop (i + 1)) (i + 1) (O ++ [⟨r.day, a, a⟩])) := Zi (by rw [HS9.out, if_pos h7, show ((i + 1 : Nat) : Int) = a by rw [ha.out]; omega])
     have HBC := fun w => JC.build r.day a a w
     have zc : (JC.c ⟨r.day, a, a⟩).size = 3 := JC.size _
     have hone : ∀ c ∈ [JC.c ⟨r.day, a, a⟩], c.all (·.oneCell') = true := by simpa using JC.one _
     have hlen : (O.map JC.c).length ≤ 4096 := by rw [List.length_map]; omega
     clear h7 HS9
     go_wp2_with (first | ((with_reducible refine g_bld ?_); refine a_rbl (v := .agg (JC.c ⟨r.day, a, a⟩)) ?_ (hy := h_bg3 rfl Zw Zw Zw (by with_reducible exact (HBC)))) | ((with_reducible refine g_bs1 ?_); refine a_bs1 (c0 := JC.c ⟨r.day, a, a⟩) HM ?_ (z0 := zc); clear HM; intro b9 w9 HM) | ((with_reducible refine g_app ?_); refine a_app (m := [JC.c ⟨r.day, a, a⟩]) (F := fun X => X) HM HS.out ((SlAt.made1 b9 zc).rd HM Zs) ?_ hone (hlen := by simp only [List.length_singleton]; omega); clear HM; intro s9 B9 w9 HSS HM) | ((with_reducible refine g_ld ?_); refine a_ld HM ?_) | ((with_reducible refine g_st ?_); refine a_st HM ?_; clear HM; intro w1 HM) | ((with_reducible refine g_al ?_); refine a_al HM ?_; clear HM; intro bk w1 HM))
     exact z9_186
    ·have h71 : (r.kd == 7) = false := Zb h7
     by_cases h8 : r.kd = 8
     case neg =>
      have h81 : (r.kd == 8) = false := Zb h8
      have HF2 : Hid (F = Jb.clo (M.drop (i + 1)) (i + 1) O) := Zi (by rw [HS9.out, if_neg h7, if_neg h8])
      clear h7 h8 HS9
      go_wp2_with (first | ((with_reducible refine g_ld ?_); refine a_ld HM ?_) | ((with_reducible refine g_st ?_); refine a_st HM ?_; clear HM; intro w1 HM) | ((with_reducible refine g_al ?_); refine a_al HM ?_; clear HM; intro bk w1 HM))
      go_roundw
      case rel => exact ⟨i + 1, O, B, by go_num, by omega, by omega, HF2, HS, HM.tail⟩
      case measure => simp [intOf]; omega
     case pos =>
      have h81 : (r.kd == 8) = true := beq_iff_eq.2 h8
      obtain ⟨a, ha⟩ : ∃ a : Int, Hid (a = (i : Int) + 1) := ⟨_, Zi rfl⟩
      have ha2 : (i : Int) + 1 = a := ha.out.symm
      have HF2 : Hid (F = Jb.clo (M.drop (i + 1)) (i + 1) (O.map (Jb.cor r.day a))) := Zi (by rw [HS9.out, if_neg h7, if_pos h8, show ((i + 1 : Nat) : Int) = a by rw [ha.out]; omega])
      clear h7 h8 HS9
      by_cases hO0 : O = []
      case pos =>
       subst hO0
       obtain ⟨A0, cap0, rfl, -⟩ := HS.out.val
       go_wp2_with (first | ((with_reducible refine g_ld ?_); refine a_ld HM ?_) | ((with_reducible refine g_st ?_); refine a_st HM ?_; clear HM; intro w1 HM) | ((with_reducible refine g_al ?_); refine a_al HM ?_; clear HM; intro bk w1 HM))
       obtain ⟨br, rfl⟩ := HM.nm0
       go_loopw [47] (fun jv wr => jv = .int .i64 0 ∧ Mem w [] ((br, r.c) :: B) wr) (fun _ _ => 0)
       case atStart => exact ⟨rfl, HM⟩
       case round =>
        clear HM
        obtain ⟨rfl, HM⟩ := hrel
        go_wp2_with fail
        go_roundw
        case rel => exact ⟨i + 1, [], B, by go_num, by omega, by simp, HF2, HS, HM.tail⟩
        case measure => simp [intOf]; omega
      case neg =>
       obtain ⟨bo, sp, e1, e2, hsz⟩ := SlAt.inv (l := O.map JC.c) HS.out (by simpa using hO0)
       rw [List.length_map] at e1
       subst e1 e2
       have hsp : ∀ c ∈ sp, c.size = 3 := fun c hc => hsz c (List.mem_append_right _ hc)
       have HSP := Zi hsp
       clear hsz HS hO0 hsp
       go_wp2_with (first | ((with_reducible refine g_ld ?_); refine a_ld HM ?_) | ((with_reducible refine g_st ?_); refine a_st HM ?_; clear HM; intro w1 HM) | ((with_reducible refine g_al ?_); refine a_al HM ?_; clear HM; intro bk w1 HM))
       obtain ⟨br, rfl⟩ := HM.nm0
       go_loopw [47] (fun jv wr => ∃ j : Nat, jv = .int .i64 (j : Nat) ∧ j ≤ O.length ∧ Mem w [] [(br, r.c), (bo, rowsOf ((Jb.upd r.day a O j).map JC.c ++ sp))] wr) (fun jv _ => O.length - (intOf jv).toNat)
       case atStart => exact ⟨0, rfl, by omega, by rw [Jb.upd_0]; exact HM⟩
       case round =>
        clear HM
        obtain ⟨j, rfl, hj, HM⟩ := hrel
        by_cases hjl : j < O.length
        ·have hjl1 : (j : Int) < O.length := by omega
         obtain ⟨c, hc⟩ : ∃ c, O[j]? = some c := ⟨_, List.getElem?_eq_getElem hjl⟩
         have hul := Jb.upd_len r.day a O hj
         have hz : ∀ x ∈ (Jb.upd r.day a O j).map JC.c ++ sp, x.size = 3 := fun x hx => by
          rcases List.mem_append.1 hx with h | h
          ·exact JC.sizes _ x h
          ·exact HSP.out x h
         have hk : ((Jb.upd r.day a O j).map JC.c ++ sp)[j]? = some c.c := by
          exact z9_187
         have l1 : LA 3 (rowsOf ((Jb.upd r.day a O j).map JC.c ++ sp)) (j * 3 + 0) (.int .i64 c.day) := la_rowone Zk hz hk Zd c.at0
         rw [Nat.add_zero] at l1
         have s2 : SA 3 (rowsOf ((Jb.upd r.day a O j).map JC.c ++ sp)) (j * 3 + 2) (.int .i64 a) (rowsOf (((Jb.upd r.day a O j).map JC.c ++ sp).set j (JC.c { c with as_ := a }))) := by
          exact z9_188
         have HU : Hid ((Jb.upd r.day a O (j + 1)).map JC.c ++ sp = if r.day ≤ c.day then ((Jb.upd r.day a O j).map JC.c ++ sp).set j (JC.c { c with as_ := a }) else (Jb.upd r.day a O j).map JC.c ++ sp) := Zi (by
          rw [Jb.upd_step hc]
          unfold Jb.cor
          by_cases hd : r.day ≤ c.day
          ·exact z9_189
          ·rw [if_neg hd, if_neg hd, Jb.set_same (Jb.upd_at hc)])
         clear hz hk hc hul
         by_cases hd : r.day ≤ c.day
         ·have hd1 : decide (r.day ≤ c.day) = true := Zt hd
          have HU2 := Zi (HU.out.trans (if_pos hd))
          clear hd HU
          go_upto_region 15 with fail
          refine start_M [] HM Zk (fun w0x H9 => ?_)
          replace HM := H9; clear H9
          refine k_mv 0 (heldE HM) ?_
          refine k_mv 1 (heldE HM) ?_
          refine k_ia 2 (heldE HM) ?_
          refine k_fa 3 (heldE HM) ?_
          refine k_ld 4 [] (heldE HM) ?_
          refine k_fa 5 (heldE HM) ?_
          refine k_ld 6 [] (heldE HM) ?_
          refine k_bin 7 (heldE HM) ?_
          exact z9_190
         ·have hd1 : decide (r.day ≤ c.day) = false := Zf hd
          have HU2 := Zi (HU.out.trans (if_neg hd))
          clear hd HU s2
          go_upto_region 15 with fail
          refine start_M [] HM Zk (fun w0x H9 => ?_)
          replace HM := H9; clear H9
          refine k_mv 0 (heldE HM) ?_
          refine k_mv 1 (heldE HM) ?_
          refine k_ia 2 (heldE HM) ?_
          refine k_fa 3 (heldE HM) ?_
          refine k_ld 4 [] (heldE HM) ?_
          refine k_fa 5 (heldE HM) ?_
          refine k_ld 6 [] (heldE HM) ?_
          refine k_bin 7 (heldE HM) ?_
          exact z9_191
        ·obtain rfl : j = O.length := by omega
         have HS3 : Hid (SlAt 3 (.slice (some ⟨bo, 0, none⟩) O.length (O.length + sp.length)) ((O.map (Jb.cor r.day a)).map JC.c) [(bo, rowsOf ((O.map (Jb.cor r.day a)).map JC.c ++ sp))]) := Zi (by
          have h := SlAt.row (n := 3) bo ((O.map (Jb.cor r.day a)).map JC.c) sp (fun x hx => by
           rcases List.mem_append.1 hx with h | h
           ·exact JC.sizes _ x h
           ·exact HSP.out x h)
          rw [List.length_map, List.length_map] at h
          exact h)
         rw [Jb.upd_all] at HM
         go_wp2_with fail
         go_roundw
         case rel => exact ⟨i + 1, O.map (Jb.cor r.day a), _, by first | go_num | (congr 1; omega), by omega, by simp; omega, HF2, HS3, HM.tail⟩
         case measure => simp [intOf]; omega
   ·obtain rfl : i = m := by omega
    have HF2 : Hid (F = O) := Zi (by rw [HF.out]; exact Jb.clo_end Zo O)
    go_wp2_with fail
    go_ret2
    refine ⟨⟨_, rfl, Zi ?_⟩, HM.low⟩
    rw [HF2.out]
    exact HS.out.rd HM (fun p hp => hp)
end
end Go.Proofs.YtkiempioeffhbaaGreatDoor
