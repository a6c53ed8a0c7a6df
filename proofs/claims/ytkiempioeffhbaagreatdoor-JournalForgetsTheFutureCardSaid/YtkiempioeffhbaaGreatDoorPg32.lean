/- Walks. -/
import Derived.Test.YtkiempioeffhbaaGreatDoorPg31
namespace Go.Proofs.YtkiempioeffhbaaGreatDoor
set_option maxHeartbeats 16000000
open Go.RowKit
set_option maxRecDepth 8000
set_option linter.unusedSimpArgs false
set_option linter.unusedVariables false
section
theorem z9_101 {P : Prop} (h : P := by
 go_wp2_with (go_at_call 29; (with_reducible refine Zc HM (C1 _ HM.low) ?_; clear HM; intro w2 HM))
 go_ret2
 exact ⟨⟨_, rfl, Zi (RdS.nil0 _ _)⟩, HM.low⟩) : P := h
theorem z9_102 {P : Prop} (h : P := by
 obtain rfl : i = m := by omega
 go_wp2_with fail
 go_ret2
 exact ⟨⟨_, rfl, Zi (HS.out.rd HM (fun p hp => hp))⟩, HM.low⟩) : P := h
end
section
open Jb
theorem jcol_q (sv : Value) (L : List JR) (k : Int) (sel : JR → Bool) (w : World) (hR : RdR w sv L) (hT : ∀ (r : JR) (v : Bool) (w' : World), Below w.heap.size w w' → v = sel r → Calls Tryz.prog 57 #[.agg r.c] w' fun e w'' => e = .returned (.tuple #[.agg r.q.c, .bool v]) ∧ Below w'.heap.size w' w'') :
    Calls Tryz.prog 56 #[sv, .int .i64 k, .func (.func 57) #[] #[]] w fun e w' => (∃ s, e = .returned (.tuple #[s, .int .i64 (Jb.err L k)]) ∧ Hid (RdS 72 w' s (if Jb.err L k = 0 then ((Jb.take L k sel).map fun r => r.q.c) else []))) ∧ Below w.heap.size w w' := by
 have HM := Mem.start w
 have C1 := fun w' hB => jerr_any sv L k w' (hR.below hB)
 obtain ⟨A, cap, rfl⟩ := hR.form
 have HR := Zi hR
 have HT := Zi hT
 by_cases he : Jb.err L k = 0
 case neg =>
  rw [if_neg he]
  generalize Jb.err L k = e0 at *
  have he1 : (e0 != 0) = true := bne_iff_ne.2 he
  clear hR hT HR HT
  go_enter Tryz.func56, Tryz.ntmps56
  exact z9_101
 case pos =>
  obtain ⟨hL, hk1, hk2⟩ := Jb.err_ok he
  rw [if_pos he]
  rw [he] at C1 ⊢
  obtain ⟨m, hm⟩ : ∃ m : Nat, m = min k.toNat L.length := ⟨_, rfl⟩
  have hmin : min k (L.length : Int) = (m : Int) := by omega
  rw [Jb.take_min L k sel hm]
  obtain ⟨sv2, hrun, hrd⟩ := run_take hR.1 jr_el (k := m) (by rw [List.length_map]; omega)
  obtain ⟨A2, cap2, e2⟩ := RdS.form1 (hrd w hR.1)
  have hlen2 : ((L.map JR.c).take m).length = m := by rw [List.length_take, List.length_map]; omega
  rw [hlen2] at e2
  subst e2
  have HRUN := Zi hrun
  have HRD := Zi hrd
  have hmL : m ≤ L.length := by omega
  have hm4 : m ≤ 4096 := by omega
  have za0 := JR.za
  have zaT := JQ.za
  have elT : elemB 115 45 72 336 = true := by kernel_rfl
  clear hR hT hrun hrd hm hlen2 he hk1 hk2
  go_enter Tryz.func56, Tryz.ntmps56
  go_wp2_with (first | (go_at_call 29; (with_reducible refine Zc HM (C1 _ HM.low) ?_; clear HM; intro w2 HM)) | ((with_reducible refine g_sl ?_); refine a_sl ?_ (fun w9 => by simpa [Act.eval] using HRUN.out w9)))
  go_loopw [9, 27] (fun ov iv wr => ∃ (i : Nat) (B : List (Nat × Array Value)), iv = .int .i64 (i : Nat) ∧ i ≤ m ∧ Hid (SlAt 72 ov (((L.take i).filter sel).map fun r => r.q.c) B) ∧ Mem w [] B wr) (fun _ iv _ => m - (intOf iv).toNat)
  case atStart => exact ⟨0, [], rfl, by omega, Zi .nil, HM⟩
  case round =>
   clear HM
   obtain ⟨i, B, rfl, hi, HS, HM⟩ := hrel
   by_cases hlt : i < m
   ·have hlt1 : (i : Int) < m := by omega
    obtain ⟨r, hr⟩ : ∃ r, L[i]? = some r := ⟨_, List.getElem?_eq_getElem Zo⟩
    obtain ⟨b, off, cs, cap', e9, hb9, hc9⟩ := RdS.get (HRD.out _ HR.out.1) (k := i) (c := r.c) (by rw [List.getElem?_take_of_lt hlt, List.getElem?_map, hr]; rfl)
    injection e9 with e91 e92 e93
    subst e91
    have l0 : LA 59 cs (off + i * 189) (.agg r.c) := la_in (n := 189) Zk Zk r.size hc9 Zd
    have HB := Zi hb9
    have sx := r.sa JR.zero.size
    have lx := r.la
    have sT := r.q.sa JQ.zero.size
    have lT := r.q.la
    have zT := JQ.size r.q
    have oT := JQ.one r.q
    have HST := Zi (Jb.filt_step L sel (fun r => r.q.c) hr)
    have hlen := Jb.filt_len L sel (fun r => r.q.c) (i := i) Zo
    clear hb9 hc9 e92 e93
    cases hs : sel r with
    | true =>
     have T1 := fun w' hB => HT.out r true w' hB hs.symm
     have HST2 : Hid (((L.take (i + 1)).filter sel).map (fun r => r.q.c) = ((L.take i).filter sel).map (fun r => r.q.c) ++ [r.q.c]) := Zi (by rw [HST.out, hs]; rfl)
     have hone : ∀ c ∈ [r.q.c], c.all (·.oneCell') = true := by simpa using oT
     clear hs hr HST
     go_wp2_with (first | (go_at_call 57; (with_reducible refine Zc HM (T1 _ HM.low) ?_; clear HM; intro w2 HM)) | ((with_reducible refine g_bs1 ?_); refine a_bs1 (c0 := r.q.c) HM ?_ (z0 := zT); clear HM; intro b9 w9 HM) | ((with_reducible refine g_app ?_); refine a_app (m := [r.q.c]) (F := fun X => X) HM HS.out ((SlAt.made1 b9 zT).rd HM Zs) ?_ hone (hlen := by simp only [List.length_singleton]; omega); clear HM; intro s9 B9 w9 HS9 HM) | ((with_reducible refine g_ld ?_); refine a_ld HM ?_) | ((with_reducible refine g_st ?_); refine a_st HM ?_; clear HM; intro w1 HM) | ((with_reducible refine g_al ?_); refine a_al HM ?_; clear HM; intro bk w1 HM))
     go_roundw
     case rel => exact ⟨i + 1, B9, by go_num, by omega, Zi (by rw [HST2.out]; exact HS9), HM⟩
     case measure => simp [intOf]; omega
    | false =>
     have T1 := fun w' hB => HT.out r false w' hB hs.symm
     have HST2 : Hid (((L.take (i + 1)).filter sel).map (fun r => r.q.c) = ((L.take i).filter sel).map (fun r => r.q.c)) := Zi (by rw [HST.out, hs]; simp)
     clear hs hr HST
     go_wp2_with (first | (go_at_call 57; (with_reducible refine Zc HM (T1 _ HM.low) ?_; clear HM; intro w2 HM)) | ((with_reducible refine g_ld ?_); refine a_ld HM ?_) | ((with_reducible refine g_st ?_); refine a_st HM ?_; clear HM; intro w1 HM) | ((with_reducible refine g_al ?_); refine a_al HM ?_; clear HM; intro bk w1 HM))
     go_roundw
     case rel => exact ⟨i + 1, B, by go_num, by omega, Zi (by rw [HST2.out]; exact HS.out), HM.tail.tail⟩
     case measure => simp [intOf]; omega
   ·exact z9_102
theorem jcol_o (sv : Value) (L : List JR) (k : Int) (sel : JR → Bool) (w : World) (hR : RdR w sv L) (hT : ∀ (r : JR) (v : Bool) (w' : World), Below w.heap.size w w' → v = sel r → Calls Tryz.prog 33 #[.agg r.c] w' fun e w'' => e = .returned (.tuple #[.agg r.o.c, .bool v]) ∧ Below w'.heap.size w' w'') :
    Calls Tryz.prog 32 #[sv, .int .i64 k, .func (.func 33) #[] #[]] w fun e w' => (∃ s, e = .returned (.tuple #[s, .int .i64 (Jb.err L k)]) ∧ Hid (RdS 11 w' s (if Jb.err L k = 0 then ((Jb.take L k sel).map fun r => r.o.c) else []))) ∧ Below w.heap.size w w' := by
 have HM := Mem.start w
 have C1 := fun w' hB => jerr_any sv L k w' (hR.below hB)
 obtain ⟨A, cap, rfl⟩ := hR.form
 have HR := Zi hR
 have HT := Zi hT
 by_cases he : Jb.err L k = 0
 case neg =>
  rw [if_neg he]
  generalize Jb.err L k = e0 at *
  have he1 : (e0 != 0) = true := bne_iff_ne.2 he
  clear hR hT HR HT
  go_enter Tryz.func32, Tryz.ntmps32
  exact z9_101
 case pos =>
  obtain ⟨hL, hk1, hk2⟩ := Jb.err_ok he
  rw [if_pos he]
  rw [he] at C1 ⊢
  obtain ⟨m, hm⟩ : ∃ m : Nat, m = min k.toNat L.length := ⟨_, rfl⟩
  have hmin : min k (L.length : Int) = (m : Int) := by omega
  rw [Jb.take_min L k sel hm]
  obtain ⟨sv2, hrun, hrd⟩ := run_take hR.1 jr_el (k := m) (by rw [List.length_map]; omega)
  obtain ⟨A2, cap2, e2⟩ := RdS.form1 (hrd w hR.1)
  have hlen2 : ((L.map JR.c).take m).length = m := by rw [List.length_take, List.length_map]; omega
  rw [hlen2] at e2
  subst e2
  have HRUN := Zi hrun
  have HRD := Zi hrd
  have hmL : m ≤ L.length := by omega
  have hm4 : m ≤ 4096 := by omega
  have za0 := JR.za
  have zaT := JO.za
  have elT : elemB 64 53 11 128 = true := by kernel_rfl
  clear hR hT hrun hrd hm hlen2 he hk1 hk2
  go_enter Tryz.func32, Tryz.ntmps32
  go_wp2_with (first | (go_at_call 29; (with_reducible refine Zc HM (C1 _ HM.low) ?_; clear HM; intro w2 HM)) | ((with_reducible refine g_sl ?_); refine a_sl ?_ (fun w9 => by simpa [Act.eval] using HRUN.out w9)))
  go_loopw [9, 27] (fun ov iv wr => ∃ (i : Nat) (B : List (Nat × Array Value)), iv = .int .i64 (i : Nat) ∧ i ≤ m ∧ Hid (SlAt 11 ov (((L.take i).filter sel).map fun r => r.o.c) B) ∧ Mem w [] B wr) (fun _ iv _ => m - (intOf iv).toNat)
  case atStart => exact ⟨0, [], rfl, by omega, Zi .nil, HM⟩
  case round =>
   clear HM
   obtain ⟨i, B, rfl, hi, HS, HM⟩ := hrel
   by_cases hlt : i < m
   ·have hlt1 : (i : Int) < m := by omega
    obtain ⟨r, hr⟩ : ∃ r, L[i]? = some r := ⟨_, List.getElem?_eq_getElem Zo⟩
    obtain ⟨b, off, cs, cap', e9, hb9, hc9⟩ := RdS.get (HRD.out _ HR.out.1) (k := i) (c := r.c) (by rw [List.getElem?_take_of_lt hlt, List.getElem?_map, hr]; rfl)
    injection e9 with e91 e92 e93
    subst e91
    have l0 : LA 59 cs (off + i * 189) (.agg r.c) := la_in (n := 189) Zk Zk r.size hc9 Zd
    have HB := Zi hb9
    have sx := r.sa JR.zero.size
    have lx := r.la
    have sT := r.o.sa JO.zero.size
    have lT := r.o.la
    have zT := JO.size r.o
    have oT := JO.one r.o
    have HST := Zi (Jb.filt_step L sel (fun r => r.o.c) hr)
    have hlen := Jb.filt_len L sel (fun r => r.o.c) (i := i) Zo
    clear hb9 hc9 e92 e93
    cases hs : sel r with
    | true =>
     have T1 := fun w' hB => HT.out r true w' hB hs.symm
     have HST2 : Hid (((L.take (i + 1)).filter sel).map (fun r => r.o.c) = ((L.take i).filter sel).map (fun r => r.o.c) ++ [r.o.c]) := Zi (by rw [HST.out, hs]; rfl)
     have hone : ∀ c ∈ [r.o.c], c.all (·.oneCell') = true := by simpa using oT
     clear hs hr HST
     go_wp2_with (first | (go_at_call 33; (with_reducible refine Zc HM (T1 _ HM.low) ?_; clear HM; intro w2 HM)) | ((with_reducible refine g_bs1 ?_); refine a_bs1 (c0 := r.o.c) HM ?_ (z0 := zT); clear HM; intro b9 w9 HM) | ((with_reducible refine g_app ?_); refine a_app (m := [r.o.c]) (F := fun X => X) HM HS.out ((SlAt.made1 b9 zT).rd HM Zs) ?_ hone (hlen := by simp only [List.length_singleton]; omega); clear HM; intro s9 B9 w9 HS9 HM) | ((with_reducible refine g_ld ?_); refine a_ld HM ?_) | ((with_reducible refine g_st ?_); refine a_st HM ?_; clear HM; intro w1 HM) | ((with_reducible refine g_al ?_); refine a_al HM ?_; clear HM; intro bk w1 HM))
     go_roundw
     case rel => exact ⟨i + 1, B9, by go_num, by omega, Zi (by rw [HST2.out]; exact HS9), HM⟩
     case measure => simp [intOf]; omega
    | false =>
     have T1 := fun w' hB => HT.out r false w' hB hs.symm
     have HST2 : Hid (((L.take (i + 1)).filter sel).map (fun r => r.o.c) = ((L.take i).filter sel).map (fun r => r.o.c)) := Zi (by rw [HST.out, hs]; simp)
     clear hs hr HST
     go_wp2_with (first | (go_at_call 33; (with_reducible refine Zc HM (T1 _ HM.low) ?_; clear HM; intro w2 HM)) | ((with_reducible refine g_ld ?_); refine a_ld HM ?_) | ((with_reducible refine g_st ?_); refine a_st HM ?_; clear HM; intro w1 HM) | ((with_reducible refine g_al ?_); refine a_al HM ?_; clear HM; intro bk w1 HM))
     go_roundw
     case rel => exact ⟨i + 1, B, by go_num, by omega, Zi (by rw [HST2.out]; exact HS.out), HM.tail.tail⟩
     case measure => simp [intOf]; omega
   ·exact z9_102
theorem jcol_s (sv : Value) (L : List JR) (k : Int) (sel : JR → Bool) (w : World) (hR : RdR w sv L) (hT : ∀ (r : JR) (v : Bool) (w' : World), Below w.heap.size w w' → v = sel r → Calls Tryz.prog 52 #[.agg r.c] w' fun e w'' => e = .returned (.tuple #[.agg r.s.c, .bool v]) ∧ Below w'.heap.size w' w'') :
    Calls Tryz.prog 51 #[sv, .int .i64 k, .func (.func 52) #[] #[]] w fun e w' => (∃ s, e = .returned (.tuple #[s, .int .i64 (Jb.err L k)]) ∧ Hid (RdS 6 w' s (if Jb.err L k = 0 then ((Jb.take L k sel).map fun r => r.s.c) else []))) ∧ Below w.heap.size w w' := by
 have HM := Mem.start w
 have C1 := fun w' hB => jerr_any sv L k w' (hR.below hB)
 obtain ⟨A, cap, rfl⟩ := hR.form
 have HR := Zi hR
 have HT := Zi hT
 by_cases he : Jb.err L k = 0
 case neg =>
  rw [if_neg he]
  generalize Jb.err L k = e0 at *
  have he1 : (e0 != 0) = true := bne_iff_ne.2 he
  clear hR hT HR HT
  go_enter Tryz.func51, Tryz.ntmps51
  exact z9_101
 case pos =>
  obtain ⟨hL, hk1, hk2⟩ := Jb.err_ok he
  rw [if_pos he]
  rw [he] at C1 ⊢
  obtain ⟨m, hm⟩ : ∃ m : Nat, m = min k.toNat L.length := ⟨_, rfl⟩
  have hmin : min k (L.length : Int) = (m : Int) := by omega
  rw [Jb.take_min L k sel hm]
  obtain ⟨sv2, hrun, hrd⟩ := run_take hR.1 jr_el (k := m) (by rw [List.length_map]; omega)
  obtain ⟨A2, cap2, e2⟩ := RdS.form1 (hrd w hR.1)
  have hlen2 : ((L.map JR.c).take m).length = m := by rw [List.length_take, List.length_map]; omega
  rw [hlen2] at e2
  subst e2
  have HRUN := Zi hrun
  have HRD := Zi hrd
  have hmL : m ≤ L.length := by omega
  have hm4 : m ≤ 4096 := by omega
  have za0 := JR.za
  have zaT := JS.za
  have elT : elemB 109 57 6 64 = true := by kernel_rfl
  clear hR hT hrun hrd hm hlen2 he hk1 hk2
  go_enter Tryz.func51, Tryz.ntmps51
  go_wp2_with (first | (go_at_call 29; (with_reducible refine Zc HM (C1 _ HM.low) ?_; clear HM; intro w2 HM)) | ((with_reducible refine g_sl ?_); refine a_sl ?_ (fun w9 => by simpa [Act.eval] using HRUN.out w9)))
  go_loopw [9, 27] (fun ov iv wr => ∃ (i : Nat) (B : List (Nat × Array Value)), iv = .int .i64 (i : Nat) ∧ i ≤ m ∧ Hid (SlAt 6 ov (((L.take i).filter sel).map fun r => r.s.c) B) ∧ Mem w [] B wr) (fun _ iv _ => m - (intOf iv).toNat)
  case atStart => exact ⟨0, [], rfl, by omega, Zi .nil, HM⟩
  case round =>
   clear HM
   obtain ⟨i, B, rfl, hi, HS, HM⟩ := hrel
   by_cases hlt : i < m
   ·have hlt1 : (i : Int) < m := by omega
    obtain ⟨r, hr⟩ : ∃ r, L[i]? = some r := ⟨_, List.getElem?_eq_getElem Zo⟩
    obtain ⟨b, off, cs, cap', e9, hb9, hc9⟩ := RdS.get (HRD.out _ HR.out.1) (k := i) (c := r.c) (by rw [List.getElem?_take_of_lt hlt, List.getElem?_map, hr]; rfl)
    injection e9 with e91 e92 e93
    subst e91
    have l0 : LA 59 cs (off + i * 189) (.agg r.c) := la_in (n := 189) Zk Zk r.size hc9 Zd
    have HB := Zi hb9
    have sx := r.sa JR.zero.size
    have lx := r.la
    have sT := r.s.sa JS.zero.size
    have lT := r.s.la
    have zT := JS.size r.s
    have oT := JS.one r.s
    have HST := Zi (Jb.filt_step L sel (fun r => r.s.c) hr)
    have hlen := Jb.filt_len L sel (fun r => r.s.c) (i := i) Zo
    clear hb9 hc9 e92 e93
    cases hs : sel r with
    | true =>
     have T1 := fun w' hB => HT.out r true w' hB hs.symm
     have HST2 : Hid (((L.take (i + 1)).filter sel).map (fun r => r.s.c) = ((L.take i).filter sel).map (fun r => r.s.c) ++ [r.s.c]) := Zi (by rw [HST.out, hs]; rfl)
     have hone : ∀ c ∈ [r.s.c], c.all (·.oneCell') = true := by simpa using oT
     clear hs hr HST
     go_wp2_with (first | (go_at_call 52; (with_reducible refine Zc HM (T1 _ HM.low) ?_; clear HM; intro w2 HM)) | ((with_reducible refine g_bs1 ?_); refine a_bs1 (c0 := r.s.c) HM ?_ (z0 := zT); clear HM; intro b9 w9 HM) | ((with_reducible refine g_app ?_); refine a_app (m := [r.s.c]) (F := fun X => X) HM HS.out ((SlAt.made1 b9 zT).rd HM Zs) ?_ hone (hlen := by simp only [List.length_singleton]; omega); clear HM; intro s9 B9 w9 HS9 HM) | ((with_reducible refine g_ld ?_); refine a_ld HM ?_) | ((with_reducible refine g_st ?_); refine a_st HM ?_; clear HM; intro w1 HM) | ((with_reducible refine g_al ?_); refine a_al HM ?_; clear HM; intro bk w1 HM))
     go_roundw
     case rel => exact ⟨i + 1, B9, by go_num, by omega, Zi (by rw [HST2.out]; exact HS9), HM⟩
     case measure => simp [intOf]; omega
    | false =>
     have T1 := fun w' hB => HT.out r false w' hB hs.symm
     have HST2 : Hid (((L.take (i + 1)).filter sel).map (fun r => r.s.c) = ((L.take i).filter sel).map (fun r => r.s.c)) := Zi (by rw [HST.out, hs]; simp)
     clear hs hr HST
     go_wp2_with (first | (go_at_call 52; (with_reducible refine Zc HM (T1 _ HM.low) ?_; clear HM; intro w2 HM)) | ((with_reducible refine g_ld ?_); refine a_ld HM ?_) | ((with_reducible refine g_st ?_); refine a_st HM ?_; clear HM; intro w1 HM) | ((with_reducible refine g_al ?_); refine a_al HM ?_; clear HM; intro bk w1 HM))
     go_roundw
     case rel => exact ⟨i + 1, B, by go_num, by omega, Zi (by rw [HST2.out]; exact HS.out), HM.tail.tail⟩
     case measure => simp [intOf]; omega
   ·exact z9_102
end
section
open Jb
theorem get_o (sv : Value) (L : List JR) (k : Int) (w : World) (hR : RdR w sv L) :
    Calls Tryz.prog 13 #[sv, .int .i64 k] w fun e w' => (∃ s, e = .returned (.tuple #[s, .int .i64 (Jb.err L k)]) ∧ Hid (RdS 11 w' s (if Jb.err L k = 0 then ((Jb.take L k (fun r => decide (r.kd = 4))).map fun r => r.o.c) else []))) ∧ Below w.heap.size w w' := by
 have HM := Mem.start w
 have CC := fun w' hB => jcol_o sv L k (fun r => decide (r.kd = 4)) w' (hR.below hB) (fun r v w'' _ hv => tk_o r v hv w'')
 generalize Jb.take L k (fun r => decide (r.kd = 4)) = T at *
 generalize Jb.err L k = e0 at *
 generalize (if e0 = 0 then T.map (fun r => r.o.c) else []) = W at *
 clear hR
 go_enter Tryz.func13, Tryz.ntmps13
 go_wp2_with (go_at_call 32; refine (CC _ HM.low).mono ?_; rintro e9 w2 ⟨⟨s, rfl, HS⟩, hL⟩; replace HM := HM.call hL; clear hL)
 go_ret2
 exact ⟨⟨s, rfl, HS⟩, HM.low⟩
theorem get_s (sv : Value) (L : List JR) (k : Int) (w : World) (hR : RdR w sv L) :
    Calls Tryz.prog 31 #[sv, .int .i64 k] w fun e w' => (∃ s, e = .returned (.tuple #[s, .int .i64 (Jb.err L k)]) ∧ Hid (RdS 6 w' s (if Jb.err L k = 0 then ((Jb.take L k (fun r => decide (r.kd = 6))).map fun r => r.s.c) else []))) ∧ Below w.heap.size w w' := by
 have HM := Mem.start w
 have CC := fun w' hB => jcol_s sv L k (fun r => decide (r.kd = 6)) w' (hR.below hB) (fun r v w'' _ hv => tk_s r v hv w'')
 generalize Jb.take L k (fun r => decide (r.kd = 6)) = T at *
 generalize Jb.err L k = e0 at *
 generalize (if e0 = 0 then T.map (fun r => r.s.c) else []) = W at *
 clear hR
 go_enter Tryz.func31, Tryz.ntmps31
 go_wp2_with (go_at_call 51; refine (CC _ HM.low).mono ?_; rintro e9 w2 ⟨⟨s, rfl, HS⟩, hL⟩; replace HM := HM.call hL; clear hL)
 go_ret2
 exact ⟨⟨s, rfl, HS⟩, HM.low⟩
end
section
open Jb
def JR.onlyD (x : JR) : JR := { x.only with fnd := if x.kd = 3 then x.fnd else { data := #[] } }
end
section
open Jb
theorem Jb.take_len {L : List JR} {k : Int} {p : JR → Bool} (h : L.length ≤ 4096) : (Jb.take L k p).length ≤ 4096 := by
 unfold Jb.take
 refine Nat.le_trans (List.length_filter_le _ _) ?_
 rw [List.length_take]; omega
end
section
namespace Jb
def cor (d a : Int) (c : JC) : JC := if d ≤ c.day then { c with as_ := a } else c
def upd (d a : Int) (O : List JC) (j : Nat) : List JC := (O.take j).map (cor d a) ++ O.drop j
theorem upd_0 (d a : Int) (O : List JC) : upd d a O 0 = O := by simp [upd]
theorem upd_all (d a : Int) (O : List JC) : upd d a O O.length = O.map (cor d a) := by simp [upd]
theorem upd_len (d a : Int) (O : List JC) {j : Nat} (h : j ≤ O.length) : (upd d a O j).length = O.length := by simp [upd]; omega
theorem upd_at {d a : Int} {O : List JC} {j : Nat} {c : JC} (h : O[j]? = some c) : (upd d a O j)[j]? = some c := by
 have hj := (List.getElem?_eq_some_iff.1 h).1
 unfold upd
 rw [List.getElem?_append_right (by simp; omega)]
 simp [Nat.min_eq_left (Nat.le_of_lt hj), h]
theorem upd_step {d a : Int} {O : List JC} {j : Nat} {c : JC} (h : O[j]? = some c) : upd d a O (j + 1) = (upd d a O j).set j (cor d a c) := by
 obtain ⟨hj, e⟩ := List.getElem?_eq_some_iff.1 h
 unfold upd
 rw [List.take_add_one, h, List.set_append_right _ _ (by simp; omega), List.drop_eq_getElem_cons hj, e]
 simp [Nat.min_eq_left (Nat.le_of_lt hj)]
theorem set_same {α : Type} {l : List α} {j : Nat} {c : α} (h : l[j]? = some c) : l.set j c = l := by
 obtain ⟨hj, e⟩ := List.getElem?_eq_some_iff.1 h
 rw [← e]; exact List.set_getElem_self hj
theorem clo_step {M : List JR} {i : Nat} {r : JR} (h : M[i]? = some r) (O : List JC) : clo (M.drop i) i O = if r.kd = 7 then clo (M.drop (i + 1)) (i + 1) (O ++ [⟨r.day, ((i + 1 : Nat) : Int), ((i + 1 : Nat) : Int)⟩]) else if r.kd = 8 then clo (M.drop (i + 1)) (i + 1) (O.map (cor r.day ((i + 1 : Nat) : Int))) else clo (M.drop (i + 1)) (i + 1) O := by
 obtain ⟨hi, e⟩ := List.getElem?_eq_some_iff.1 h
 rw [List.drop_eq_getElem_cons hi, e, clo]
 rfl
theorem clo_end {M : List JR} {i : Nat} (h : M.length ≤ i) (O : List JC) : clo (M.drop i) i O = O := by
 rw [List.drop_of_length_le h, clo]
def clos (L : List JR) (k : Int) : List JC := clo (L.take k.toNat) 0 []
theorem clos_min (L : List JR) (k : Int) {m : Nat} (hm : m = min k.toNat L.length) : clos L k = clo (L.take m) 0 [] := by
 unfold clos
 congr 1
 rw [hm]
 exact z9_98
end Jb
theorem JC.build (d k a : Int) (w : World) : (Instr.build 61 #[(0, .int .i64 d), (1, .int .i64 k), (2, .int .i64 a)]).run Tryz.prog w = .ok (.agg (JC.c ⟨d, k, a⟩)) w :=
 JC.bld (parts := #[(0, .int .i64 d), (1, .int .i64 k), (2, .int .i64 a)]) (r := ⟨d, k, a⟩) (by simp [Value.cells]) (by rw [JC.rows]; rfl) w
theorem JC.at0 (x : JC) : x.c[0]? = some (.int .i64 x.day) := by rw [JC.rows]; rfl
theorem JC.set2 (x : JC) (a : Int) : x.c.setIfInBounds 2 (.int .i64 a) = JC.c { x with as_ := a } := by rw [JC.rows, JC.rows]; rfl
theorem JC.sizes (O : List JC) : ∀ c ∈ O.map JC.c, c.size = 3 := by
 intro c hc
 obtain ⟨x, _, rfl⟩ := List.mem_map.1 hc
 exact x.size
theorem jc_el : elemB 34 61 3 24 = true := by kernel_rfl
end
section
theorem z9_103 {P : Prop} (h : P := by
 go_wp2_with (go_at_call 29; (with_reducible refine Zc HM (C1 _ HM.low) ?_; clear HM; intro w2 HM))
 go_ret2
 exact ⟨⟨_, rfl, Zi (RdS.nil0 _ _)⟩, HM.low⟩) : P := h
theorem z9_104 {P : Prop} (h : P := by
 go_roundw
 case rel => exact ⟨j + 1, by go_num, by omega, by rw [HU2.out]; exact HM⟩
 case measure => simp [intOf]; omega) : P := h
end
section
open Jb
theorem jclos_any (sv : Value) (L : List JR) (k : Int) (w : World) (hR : RdR w sv L) :
    Calls Tryz.prog 11 #[sv, .int .i64 k] w fun e w' => (∃ s, e = .returned (.tuple #[s, .int .i64 (Jb.err L k)]) ∧ Hid (RdS 3 w' s (if Jb.err L k = 0 then (Jb.clos L k).map JC.c else []))) ∧ Below w.heap.size w w' := by
 have HM := Mem.start w
 have C1 := fun w' hB => jerr_any sv L k w' (hR.below hB)
 obtain ⟨A, cap, rfl⟩ := hR.form
 have HR := Zi hR
 by_cases he : Jb.err L k = 0
 case neg =>
  rw [if_neg he]
  generalize Jb.err L k = e0 at *
  have he1 : (e0 != 0) = true := bne_iff_ne.2 he
  clear hR HR
  go_enter Tryz.func11, Tryz.ntmps11
  exact z9_103
 case pos =>
  obtain ⟨hL, hk1, hk2⟩ := Jb.err_ok he
  rw [if_pos he]
  rw [he] at C1 ⊢
  obtain ⟨m, hm⟩ : ∃ m : Nat, m = min k.toNat L.length := ⟨_, rfl⟩
  have hmin : min k (L.length : Int) = (m : Int) := by omega
  rw [Jb.clos_min L k hm]
  obtain ⟨sv2, hrun, hrd⟩ := run_take hR.1 jr_el (k := m) (by rw [List.length_map]; omega)
  obtain ⟨A2, cap2, e2⟩ := RdS.form1 (hrd w hR.1)
  have hlen2 : ((L.map JR.c).take m).length = m := by rw [List.length_take, List.length_map]; omega
  rw [hlen2] at e2
  subst e2
  have HRUN := Zi hrun
  have HRD := Zi hrd
  have hmL : m ≤ L.length := by omega
  have hm4 : m ≤ 4096 := by omega
  obtain ⟨M, hM⟩ : ∃ M, M = L.take m := ⟨_, rfl⟩
  have hMl : M.length = m := by rw [hM, List.length_take]; omega
  have HMM := Zi hM
  obtain ⟨F, hF⟩ := Zh (Jb.clo (L.take m) 0 [])
  rw [← hF.out]
  rw [← hM] at hF
  have za0 := JR.za
  have elc := jc_el
  clear hR hrun hrd hm hlen2 he hk1 hk2 hM
  go_enter Tryz.func11, Tryz.ntmps11
  go_wp2_with (first | (go_at_call 29; (with_reducible refine Zc HM (C1 _ HM.low) ?_; clear HM; intro w2 HM)) | ((with_reducible refine g_sl ?_); refine a_sl ?_ (fun w9 => by simpa [Act.eval] using HRUN.out w9)))
  go_loopw [7, 24] (fun ov iv wr => ∃ (i : Nat) (O : List JC) (B : List (Nat × Array Value)), iv = .int .i64 (i : Nat) ∧ i ≤ m ∧ O.length ≤ i ∧ Hid (F = Jb.clo (M.drop i) i O) ∧ Hid (SlAt 3 ov (O.map JC.c) B) ∧ Mem w [] B wr) (fun _ iv _ => m - (intOf iv).toNat)
  case atStart => exact ⟨0, [], [], rfl, by omega, by simp, hF, Zi .nil, HM⟩
  case round =>
   clear HM hF
   obtain ⟨i, O, B, rfl, hi, hO, HF, HS, HM⟩ := hrel
   by_cases hlt : i < m
   ·have hlt1 : (i : Int) < m := by omega
    obtain ⟨r, hr⟩ : ∃ r, M[i]? = some r := ⟨_, List.getElem?_eq_getElem Zo⟩
    have hrL : L[i]? = some r := by have h := hr; rw [HMM.out, List.getElem?_take_of_lt hlt] at h; exact h
    obtain ⟨b, off, cs, cap', e9, hb9, hc9⟩ := RdS.get (HRD.out _ HR.out.1) (k := i) (c := r.c) (by rw [List.getElem?_take_of_lt hlt, List.getElem?_map, hrL]; rfl)
    injection e9 with e91 e92 e93
    subst e91
    have l0 : LA 59 cs (off + i * 189) (.agg r.c) := la_in (n := 189) Zk Zk r.size hc9 Zd
    have HB := Zi hb9
    have sx := r.sa JR.zero.size
    have lk := (JR.f_kd r).la
    have ld := (JR.f_day r).la
    have HS9 := Zi (HF.out.trans (Jb.clo_step hr O))
    clear hb9 hc9 e92 e93 hr hrL HF
    by_cases h7 : r.kd = 7
    ·have h71 : (r.kd == 7) = true := beq_iff_eq.2 h7
     obtain ⟨a, ha⟩ : ∃ a : Int, Hid (a = (i : Int) + 1) := ⟨_, Zi rfl⟩
     have ha2 : (i : Int) + 1 = a := ha.out.symm
     have HF2 : Hid (F = Jb.clo (M.drop (i + 1)) (i + 1) (O ++ [⟨r.day, a, a⟩])) := Zi (by rw [HS9.out, if_pos h7, show ((i + 1 : Nat) : Int) = a by rw [ha.out]; omega])
     have HBC := fun w => JC.build r.day a a w
     have zc : (JC.c ⟨r.day, a, a⟩).size = 3 := JC.size _
     have hone : ∀ c ∈ [JC.c ⟨r.day, a, a⟩], c.all (·.oneCell') = true := by simpa using JC.one _
     have hlen : (O.map JC.c).length ≤ 4096 := by rw [List.length_map]; omega
     clear h7 HS9
     go_wp2_with (first | ((with_reducible refine g_bld ?_); refine a_rbl (v := .agg (JC.c ⟨r.day, a, a⟩)) ?_ (hy := h_bg3 rfl Zw Zw Zw (by with_reducible exact (HBC)))) | ((with_reducible refine g_bs1 ?_); refine a_bs1 (c0 := JC.c ⟨r.day, a, a⟩) HM ?_ (z0 := zc); clear HM; intro b9 w9 HM) | ((with_reducible refine g_app ?_); refine a_app (m := [JC.c ⟨r.day, a, a⟩]) (F := fun X => X) HM HS.out ((SlAt.made1 b9 zc).rd HM Zs) ?_ hone (hlen := by simp only [List.length_singleton]; omega); clear HM; intro s9 B9 w9 HSS HM) | ((with_reducible refine g_ld ?_); refine a_ld HM ?_) | ((with_reducible refine g_st ?_); refine a_st HM ?_; clear HM; intro w1 HM) | ((with_reducible refine g_al ?_); refine a_al HM ?_; clear HM; intro bk w1 HM))
     go_roundw
     case rel => exact ⟨i + 1, O ++ [⟨r.day, a, a⟩], B9, by first | go_num | (rw [← ha2]; rfl) | (congr 1; omega), by omega, by simp; omega, HF2, Zi (by rw [List.map_append]; exact HSS), HM⟩
     case measure => simp [intOf]; omega
    ·have h71 : (r.kd == 7) = false := Zb h7
     by_cases h8 : r.kd = 8
     case neg =>
      have h81 : (r.kd == 8) = false := Zb h8
      have HF2 : Hid (F = Jb.clo (M.drop (i + 1)) (i + 1) O) := Zi (by rw [HS9.out, if_neg h7, if_neg h8])
      clear h7 h8 HS9
      go_wp2_with (first | ((with_reducible refine g_ld ?_); refine a_ld HM ?_) | ((with_reducible refine g_st ?_); refine a_st HM ?_; clear HM; intro w1 HM) | ((with_reducible refine g_al ?_); refine a_al HM ?_; clear HM; intro bk w1 HM))
      go_roundw
      case rel => exact ⟨i + 1, O, B, by go_num, by omega, by omega, HF2, HS, HM.tail⟩
      case measure => simp [intOf]; omega
     case pos =>
      have h81 : (r.kd == 8) = true := beq_iff_eq.2 h8
      obtain ⟨a, ha⟩ : ∃ a : Int, Hid (a = (i : Int) + 1) := ⟨_, Zi rfl⟩
      have ha2 : (i : Int) + 1 = a := ha.out.symm
      have HF2 : Hid (F = Jb.clo (M.drop (i + 1)) (i + 1) (O.map (Jb.cor r.day a))) := Zi (by rw [HS9.out, if_neg h7, if_pos h8, show ((i + 1 : Nat) : Int) = a by rw [ha.out]; omega])
      clear h7 h8 HS9
      by_cases hO0 : O = []
      case pos =>
       subst hO0
       obtain ⟨A0, cap0, rfl, -⟩ := HS.out.val
       go_wp2_with (first | ((with_reducible refine g_ld ?_); refine a_ld HM ?_) | ((with_reducible refine g_st ?_); refine a_st HM ?_; clear HM; intro w1 HM) | ((with_reducible refine g_al ?_); refine a_al HM ?_; clear HM; intro bk w1 HM))
       obtain ⟨br, rfl⟩ := HM.nm0
       go_loopw [47] (fun jv wr => jv = .int .i64 0 ∧ Mem w [] ((br, r.c) :: B) wr) (fun _ _ => 0)
       case atStart => exact ⟨rfl, HM⟩
       case round =>
        clear HM
        obtain ⟨rfl, HM⟩ := hrel
        go_wp2_with fail
        go_roundw
        case rel => exact ⟨i + 1, [], B, by go_num, by omega, by simp, HF2, HS, HM.tail⟩
        case measure => simp [intOf]; omega
      case neg =>
       obtain ⟨bo, sp, e1, e2, hsz⟩ := SlAt.inv (l := O.map JC.c) HS.out (by simpa using hO0)
       rw [List.length_map] at e1
       subst e1 e2
       have hsp : ∀ c ∈ sp, c.size = 3 := fun c hc => hsz c (List.mem_append_right _ hc)
       have HSP := Zi hsp
       clear hsz HS hO0 hsp
       go_wp2_with (first | ((with_reducible refine g_ld ?_); refine a_ld HM ?_) | ((with_reducible refine g_st ?_); refine a_st HM ?_; clear HM; intro w1 HM) | ((with_reducible refine g_al ?_); refine a_al HM ?_; clear HM; intro bk w1 HM))
       obtain ⟨br, rfl⟩ := HM.nm0
       go_loopw [47] (fun jv wr => ∃ j : Nat, jv = .int .i64 (j : Nat) ∧ j ≤ O.length ∧ Mem w [] [(br, r.c), (bo, rowsOf ((Jb.upd r.day a O j).map JC.c ++ sp))] wr) (fun jv _ => O.length - (intOf jv).toNat)
       case atStart => exact ⟨0, rfl, by omega, by rw [Jb.upd_0]; exact HM⟩
       case round =>
        clear HM
        obtain ⟨j, rfl, hj, HM⟩ := hrel
        by_cases hjl : j < O.length
        ·have hjl1 : (j : Int) < O.length := by omega
         obtain ⟨c, hc⟩ : ∃ c, O[j]? = some c := ⟨_, List.getElem?_eq_getElem hjl⟩
         have hul := Jb.upd_len r.day a O hj
         have hz : ∀ x ∈ (Jb.upd r.day a O j).map JC.c ++ sp, x.size = 3 := fun x hx => by
          rcases List.mem_append.1 hx with h | h
          ·exact JC.sizes _ x h
          ·exact HSP.out x h
         have hk : ((Jb.upd r.day a O j).map JC.c ++ sp)[j]? = some c.c := by
          rw [List.getElem?_append_left (by rw [List.length_map, hul]; exact hjl), List.getElem?_map, Jb.upd_at hc]; rfl
         have l1 : LA 3 (rowsOf ((Jb.upd r.day a O j).map JC.c ++ sp)) (j * 3 + 0) (.int .i64 c.day) := la_rowone Zk hz hk Zd c.at0
         rw [Nat.add_zero] at l1
         have s2 : SA 3 (rowsOf ((Jb.upd r.day a O j).map JC.c ++ sp)) (j * 3 + 2) (.int .i64 a) (rowsOf (((Jb.upd r.day a O j).map JC.c ++ sp).set j (JC.c { c with as_ := a }))) := by
          have h := sa_rowone (T := 3) (n := 3) (a := 2) (v := .int .i64 a) Zk hz hk Zd rfl
          rw [JC.set2] at h
          exact h
         have HU : Hid ((Jb.upd r.day a O (j + 1)).map JC.c ++ sp = if r.day ≤ c.day then ((Jb.upd r.day a O j).map JC.c ++ sp).set j (JC.c { c with as_ := a }) else (Jb.upd r.day a O j).map JC.c ++ sp) := Zi (by
          rw [Jb.upd_step hc]
          unfold Jb.cor
          by_cases hd : r.day ≤ c.day
          ·rw [if_pos hd, if_pos hd, List.map_set, List.set_append_left _ _ (by rw [List.length_map, hul]; exact hjl)]
          ·rw [if_neg hd, if_neg hd, Jb.set_same (Jb.upd_at hc)])
         clear hz hk hc hul
         by_cases hd : r.day ≤ c.day
         ·have hd1 : decide (r.day ≤ c.day) = true := Zt hd
          have HU2 := Zi (HU.out.trans (if_pos hd))
          clear hd HU
          go_upto_region 15 with fail
          refine start_M [] HM Zk (fun w0x H9 => ?_)
          replace HM := H9; clear H9
          refine k_mv 0 (heldE HM) ?_
          refine k_mv 1 (heldE HM) ?_
          refine k_ia 2 (heldE HM) ?_
          refine k_fa 3 (heldE HM) ?_
          refine k_ld 4 [] (heldE HM) ?_
          refine k_fa 5 (heldE HM) ?_
          refine k_ld 6 [] (heldE HM) ?_
          refine k_bin 7 (heldE HM) ?_
          refine wpAnyL_done Zk ?_ _
          go_wp2_with ((with_reducible refine g_st ?_); refine a_st HM ?_; clear HM; intro w1 HM)
          exact z9_104
         ·have hd1 : decide (r.day ≤ c.day) = false := Zf hd
          have HU2 := Zi (HU.out.trans (if_neg hd))
          clear hd HU s2
          go_upto_region 15 with fail
          refine start_M [] HM Zk (fun w0x H9 => ?_)
          replace HM := H9; clear H9
          refine k_mv 0 (heldE HM) ?_
          refine k_mv 1 (heldE HM) ?_
          refine k_ia 2 (heldE HM) ?_
          refine k_fa 3 (heldE HM) ?_
          refine k_ld 4 [] (heldE HM) ?_
          refine k_fa 5 (heldE HM) ?_
          refine k_ld 6 [] (heldE HM) ?_
          refine k_bin 7 (heldE HM) ?_
          refine wpAnyL_done Zk ?_ _
          go_wp2_with fail
          exact z9_104
        ·obtain rfl : j = O.length := by omega
         have HS3 : Hid (SlAt 3 (.slice (some ⟨bo, 0, none⟩) O.length (O.length + sp.length)) ((O.map (Jb.cor r.day a)).map JC.c) [(bo, rowsOf ((O.map (Jb.cor r.day a)).map JC.c ++ sp))]) := Zi (by
          have h := SlAt.row (n := 3) bo ((O.map (Jb.cor r.day a)).map JC.c) sp (fun x hx => by
           rcases List.mem_append.1 hx with h | h
           ·exact JC.sizes _ x h
           ·exact HSP.out x h)
          rw [List.length_map, List.length_map] at h
          exact h)
         rw [Jb.upd_all] at HM
         go_wp2_with fail
         go_roundw
         case rel => exact ⟨i + 1, O.map (Jb.cor r.day a), _, by first | go_num | (congr 1; omega), by omega, by simp; omega, HF2, HS3, HM.tail⟩
         case measure => simp [intOf]; omega
   ·obtain rfl : i = m := by omega
    have HF2 : Hid (F = O) := Zi (by rw [HF.out]; exact Jb.clo_end Zo O)
    go_wp2_with fail
    go_ret2
    refine ⟨⟨_, rfl, Zi ?_⟩, HM.low⟩
    rw [HF2.out]
    exact HS.out.rd HM (fun p hp => hp)
end
section
theorem z9_105 {P : Prop} (h : P := by
 refine wpAnyL_done Zk ?_ _
 go_wp2_with fail
 go_roundw
 case rel => exact ⟨i + 1, by go_num, by omega, HM⟩
 case measure => simp [intOf]; omega) : P := h
end
section
open Jb
theorem same37_any (a b : Value) (O : List JC) (w : World) (ha : RdS 3 w a (O.map JC.c)) (hb : RdS 3 w b (O.map JC.c)) (hn : O.length ≤ 100000) :
    Calls Tryz.prog 14 #[a, b] w fun e w' => e = .returned (.bool true) ∧ Below w.heap.size w w' := by
 have HM := Mem.start w
 have HA := Zi ha
 have HB := Zi hb
 obtain ⟨Aa, ca, ea⟩ := RdS.form1 ha
 obtain ⟨Ab, cb, eb⟩ := RdS.form1 hb
 rw [List.length_map] at ea eb
 subst ea eb
 clear ha hb
 have g1 : ((O.length : Int) != (O.length : Int)) = false := by simp
 go_enter Tryz.func14, Tryz.ntmps14
 go_wp2_with fail
 go_loopw [5] (fun iv wr => ∃ i : Nat, iv = .int .i64 (i : Nat) ∧ i ≤ O.length ∧ Mem w [] [] wr) (fun iv _ => O.length - (intOf iv).toNat)
 case atStart => exact ⟨0, rfl, by omega, HM⟩
 case round =>
  clear HM
  obtain ⟨i, rfl, hi, HM⟩ := hrel
  by_cases hlt : i < O.length
  ·have hlt1 : (i : Int) < O.length := by omega
   obtain ⟨x, hx⟩ : ∃ x, O[i]? = some x := ⟨_, List.getElem?_eq_getElem hlt⟩
   obtain ⟨b1, off1, cs1, c1, e1, hb1, hc1⟩ := RdS.get HA.out (k := i) (c := x.c) (by rw [List.getElem?_map, hx]; rfl)
   obtain ⟨b2, off2, cs2, c2, e2, hb2, hc2⟩ := RdS.get HB.out (k := i) (c := x.c) (by rw [List.getElem?_map, hx]; rfl)
   injection e1 with e11 e12 e13
   injection e2 with e21 e22 e23
   subst e11 e21
   have k1 : LA 61 cs1 (off1 + i * 3) (.agg x.c) := la_in (n := 3) Zk Zk x.size hc1 Zd
   have k2 : LA 61 cs2 (off2 + i * 3) (.agg x.c) := la_in (n := 3) Zk Zk x.size hc2 Zd
   have HB1 := Zi hb1
   have HB2 := Zi hb2
   have E := JC.eq9 x x
   rw [JC.b_self] at E
   clear hx hb1 hb2 hc1 hc2 e12 e13 e22 e23
   go_upto_region 6 with fail
   refine start_M [] HM Zk (fun w0x H9 => ?_)
   replace HM := H9; clear H9
   refine k_mv 0 (heldE HM) ?_
   refine k_mv 1 (heldE HM) ?_
   refine k_ia 2 (heldE HM) ?_
   refine k_ld 3 [] (heldE HM) ?_
   refine k_mv 4 (heldE HM) ?_
   refine k_mv 5 (heldE HM) ?_
   refine k_ia 6 (heldE HM) ?_
   refine k_ld 7 [] (heldE HM) ?_
   refine t_eq (i := 8) (v := ?_) [] rfl rfl rfl Zk (fun _ _ _ h => h) (heldE HM) ?_ ?_; rotate_left 1; (focus ((refine y_cmps .neq false (.inr rfl) (E) rfl Zk (x := ?_) (y := ?_) (t := ?_) ?_ ?_ ?_ ?_; rotate_left 3; (focus rfl); (focus rfl); (focus ((conv => lhs; whnf) <;> rfl)); ((conv => lhs; whnf) <;> rfl)))); ((try simp only [Za]); (try simp only [Zx]); (try simp only [Zy]))
   exact z9_105
  ·obtain rfl : i = O.length := by omega
   go_wp2_with fail
   go_ret
   exact ⟨rfl, HM.low⟩
end
section
open Jb
theorem Jb.clo_len : ∀ (M : List JR) (i : Nat) (O : List JC), (Jb.clo M i O).length ≤ O.length + M.length
 | [], i, O => by rw [Jb.clo]; simp
 | r :: M, i, O => by
  rw [Jb.clo]
  have h1 := Jb.clo_len M (i + 1) (O ++ [⟨r.day, ((i + 1 : Nat) : Int), ((i + 1 : Nat) : Int)⟩])
  have h2 := Jb.clo_len M (i + 1) (O.map fun c => if r.day ≤ c.day then { c with as_ := ((i + 1 : Nat) : Int) } else c)
  have h3 := Jb.clo_len M (i + 1) O
  simp only [List.length_append, List.length_cons, List.length_nil, List.length_map] at h1 h2 h3 ⊢
  split
  ·omega
  ·split
   ·omega
   ·omega
end
section
theorem z9_106 {P : Prop} (h : P := by
 refine bodyPost_ret (r_c rfl rfl (HM.get Zl) lx) rfl ⟨rfl, HM.low⟩) : P := h
end
section
open Jb
section
variable {ops : Array Oper} {rest : List Oper} {a : Act} {w w0 : World} {X : List Nat} {L : List (Nat × Array Value)} {Q : Exit → Act → World → Prop} {d : Option Tmp} {ty t tx e : TypeId} {n by_ : Nat} {ps : String} {af : Array Edge} {g : Option (Nat × Bool)} {x y : Operand}
theorem g_bs7 {x0 x1 x2 x3 x4 x5 x6 : Operand} (h : OpG ops Q rest a w { dst := d, op := .buildSlice t 7 #[(0, x0), (1, x1), (2, x2), (3, x3), (4, x4), (5, x5), (6, x6)], type := ty, pos := ps, after := af, guard := g }) : wpList Tryz.prog ops Q ({ dst := d, op := .buildSlice t 7 #[(0, x0), (1, x1), (2, x2), (3, x3), (4, x4), (5, x5), (6, x6)], type := ty, pos := ps, after := af, guard := g } :: rest) a w := h
theorem a_bs7 {x0 x1 x2 x3 x4 x5 x6 : Operand} {v0 v1 v2 v3 v4 v5 v6 : Value} {c0 c1 c2 c3 c4 c5 c6 : Array Value} {a2 : Nat → Act} (HM : Mem w0 X L w) (h : ∀ b w', Mem w0 X ((b, rowsOf [c0, c1, c2, c3, c4, c5, c6]) :: L) w' → wpList Tryz.prog ops Q rest (a2 b) w') (hT : elemB t e n by_ = true := by with_reducible assumption) (hw : WantT ops { dst := d, op := .buildSlice t 7 #[(0, x0), (1, x1), (2, x2), (3, x3), (4, x4), (5, x5), (6, x6)], type := ty, pos := ps, after := af, guard := g } a := by first | exact Or.inl rfl | exact Or.inr ⟨_, _, _, rfl, rfl, rfl⟩) (h0 : a.eval x0 = v0 := by (conv => lhs; whnf) <;> rfl) (k0 : v0.cells = c0 := by (conv => lhs; whnf) <;> rfl) (z0 : c0.size = n := by (first | assumption | rfl)) (h1 : a.eval x1 = v1 := by (conv => lhs; whnf) <;> rfl) (k1 : v1.cells = c1 := by (conv => lhs; whnf) <;> rfl) (z1 : c1.size = n := by (first | assumption | rfl)) (h2 : a.eval x2 = v2 := by (conv => lhs; whnf) <;> rfl) (k2 : v2.cells = c2 := by (conv => lhs; whnf) <;> rfl) (z2 : c2.size = n := by (first | assumption | rfl)) (h3 : a.eval x3 = v3 := by (conv => lhs; whnf) <;> rfl) (k3 : v3.cells = c3 := by (conv => lhs; whnf) <;> rfl) (z3 : c3.size = n := by (first | assumption | rfl)) (h4 : a.eval x4 = v4 := by (conv => lhs; whnf) <;> rfl) (k4 : v4.cells = c4 := by (conv => lhs; whnf) <;> rfl) (z4 : c4.size = n := by (first | assumption | rfl)) (h5 : a.eval x5 = v5 := by (conv => lhs; whnf) <;> rfl) (k5 : v5.cells = c5 := by (conv => lhs; whnf) <;> rfl) (z5 : c5.size = n := by (first | assumption | rfl)) (h6 : a.eval x6 = v6 := by (conv => lhs; whnf) <;> rfl) (k6 : v6.cells = c6 := by (conv => lhs; whnf) <;> rfl) (z6 : c6.size = n := by (first | assumption | rfl)) (hn : 7 * n ≤ 16777216 := by decide) (ha : ∀ b, a.put d (.slice (some ⟨b, 0, none⟩) 7 7) = a2 b := by intro b; ((try simp only [Act.put, Za, Zx, Zy]) <;> rfl)) : OpG ops Q rest a w { dst := d, op := .buildSlice t 7 #[(0, x0), (1, x1), (2, x2), (3, x3), (4, x4), (5, x5), (6, x6)], type := ty, pos := ps, after := af, guard := g } := by
 obtain ⟨i, z, hE⟩ := elemT hT
 refine wpList_step fun K9 hK => ?_
 rw [if_pos hw.wanted]
 have hr := run_bs hE [v0, v1, v2, v3, v4, v5, v6] (by simp [k0, z0, k1, z1, k2, z2, k3, z3, k4, z4, k5, z5, k6, z6]) hn (parts := #[(0, v0), (1, v1), (2, v2), (3, v3), (4, v4), (5, v5), (6, v6)]) rfl w
 unfold Oper.wp
 simp [execOp, List.map_cons, List.map_nil, h0, h1, h2, h3, h4, h5, h6, k0, k1, k2, k3, k4, k5, k6] at hr ⊢
 exact z9_14
end
namespace Jb
def su (k : Int) : JR := { JR.zero with kd := 6, s := ⟨{ data := #[117] }, { data := #[97, 108, 112, 104, 97] }, 1, 2, k, false⟩ }
def sd (kd day : Int) : JR := { JR.zero with kd := kd, day := day }
def L0 : List JR := [su 1, su 2, sd 7 10, su 4, sd 7 20, su 6, sd 8 15]
theorem su_right (k : Int) (h : known k = true) : (su k).right = true := by
 have h1 : (su k).only = su k := rfl
 have h2 : (su k).kind = (su k).s.right := rfl
 have h3 : (if (su k).kd = 3 then name (su k).fnd else decide ((su k).fnd.size = 0)) = true := rfl
 unfold JR.right
 rw [h3, h1, JR.b_self, h2]
 unfold JS.right
 have h4 : name (su k).s.key = true := by show name { data := #[117] } = true; decide +kernel
 have h5 : name (su k).s.fnd = true := by show name { data := #[97, 108, 112, 104, 97] } = true; decide +kernel
 have h6 : known (su k).s.kn = true := h
 have h7 : (su k).s.vd = false := rfl
 have h8 : (su k).s.fr = 1 := rfl
 have h9 : (su k).s.tl = 2 := rfl
 rw [h4, h5, h6, h7, h8, h9]
 rfl
theorem sd_right (kd day : Int) (h : kd = 7 ∨ kd = 8) (hd : Dt.isDay day = true) : (sd kd day).right = true := by
 have h1 : (sd kd day).only = sd kd day := by rcases h with rfl | rfl <;> rfl
 have h2 : (sd kd day).kind = Dt.isDay day := by rcases h with rfl | rfl <;> rfl
 have h3 : (if (sd kd day).kd = 3 then name (sd kd day).fnd else decide ((sd kd day).fnd.size = 0)) = true := by rcases h with rfl | rfl <;> rfl
 unfold JR.right
 rw [h3, h1, JR.b_self, h2, hd]
 rfl
theorem chk_u {r : JR} {l : List JR} {i c : Nat} {last : Int} (h : r.right = true) (hk : r.known ((i + 1 : Nat) : Int) = ((i + 1 : Nat) : Int)) (h8 : r.kd ≠ 8) (h7 : r.kd ≠ 7) : Jb.chk (r :: l) i last c = Jb.chk l (i + 1) last c := by
 rw [Jb.chk, if_pos h, if_pos hk, if_neg (fun e => h8 e.1), if_neg h7]
theorem chk_7 {r : JR} {l : List JR} {i c : Nat} {last : Int} (h : r.right = true) (hk : r.known ((i + 1 : Nat) : Int) = ((i + 1 : Nat) : Int)) (h7 : r.kd = 7) (hd : last < r.day) (hc : c + 1 ≤ 64) : Jb.chk (r :: l) i last c = Jb.chk l (i + 1) r.day (c + 1) := by
 rw [Jb.chk, if_pos h, if_pos hk, if_neg (fun e => by rw [h7] at e; exact absurd e.1 Zd), if_pos h7, if_neg Zo]
theorem chk_8 {r : JR} {l : List JR} {i c : Nat} {last : Int} (h : r.right = true) (hk : r.known ((i + 1 : Nat) : Int) = ((i + 1 : Nat) : Int)) (h8 : r.kd = 8) (hd : r.day ≤ last) : Jb.chk (r :: l) i last c = Jb.chk l (i + 1) last c := by
 rw [Jb.chk, if_pos h, if_pos hk, if_neg (fun e => by omega), if_neg (by rw [h8]; decide)]
theorem L0_check : Jb.check L0 = 0 := by
 unfold Jb.check
 rw [if_neg Zd]
 unfold L0
 rw [chk_u (su_right 1 Zd) rfl Zd Zd, chk_u (su_right 2 Zd) rfl Zd Zd, chk_7 (sd_right 7 10 (.inl rfl) Zd) rfl rfl Zd Zd, chk_u (su_right 4 Zd) rfl Zd Zd, chk_7 (sd_right 7 20 (.inl rfl) Zd) rfl rfl Zd Zd, chk_u (su_right 6 Zd) rfl Zd Zd, chk_8 (sd_right 8 15 (.inr rfl) Zd) rfl rfl Zd, Jb.chk]
theorem L0_err (k : Int) (h : known k = true) : Jb.err L0 k = 0 := by
 unfold Jb.err
 rw [if_pos L0_check, if_pos h]
theorem L0_8 : Jb.clos L0 8 = [⟨10, 3, 3⟩, ⟨20, 5, 7⟩] := rfl
theorem L0_6 : Jb.clos L0 6 = [⟨10, 3, 3⟩, ⟨20, 5, 5⟩] := rfl
theorem L0_4 : ((Jb.take L0 4 (fun r => decide (r.kd = 6))).map fun r => r.s.c).length = 3 := rfl
theorem L0_wf : ∀ r ∈ L0, r.wf := by
 intro r hr
 have hs : ∀ k, (su k).wf := fun k => (by unfold JR.wf JQ.wf JA.wf JE.wf JO.wf JT.wf JS.wf JK.wf; decide +kernel : (su 0).wf)
 have hd : ∀ k d, (sd k d).wf := fun k d => (by unfold JR.wf JQ.wf JA.wf JE.wf JO.wf JT.wf JS.wf JK.wf; decide +kernel : (sd 0 0).wf)
 simp only [L0, List.mem_cons, List.not_mem_nil, or_false] at hr
 rcases hr with rfl | rfl | rfl | rfl | rfl | rfl | rfl <;> first | exact hs _ | exact hd _ _
end Jb
theorem awk1_any (k : Int) (w : World) : Calls Tryz.prog 30 #[.int .i64 k] w fun e w' => e = .returned (.agg (JR.c (Jb.su k))) ∧ Below w.heap.size w w' := by
 have HM := Mem.start w
 have HS := fun w => JS.bld (parts := #[(0, .string { data := #[117] }), (1, .string { data := #[97, 108, 112, 104, 97] }), (2, .int .i64 1), (3, .int .i64 2), (4, .int .i64 k)]) (r := (Jb.su k).s) (by simp [Value.cells]) (by rw [JS.rows]; rfl) w
 have HB := fun w => JR.bld (parts := #[(0, .int .i64 6), (8, .agg (Jb.su k).s.c)]) (r := Jb.su k) (by simp [Value.cells, JS.size]) (by rw [JR.rows]; rfl) w
 have za0 := JR.za
 have sx := (Jb.su k).sa JR.zero.size
 have lx := (Jb.su k).la
 go_enter Tryz.func30, Tryz.ntmps30
 go_wp2_with (first | ((with_reducible refine g_bld ?_); refine a_rbl (v := .agg (Jb.su k).s.c) ?_ (hy := h_bg5 rfl Zw Zw Zw Zw Zw (by with_reducible exact (HS)))) | ((with_reducible refine g_bld ?_); refine a_rbl (v := .agg (Jb.su k).c) ?_ (hy := h_bg2 rfl Zw Zw (by with_reducible exact (HB)))) | ((with_reducible refine g_st ?_); refine a_st HM ?_; clear HM; intro w1 HM) | ((with_reducible refine g_al ?_); refine a_al HM ?_; clear HM; intro bk w1 HM))
 exact z9_106
theorem days_any (kd day : Int) (w : World) : Calls Tryz.prog 18 #[.int .i64 kd, .int .i64 day] w fun e w' => e = .returned (.agg (JR.c (Jb.sd kd day))) ∧ Below w.heap.size w w' := by
 have HM := Mem.start w
 have HB := fun w => JR.bld (parts := #[(0, .int .i64 kd), (2, .int .i64 day)]) (r := Jb.sd kd day) (by simp [Value.cells]) (by rw [JR.rows]; rfl) w
 have za0 := JR.za
 have sx := (Jb.sd kd day).sa JR.zero.size
 have lx := (Jb.sd kd day).la
 go_enter Tryz.func18, Tryz.ntmps18
 go_wp2_with (first | ((with_reducible refine g_bld ?_); refine a_rbl (v := .agg (Jb.sd kd day).c) ?_ (hy := h_bg2 rfl Zw Zw (by with_reducible exact (HB)))) | ((with_reducible refine g_st ?_); refine a_st HM ?_; clear HM; intro w1 HM) | ((with_reducible refine g_al ?_); refine a_al HM ?_; clear HM; intro bk w1 HM))
 exact z9_106
theorem awake37_any (w : World) : Calls Tryz.prog 12 #[] w fun e w' => e = .returned (.bool true) ∧ Below w.heap.size w w' := by
 have HM := Mem.start w
 have er := jr_el
 have ec := jc_el
 have z1 := (Jb.su 1).size
 have z2 := (Jb.su 2).size
 have z3 := (Jb.sd 7 10).size
 have z4 := (Jb.su 4).size
 have z5 := (Jb.sd 7 20).size
 have z6 := (Jb.su 6).size
 have z7 := (Jb.sd 8 15).size
 go_enter Tryz.func12, Tryz.ntmps12
 go_upto_region 3 with (first | ((first | (go_at_call 30; with_reducible refine (awk1_any 1 _).mono ?_) | (go_at_call 30; with_reducible refine (awk1_any 2 _).mono ?_) | (go_at_call 30; with_reducible refine (awk1_any 4 _).mono ?_) | (go_at_call 30; with_reducible refine (awk1_any 6 _).mono ?_) | (go_at_call 18; with_reducible refine (days_any 7 10 _).mono ?_) | (go_at_call 18; with_reducible refine (days_any 7 20 _).mono ?_) | (go_at_call 18; with_reducible refine (days_any 8 15 _).mono ?_)); rintro e9 w2 ⟨rfl, hL⟩; replace HM := HM.call hL; clear hL) | ((with_reducible refine g_bs7 ?_); refine a_bs7 HM ?_; clear HM; intro b9 w9 HM))
 have HR : Hid (RdR w9 (.slice (some ⟨b9, 0, none⟩) 7 7) Jb.L0) := Zi ⟨(SlAt.made (n := 189) b9 (Jb.L0.map JR.c) (by intro c hc; obtain ⟨r, _, rfl⟩ := List.mem_map.1 hc; exact r.size)).rd HM (by intro p hp; exact hp), Jb.L0_wf, by decide⟩
 have HW := Zi HM.low
 clear HM
 have HM := Mem.start w9
 have E8 : Jb.err Jb.L0 8 = 0 := Jb.L0_err 8 Zd
 have E6 : Jb.err Jb.L0 6 = 0 := Jb.L0_err 6 Zd
 have E4 : Jb.err Jb.L0 4 = 0 := Jb.L0_err 4 Zd
 have C8 := fun w (h : RdR w (.slice (some ⟨b9, 0, none⟩) 7 7) Jb.L0) => jclos_any _ _ 8 w h
 rw [E8, if_pos rfl, Jb.L0_8] at C8
 have C6 := fun w (h : RdR w (.slice (some ⟨b9, 0, none⟩) 7 7) Jb.L0) => jclos_any _ _ 6 w h
 rw [E6, if_pos rfl, Jb.L0_6] at C6
 have C4 := fun w (h : RdR w (.slice (some ⟨b9, 0, none⟩) 7 7) Jb.L0) => get_s _ _ 4 w h
 rw [E4, if_pos rfl] at C4
 have l4 := Jb.L0_4
 generalize ((Jb.take Jb.L0 4 (fun r => decide (r.kd = 6))).map fun r => r.s.c) = X4 at C4 l4
 clear E8 E6 E4 z1 z2 z3 z4 z5 z6 z7 er
 go_upto_region 4 with (go_at_call 11; refine (C8 _ HR.out).mono ?_; rintro e9 w2 ⟨⟨s8, rfl, H8⟩, hL⟩; replace HR := Zi (HR.out.below hL); replace HW := Zi (below_seq HW.out hL); clear hL HM; have HM := Mem.start w2)
 go_upto_region 5 with (go_at_call 11; refine (C6 _ HR.out).mono ?_; rintro e9 w3 ⟨⟨s6, rfl, H6⟩, hL⟩; replace HR := Zi (HR.out.below hL); replace H8 := Zi (H8.out.below hL); replace HW := Zi (below_seq HW.out hL); clear hL HM; have HM := Mem.start w3)
 go_upto_region 6 with (go_at_call 31; refine (C4 _ HR.out).mono ?_; rintro e9 w4 ⟨⟨s4, rfl, H4⟩, hL⟩; replace H8 := Zi (H8.out.below hL); replace H6 := Zi (H6.out.below hL); replace HW := Zi (below_seq HW.out hL); clear hL HM; have HM := Mem.start w4)
 obtain ⟨A4, c4, rfl⟩ := RdS.form1 H4.out
 rw [l4]
 clear C8 C6 C4 HR H4 l4
 have B1 := fun w => JC.build 10 3 3 w
 have B2 := fun w => JC.build 20 5 7 w
 have B3 := fun w => JC.build 20 5 5 w
 have y1 := JC.size ⟨10, 3, 3⟩
 have y2 := JC.size ⟨20, 5, 7⟩
 have y3 := JC.size ⟨20, 5, 5⟩
 have S8 := fun b w' (HM : Mem w4 [] [(b, rowsOf [JC.c ⟨10, 3, 3⟩, JC.c ⟨20, 5, 7⟩])] w') => same37_any s8 (.slice (some ⟨b, 0, none⟩) 2 2) [⟨10, 3, 3⟩, ⟨20, 5, 7⟩] w' (H8.out.below HM.low) ((SlAt.made (n := 3) b [JC.c ⟨10, 3, 3⟩, JC.c ⟨20, 5, 7⟩] (by simp [JC.size])).rd HM (by intro p hp; exact hp)) Zd
 have S6 := fun b b' cs w' (HM : Mem w4 [] [(b, rowsOf [JC.c ⟨10, 3, 3⟩, JC.c ⟨20, 5, 5⟩]), (b', cs)] w') => same37_any s6 (.slice (some ⟨b, 0, none⟩) 2 2) [⟨10, 3, 3⟩, ⟨20, 5, 5⟩] w' (H6.out.below HM.low) ((SlAt.made (n := 3) b [JC.c ⟨10, 3, 3⟩, JC.c ⟨20, 5, 5⟩] (by simp [JC.size])).rd HM (by intro p hp; rw [List.mem_singleton.1 hp]; exact List.mem_cons_self ..)) Zd
 go_wp2_with (first | ((with_reducible refine g_bld ?_); refine a_rbl (v := .agg (JC.c ⟨10, 3, 3⟩)) ?_ (hy := h_bg3 rfl Zw Zw Zw (by with_reducible exact (B1)))) | ((with_reducible refine g_bld ?_); refine a_rbl (v := .agg (JC.c ⟨20, 5, 7⟩)) ?_ (hy := h_bg3 rfl Zw Zw Zw (by with_reducible exact (B2)))) | ((with_reducible refine g_bld ?_); refine a_rbl (v := .agg (JC.c ⟨20, 5, 5⟩)) ?_ (hy := h_bg3 rfl Zw Zw Zw (by with_reducible exact (B3)))) | ((with_reducible refine g_bs2 ?_); refine a_bs2 HM ?_; clear HM; intro b9 w9 HM) | ((first | (go_at_call 14; with_reducible refine (S8 _ _ HM).mono ?_) | (go_at_call 14; with_reducible refine (S6 _ _ _ _ HM).mono ?_)); rintro e9 w2 ⟨rfl, hL⟩; replace HM := HM.call hL; clear hL))
 go_ret
 exact ⟨rfl, below_seq HW.out HM.low⟩
end
end Go.Proofs.YtkiempioeffhbaaGreatDoor
