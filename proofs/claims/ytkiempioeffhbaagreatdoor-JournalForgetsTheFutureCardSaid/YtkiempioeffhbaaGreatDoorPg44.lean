/- Walks. -/
import Derived.Deep.CutBlock
import Derived.Test.YtkiempioeffhbaaGreatDoorPg42
import Derived.Test.YtkiempioeffhbaaGreatDoorPg43
namespace Go.Proofs.YtkiempioeffhbaaGreatDoor
set_option maxHeartbeats 16000000
open Go.RowKit
set_option maxRecDepth 8000
set_option linter.unusedSimpArgs false
set_option linter.unusedVariables false
section
theorem z9_151 {P : Prop} (h : P := by
 go_upto_region 32 with ((with_reducible refine g_ld ?_); refine a_ld HM ?_)
 refine jr32 (f := p.1) (x := x) HM HS HJ hl30 hfn n0 n1 hpp hps HC H0 hle (fun s9 r c9 m9 B9 => ?_)
 iterate 30 (intro _)
 intro w9 HJ2 HS2 HC2 hsl HM2
 go_wp2_with fail
 go_roundw
 case rel => exact ⟨_, day, last, B9, c9, m9, rfl, rfl, by simp; omega, HJ2, HS2, HC2, HM2.pick⟩
 case measure => exact meas_app HMS.out hsl (tleft_le HM2 Zl HC2.out)) : P := h
theorem z9_152 {P : Prop} (h : P := by
 refine meas_same ?_
 rw [HTL.out, tleft_at HM Zl]
 have h1 := HA3.out
 have h2 := HAX.out
 omega) : P := h
end
section
open Jb
theorem meas_app {M n k t t2 : Nat} (h : n < M) (hk : k = n + 1) (ht : t2 < 9223372036854775808) : (M - k) * 9223372036854775808 + t2 < (M - n) * 9223372036854775808 + t := by omega
theorem meas_same {M n t t2 : Nat} (ht : t2 < t) : (M - n) * 9223372036854775808 + t2 < (M - n) * 9223372036854775808 + t := by omega
theorem max_in {last z : Int} (h : 0 ≤ last) (z0 : 0 ≤ z) : 0 ≤ max 0 (last - z) ∧ max 0 (last - z) ≤ last := by
 rw [Int.max_def]
 split <;> omega
def quo (ins : ByteArray) (day n d kn : Int) : JQ := ⟨s1, ins, usd, day, rr (Rat.divInt n d), kn, false⟩
theorem sjournal_new {W w0 w : World} {X : List Nat} {L : List (Nat × Array Value)} {tb m : Nat} {cs : Array Value} (HMo : Mem w0 X L w) (hl : Look L tb cs) (hc : TapeC W m cs) (h0 : Below W.heap.size W w0) (hX : ∀ b ∈ X, W.heap.size ≤ b) (u : WU) (FK : List (WF × List WK)) (most : Int) (hm0 : 10 ≤ most) (hm1 : most ≤ 30) (hS : Jb.SetR w tb u FK) :
    Calls Tryz.prog 8 #[.pointer (some ⟨tb, 0, none⟩), .agg u.c, .int .i64 most] w fun e w' => ∃ (s : Value) (l : List JR) (day last : Int) (B : List (Nat × Array Value)) (m' : Nat) (c' : Array Value), e = .returned s ∧ SlAt 189 s (l.map JR.c) B ∧ Jb.Jn l day last ∧ 3 ≤ l.length ∧ TapeC W m' c' ∧ Mem w [tb] ((tb, c') :: B) w' := by
 have HM := Mem.start1 w (HMo.get hl)
 have HC := Zi hc
 have HT := HMo.tp hl hc h0 hX
 have H0 : Hid (Below W.heap.size W w) := Zi (by obtain ⟨_, _, _, h, _⟩ := HT; exact h)
 have hle : ∀ b ∈ [tb], W.heap.size ≤ b := by
  exact z9_109
 obtain ⟨⟨fA, fn, fc⟩, zs, cs0, pv⟩ := u
 obtain ⟨rfl, fb, fo, fcs, rfl, HFB, hfb, HFL⟩ := hS.at_
 have hF0 := hS.l0
 have hF1 := hS.l1
 have HE := Zi hS.each
 have lfu : LA 27 (WU.c ⟨⟨some ⟨fb, fo, none⟩, FK.length, fc⟩, zs, cs0, pv⟩) 0 (.slice (some ⟨fb, fo, none⟩) FK.length fc) := (WU.f_funds ⟨⟨some ⟨fb, fo, none⟩, FK.length, fc⟩, zs, cs0, pv⟩).la
 obtain ⟨uc, huc⟩ : ∃ uc, uc = WU.c ⟨⟨some ⟨fb, fo, none⟩, FK.length, fc⟩, zs, cs0, pv⟩ := ⟨_, rfl⟩
 rw [← huc] at lfu ⊢
 have elr := jr_el
 have HQ1 := fun w => JQ.bld (parts := #[(0, .string { data := #[115, 49] }), (1, .string { data := #[65, 67, 77, 69] }), (2, .string { data := #[85, 83, 68] }), (3, .int .i64 9), (4, .agg (rr (Rat.divInt 10 1)).c), (5, .int .i64 1)]) (r := quo acme 9 10 1 1) (by simp [Value.cells, Rr.size]) (by rw [JQ.rows]; rfl) w
 have HR1 := fun w => JR.bld (parts := #[(0, .int .i64 1), (3, .agg (quo acme 9 10 1 1).c)]) (r := rQ (quo acme 9 10 1 1)) (by simp [Value.cells, JQ.size]) (by rw [JR.rows]; rfl) w
 clear HT hc h0 hX hl HMo hS huc
 go_enter Tryz.func8, Tryz.ntmps8
 go_upto_region 1 with ((with_reducible refine g_bx ?_); refine a_bx HM ?_; clear HM; intro bk w1 HM)
 obtain ⟨b4, rfl⟩ := HM.nm0
 go_wp2_with (first | (go_at_call 19; (with_reducible refine Zc HM (sratio_r 10 1 Zd Zd Zd Zd _) ?_; clear HM; intro w2 HM)) | ((with_reducible refine g_bld ?_); refine a_rbl (v := .agg (quo acme 9 10 1 1).c) ?_ (hy := h_bg6 rfl Zw Zw Zw Zw Zw Zw (by with_reducible exact (HQ1)))) | ((with_reducible refine g_bld ?_); refine a_rbl (v := .agg (rQ (quo acme 9 10 1 1)).c) ?_ (hy := h_bg2 rfl Zw Zw (by with_reducible exact (HR1)))) | ((with_reducible refine g_bs1 ?_); refine a_bs1 (c0 := (rQ (quo acme 9 10 1 1)).c) HM ?_ (z0 := JR.size _) (hT := elr); clear HM; intro b9 w9 HM) | ((with_reducible refine g_app ?_); refine a_app (m := [(rQ (quo acme 9 10 1 1)).c]) (F := fun X => (b4, uc) :: (tb, cs) :: X) HM SlAt.nil ((SlAt.made1 b9 (JR.size _)).rd HM Zs) ?_ (jr_one _) (hT := elr) (hTx := elr) (hlen := Zd); clear HM; intro s9 B9 w9 HSS HM))
 clear HQ1 HR1
 (refine (snext_inf W tb _ _ _ (HM.tp Zl HC.out H0.out hle) Zo Zo).mono ?_; rintro e9 w2 ⟨v, rfl, v0, v1, ⟨c1, hb1, hc1, -, -⟩, hg⟩; replace HM := HM.put (c' := c1) Zg hb1 (Only.of_grown hg); clear hg hb1; replace HC := Zi hc1; clear hc1)
 have HS1 : Hid (SlAt 189 s9 ([rQ (quo acme 9 10 1 1)].map JR.c) B9) := Zi HSS
 obtain ⟨B1, hB1⟩ : ∃ B1, B1 = B9 := ⟨_, rfl⟩
 obtain ⟨q1, hq1⟩ : ∃ s1, s1 = s9 := ⟨_, rfl⟩
 rw [← hB1, ← hq1] at HS1
 rw [← hB1] at HM
 rw [← hq1]
 clear HSS hB1 hq1
 have HQ2 := fun w => JQ.bld (parts := #[(0, .string { data := #[115, 49] }), (1, .string { data := #[67, 79, 82, 69] }), (2, .string { data := #[85, 83, 68] }), (3, .int .i64 9), (4, .agg (rr (Rat.divInt (1 + v) 2)).c), (5, .int .i64 2)]) (r := quo core 9 (1 + v) 2 2) (by simp [Value.cells, Rr.size]) (by rw [JQ.rows]; rfl) w
 have HR2 := fun w => JR.bld (parts := #[(0, .int .i64 1), (3, .agg (quo core 9 (1 + v) 2 2).c)]) (r := rQ (quo core 9 (1 + v) 2 2)) (by simp [Value.cells, JQ.size]) (by rw [JR.rows]; rfl) w
 go_upto_region 5 with (first | (go_at_call 19; (with_reducible refine Zc HM (sratio_r (1 + v) 2 Zo Zo Zd Zd _) ?_; clear HM; intro w2 HM)) | ((with_reducible refine g_bld ?_); refine a_rbl (v := .agg (quo core 9 (1 + v) 2 2).c) ?_ (hy := h_bg6 rfl Zw Zw Zw Zw Zw Zw (by with_reducible exact (HQ2)))) | ((with_reducible refine g_bld ?_); refine a_rbl (v := .agg (rQ (quo core 9 (1 + v) 2 2)).c) ?_ (hy := h_bg2 rfl Zw Zw (by with_reducible exact (HR2)))) | ((with_reducible refine g_bs1 ?_); refine a_bs1 (c0 := (rQ (quo core 9 (1 + v) 2 2)).c) HM ?_ (z0 := JR.size _) (hT := elr); clear HM; intro b9 w9 HM) | ((with_reducible refine g_app ?_); refine a_app (m := [(rQ (quo core 9 (1 + v) 2 2)).c]) (F := fun X => (b4, uc) :: (tb, c1) :: X) HM HS1.out ((SlAt.made1 b9 (JR.size _)).rd HM Zs) ?_ (jr_one _) (hT := elr) (hTx := elr) (hlen := Zs); clear HM; intro s9 B9 w9 HSS HM))
 have HJ : Hid (Jb.Jn [rQ (quo acme 9 10 1 1), rQ (quo core 9 (1 + v) 2 2)] 9 (-1)) := Zi ((Jb.Jn.nil.putQ Zd (q_right (k := 1000000) acme_paper Zd Zd Zd Zd Zd Zd Zd) rfl (q_wf Zd)).putQ Zd (q_right (k := 500000) core_paper Zd Zd Zo Zo Zd Zd Zd) rfl (q_wf Zd))
 have HS2 : Hid (SlAt 189 s9 ([rQ (quo acme 9 10 1 1), rQ (quo core 9 (1 + v) 2 2)].map JR.c) B9) := Zi HSS
 clear HQ2 HR2 HS1 HSS v0 v1
 go_upto_block 0 with fail
 go_cut [7] (fun lv wc => ∃ (l : List JR) (B : List (Nat × Array Value)) (c : Array Value) (m' : Nat), 3 ≤ l.length ∧ l.length ≤ 4 ∧ Hid (Jb.Jn l 9 (-1)) ∧ Hid (SlAt 189 lv (l.map JR.c) B) ∧ Hid (TapeC W m' c) ∧ Mem w [tb] ((b4, uc) :: (tb, c) :: B) wc)
 case first =>
  -- <<R8
  as_aux_lemma =>
   go_wp2_with fail
   go_loopw [7, 10] (fun lv iv wr => ∃ (i : Nat) (l : List JR) (B : List (Nat × Array Value)) (c : Array Value) (m' : Nat), iv = .int .i64 (i : Nat) ∧ i ≤ FK.length ∧ l.length = 2 + i ∧ Hid (Jb.Jn l 9 (-1)) ∧ Hid (SlAt 189 lv (l.map JR.c) B) ∧ Hid (TapeC W m' c) ∧ Mem w [tb] ((b4, uc) :: (tb, c) :: B) wr) (fun _ iv _ => FK.length - (intOf iv).toNat)
   case atStart => exact ⟨0, _, B9, c1, _, rfl, by omega, rfl, HJ, HS2, HC, HM⟩
   case round =>
    clear HM HC HJ HS2
    obtain ⟨i, l, B, c1, m', rfl, hi, hil, HJ, HS, HC, HM⟩ := hrel
    by_cases hlt : i < FK.length
    ·have hlt1 : (i : Int) < FK.length := by omega
     obtain ⟨p, hp⟩ : ∃ p, FK[i]? = some p := ⟨_, List.getElem?_eq_getElem hlt⟩
     obtain ⟨-, lfn, lfk⟩ := HFL.out i p hp
     have hpe := HE.out p (List.mem_of_getElem? hp)
     obtain ⟨cb, co, ccs, cap, ek, HKB, hcb, HKL⟩ := hpe.at_
     have hfn : name p.1.nm = true := by
      rcases hpe.1 with h | h <;> rw [h]
      ·exact alpha_name
      ·exact beta_name
     obtain ⟨x, hx⟩ : ∃ x, p.2[0]? = some x := ⟨_, List.getElem?_eq_getElem hpe.2.1.l0⟩
     have hkn : name x.nm = true := hpe.2.1.nm x (List.mem_of_getElem? hx)
     have lkn : LA 9 ccs co (.string x.nm) := by simpa using (HKL.out 0 x hx).2
     rw [ek] at lfk
     have hk0 := hpe.2.1.l0
     have hk1 := hpe.2.1.l1
     obtain ⟨A7, n7, e7, h7c⟩ := HS.out.val
     rw [List.length_map] at e7
     subst e7
     have hl40 : l.length < 40 := by omega
     have hi2 : i < 2 := by omega
     have HIL := Zi hil
     clear hpe hx hp ek hil
     go_upto_region 8 with ((with_reducible refine g_ld ?_); refine a_ld HM ?_)
     refine jr8 (f := p.1) (x := x) (K := p.2) HM lfu HFB hfb HKB hcb lfn lfk lkn hlt hi2 hk0 hk1 hF1 HJ hl40 hfn hkn HC H0 hle (fun b11 o c2 m2 => ?_)
     iterate 32 (intro _)
     intro w9 HO HC2 HM2
     clear HM HC
     have HM := HM2
     have HRO := fun w => JR.bld (parts := #[(0, .int .i64 4), (6, .agg o.c)]) (r := rO o) (by simp [Value.cells, JO.size]) (by rw [JR.rows]; rfl) w
     have lo := o.la
     have hcap : ((l.map JR.c).length + [(rO o).c].length) * (1184 + 1) ≤ 140737488355328 := jr_cap Zo
     clear HM2 lfn lfk lkn h7c
     go_wp2_with (first | ((with_reducible refine g_bld ?_); refine a_rbl (v := .agg (rO o).c) ?_ (hy := h_bg2 rfl Zw Zw (by with_reducible exact (HRO)))) | ((with_reducible refine g_bs1 ?_); refine a_bs1 (c0 := (rO o).c) HM ?_ (z0 := JR.size _) (hT := elr); clear HM; intro b9 w9 HM) | ((with_reducible refine g_app ?_); refine a_app (m := [(rO o).c]) (F := fun X => (b4, uc) :: (tb, c2) :: X) HM HS.out ((SlAt.made1 b9 (JR.size _)).rd HM Zs) ?_ (jr_one _) (hT := elr) (hTx := elr) (hlen := hcap); clear HM; intro s9 B9 w9 HSS HM) | ((with_reducible refine g_ld ?_); refine a_ld HM ?_))
     have HJ2 : Hid (Jb.Jn (l ++ [rO o]) 9 (-1)) := Zi (HJ.out.putO Zo HO.out.1 HO.out.2.1 HO.out.2.2)
     have HS2 : Hid (SlAt 189 s9 ((l ++ [rO o]).map JR.c) B9) := Zi (by rw [List.map_append]; exact HSS)
     have HL2 : Hid ((l ++ [rO o]).length = 2 + (i + 1)) := Zi (by rw [List.length_append, HIL.out]; rfl)
     go_roundw
     case rel => exact ⟨i + 1, l ++ [rO o], B9, c2, m2, by first | go_num | (congr 1; omega), by omega, HL2.out, HJ2, HS2, HC2, HM⟩
     case measure => simp [intOf]; omega
    ·obtain rfl : i = FK.length := by omega
     go_wp2_with ((with_reducible refine g_ld ?_); refine a_ld HM ?_)
     go_meet
     case rel => exact ⟨l, B, c1, m', by omega, by omega, HJ, HS, HC, HM⟩
  -- >>R8
 case rest =>
  clear HM HC HJ HS2
  obtain ⟨l, B, c1, m', h3, h4, HJ, HS, HC, HM⟩ := hcut
  go_step
  go_wp2_with fail
  go_loopw [7, 8, 9] (fun lv dv av wr => ∃ (l : List JR) (day last : Int) (B : List (Nat × Array Value)) (c : Array Value) (m' : Nat), dv = .int .i64 day ∧ av = .int .i64 last ∧ 3 ≤ l.length ∧ Hid (Jb.Jn l day last) ∧ Hid (SlAt 189 lv (l.map JR.c) B) ∧ Hid (TapeC W m' c) ∧ Mem w [tb] ((b4, uc) :: (tb, c) :: B) wr) (fun lv _ _ wr => (most.toNat + 40 - slen lv) * 9223372036854775808 + tleft wr tb)
  case atStart => exact ⟨l, 9, -1, B, c1, m', rfl, rfl, h3, HJ, HS, HC, HM⟩
  case round =>
   clear HM HC HJ HS h3 h4
   obtain ⟨l, day, last, B, c1, m', rfl, rfl, hl3, HJ, HS, HC, HM⟩ := hrel
   obtain ⟨A7, n7, e7, h7c⟩ := HS.out.val
   rw [List.length_map] at e7
   subst e7
   obtain ⟨Lx, xs, c0, a, rfl, ha0, -, hI, hxl⟩ := HC.out
   have HI := Zi hI
   have HTL := Zi (tleft_at HM (.there .here))
   have hl40 := HJ.out.len
   clear hI HC h7c
   go_upto_region 10 with fail
   refine jr10 (W := W) (most := most) HM hl40 hxl (fun b => ?_)
   iterate 15 (intro _)
   intro w9 hb HM2
   have HB := Zi hb
   clear HM hb
   have HM := HM2
   clear HM2
   cases b with
   | false =>
    go_wp2_with fail
    go_ret
    exact ⟨_, l, day, last, B, _, _, rfl, HS.out, HJ.out, hl3, tape_x ha0 HI.out hxl, HM.pick⟩
   | true =>
    have hlm : (l.length : Int) < most ∧ a < (xs.length : Int) := by
     have h := HB.out.symm
     simpa [Bool.and_eq_true, decide_eq_true_eq] using h
    have hl30 : l.length < 40 := by omega
    have HAX := Zi hlm.2
    have HMS : Hid (l.length < most.toNat + 40) := Zi Zo
    clear HB hlm hl40
    go_upto_region 11 with fail
    refine jr11 HM lfu HFB hfb HFL hF0 hF1 HI ha0 hxl H0 hle (fun b12 k p a1 => ?_)
    iterate 9 (intro _)
    intro w10 hp hA1 hA2 HM2
    have hpe := HE.out p (List.mem_of_getElem? hp)
    obtain ⟨cb, co, ccs, cap, ek, HKB, hcb, HKL⟩ := hpe.at_
    have lk : LA 86 p.1.c 276 (.slice (some ⟨cb, co, none⟩) p.2.length cap) := by
     have h := (p.1.f_cls).la
     rw [ek] at h
     exact h
    have hnm := hpe.1
    have hfn : name p.1.nm = true := by
     rcases hnm with h | h <;> rw [h]
     ·exact alpha_name
     ·exact beta_name
    have hk0 := hpe.2.1.l0
    have hk1 := hpe.2.1.l1
    have HKN : Hid (∀ (k : Nat) (x : WK), p.2[k]? = some x → name x.nm = true) := Zi (fun k x h => hpe.2.1.nm x (List.mem_of_getElem? h))
    have HA1 : Hid (a < a1) := Zi (hA2 HAX.out)
    have ha1 : 0 ≤ a1 := by omega
    clear HM hp hpe ek hA1 hA2
    have HM := HM2
    clear HM2
    go_upto_region 12 with fail
    refine jr12 (f := p.1) (K := p.2) HM lk HKB hcb HKL hk0 hk1 HI ha1 hxl H0 hle (fun b13 k2 x a2 => ?_)
    iterate 9 (intro _)
    intro w11 hx hA1 hA2 HM2
    have hxn : name x.nm = true := HKN.out k2 x hx
    have HA2 : Hid (a < a2) := Zi (by have := HA1.out; omega)
    have ha2 : 0 ≤ a2 := by omega
    clear HM hx hA1 hA2 lk HKB hcb HKL hk0 hk1 HKN HA1 ha1
    have HM := HM2
    clear HM2
    go_wp2_with fail
    (refine (snext_f (tb := tb) (a := a2) HM Zl ha2 HI.out hxl H0.out hle 10 Zd Zd).mono ?_; rintro e9 w2 ⟨v, rfl, v0, v1, a3, hA3, hA4, hb1, hg9⟩; replace HM := HM.put (c' := #[.slice Lx xs.length c0, .int .i64 a3]) Zg hb1 hg9; clear hg9 hb1)
    have HA3 : Hid (a < a3) := Zi (by have := HA2.out; omega)
    have ha3 : 0 ≤ a3 := by omega
    have HC : Hid (TapeC W a3.toNat #[.slice Lx xs.length c0, .int .i64 a3]) := Zi (tape_x ha3 HI.out hxl)
    have hday := HJ.out.isDay
    have hkn : Jb.known ((l.length : Int) + 1) = true := by
     have h := HJ.out.kn
     have e : ((l.length + 1 : Nat) : Int) = (l.length : Int) + 1 := by omega
     rw [e] at h
     exact h
    have HL1 : Hid ((l.length : Int) + 1 = ((l.length + 1 : Nat) : Int)) := Zi Zo
    have hcap : ∀ r : JR, ((l.map JR.c).length + [r.c].length) * (1184 + 1) ≤ 140737488355328 := fun r => jr_cap Zo
    have hv : v = 0 ∨ v = 1 ∨ v = 2 ∨ v = 3 ∨ v = 4 ∨ v = 5 ∨ v = 6 ∨ v = 7 ∨ v = 8 ∨ v = 9 := by omega
    clear v0 v1 hA3 hA4 HA2 ha2
    rcases hv with rfl | rfl | rfl | rfl | rfl | rfl | rfl | rfl | rfl | rfl
    ·
     -- <<A0
     as_aux_lemma =>
      go_upto_region 21 with fail
      refine jr21 (f := p.1) (x := x) HM HS HJ hl30 HC H0 hle (fun s9 r c9 m9 B9 => ?_)
      iterate 18 (intro _)
      intro w9 HJ2 HS2 HC2 hsl HM2
      go_wp2_with fail
      go_roundw
      case rel => exact ⟨_, day, last, B9, c9, m9, rfl, rfl, by simp; omega, HJ2, HS2, HC2, HM2.pick⟩
      case measure => exact meas_app HMS.out hsl (tleft_le HM2 Zl HC2.out)
     -- >>A0
    ·
     -- <<A1
     as_aux_lemma =>
      go_upto_region 21 with fail
      refine jr21 (f := p.1) (x := x) HM HS HJ hl30 HC H0 hle (fun s9 r c9 m9 B9 => ?_)
      iterate 18 (intro _)
      intro w9 HJ2 HS2 HC2 hsl HM2
      go_wp2_with fail
      go_roundw
      case rel => exact ⟨_, day, last, B9, c9, m9, rfl, rfl, by simp; omega, HJ2, HS2, HC2, HM2.pick⟩
      case measure => exact meas_app HMS.out hsl (tleft_le HM2 Zl HC2.out)
     -- >>A1
    ·
     -- <<A2
     as_aux_lemma =>
      go_upto_region 24 with fail
      refine jr24 (f := p.1) (x := x) HM HJ hl30 hfn hxn HC H0 hle (fun b14 o c9 m9 => ?_)
      iterate 29 (intro _)
      intro w9 hO HC2 HM2
      clear HM HC
      have HM := HM2
      have HC := HC2
      clear HM2 HC2
      go_wp2_with fail
      (refine (sbool_inf W tb _ 9 _ (HM.tp Zl HC.out H0.out hle) Zo Zo).mono ?_; rintro e9 w2 ⟨q, rfl, ⟨c1, hb1, hc1, -, -⟩, hg⟩; replace HM := HM.put (c' := c1) Zg hb1 (Only.of_grown hg); clear hg hb1; replace HC := Zi hc1; clear hc1)
      cases q with
      | true =>
       have lkey := (o.f_key).la
       have lat := (o.f_at_).la
       have lkn := (o.f_kn).la
       obtain ⟨ov, hov⟩ : ∃ ov, ov = ({ JO.zero with key := o.key, at_ := o.at_, kn := o.kn, vd := true } : JO) := ⟨_, rfl⟩
       have HVO := fun w => JO.bld (parts := #[(0, .string o.key), (7, .int .i64 o.at_), (8, .int .i64 o.kn), (9, .bool true)]) (r := ov) (by simp [Value.cells]) (by rw [hov, JO.rows]; rfl) w
       have HOV : Hid (OrdOk ov (l.length + 1)) := Zi (by rw [hov]; exact void_ok hO.out HJ.out.kn)
       have sv := ov.sa o.size
       have lo := ov.la
       have HR := fun w => JR.bld (parts := #[(0, .int .i64 4), (6, .agg ov.c)]) (r := rO ov) (by simp [Value.cells, JO.size]) (by rw [JR.rows]; rfl) w
       have HJ2 : Hid (Jb.Jn (l ++ [rO ov]) day last) := Zi (HJ.out.putO hl30 HOV.out.1 HOV.out.2.1 HOV.out.2.2)
       clear hov
       go_wp2_with (first | ((with_reducible refine g_bld ?_); refine a_rbl (v := .agg ov.c) ?_ (hy := h_bg4 rfl Zw Zw Zw Zw (by with_reducible exact (HVO)))) | ((with_reducible refine g_bld ?_); refine a_rbl (v := .agg (rO ov).c) ?_ (hy := h_bg2 rfl Zw Zw (by with_reducible exact (HR)))) | ((with_reducible refine g_bs1 ?_); refine a_bs1 (c0 := (rO ov).c) HM ?_ (z0 := JR.size _) (hT := elr); clear HM; intro b9 w9 HM) | ((with_reducible refine g_app ?_); refine a_app (m := [(rO ov).c]) (F := fun X => (b4, uc) :: (tb, c1) :: X) HM HS.out ((SlAt.made1 b9 (JR.size _)).rd HM Zs) ?_ (jr_one _) (hT := elr) (hTx := elr) (hlen := hcap _); clear HM; intro s9 B9 w9 HSS HM) | ((with_reducible refine g_ld ?_); refine a_ld HM ?_) | ((with_reducible refine g_st ?_); refine a_st HM ?_; clear HM; intro w1 HM))
       obtain ⟨hsl, hss⟩ := app_len HSS
       go_roundw
       case rel => exact ⟨l ++ [rO ov], day, last, B9, c1, _, rfl, rfl, by simp; omega, HJ2, Zi hss, HC, HM⟩
       case measure => exact meas_app HMS.out hsl (tleft_le HM Zl HC.out)
      | false =>
       have lo := o.la
       have HR := fun w => JR.bld (parts := #[(0, .int .i64 4), (6, .agg o.c)]) (r := rO o) (by simp [Value.cells, JO.size]) (by rw [JR.rows]; rfl) w
       have HJ2 : Hid (Jb.Jn (l ++ [rO o]) day last) := Zi (HJ.out.putO hl30 hO.out.1.1 hO.out.1.2.1 hO.out.1.2.2)
       go_wp2_with (first | ((with_reducible refine g_bld ?_); refine a_rbl (v := .agg (rO o).c) ?_ (hy := h_bg2 rfl Zw Zw (by with_reducible exact (HR)))) | ((with_reducible refine g_bs1 ?_); refine a_bs1 (c0 := (rO o).c) HM ?_ (z0 := JR.size _) (hT := elr); clear HM; intro b9 w9 HM) | ((with_reducible refine g_app ?_); refine a_app (m := [(rO o).c]) (F := fun X => (b4, uc) :: (tb, c1) :: X) HM HS.out ((SlAt.made1 b9 (JR.size _)).rd HM Zs) ?_ (jr_one _) (hT := elr) (hTx := elr) (hlen := hcap _); clear HM; intro s9 B9 w9 HSS HM) | ((with_reducible refine g_ld ?_); refine a_ld HM ?_))
       obtain ⟨hsl, hss⟩ := app_len HSS
       go_roundw
       case rel => exact ⟨l ++ [rO o], day, last, B9, c1, _, rfl, rfl, by simp; omega, HJ2, Zi hss, HC, HM⟩
       case measure => exact meas_app HMS.out hsl (tleft_le HM Zl HC.out)
     -- >>A2
    ·
     -- <<A3
     as_aux_lemma =>
      go_upto_region 24 with fail
      refine jr24 (f := p.1) (x := x) HM HJ hl30 hfn hxn HC H0 hle (fun b14 o c9 m9 => ?_)
      iterate 29 (intro _)
      intro w9 hO HC2 HM2
      clear HM HC
      have HM := HM2
      have HC := HC2
      clear HM2 HC2
      go_wp2_with fail
      (refine (sbool_inf W tb _ 9 _ (HM.tp Zl HC.out H0.out hle) Zo Zo).mono ?_; rintro e9 w2 ⟨q, rfl, ⟨c1, hb1, hc1, -, -⟩, hg⟩; replace HM := HM.put (c' := c1) Zg hb1 (Only.of_grown hg); clear hg hb1; replace HC := Zi hc1; clear hc1)
      cases q with
      | true =>
       have lkey := (o.f_key).la
       have lat := (o.f_at_).la
       have lkn := (o.f_kn).la
       obtain ⟨ov, hov⟩ : ∃ ov, ov = ({ JO.zero with key := o.key, at_ := o.at_, kn := o.kn, vd := true } : JO) := ⟨_, rfl⟩
       have HVO := fun w => JO.bld (parts := #[(0, .string o.key), (7, .int .i64 o.at_), (8, .int .i64 o.kn), (9, .bool true)]) (r := ov) (by simp [Value.cells]) (by rw [hov, JO.rows]; rfl) w
       have HOV : Hid (OrdOk ov (l.length + 1)) := Zi (by rw [hov]; exact void_ok hO.out HJ.out.kn)
       have sv := ov.sa o.size
       have lo := ov.la
       have HR := fun w => JR.bld (parts := #[(0, .int .i64 4), (6, .agg ov.c)]) (r := rO ov) (by simp [Value.cells, JO.size]) (by rw [JR.rows]; rfl) w
       have HJ2 : Hid (Jb.Jn (l ++ [rO ov]) day last) := Zi (HJ.out.putO hl30 HOV.out.1 HOV.out.2.1 HOV.out.2.2)
       clear hov
       go_wp2_with (first | ((with_reducible refine g_bld ?_); refine a_rbl (v := .agg ov.c) ?_ (hy := h_bg4 rfl Zw Zw Zw Zw (by with_reducible exact (HVO)))) | ((with_reducible refine g_bld ?_); refine a_rbl (v := .agg (rO ov).c) ?_ (hy := h_bg2 rfl Zw Zw (by with_reducible exact (HR)))) | ((with_reducible refine g_bs1 ?_); refine a_bs1 (c0 := (rO ov).c) HM ?_ (z0 := JR.size _) (hT := elr); clear HM; intro b9 w9 HM) | ((with_reducible refine g_app ?_); refine a_app (m := [(rO ov).c]) (F := fun X => (b4, uc) :: (tb, c1) :: X) HM HS.out ((SlAt.made1 b9 (JR.size _)).rd HM Zs) ?_ (jr_one _) (hT := elr) (hTx := elr) (hlen := hcap _); clear HM; intro s9 B9 w9 HSS HM) | ((with_reducible refine g_ld ?_); refine a_ld HM ?_) | ((with_reducible refine g_st ?_); refine a_st HM ?_; clear HM; intro w1 HM))
       obtain ⟨hsl, hss⟩ := app_len HSS
       go_roundw
       case rel => exact ⟨l ++ [rO ov], day, last, B9, c1, _, rfl, rfl, by simp; omega, HJ2, Zi hss, HC, HM⟩
       case measure => exact meas_app HMS.out hsl (tleft_le HM Zl HC.out)
      | false =>
       have lo := o.la
       have HR := fun w => JR.bld (parts := #[(0, .int .i64 4), (6, .agg o.c)]) (r := rO o) (by simp [Value.cells, JO.size]) (by rw [JR.rows]; rfl) w
       have HJ2 : Hid (Jb.Jn (l ++ [rO o]) day last) := Zi (HJ.out.putO hl30 hO.out.1.1 hO.out.1.2.1 hO.out.1.2.2)
       go_wp2_with (first | ((with_reducible refine g_bld ?_); refine a_rbl (v := .agg (rO o).c) ?_ (hy := h_bg2 rfl Zw Zw (by with_reducible exact (HR)))) | ((with_reducible refine g_bs1 ?_); refine a_bs1 (c0 := (rO o).c) HM ?_ (z0 := JR.size _) (hT := elr); clear HM; intro b9 w9 HM) | ((with_reducible refine g_app ?_); refine a_app (m := [(rO o).c]) (F := fun X => (b4, uc) :: (tb, c1) :: X) HM HS.out ((SlAt.made1 b9 (JR.size _)).rd HM Zs) ?_ (jr_one _) (hT := elr) (hTx := elr) (hlen := hcap _); clear HM; intro s9 B9 w9 HSS HM) | ((with_reducible refine g_ld ?_); refine a_ld HM ?_))
       obtain ⟨hsl, hss⟩ := app_len HSS
       go_roundw
       case rel => exact ⟨l ++ [rO o], day, last, B9, c1, _, rfl, rfl, by simp; omega, HJ2, Zi hss, HC, HM⟩
       case measure => exact meas_app HMS.out hsl (tleft_le HM Zl HC.out)
     -- >>A3
    ·
     -- <<A4
     as_aux_lemma =>
      go_upto_region 29 with fail
      refine jr29 (last := last) (f := p.1) (x := x) HM HC H0 hle (fun n pp c8 m8 => ?_)
      iterate 8 (intro _)
      intro w9 n0 n1 hpp hps HC2 HM2
      clear HM HC
      have HM := HM2
      have HC := HC2
      clear HM2 HC2
      go_upto_region 30 with fail
      by_cases h2 : FK.length = 2
      case neg =>
       have h21 : ((FK.length : Int) == 2) = false := Zb Zo
       clear h2
       exact z9_151
      case pos =>
       have h21 : ((FK.length : Int) == 2) = true := beq_iff_eq.2 Zo
       clear h2
       by_cases hla : 0 ≤ last
       case neg =>
        have hl1 : decide (0 ≤ last) = false := Zf hla
        clear hla
        exact z9_151
       case pos =>
        have hl1 : decide (0 ≤ last) = true := Zt hla
        clear hla
        go_wp2_with ((with_reducible refine g_ld ?_); refine a_ld HM ?_)
        (refine (sbool_inf W tb _ 3 _ (HM.tp Zl HC.out H0.out hle) Zo Zo).mono ?_; rintro e9 w2 ⟨q, rfl, ⟨c1, hb1, hc1, -, -⟩, hg⟩; replace HM := HM.put (c' := c1) Zg hb1 (Only.of_grown hg); clear hg hb1; replace HC := Zi hc1; clear hc1)
        cases q with
        | false =>
         go_upto_region 32 with fail
         refine jr32 (f := p.1) (x := x) HM HS HJ hl30 hfn n0 n1 hpp hps HC H0 hle (fun s9 r c9 m9 B9 => ?_)
         iterate 30 (intro _)
         intro w9 HJ2 HS2 HC2 hsl HM2
         go_wp2_with fail
         go_roundw
         case rel => exact ⟨_, day, last, B9, c9, m9, rfl, rfl, by simp; omega, HJ2, HS2, HC2, HM2.pick⟩
         case measure => exact meas_app HMS.out hsl (tleft_le HM2 Zl HC2.out)
        | true =>
         go_upto_region 31 with fail
         refine jr31 (W := W) (m := 0) (last := last) (f := p.1) (x := x) HM hnm n0 n1 (fun n2 p2 => ?_)
         iterate 8 (intro _)
         intro w10 k0 k1 hpp2 hps2 HM2
         clear HM n0 n1 hpp hps
         have HM := HM2
         have n0 := k0
         have n1 : n2 ≤ 200 := by omega
         have hpp := hpp2
         have hps := hps2
         clear HM2
         go_upto_region 32 with fail
         refine jr32 (f := p.1) (x := x) HM HS HJ hl30 hfn n0 n1 hpp hps HC H0 hle (fun s9 r c9 m9 B9 => ?_)
         iterate 30 (intro _)
         intro w9 HJ2 HS2 HC2 hsl HM2
         go_wp2_with fail
         go_roundw
         case rel => exact ⟨_, day, last, B9, c9, m9, rfl, rfl, by simp; omega, HJ2, HS2, HC2, HM2.pick⟩
         case measure => exact meas_app HMS.out hsl (tleft_le HM2 Zl HC2.out)
     -- >>A4
    ·
     -- <<A5
     as_aux_lemma =>
      go_upto_region 34 with fail
      refine jr34 (f := p.1) (x := x) HM HS HJ hl30 hfn hxn HC H0 hle (fun s9 r c9 m9 B9 => ?_)
      iterate 26 (intro _)
      intro w9 HJ2 HS2 HC2 hsl HM2
      go_wp2_with fail
      go_roundw
      case rel => exact ⟨_, day, last, B9, c9, m9, rfl, rfl, by simp; omega, HJ2, HS2, HC2, HM2.pick⟩
      case measure => exact meas_app HMS.out hsl (tleft_le HM2 Zl HC2.out)
     -- >>A5
    ·
     -- <<A6
     as_aux_lemma =>
      by_cases hla : 0 ≤ last
      case neg =>
       have hl1 : decide (0 ≤ last) = false := Zf hla
       clear hla
       go_wp2_with fail
       (refine (sbool_f (tb := tb) (a := a3) HM Zl ha3 HI.out hxl H0.out hle 4 Zd Zd).mono ?_; rintro e9 w2 ⟨q4, rfl, a5, hA5, hA6, hb1, hg9⟩; replace HM := HM.put (c' := #[.slice Lx xs.length c0, .int .i64 a5]) Zg hb1 hg9; clear hg9 hb1)
       cases q4 with
       | false =>
        as_aux_lemma =>
         go_wp2_with fail
         go_roundw
         case rel => exact ⟨l, day, last, B, #[.slice Lx xs.length c0, .int .i64 a5], a5.toNat, rfl, rfl, hl3, HJ, HS, Zi (tape_x Zo HI.out hxl), HM.pick⟩
         case measure =>
          exact z9_152
       | true =>
        have HC5 : Hid (TapeC W a5.toNat #[.slice Lx xs.length c0, .int .i64 a5]) := Zi (tape_x Zo HI.out hxl)
        as_aux_lemma =>
         go_upto_region 39 with fail
         refine jr39 (f := p.1) (x := x) HM HS HJ hl30 hfn HC5 H0 hle (fun s9 r c9 m9 B9 => ?_)
         iterate 15 (intro _)
         intro w9 HJ2 HS2 HC2 hsl HM2
         go_wp2_with fail
         go_roundw
         case rel => exact ⟨_, day, last, B9, c9, m9, rfl, rfl, by simp; omega, HJ2, HS2, HC2, HM2.pick⟩
         case measure => exact meas_app HMS.out hsl (tleft_le HM2 Zl HC2.out)
      case pos =>
       have hl1 : decide (0 ≤ last) = true := Zt hla
       have HLA := Zi hla
       clear hla
       go_wp2_with fail
       (refine (sbool_f (tb := tb) (a := a3) HM Zl ha3 HI.out hxl H0.out hle 2 Zd Zd).mono ?_; rintro e9 w2 ⟨q, rfl, a4, hA5, hA6, hb1, hg9⟩; replace HM := HM.put (c' := #[.slice Lx xs.length c0, .int .i64 a4]) Zg hb1 hg9; clear hg9 hb1)
       have ha4 : 0 ≤ a4 := by omega
       cases q with
       | false =>
        go_wp2_with fail
        (refine (sbool_f (tb := tb) (a := a4) HM Zl ha4 HI.out hxl H0.out hle 4 Zd Zd).mono ?_; rintro e9 w2 ⟨q4, rfl, a5, hA5, hA6, hb1, hg9⟩; replace HM := HM.put (c' := #[.slice Lx xs.length c0, .int .i64 a5]) Zg hb1 hg9; clear hg9 hb1)
        cases q4 with
        | false =>
         as_aux_lemma =>
          go_wp2_with fail
          go_roundw
          case rel => exact ⟨l, day, last, B, #[.slice Lx xs.length c0, .int .i64 a5], a5.toNat, rfl, rfl, hl3, HJ, HS, Zi (tape_x Zo HI.out hxl), HM.pick⟩
          case measure =>
           exact z9_152
        | true =>
         have HC5 : Hid (TapeC W a5.toNat #[.slice Lx xs.length c0, .int .i64 a5]) := Zi (tape_x Zo HI.out hxl)
         as_aux_lemma =>
          go_upto_region 39 with fail
          refine jr39 (f := p.1) (x := x) HM HS HJ hl30 hfn HC5 H0 hle (fun s9 r c9 m9 B9 => ?_)
          iterate 15 (intro _)
          intro w9 HJ2 HS2 HC2 hsl HM2
          go_wp2_with fail
          go_roundw
          case rel => exact ⟨_, day, last, B9, c9, m9, rfl, rfl, by simp; omega, HJ2, HS2, HC2, HM2.pick⟩
          case measure => exact meas_app HMS.out hsl (tleft_le HM2 Zl HC2.out)
       | true =>
        have HC4 : Hid (TapeC W a4.toNat #[.slice Lx xs.length c0, .int .i64 a4]) := Zi (tape_x ha4 HI.out hxl)
        clear HC
        have HC := HC4
        clear HC4
        go_wp2_with fail
        (refine (snext_inf W tb _ _ _ (HM.tp Zl HC.out H0.out hle) Zo Zo).mono ?_; rintro e9 w2 ⟨z, rfl, z0, z1, ⟨c1, hb1, hc1, -, -⟩, hg⟩; replace HM := HM.put (c' := c1) Zg hb1 (Only.of_grown hg); clear hg hb1; replace HC := Zi hc1; clear hc1)
        have HR := fun w => JR.bld (parts := #[(0, .int .i64 8), (2, .int .i64 (max 0 (last - z)))]) (r := rX (max 0 (last - z))) (by simp [Value.cells]) (by rw [JR.rows]; rfl) w
        have HJ2 : Hid (Jb.Jn (l ++ [rX (max 0 (last - z))]) day last) := Zi (HJ.out.putX hl30 (max_in HLA.out z0).1 (max_in HLA.out z0).2)
        have hd1 := HJ.out.day
        have hlt := HJ.out.lt
        have hl0 := HJ.out.l0
        go_wp2_with (first | ((with_reducible refine g_bld ?_); refine a_rbl (v := .agg (rX (max 0 (last - z))).c) ?_ (hy := h_bg2 rfl Zw Zw (by with_reducible exact (HR)))) | ((with_reducible refine g_bs1 ?_); refine a_bs1 (c0 := (rX (max 0 (last - z))).c) HM ?_ (z0 := JR.size _) (hT := elr); clear HM; intro b9 w9 HM) | ((with_reducible refine g_app ?_); refine a_app (m := [(rX (max 0 (last - z))).c]) (F := fun X => (b4, uc) :: (tb, c1) :: X) HM HS.out ((SlAt.made1 b9 (JR.size _)).rd HM Zs) ?_ (jr_one _) (hT := elr) (hTx := elr) (hlen := hcap _); clear HM; intro s9 B9 w9 HSS HM))
        obtain ⟨hsl, hss⟩ := app_len HSS
        go_roundw
        case rel => exact ⟨l ++ [rX (max 0 (last - z))], day, last, B9, c1, _, rfl, rfl, by simp; omega, HJ2, Zi hss, HC, HM⟩
        case measure => exact meas_app HMS.out hsl (tleft_le HM Zl HC.out)
     -- >>A6
    ·
     -- <<A7
     as_aux_lemma =>
      have HR := fun w => JR.bld (parts := #[(0, .int .i64 7), (2, .int .i64 day)]) (r := rC day) (by simp [Value.cells]) (by rw [JR.rows]; rfl) w
      have hd1 := HJ.out.day
      have hd0 := HJ.out.d0
      go_wp2_with (first | ((with_reducible refine g_bld ?_); refine a_rbl (v := .agg (rC day).c) ?_ (hy := h_bg2 rfl Zw Zw (by with_reducible exact (HR)))) | ((with_reducible refine g_bs1 ?_); refine a_bs1 (c0 := (rC day).c) HM ?_ (z0 := JR.size _) (hT := elr); clear HM; intro b9 w9 HM) | ((with_reducible refine g_app ?_); refine a_app (m := [(rC day).c]) (F := fun X => (b4, uc) :: (tb, #[.slice Lx xs.length c0, .int .i64 a3]) :: X) HM HS.out ((SlAt.made1 b9 (JR.size _)).rd HM Zs) ?_ (jr_one _) (hT := elr) (hTx := elr) (hlen := hcap _); clear HM; intro s9 B9 w9 HSS HM))
      (refine (snext_inf W tb _ _ _ (HM.tp Zl HC.out H0.out hle) Zo Zo).mono ?_; rintro e9 w2 ⟨z, rfl, z0, z1, ⟨c1, hb1, hc1, -, -⟩, hg⟩; replace HM := HM.put (c' := c1) Zg hb1 (Only.of_grown hg); clear hg hb1; replace HC := Zi hc1; clear hc1)
      have HJ2 : Hid (Jb.Jn (l ++ [rC day]) (day + 1 + z) day) := Zi (HJ.out.putC hl30 Zo Zo)
      go_wp2_with fail
      obtain ⟨hsl, hss⟩ := app_len HSS
      go_roundw
      case rel => exact ⟨l ++ [rC day], day + 1 + z, day, B9, c1, _, rfl, rfl, by simp; omega, HJ2, Zi hss, HC, HM⟩
      case measure => exact meas_app HMS.out hsl (tleft_le HM Zl HC.out)
     -- >>A7
    ·
     -- <<A8
     as_aux_lemma =>
      have HR := fun w => JR.bld (parts := #[(0, .int .i64 7), (2, .int .i64 day)]) (r := rC day) (by simp [Value.cells]) (by rw [JR.rows]; rfl) w
      have hd1 := HJ.out.day
      have hd0 := HJ.out.d0
      go_wp2_with (first | ((with_reducible refine g_bld ?_); refine a_rbl (v := .agg (rC day).c) ?_ (hy := h_bg2 rfl Zw Zw (by with_reducible exact (HR)))) | ((with_reducible refine g_bs1 ?_); refine a_bs1 (c0 := (rC day).c) HM ?_ (z0 := JR.size _) (hT := elr); clear HM; intro b9 w9 HM) | ((with_reducible refine g_app ?_); refine a_app (m := [(rC day).c]) (F := fun X => (b4, uc) :: (tb, #[.slice Lx xs.length c0, .int .i64 a3]) :: X) HM HS.out ((SlAt.made1 b9 (JR.size _)).rd HM Zs) ?_ (jr_one _) (hT := elr) (hTx := elr) (hlen := hcap _); clear HM; intro s9 B9 w9 HSS HM))
      (refine (snext_inf W tb _ _ _ (HM.tp Zl HC.out H0.out hle) Zo Zo).mono ?_; rintro e9 w2 ⟨z, rfl, z0, z1, ⟨c1, hb1, hc1, -, -⟩, hg⟩; replace HM := HM.put (c' := c1) Zg hb1 (Only.of_grown hg); clear hg hb1; replace HC := Zi hc1; clear hc1)
      have HJ2 : Hid (Jb.Jn (l ++ [rC day]) (day + 1 + z) day) := Zi (HJ.out.putC hl30 Zo Zo)
      go_wp2_with fail
      obtain ⟨hsl, hss⟩ := app_len HSS
      go_roundw
      case rel => exact ⟨l ++ [rC day], day + 1 + z, day, B9, c1, _, rfl, rfl, by simp; omega, HJ2, Zi hss, HC, HM⟩
      case measure => exact meas_app HMS.out hsl (tleft_le HM Zl HC.out)
     -- >>A8
    ·
     -- <<A9
     as_aux_lemma =>
      go_wp2_with fail
      refine (sact_new (tb := tb) HM Zl HC.out H0.out hle day ((l.length : Int) + 1) hday hkn).mono ?_
      rintro e9 w2 ⟨y, rfl, hy, ⟨c9, hc9, hb9, hg9⟩⟩
      replace HM := HM.put (c' := c9) Zg hb9 hg9
      have HC2 := Zi hc9
      clear hc9 hb9 hg9 HC
      have HR := fun w => JR.bld (parts := #[(0, .int .i64 2), (4, .agg y.c)]) (r := rA y) (by simp [Value.cells, JA.size]) (by rw [JR.rows]; rfl) w
      have HJ2 : Hid (Jb.Jn (l ++ [rA y]) day last) := Zi (HJ.out.putA hl30 hy.out.1 (hy.out.2.1.trans HL1.out) hy.out.2.2)
      go_wp2_with (first | ((with_reducible refine g_bld ?_); refine a_rbl (v := .agg (rA y).c) ?_ (hy := h_bg2 rfl Zw Zw (by with_reducible exact (HR)))) | ((with_reducible refine g_bs1 ?_); refine a_bs1 (c0 := (rA y).c) HM ?_ (z0 := JR.size _) (hT := elr); clear HM; intro b9 w9 HM) | ((with_reducible refine g_app ?_); refine a_app (m := [(rA y).c]) (F := fun X => (b4, uc) :: (tb, c9) :: X) HM HS.out ((SlAt.made1 b9 (JR.size _)).rd HM Zs) ?_ (jr_one _) (hT := elr) (hTx := elr) (hlen := hcap _); clear HM; intro s9 B9 w9 HSS HM))
      obtain ⟨hsl, hss⟩ := app_len HSS
      go_roundw
      case rel => exact ⟨l ++ [rA y], day, last, B9, c9, _, rfl, rfl, by simp; omega, HJ2, Zi hss, HC2, HM⟩
      case measure => exact meas_app HMS.out hsl (tleft_le HM Zl HC2.out)
     -- >>A9
end
end Go.Proofs.YtkiempioeffhbaaGreatDoor
