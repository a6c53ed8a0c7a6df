/- Walks. -/
import Derived.Test.YtkiempioeffhbaaGreatDoorPt33
import Derived.Test.YtkiempioeffhbaaGreatDoorPt38
namespace Go.Proofs.YtkiempioeffhbaaGreatDoor
set_option maxHeartbeats 16000000
open Go.RowKit
set_option maxRecDepth 8000
set_option linter.unusedSimpArgs false
set_option linter.unusedVariables false
section
theorem z9_176 {P : Prop} (h : P := by
 go_wp2_with (first | (go_at_call 66; (with_reducible refine Zc HM (Q1 _) ?_; clear HM; intro w2 HM)) | ((with_reducible refine g_ld ?_); refine a_ld HM ?_))
 go_ret
 exact ⟨rfl, HM.low⟩) : P := h
theorem z9_177 {P : Prop} (h : P := by
 go_wp2_with (first | (go_at_call 66; (with_reducible refine Zc HM (Q1 _) ?_; clear HM; intro w2 HM)) | ((with_reducible refine g_ld ?_); refine a_ld HM ?_))
 go_roundw
 case rel => exact ⟨i + 1, c, last, rfl, rfl, by go_num, by omega, by omega, HS3, HM.pick⟩
 case measure => simp [intOf]; omega) : P := h
end
section
open Jb
theorem rjcheck_any (sv : Value) (L : List JR) (w : World) (hR : RdR w sv L) :
    Calls Tryz.prog 46 #[sv] w fun e w' => e = .returned (.int .i64 (Jb.check L)) ∧ Below w.heap.size w w' := by
 have HM := Mem.start w
 obtain ⟨A, cap, rfl⟩ := hR.form
 have HR := Zi hR
 have hLm := hR.2.2
 have HC : Hid (Jb.check L = if 4096 < L.length then 371 else Jb.chk (L.drop 0) 0 (-1) 0) := Zi rfl
 clear hR
 generalize Jb.check L = e at *
 by_cases hl : 4096 < L.length
 ·obtain rfl : e = 371 := by rw [HC.out, if_pos hl]
  have hl1 : (4096 : Int) < L.length := by omega
  have hl2 : decide ((4096 : Int) < L.length) = true := Zt hl1
  go_enter Tryz.func46, Tryz.ntmps46
  go_wp2_with fail
  go_ret
  exact ⟨rfl, HM.low⟩
 have HD : Hid (e = Jb.chk (L.drop 0) 0 (-1) 0) := Zi (by rw [HC.out, if_neg hl])
 have hl1 : ¬ (4096 : Int) < L.length := by omega
 have hl2 : decide ((4096 : Int) < L.length) = false := Zf hl1
 clear HC
 go_enter Tryz.func46, Tryz.ntmps46
 go_wp2_with fail
 go_loopw [3, 4, 5] (fun lv cv iv wr => ∃ (i c : Nat) (last : Int), lv = .int .i64 last ∧ cv = .int .i64 (c : Nat) ∧ iv = .int .i64 (i : Nat) ∧ i ≤ L.length ∧ c ≤ 64 ∧ Hid (e = Jb.chk (L.drop i) i last c) ∧ Mem w [] [] wr) (fun _ _ iv _ => L.length - (intOf iv).toNat)
 case atStart => exact ⟨0, 0, -1, rfl, rfl, rfl, by omega, by omega, HD, HM⟩
 case round =>
  clear HM HD
  obtain ⟨i, c, last, rfl, rfl, rfl, hi, hc, HD, HM⟩ := hrel
  by_cases hlt : i < L.length
  ·have hlt1 : (i : Int) < L.length := by omega
   obtain ⟨r, hr⟩ : ∃ r, L[i]? = some r := ⟨_, List.getElem?_eq_getElem hlt⟩
   obtain ⟨b, off, cs, rfl, HB, l0, hj, hw⟩ := HR.out.at_ hr
   have HS := Zi (HD.out.trans (Jb.chk_step hr last c))
   have lk := LA.inRow (JR.f_kd r) Zk hj.out Zd
   have ld := LA.inRow (JR.f_day r) Zk hj.out Zd
   rw [Nat.add_zero] at lk
   have Q1 := fun w => rvalid_any r hw w
   have hi1 : ((i + 1 : Nat) : Int) = (i : Int) + 1 := by omega
   have HK : Hid (r.known 0 = if r.kd = 1 ∨ r.kd = 2 ∨ r.kd = 3 ∨ r.kd = 4 ∨ r.kd = 5 ∨ r.kd = 6 then r.known ((i + 1 : Nat) : Int) else 0) := Zi (by
    rw [JR.known_of, JR.known_of]
    by_cases h1 : r.kd = 1 <;> by_cases h2 : r.kd = 2 <;> by_cases h3 : r.kd = 3 <;> by_cases h4 : r.kd = 4 <;> by_cases h5 : r.kd = 5 <;> by_cases h6 : r.kd = 6 <;> simp [h1, h2, h3, h4, h5, h6])
   have HK2 : Hid (r.right = true → r.kd ≠ 7 → r.kd ≠ 8 → r.kd = 1 ∨ r.kd = 2 ∨ r.kd = 3 ∨ r.kd = 4 ∨ r.kd = 5 ∨ r.kd = 6) := Zi (fun h h7 h8 => by
    unfold JR.right JR.kind at h
    by_cases h1 : r.kd = 1 <;> by_cases h2 : r.kd = 2 <;> by_cases h3 : r.kd = 3 <;> by_cases h4 : r.kd = 4 <;> by_cases h5 : r.kd = 5 <;> by_cases h6 : r.kd = 6 <;> simp_all)
   have HK3 : Hid (r.kd = 7 ∨ r.kd = 8 → r.known ((i + 1 : Nat) : Int) = ((i + 1 : Nat) : Int)) := Zi (fun h => by
    rw [JR.known_of, if_neg Zo, if_neg Zo, if_neg Zo, if_neg Zo, if_neg Zo, if_neg Zo])
   clear hr HD hw
   generalize r.right = v at *
   generalize r.known ((i + 1 : Nat) : Int) = kn at *
   generalize r.known 0 = k0 at *
   cases v with
   | false =>
    obtain rfl : e = 370 := HS.out
    go_wp2_with (first | (go_at_call 66; (with_reducible refine Zc HM (Q1 _) ?_; clear HM; intro w2 HM)) | ((with_reducible refine g_ld ?_); refine a_ld HM ?_))
    go_ret
    exact ⟨rfl, HM.low⟩
   | true =>
    by_cases h7 : r.kd = 7
    ·have h71 : (r.kd == 7) = true := beq_iff_eq.2 h7
     have HS2 := Zi (HS.out.trans (by rw [if_pos rfl, if_pos (HK3.out (.inl h7)), if_neg (fun g => by have := g.1; omega), if_pos h7]))
     clear HS h7 HK HK2 HK3
     by_cases hd : r.day ≤ last
     ·obtain rfl : e = 371 := by rw [HS2.out, if_pos (.inl hd)]
      have hd1 : decide (r.day ≤ last) = true := Zt hd
      exact z9_176
     ·have hd1 : decide (r.day ≤ last) = false := Zf hd
      by_cases h64 : c = 64
      ·obtain rfl : e = 371 := by rw [HS2.out, if_pos (.inr Zo)]
       subst h64
       exact z9_176
      ·have HS3 : Hid (e = Jb.chk (L.drop (i + 1)) (i + 1) r.day (c + 1)) := Zi (by rw [HS2.out, if_neg (fun g => g.elim hd Zo)])
       have h641 : ((c : Int) == 64) = false := Zb Zo
       have hc1 : c + 1 ≤ 64 := by omega
       clear h64 HS2
       go_wp2_with (first | (go_at_call 66; (with_reducible refine Zc HM (Q1 _) ?_; clear HM; intro w2 HM)) | ((with_reducible refine g_ld ?_); refine a_ld HM ?_))
       go_roundw
       case rel => exact ⟨i + 1, c + 1, r.day, rfl, by go_num, by go_num, by omega, hc1, HS3, HM.pick⟩
       case measure => simp [intOf]; omega
    ·have h71 : (r.kd == 7) = false := Zb h7
     by_cases h8 : r.kd = 8
     ·have h81 : (r.kd == 8) = true := beq_iff_eq.2 h8
      have HS2 := Zi (HS.out.trans (by rw [if_pos rfl, if_pos (HK3.out (.inr h8))]))
      by_cases hd : last < r.day
      ·obtain rfl : e = 371 := by rw [HS2.out, if_pos ⟨h8, hd⟩]
       have hd1 : decide (last < r.day) = true := Zt hd
       clear h8 h7 HK HK2 HK3 HS
       exact z9_176
      ·have HS3 : Hid (e = Jb.chk (L.drop (i + 1)) (i + 1) last c) := Zi (by rw [HS2.out, if_neg (fun g => hd g.2), if_neg h7])
       have hd1 : decide (last < r.day) = false := Zf hd
       clear h8 h7 HK HK2 HK3 HS HS2
       exact z9_177
     ·have h81 : (r.kd == 8) = false := Zb h8
      obtain rfl : k0 = kn := by rw [HK.out, if_pos (HK2.out rfl h7 h8)]
      by_cases hk : k0 = ((i + 1 : Nat) : Int)
      ·have HS3 : Hid (e = Jb.chk (L.drop (i + 1)) (i + 1) last c) := Zi (by rw [HS.out, if_pos rfl, if_pos hk, if_neg (fun g => h8 g.1), if_neg h7])
       have hk1 : (k0 != (i : Int) + 1) = false := by rw [hk, hi1]; simp
       clear h8 h7 HK HK2 HK3 HS hk
       exact z9_177
      ·obtain rfl : e = 371 := by rw [HS.out, if_pos rfl, if_neg hk]
       have hk1 : (k0 != (i : Int) + 1) = true := bne_iff_ne.2 Zo
       clear h8 h7 HK HK2 HK3 HS hk
       exact z9_176
  ·exact z9_140
end
section
theorem z9_178 {P : Prop} (h : P := by
 go_roundw
 case rel => exact ⟨i + 1, B9, by go_num, by omega, Zi (by rw [HST2.out]; exact HS9), HM⟩
 case measure => simp [intOf]; omega) : P := h
theorem z9_179 {P : Prop} (h : P := by
 go_wp2_with fail
 go_ret2
 exact ⟨⟨_, rfl, Zi (HRS.out _ _ (HS.out.rd HM (fun p hp => hp)))⟩, HM.low⟩) : P := h
end
section
open Jb
theorem LA.inRowA {T : TypeId} {c d cs : Array Value} {p n k : Nat} (h : FA T c k (.agg d)) (hT : aggT T = some true) (hs : sizT T = some d.size) (hr : ∀ j, j < n → cs[p + j]? = c[j]?) (hk : k + d.size ≤ n) (h0 : 0 < d.size) : LA T cs (p + k) (.agg d) := by
 rcases h with ⟨h9, _⟩ | ⟨_, cs', h3, h4, h5, h6⟩
 ·rw [hT] at h9; cases h9
 ·injection h6 with h6
  subst h6
  refine la_in hT hs rfl (fun j hj => ?_) h0
  have e2 : (c.extract k (k + d.size))[j]? = c[k + j]? := by rw [Array.getElem?_extract, if_pos Zo]
  rw [Nat.add_assoc, hr (k + j) Zo, ← e2, h5]
theorem upto_any (sv : Value) (L : List JR) (k kd : Int) (fund : ByteArray) (w : World) (hR : RdR w sv L) :
    Calls Tryz.prog 58 #[sv, .int .i64 k, .int .i64 kd, .string fund] w fun e w' => (∃ s, e = .returned (.tuple #[s, .int .i64 (Jb.errF L k fund)]) ∧ Hid (RdR w' s (if Jb.errF L k fund = 0 then Jb.take L k (fun r => decide (r.kd = kd)) else []))) ∧ Below w.heap.size w w' := by
 have HM := Mem.start w
 have C1 := fun w' hB => rjcheck_any sv L w' (hR.below hB)
 have C2 := fun w => belt (rkn23_any k w)
 have C3 := fun w => rname23_any fund w
 obtain ⟨A, cap, rfl⟩ := hR.form
 have HR := Zi hR
 have hRN : ∀ w, RdR w (.slice none 0 0) [] := fun w => ⟨RdS.nil0 _ _, by simp, by simp⟩
 have HE : Hid (Jb.errF L k fund = if (if Jb.check L = 0 then (if Jb.known k then 0 else 240) else Jb.check L) = 0 then (if name fund then 0 else 241) else (if Jb.check L = 0 then (if Jb.known k then 0 else 240) else Jb.check L)) := Zi rfl
 have HOK := Zi (Jb.errF_ok (L := L) (k := k) (fund := fund))
 clear hR
 generalize Jb.errF L k fund = ef at *
 by_cases hc : Jb.check L = 0
 case neg =>
  obtain rfl : ef = Jb.check L := by rw [HE.out, if_neg hc, if_neg hc]
  rw [if_neg hc]
  generalize Jb.check L = c at *
  have hc1 : (c != 0) = true := bne_iff_ne.2 hc
  clear hc HE HOK
  go_enter Tryz.func58, Tryz.ntmps58
  go_wp2_with (go_at_call 46; (with_reducible refine Zc HM (C1 _ HM.low) ?_; clear HM; intro w2 HM))
  go_ret2
  exact ⟨⟨_, rfl, Zi (hRN _)⟩, HM.low⟩
 rw [hc] at HE C1
 cases hk : Jb.known k with
 | false =>
  obtain rfl : ef = 240 := by rw [HE.out, hk]; rfl
  rw [hk] at C2
  clear HE HOK hk hc
  go_enter Tryz.func58, Tryz.ntmps58
  go_wp2_with ((first | (go_at_call 46; with_reducible refine (C1 _ HM.low).mono ?_) | (go_at_call 75; with_reducible refine (C2 _).mono ?_)); rintro e9 w2 ⟨rfl, hL⟩; replace HM := HM.call hL; clear hL)
  go_ret2
  exact ⟨⟨_, rfl, Zi (hRN _)⟩, HM.low⟩
 | true =>
  rw [hk] at C2
  cases hn : name fund with
  | false =>
   obtain rfl : ef = 241 := by rw [HE.out, hk, hn]; rfl
   rw [hn] at C3
   clear HE HOK hk hc hn
   go_enter Tryz.func58, Tryz.ntmps58
   go_wp2_with ((first | (go_at_call 46; with_reducible refine (C1 _ HM.low).mono ?_) | (go_at_call 75; with_reducible refine (C2 _).mono ?_) | (go_at_call 53; with_reducible refine (C3 _).mono ?_)); rintro e9 w2 ⟨rfl, hL⟩; replace HM := HM.call hL; clear hL)
   go_ret2
   exact ⟨⟨_, rfl, Zi (hRN _)⟩, HM.low⟩
  | true =>
   obtain rfl : ef = 0 := by rw [HE.out, hk, hn]; rfl
   rw [hn] at C3
   obtain ⟨hL, hk1, hk2⟩ := Jb.err_ok (HOK.out rfl).1
   obtain ⟨m, hm⟩ : ∃ m : Nat, m = min k.toNat L.length := ⟨_, rfl⟩
   rw [if_pos rfl, Jb.take_min L k _ hm]
   have elr := jr_el
   have HMM := Zi hm
   have hkm : (m : Int) ≤ k := by omega
   clear HE HOK hk hc hn hm
   go_enter Tryz.func58, Tryz.ntmps58
   go_wp2_with ((first | (go_at_call 46; with_reducible refine (C1 _ HM.low).mono ?_) | (go_at_call 75; with_reducible refine (C2 _).mono ?_) | (go_at_call 53; with_reducible refine (C3 _).mono ?_)); rintro e9 w2 ⟨rfl, hL⟩; replace HM := HM.call hL; clear hL)
   go_loopw [12, 13] (fun ov iv wr => ∃ (i : Nat) (B : List (Nat × Array Value)), iv = .int .i64 (i : Nat) ∧ i ≤ m ∧ Hid (SlAt 189 ov (((L.take i).filter (fun r => decide (r.kd = kd))).map JR.c) B) ∧ Mem w [] B wr) (fun _ iv _ => m - (intOf iv).toNat)
   case atStart => exact ⟨0, [], rfl, by omega, Zi .nil, HM⟩
   case round =>
    clear HM
    obtain ⟨i, B, rfl, hi, HS, HM⟩ := hrel
    by_cases hlt : i < m
    ·have hiL : i < L.length := by have := HMM.out; omega
     have hlt1 : decide ((i : Int) < L.length) = true := Zt Zo
     have hlt2 : decide ((i : Int) < k) = true := Zt Zo
     obtain ⟨r, hr⟩ : ∃ r, L[i]? = some r := ⟨_, List.getElem?_eq_getElem hiL⟩
     obtain ⟨b, off, cs, rfl, HB, l0, hj, hw⟩ := HR.out.at_ hr
     have lk := LA.inRow (JR.f_kd r) Zk hj.out Zd
     rw [Nat.add_zero] at lk
     have HST := Zi (Jb.filt_step L (fun r => decide (r.kd = kd)) JR.c hr)
     have hlen := Jb.filt_len L (fun r => decide (r.kd = kd)) JR.c (i := i) Zo
     have zr := r.size
     have hone : ∀ c ∈ [r.c], c.all (·.oneCell') = true := by simpa using r.one
     have hil : (i : Int) < L.length := by omega
     clear hr hw
     by_cases hs : r.kd = kd
     ·have hs1 : (r.kd == kd) = true := beq_iff_eq.2 hs
      have HST2 : Hid (((L.take (i + 1)).filter (fun r => decide (r.kd = kd))).map JR.c = ((L.take i).filter (fun r => decide (r.kd = kd))).map JR.c ++ [r.c]) := Zi (by rw [HST.out, Zt hs]; rfl)
      clear hs HST
      go_wp2_with (first | ((with_reducible refine g_bs1 ?_); refine a_bs1 (c0 := r.c) HM ?_ (z0 := zr); clear HM; intro b9 w9 HM) | ((with_reducible refine g_app ?_); refine a_app (m := [r.c]) (F := fun X => X) HM HS.out ((SlAt.made1 b9 zr).rd HM Zs) ?_ hone (hlen := by simp only [List.length_singleton]; omega); clear HM; intro s9 B9 w9 HS9 HM) | ((with_reducible refine g_ld ?_); refine a_ld HM ?_))
      exact z9_178
     ·have hs1 : (r.kd == kd) = false := Zb hs
      have HST2 : Hid (((L.take (i + 1)).filter (fun r => decide (r.kd = kd))).map JR.c = ((L.take i).filter (fun r => decide (r.kd = kd))).map JR.c) := Zi (by rw [HST.out, Zf hs]; simp)
      clear hs HST
      go_wp2_with ((with_reducible refine g_ld ?_); refine a_ld HM ?_)
      go_roundw
      case rel => exact ⟨i + 1, B, by go_num, by omega, Zi (by rw [HST2.out]; exact HS.out), HM⟩
      case measure => simp [intOf]; omega
    ·obtain rfl : i = m := by omega
     have HRS : Hid (∀ (o : Value) w', RdS 189 w' o (((L.take i).filter (fun r => decide (r.kd = kd))).map JR.c) → RdR w' o ((L.take i).filter (fun r => decide (r.kd = kd)))) := Zi fun o w' h => ⟨h, fun r hr => HR.out.2.1 r (List.mem_of_mem_take (List.mem_filter.1 hr).1), by
      refine Nat.le_trans (List.length_filter_le _ _) ?_
      rw [List.length_take]; omega⟩
     by_cases hx : i < L.length
     ·have hlt1 : decide ((i : Int) < L.length) = true := Zt Zo
      have hlt2 : decide ((i : Int) < k) = false := Zf (by have := HMM.out; omega)
      exact z9_179
     ·have hlt1 : decide ((i : Int) < L.length) = false := Zf Zo
      exact z9_179
end
section
theorem z9_180 {P : Prop} (h : P := by
 obtain rfl : i = R.length := by omega
 have HS2 := HS.out
 rw [List.take_length] at HS2
 go_wp2_with fail
 go_ret2
 exact ⟨⟨_, rfl, Zi (HS2.rd HM (fun p hp => hp))⟩, below_seq HL.out HM.low⟩) : P := h
theorem z9_181 {P : Prop} (h : P := by
 by_cases h : Jb.err L k = 0
 ·rw [if_pos h]; exact Jb.take_len (Jb.err_ok h).1
 ·rw [if_neg h]; simp) : P := h
theorem z9_182 {P : Prop} (h : P := by
 rintro e w' ⟨⟨s, rfl, h⟩, hL⟩
 refine ⟨⟨s, rfl, Zi ?_⟩, hL⟩
 have h2 := h.out
 rw [List.filter_eq_self.2 (fun _ _ => rfl)] at h2
 by_cases h9 : Jb.err L k = 0
 ·rw [if_pos h9] at h2 ⊢; exact h2
 ·rw [if_neg h9] at h2 ⊢; exact h2) : P := h
theorem z9_183 {P : Prop} (h : P := by
 by_cases h : Jb.errF L k fund = 0
 ·rw [if_pos h]; exact Jb.take_len (Jb.err_ok (Jb.errF_ok h).1).1
 ·rw [if_neg h]; simp) : P := h
theorem z9_184 {P : Prop} (h : P := by
 rintro e w' ⟨⟨s, rfl, h⟩, hL⟩
 refine ⟨⟨s, rfl, Zi ?_⟩, hL⟩
 have h2 := h.out
 by_cases h9 : Jb.errF L k fund = 0
 ·rw [if_pos h9] at h2 ⊢
  rw [Jb.filt2] at h2
  exact h2
 ·rw [if_neg h9] at h2 ⊢
  exact h2) : P := h
end
section
open Jb
theorem Jb.filt2 (L : List JR) (k : Int) (p q : JR → Bool) : (Jb.take L k p).filter q = Jb.take L k (fun r => p r && q r) := by
 unfold Jb.take
 rw [List.filter_filter]
 congr 1
 funext r
 exact Bool.and_comm _ _
theorem Jb.errF_any (L : List JR) (k : Int) : Jb.errF L k { data := #[97, 110, 121] } = Jb.err L k := by
 unfold Jb.errF
 rw [any_name]
 by_cases h : Jb.err L k = 0
 ·rw [if_pos h, if_pos rfl, h]
 ·rw [if_neg h]
theorem Jb.take_len {L : List JR} {k : Int} {p : JR → Bool} (h : L.length ≤ 4096) : (Jb.take L k p).length ≤ 4096 := by
 unfold Jb.take
 refine Nat.le_trans (List.length_filter_le _ _) ?_
 rw [List.length_take]; omega
theorem rgl_q (k e0 : Int) (R : List JR) (sv : Value) (w : World) (hC : Calls Tryz.prog 58 #[sv, .int .i64 k, .int .i64 1, .string { data := #[97, 110, 121] }] w fun e w'' => (∃ s, e = .returned (.tuple #[s, .int .i64 e0]) ∧ Hid (RdR w'' s R)) ∧ Below w.heap.size w w'') (hl : R.length ≤ 4096) :
    Calls Tryz.prog 36 #[sv, .int .i64 k] w fun e w' => (∃ s, e = .returned (.tuple #[s, .int .i64 e0]) ∧ Hid (RdS 72 w' s ((R.filter (fun _ => true)).map fun r => r.q.c))) ∧ Below w.heap.size w w' := by
 have HM := Mem.start w
 have elT : elemB 115 45 72 336 = true := by kernel_rfl
 go_enter Tryz.func36, Tryz.ntmps36
 go_upto_region 2 with (go_at_call 58; refine hC.mono ?_; rintro e9 w2 ⟨⟨s, rfl, HR⟩, hL⟩)
 have HL := Zi hL
 clear HM hL
 have HM := Mem.start w2
 obtain ⟨A, cap, rfl⟩ := HR.out.form
 go_wp2_with fail
 go_loopw [8, 9] (fun ov iv wr => ∃ (i : Nat) (B : List (Nat × Array Value)), iv = .int .i64 (i : Nat) ∧ i ≤ R.length ∧ Hid (SlAt 72 ov (((R.take i).filter (fun _ => true)).map (fun r => r.q.c)) B) ∧ Mem w2 [] B wr) (fun _ iv _ => R.length - (intOf iv).toNat)
 case atStart => exact ⟨0, [], rfl, by omega, Zi .nil, HM⟩
 case round =>
  clear HM
  obtain ⟨i, B, rfl, hi, HS, HM⟩ := hrel
  by_cases hlt : i < R.length
  ·have hlt1 : (i : Int) < R.length := by omega
   obtain ⟨r, hr⟩ : ∃ r, R[i]? = some r := ⟨_, List.getElem?_eq_getElem hlt⟩
   obtain ⟨b, off, cs, rfl, HB, -, hj, hw⟩ := HR.out.at_ hr
   have l0 := LA.inRowA (JR.f_q r) Zk (by rw [JQ.size]; kernel_rfl) hj.out (by rw [JQ.size]; decide) (by rw [JQ.size]; decide)
   have HST := Zi (Jb.filt_step R (fun _ => true) (fun r => r.q.c) hr)
   have hlen := Jb.filt_len R (fun _ => true) (fun r => r.q.c) (i := i) Zo
   have zr := JQ.size r.q
   have hone : ∀ c ∈ [r.q.c], c.all (·.oneCell') = true := by simpa using JQ.one r.q
   clear hr hw
   have HST2 : Hid (((R.take (i + 1)).filter (fun _ => true)).map (fun r => r.q.c) = ((R.take i).filter (fun _ => true)).map (fun r => r.q.c) ++ [r.q.c]) := Zi (by rw [HST.out]; rfl)
   clear HST
   go_wp2_with (first | ((with_reducible refine g_bs1 ?_); refine a_bs1 (c0 := r.q.c) HM ?_ (z0 := zr); clear HM; intro b9 w9 HM) | ((with_reducible refine g_app ?_); refine a_app (m := [r.q.c]) (F := fun X => X) HM HS.out ((SlAt.made1 b9 zr).rd HM Zs) ?_ hone (hlen := by simp only [List.length_singleton]; omega); clear HM; intro s9 B9 w9 HS9 HM) | ((with_reducible refine g_ld ?_); refine a_ld HM ?_))
   exact z9_178
  ·exact z9_180
theorem rget_q (sv : Value) (L : List JR) (k : Int) (w : World) (hR : RdR w sv L) :
    Calls Tryz.prog 36 #[sv, .int .i64 k] w fun e w' => (∃ s, e = .returned (.tuple #[s, .int .i64 (Jb.err L k)]) ∧ Hid (RdS 72 w' s (if Jb.err L k = 0 then ((Jb.take L k (fun r => decide (r.kd = 1))).map fun r => r.q.c) else []))) ∧ Below w.heap.size w w' := by
 have hlen : (if Jb.err L k = 0 then Jb.take L k (fun r => decide (r.kd = 1)) else []).length ≤ 4096 := by
  exact z9_181
 refine (rgl_q k (Jb.err L k) _ sv w (by have h := upto_any sv L k 1 { data := #[97, 110, 121] } w hR; rw [Jb.errF_any] at h; exact h) hlen).mono ?_
 exact z9_182
theorem rgl_a (k e0 : Int) (R : List JR) (sv : Value) (w : World) (hC : Calls Tryz.prog 58 #[sv, .int .i64 k, .int .i64 2, .string { data := #[97, 110, 121] }] w fun e w'' => (∃ s, e = .returned (.tuple #[s, .int .i64 e0]) ∧ Hid (RdR w'' s R)) ∧ Below w.heap.size w w'') (hl : R.length ≤ 4096) :
    Calls Tryz.prog 38 #[sv, .int .i64 k] w fun e w' => (∃ s, e = .returned (.tuple #[s, .int .i64 e0]) ∧ Hid (RdS 76 w' s ((R.filter (fun _ => true)).map fun r => r.a.c))) ∧ Below w.heap.size w w' := by
 have HM := Mem.start w
 have elT : elemB 118 47 76 376 = true := by kernel_rfl
 go_enter Tryz.func38, Tryz.ntmps38
 go_upto_region 2 with (go_at_call 58; refine hC.mono ?_; rintro e9 w2 ⟨⟨s, rfl, HR⟩, hL⟩)
 have HL := Zi hL
 clear HM hL
 have HM := Mem.start w2
 obtain ⟨A, cap, rfl⟩ := HR.out.form
 go_wp2_with fail
 go_loopw [8, 9] (fun ov iv wr => ∃ (i : Nat) (B : List (Nat × Array Value)), iv = .int .i64 (i : Nat) ∧ i ≤ R.length ∧ Hid (SlAt 76 ov (((R.take i).filter (fun _ => true)).map (fun r => r.a.c)) B) ∧ Mem w2 [] B wr) (fun _ iv _ => R.length - (intOf iv).toNat)
 case atStart => exact ⟨0, [], rfl, by omega, Zi .nil, HM⟩
 case round =>
  clear HM
  obtain ⟨i, B, rfl, hi, HS, HM⟩ := hrel
  by_cases hlt : i < R.length
  ·have hlt1 : (i : Int) < R.length := by omega
   obtain ⟨r, hr⟩ : ∃ r, R[i]? = some r := ⟨_, List.getElem?_eq_getElem hlt⟩
   obtain ⟨b, off, cs, rfl, HB, -, hj, hw⟩ := HR.out.at_ hr
   have l0 := LA.inRowA (JR.f_a r) Zk (by rw [JA.size]; kernel_rfl) hj.out (by rw [JA.size]; decide) (by rw [JA.size]; decide)
   have HST := Zi (Jb.filt_step R (fun _ => true) (fun r => r.a.c) hr)
   have hlen := Jb.filt_len R (fun _ => true) (fun r => r.a.c) (i := i) Zo
   have zr := JA.size r.a
   have hone : ∀ c ∈ [r.a.c], c.all (·.oneCell') = true := by simpa using JA.one r.a
   clear hr hw
   have HST2 : Hid (((R.take (i + 1)).filter (fun _ => true)).map (fun r => r.a.c) = ((R.take i).filter (fun _ => true)).map (fun r => r.a.c) ++ [r.a.c]) := Zi (by rw [HST.out]; rfl)
   clear HST
   go_wp2_with (first | ((with_reducible refine g_bs1 ?_); refine a_bs1 (c0 := r.a.c) HM ?_ (z0 := zr); clear HM; intro b9 w9 HM) | ((with_reducible refine g_app ?_); refine a_app (m := [r.a.c]) (F := fun X => X) HM HS.out ((SlAt.made1 b9 zr).rd HM Zs) ?_ hone (hlen := by simp only [List.length_singleton]; omega); clear HM; intro s9 B9 w9 HS9 HM) | ((with_reducible refine g_ld ?_); refine a_ld HM ?_))
   exact z9_178
  ·exact z9_180
theorem rget_a (sv : Value) (L : List JR) (k : Int) (w : World) (hR : RdR w sv L) :
    Calls Tryz.prog 38 #[sv, .int .i64 k] w fun e w' => (∃ s, e = .returned (.tuple #[s, .int .i64 (Jb.err L k)]) ∧ Hid (RdS 76 w' s (if Jb.err L k = 0 then ((Jb.take L k (fun r => decide (r.kd = 2))).map fun r => r.a.c) else []))) ∧ Below w.heap.size w w' := by
 have hlen : (if Jb.err L k = 0 then Jb.take L k (fun r => decide (r.kd = 2)) else []).length ≤ 4096 := by
  exact z9_181
 refine (rgl_a k (Jb.err L k) _ sv w (by have h := upto_any sv L k 2 { data := #[97, 110, 121] } w hR; rw [Jb.errF_any] at h; exact h) hlen).mono ?_
 exact z9_182
theorem rgl_e (k e0 : Int) (R : List JR) (fund : ByteArray) (sv : Value) (w : World) (hC : Calls Tryz.prog 58 #[sv, .int .i64 k, .int .i64 3, .string fund] w fun e w'' => (∃ s, e = .returned (.tuple #[s, .int .i64 e0]) ∧ Hid (RdR w'' s R)) ∧ Below w.heap.size w w'') (hl : R.length ≤ 4096) :
    Calls Tryz.prog 40 #[sv, .int .i64 k, .string fund] w fun e w' => (∃ s, e = .returned (.tuple #[s, .int .i64 e0]) ∧ Hid (RdS 10 w' s ((R.filter (fun r => r.fnd == fund)).map fun r => r.e.c))) ∧ Below w.heap.size w w' := by
 have HM := Mem.start w
 have elT : elemB 121 49 10 104 = true := by kernel_rfl
 go_enter Tryz.func40, Tryz.ntmps40
 go_upto_region 2 with (go_at_call 58; refine hC.mono ?_; rintro e9 w2 ⟨⟨s, rfl, HR⟩, hL⟩)
 have HL := Zi hL
 clear HM hL
 have HM := Mem.start w2
 obtain ⟨A, cap, rfl⟩ := HR.out.form
 go_wp2_with fail
 go_loopw [10, 11] (fun ov iv wr => ∃ (i : Nat) (B : List (Nat × Array Value)), iv = .int .i64 (i : Nat) ∧ i ≤ R.length ∧ Hid (SlAt 10 ov (((R.take i).filter (fun r => r.fnd == fund)).map (fun r => r.e.c)) B) ∧ Mem w2 [] B wr) (fun _ iv _ => R.length - (intOf iv).toNat)
 case atStart => exact ⟨0, [], rfl, by omega, Zi .nil, HM⟩
 case round =>
  clear HM
  obtain ⟨i, B, rfl, hi, HS, HM⟩ := hrel
  by_cases hlt : i < R.length
  ·have hlt1 : (i : Int) < R.length := by omega
   obtain ⟨r, hr⟩ : ∃ r, R[i]? = some r := ⟨_, List.getElem?_eq_getElem hlt⟩
   obtain ⟨b, off, cs, rfl, HB, -, hj, hw⟩ := HR.out.at_ hr
   have l0 := LA.inRowA (JR.f_e r) Zk (by rw [JE.size]; kernel_rfl) hj.out (by rw [JE.size]; decide) (by rw [JE.size]; decide)
   have lfn := LA.inRow (JR.f_fnd r) Zk hj.out Zd
   have HS1 := Jb.str_l r.fnd fund
   have HS2_ := Jb.str_d r.fnd fund
   have HST := Zi (Jb.filt_step R (fun r => r.fnd == fund) (fun r => r.e.c) hr)
   have hlen := Jb.filt_len R (fun r => r.fnd == fund) (fun r => r.e.c) (i := i) Zo
   have zr := JE.size r.e
   have hone : ∀ c ∈ [r.e.c], c.all (·.oneCell') = true := by simpa using JE.one r.e
   clear hr hw
   cases hs : (r.fnd == fund) with
   | true =>
    rw [hs] at HS1 HS2_
    have HST2 : Hid (((R.take (i + 1)).filter (fun r => r.fnd == fund)).map (fun r => r.e.c) = ((R.take i).filter (fun r => r.fnd == fund)).map (fun r => r.e.c) ++ [r.e.c]) := Zi (by rw [HST.out]; simp only [hs]; rfl)
    clear HST hs
    go_wp2_with (first | ((with_reducible refine g_bs1 ?_); refine a_bs1 (c0 := r.e.c) HM ?_ (z0 := zr); clear HM; intro b9 w9 HM) | ((with_reducible refine g_app ?_); refine a_app (m := [r.e.c]) (F := fun X => X) HM HS.out ((SlAt.made1 b9 zr).rd HM Zs) ?_ hone (hlen := by simp only [List.length_singleton]; omega); clear HM; intro s9 B9 w9 HS9 HM) | ((with_reducible refine g_ld ?_); refine a_ld HM ?_))
    go_roundw
    case rel => exact ⟨i + 1, B9, by go_num, by omega, Zi (by rw [HST2.out]; exact HS9), HM⟩
    case measure => simp [intOf]; omega
   | false =>
    rw [hs] at HS1 HS2_
    have HST2 : Hid (((R.take (i + 1)).filter (fun r => r.fnd == fund)).map (fun r => r.e.c) = ((R.take i).filter (fun r => r.fnd == fund)).map (fun r => r.e.c)) := Zi (by rw [HST.out]; simp [hs])
    clear HST hs
    go_wp2_with ((with_reducible refine g_ld ?_); refine a_ld HM ?_)
    go_roundw
    case rel => exact ⟨i + 1, B, by go_num, by omega, Zi (by rw [HST2.out]; exact HS.out), HM⟩
    case measure => simp [intOf]; omega
  ·exact z9_180
theorem rget_e (sv : Value) (L : List JR) (k : Int) (fund : ByteArray) (w : World) (hR : RdR w sv L) :
    Calls Tryz.prog 40 #[sv, .int .i64 k, .string fund] w fun e w' => (∃ s, e = .returned (.tuple #[s, .int .i64 (Jb.errF L k fund)]) ∧ Hid (RdS 10 w' s (if Jb.errF L k fund = 0 then ((Jb.take L k (fun r => decide (r.kd = 3) && (r.fnd == fund))).map fun r => r.e.c) else []))) ∧ Below w.heap.size w w' := by
 have hlen : (if Jb.errF L k fund = 0 then Jb.take L k (fun r => decide (r.kd = 3)) else []).length ≤ 4096 := by
  exact z9_183
 refine (rgl_e k _ _ fund sv w (upto_any sv L k 3 fund w hR) hlen).mono ?_
 exact z9_184
theorem rgl_o (k e0 : Int) (R : List JR) (sv : Value) (w : World) (hC : Calls Tryz.prog 58 #[sv, .int .i64 k, .int .i64 4, .string { data := #[97, 110, 121] }] w fun e w'' => (∃ s, e = .returned (.tuple #[s, .int .i64 e0]) ∧ Hid (RdR w'' s R)) ∧ Below w.heap.size w w'') (hl : R.length ≤ 4096) :
    Calls Tryz.prog 41 #[sv, .int .i64 k] w fun e w' => (∃ s, e = .returned (.tuple #[s, .int .i64 e0]) ∧ Hid (RdS 11 w' s ((R.filter (fun _ => true)).map fun r => r.o.c))) ∧ Below w.heap.size w w' := by
 have HM := Mem.start w
 have elT : elemB 64 53 11 128 = true := by kernel_rfl
 go_enter Tryz.func41, Tryz.ntmps41
 go_upto_region 2 with (go_at_call 58; refine hC.mono ?_; rintro e9 w2 ⟨⟨s, rfl, HR⟩, hL⟩)
 have HL := Zi hL
 clear HM hL
 have HM := Mem.start w2
 obtain ⟨A, cap, rfl⟩ := HR.out.form
 go_wp2_with fail
 go_loopw [8, 9] (fun ov iv wr => ∃ (i : Nat) (B : List (Nat × Array Value)), iv = .int .i64 (i : Nat) ∧ i ≤ R.length ∧ Hid (SlAt 11 ov (((R.take i).filter (fun _ => true)).map (fun r => r.o.c)) B) ∧ Mem w2 [] B wr) (fun _ iv _ => R.length - (intOf iv).toNat)
 case atStart => exact ⟨0, [], rfl, by omega, Zi .nil, HM⟩
 case round =>
  clear HM
  obtain ⟨i, B, rfl, hi, HS, HM⟩ := hrel
  by_cases hlt : i < R.length
  ·have hlt1 : (i : Int) < R.length := by omega
   obtain ⟨r, hr⟩ : ∃ r, R[i]? = some r := ⟨_, List.getElem?_eq_getElem hlt⟩
   obtain ⟨b, off, cs, rfl, HB, -, hj, hw⟩ := HR.out.at_ hr
   have l0 := LA.inRowA (JR.f_o r) Zk (by rw [JO.size]; kernel_rfl) hj.out (by rw [JO.size]; decide) (by rw [JO.size]; decide)
   have HST := Zi (Jb.filt_step R (fun _ => true) (fun r => r.o.c) hr)
   have hlen := Jb.filt_len R (fun _ => true) (fun r => r.o.c) (i := i) Zo
   have zr := JO.size r.o
   have hone : ∀ c ∈ [r.o.c], c.all (·.oneCell') = true := by simpa using JO.one r.o
   clear hr hw
   have HST2 : Hid (((R.take (i + 1)).filter (fun _ => true)).map (fun r => r.o.c) = ((R.take i).filter (fun _ => true)).map (fun r => r.o.c) ++ [r.o.c]) := Zi (by rw [HST.out]; rfl)
   clear HST
   go_wp2_with (first | ((with_reducible refine g_bs1 ?_); refine a_bs1 (c0 := r.o.c) HM ?_ (z0 := zr); clear HM; intro b9 w9 HM) | ((with_reducible refine g_app ?_); refine a_app (m := [r.o.c]) (F := fun X => X) HM HS.out ((SlAt.made1 b9 zr).rd HM Zs) ?_ hone (hlen := by simp only [List.length_singleton]; omega); clear HM; intro s9 B9 w9 HS9 HM) | ((with_reducible refine g_ld ?_); refine a_ld HM ?_))
   exact z9_178
  ·exact z9_180
theorem rget_o (sv : Value) (L : List JR) (k : Int) (w : World) (hR : RdR w sv L) :
    Calls Tryz.prog 41 #[sv, .int .i64 k] w fun e w' => (∃ s, e = .returned (.tuple #[s, .int .i64 (Jb.err L k)]) ∧ Hid (RdS 11 w' s (if Jb.err L k = 0 then ((Jb.take L k (fun r => decide (r.kd = 4))).map fun r => r.o.c) else []))) ∧ Below w.heap.size w w' := by
 have hlen : (if Jb.err L k = 0 then Jb.take L k (fun r => decide (r.kd = 4)) else []).length ≤ 4096 := by
  exact z9_181
 refine (rgl_o k (Jb.err L k) _ sv w (by have h := upto_any sv L k 4 { data := #[97, 110, 121] } w hR; rw [Jb.errF_any] at h; exact h) hlen).mono ?_
 exact z9_182
theorem rgl_t (k e0 : Int) (R : List JR) (fund : ByteArray) (sv : Value) (w : World) (hC : Calls Tryz.prog 58 #[sv, .int .i64 k, .int .i64 5, .string fund] w fun e w'' => (∃ s, e = .returned (.tuple #[s, .int .i64 e0]) ∧ Hid (RdR w'' s R)) ∧ Below w.heap.size w w'') (hl : R.length ≤ 4096) :
    Calls Tryz.prog 43 #[sv, .int .i64 k, .string fund] w fun e w' => (∃ s, e = .returned (.tuple #[s, .int .i64 e0]) ∧ Hid (RdS 11 w' s ((R.filter (fun r => r.t.vd || r.t.fnd == fund)).map fun r => r.t.c))) ∧ Below w.heap.size w w' := by
 have HM := Mem.start w
 have elT : elemB 124 55 11 144 = true := by kernel_rfl
 go_enter Tryz.func43, Tryz.ntmps43
 go_upto_region 2 with (go_at_call 58; refine hC.mono ?_; rintro e9 w2 ⟨⟨s, rfl, HR⟩, hL⟩)
 have HL := Zi hL
 clear HM hL
 have HM := Mem.start w2
 obtain ⟨A, cap, rfl⟩ := HR.out.form
 have za0 := JT.za
 go_wp2_with fail
 go_loopw [10, 11] (fun ov iv wr => ∃ (i : Nat) (B : List (Nat × Array Value)), iv = .int .i64 (i : Nat) ∧ i ≤ R.length ∧ Hid (SlAt 11 ov (((R.take i).filter (fun r => r.t.vd || r.t.fnd == fund)).map (fun r => r.t.c)) B) ∧ Mem w2 [] B wr) (fun _ iv _ => R.length - (intOf iv).toNat)
 case atStart => exact ⟨0, [], rfl, by omega, Zi .nil, HM⟩
 case round =>
  clear HM
  obtain ⟨i, B, rfl, hi, HS, HM⟩ := hrel
  by_cases hlt : i < R.length
  ·have hlt1 : (i : Int) < R.length := by omega
   obtain ⟨r, hr⟩ : ∃ r, R[i]? = some r := ⟨_, List.getElem?_eq_getElem hlt⟩
   obtain ⟨b, off, cs, rfl, HB, -, hj, hw⟩ := HR.out.at_ hr
   have l0 := LA.inRowA (JR.f_t r) Zk (by rw [JT.size]; kernel_rfl) hj.out (by rw [JT.size]; decide) (by rw [JT.size]; decide)
   have sT := r.t.sa JT.zero.size
   have lT := r.t.la
   have lvd := (JT.f_vd r.t).la
   have lfn := (JT.f_fnd r.t).la
   have HS1 := Jb.str_l r.t.fnd fund
   have HS2_ := Jb.str_d r.t.fnd fund
   have HST := Zi (Jb.filt_step R (fun r => r.t.vd || r.t.fnd == fund) (fun r => r.t.c) hr)
   have hlen := Jb.filt_len R (fun r => r.t.vd || r.t.fnd == fund) (fun r => r.t.c) (i := i) Zo
   have zr := JT.size r.t
   have hone : ∀ c ∈ [r.t.c], c.all (·.oneCell') = true := by simpa using JT.one r.t
   clear hr hw
   cases hv : r.t.vd with
   | true =>
    rw [hv] at lvd
    have HST2 : Hid (((R.take (i + 1)).filter (fun r => r.t.vd || r.t.fnd == fund)).map (fun r => r.t.c) = ((R.take i).filter (fun r => r.t.vd || r.t.fnd == fund)).map (fun r => r.t.c) ++ [r.t.c]) := Zi (by rw [HST.out]; simp only [hv, Bool.true_or]; rfl)
    clear HST hv
    go_wp2_with (first | ((with_reducible refine g_offw ?_); refine a_offw ?_) | ((with_reducible refine g_bs1 ?_); refine a_bs1 (c0 := r.t.c) HM ?_ (z0 := zr); clear HM; intro b9 w9 HM) | ((with_reducible refine g_app ?_); refine a_app (m := [r.t.c]) (F := fun X => X) HM HS.out ((SlAt.made1 b9 zr).rd HM Zs) ?_ hone (hlen := by simp only [List.length_singleton]; omega); clear HM; intro s9 B9 w9 HS9 HM) | ((with_reducible refine g_ld ?_); refine a_ld HM ?_) | ((with_reducible refine g_st ?_); refine a_st HM ?_; clear HM; intro w1 HM) | ((with_reducible refine g_al ?_); refine a_al HM ?_; clear HM; intro bk w1 HM))
    go_roundw
    case rel => exact ⟨i + 1, B9, by go_num, by omega, Zi (by rw [HST2.out]; exact HS9), HM⟩
    case measure => simp [intOf]; omega
   | false =>
    rw [hv] at lvd
    cases hs : (r.t.fnd == fund) with
    | true =>
     rw [hs] at HS1 HS2_
     have HST2 : Hid (((R.take (i + 1)).filter (fun r => r.t.vd || r.t.fnd == fund)).map (fun r => r.t.c) = ((R.take i).filter (fun r => r.t.vd || r.t.fnd == fund)).map (fun r => r.t.c) ++ [r.t.c]) := Zi (by rw [HST.out]; simp only [hv, hs, Bool.false_or]; rfl)
     clear HST hs hv
     go_wp2_with (first | ((with_reducible refine g_bs1 ?_); refine a_bs1 (c0 := r.t.c) HM ?_ (z0 := zr); clear HM; intro b9 w9 HM) | ((with_reducible refine g_app ?_); refine a_app (m := [r.t.c]) (F := fun X => X) HM HS.out ((SlAt.made1 b9 zr).rd HM Zs) ?_ hone (hlen := by simp only [List.length_singleton]; omega); clear HM; intro s9 B9 w9 HS9 HM) | ((with_reducible refine g_ld ?_); refine a_ld HM ?_) | ((with_reducible refine g_st ?_); refine a_st HM ?_; clear HM; intro w1 HM) | ((with_reducible refine g_al ?_); refine a_al HM ?_; clear HM; intro bk w1 HM))
     go_roundw
     case rel => exact ⟨i + 1, B9, by go_num, by omega, Zi (by rw [HST2.out]; exact HS9), HM⟩
     case measure => simp [intOf]; omega
    | false =>
     rw [hs] at HS1 HS2_
     have HST2 : Hid (((R.take (i + 1)).filter (fun r => r.t.vd || r.t.fnd == fund)).map (fun r => r.t.c) = ((R.take i).filter (fun r => r.t.vd || r.t.fnd == fund)).map (fun r => r.t.c)) := Zi (by rw [HST.out]; simp [hv, hs])
     clear HST hs hv
     go_wp2_with (first | ((with_reducible refine g_ld ?_); refine a_ld HM ?_) | ((with_reducible refine g_st ?_); refine a_st HM ?_; clear HM; intro w1 HM) | ((with_reducible refine g_al ?_); refine a_al HM ?_; clear HM; intro bk w1 HM))
     go_roundw
     case rel => exact ⟨i + 1, B, by go_num, by omega, Zi (by rw [HST2.out]; exact HS.out), HM.tail⟩
     case measure => simp [intOf]; omega
  ·exact z9_180
theorem rget_t (sv : Value) (L : List JR) (k : Int) (fund : ByteArray) (w : World) (hR : RdR w sv L) :
    Calls Tryz.prog 43 #[sv, .int .i64 k, .string fund] w fun e w' => (∃ s, e = .returned (.tuple #[s, .int .i64 (Jb.errF L k fund)]) ∧ Hid (RdS 11 w' s (if Jb.errF L k fund = 0 then ((Jb.take L k (fun r => decide (r.kd = 5) && (r.t.vd || r.t.fnd == fund))).map fun r => r.t.c) else []))) ∧ Below w.heap.size w w' := by
 have hlen : (if Jb.errF L k fund = 0 then Jb.take L k (fun r => decide (r.kd = 5)) else []).length ≤ 4096 := by
  exact z9_183
 refine (rgl_t k _ _ fund sv w (upto_any sv L k 5 fund w hR) hlen).mono ?_
 exact z9_184
theorem rgl_s (k e0 : Int) (R : List JR) (sv : Value) (w : World) (hC : Calls Tryz.prog 58 #[sv, .int .i64 k, .int .i64 6, .string { data := #[97, 110, 121] }] w fun e w'' => (∃ s, e = .returned (.tuple #[s, .int .i64 e0]) ∧ Hid (RdR w'' s R)) ∧ Below w.heap.size w w'') (hl : R.length ≤ 4096) :
    Calls Tryz.prog 44 #[sv, .int .i64 k] w fun e w' => (∃ s, e = .returned (.tuple #[s, .int .i64 e0]) ∧ Hid (RdS 6 w' s ((R.filter (fun _ => true)).map fun r => r.s.c))) ∧ Below w.heap.size w w' := by
 have HM := Mem.start w
 have elT : elemB 109 57 6 64 = true := by kernel_rfl
 go_enter Tryz.func44, Tryz.ntmps44
 go_upto_region 2 with (go_at_call 58; refine hC.mono ?_; rintro e9 w2 ⟨⟨s, rfl, HR⟩, hL⟩)
 have HL := Zi hL
 clear HM hL
 have HM := Mem.start w2
 obtain ⟨A, cap, rfl⟩ := HR.out.form
 go_wp2_with fail
 go_loopw [8, 9] (fun ov iv wr => ∃ (i : Nat) (B : List (Nat × Array Value)), iv = .int .i64 (i : Nat) ∧ i ≤ R.length ∧ Hid (SlAt 6 ov (((R.take i).filter (fun _ => true)).map (fun r => r.s.c)) B) ∧ Mem w2 [] B wr) (fun _ iv _ => R.length - (intOf iv).toNat)
 case atStart => exact ⟨0, [], rfl, by omega, Zi .nil, HM⟩
 case round =>
  clear HM
  obtain ⟨i, B, rfl, hi, HS, HM⟩ := hrel
  by_cases hlt : i < R.length
  ·have hlt1 : (i : Int) < R.length := by omega
   obtain ⟨r, hr⟩ : ∃ r, R[i]? = some r := ⟨_, List.getElem?_eq_getElem hlt⟩
   obtain ⟨b, off, cs, rfl, HB, -, hj, hw⟩ := HR.out.at_ hr
   have l0 := LA.inRowA (JR.f_s r) Zk (by rw [JS.size]; kernel_rfl) hj.out (by rw [JS.size]; decide) (by rw [JS.size]; decide)
   have HST := Zi (Jb.filt_step R (fun _ => true) (fun r => r.s.c) hr)
   have hlen := Jb.filt_len R (fun _ => true) (fun r => r.s.c) (i := i) Zo
   have zr := JS.size r.s
   have hone : ∀ c ∈ [r.s.c], c.all (·.oneCell') = true := by simpa using JS.one r.s
   clear hr hw
   have HST2 : Hid (((R.take (i + 1)).filter (fun _ => true)).map (fun r => r.s.c) = ((R.take i).filter (fun _ => true)).map (fun r => r.s.c) ++ [r.s.c]) := Zi (by rw [HST.out]; rfl)
   clear HST
   go_wp2_with (first | ((with_reducible refine g_bs1 ?_); refine a_bs1 (c0 := r.s.c) HM ?_ (z0 := zr); clear HM; intro b9 w9 HM) | ((with_reducible refine g_app ?_); refine a_app (m := [r.s.c]) (F := fun X => X) HM HS.out ((SlAt.made1 b9 zr).rd HM Zs) ?_ hone (hlen := by simp only [List.length_singleton]; omega); clear HM; intro s9 B9 w9 HS9 HM) | ((with_reducible refine g_ld ?_); refine a_ld HM ?_))
   exact z9_178
  ·exact z9_180
theorem rget_s (sv : Value) (L : List JR) (k : Int) (w : World) (hR : RdR w sv L) :
    Calls Tryz.prog 44 #[sv, .int .i64 k] w fun e w' => (∃ s, e = .returned (.tuple #[s, .int .i64 (Jb.err L k)]) ∧ Hid (RdS 6 w' s (if Jb.err L k = 0 then ((Jb.take L k (fun r => decide (r.kd = 6))).map fun r => r.s.c) else []))) ∧ Below w.heap.size w w' := by
 have hlen : (if Jb.err L k = 0 then Jb.take L k (fun r => decide (r.kd = 6)) else []).length ≤ 4096 := by
  exact z9_181
 refine (rgl_s k (Jb.err L k) _ sv w (by have h := upto_any sv L k 6 { data := #[97, 110, 121] } w hR; rw [Jb.errF_any] at h; exact h) hlen).mono ?_
 exact z9_182
end
section
theorem z9_192 {P : Prop} (h : P := by
 go_ret2
 exact ⟨⟨_, rfl, Zi (RdS.nil0 _ _)⟩, HM.low⟩) : P := h
theorem z9_193 {P : Prop} (h : P := by
 go_roundw
 case rel => exact ⟨i + 1, O ++ [⟨r.day, a, a⟩], B9, by first | go_num | (rw [← ha2]; rfl) | (congr 1; omega), by omega, by simp; omega, HF2, Zi (by rw [List.map_append]; exact HSS), HM⟩
 case measure => simp [intOf]; omega) : P := h
theorem z9_194 {P : Prop} (h : P := by
 rw [List.getElem?_append_left (by rw [List.length_map, hul]; exact hjl), List.getElem?_map, Jb.upd_at hc]; rfl) : P := h
theorem z9_195 {P : Prop} (h : P := by
 have h := sa_rowone (T := 3) (n := 3) (a := 2) (v := .int .i64 a) Zk hz hk Zd rfl
 rw [JC.set2] at h
 exact h) : P := h
theorem z9_196 {P : Prop} (h : P := by
 rw [if_pos hd, if_pos hd, List.map_set, List.set_append_left _ _ (by rw [List.length_map, hul]; exact hjl)]) : P := h
theorem z9_197 {P : Prop} (h : P := by
 refine wpAnyL_done Zk ?_ _
 go_wp2_with ((with_reducible refine g_st ?_); refine a_st HM ?_; clear HM; intro w1 HM)
 go_roundw
 case rel => exact ⟨j + 1, by go_num, by omega, by rw [HU2.out]; exact HM⟩
 case measure => simp [intOf]; omega) : P := h
theorem z9_198 {P : Prop} (h : P := by
 refine wpAnyL_done Zk ?_ _
 go_wp2_with fail
 go_roundw
 case rel => exact ⟨j + 1, by go_num, by omega, by rw [HU2.out]; exact HM⟩
 case measure => simp [intOf]; omega) : P := h
end
section
open Jb
theorem rclos_any (sv : Value) (L : List JR) (k : Int) (w : World) (hR : RdR w sv L) :
    Calls Tryz.prog 45 #[sv, .int .i64 k] w fun e w' => (∃ s, e = .returned (.tuple #[s, .int .i64 (Jb.err L k)]) ∧ Hid (RdS 3 w' s (if Jb.err L k = 0 then (Jb.clos L k).map JC.c else []))) ∧ Below w.heap.size w w' := by
 have HM := Mem.start w
 have C1 : ∀ w', Below w.heap.size w w' → Calls Tryz.prog 58 #[sv, .int .i64 k, .int .i64 7, .string { data := #[97, 110, 121] }] w' fun e w'' => (∃ s, e = .returned (.tuple #[s, .int .i64 (Jb.err L k)]) ∧ Hid (RdR w'' s (if Jb.err L k = 0 then Jb.take L k (fun r => decide (r.kd = 7)) else []))) ∧ Below w'.heap.size w' w'' := fun w' hB => by
  have h := upto_any sv L k 7 { data := #[97, 110, 121] } w' (hR.below hB)
  rw [Jb.errF_any] at h
  exact h
 obtain ⟨A, cap, rfl⟩ := hR.form
 have HR := Zi hR
 by_cases he : Jb.err L k = 0
 case neg =>
  rw [if_neg he]
  generalize Jb.err L k = e0 at *
  have he1 : (e0 != 0) = true := bne_iff_ne.2 he
  clear hR HR
  go_enter Tryz.func45, Tryz.ntmps45
  go_wp2_with (go_at_call 58; refine (C1 _ HM.low).mono ?_; rintro e9 w2 ⟨⟨s, rfl, -⟩, hL⟩; replace HM := HM.call hL; clear hL)
  exact z9_192
 case pos =>
  obtain ⟨hL, hk1, hk2⟩ := Jb.err_ok he
  rw [if_pos he]
  rw [he] at C1 ⊢
  obtain ⟨m, hm⟩ : ∃ m : Nat, m = min k.toNat L.length := ⟨_, rfl⟩
  rw [Jb.clos_min L k hm]
  have hmL : m ≤ L.length := by omega
  have hm4 : m ≤ 4096 := by omega
  have hkm : (m : Int) ≤ k := by omega
  have HMN := Zi hm
  obtain ⟨M, hM⟩ : ∃ M, M = L.take m := ⟨_, rfl⟩
  have hMl : M.length = m := by rw [hM, List.length_take]; omega
  have HMM := Zi hM
  obtain ⟨F, hF⟩ := Zh (Jb.clo (L.take m) 0 [])
  rw [← hF.out]
  rw [← hM] at hF
  have elc := jc_el
  clear hR hm he hk1 hk2 hM
  go_enter Tryz.func45, Tryz.ntmps45
  go_wp2_with (go_at_call 58; refine (C1 _ HM.low).mono ?_; rintro e9 w2 ⟨⟨s, rfl, -⟩, hL⟩; replace HM := HM.call hL; clear hL)
  go_loopw [8, 9] (fun ov iv wr => ∃ (i : Nat) (O : List JC) (B : List (Nat × Array Value)), iv = .int .i64 (i : Nat) ∧ i ≤ m ∧ O.length ≤ i ∧ Hid (F = Jb.clo (M.drop i) i O) ∧ Hid (SlAt 3 ov (O.map JC.c) B) ∧ Mem w [] B wr) (fun _ iv _ => m - (intOf iv).toNat)
  case atStart => exact ⟨0, [], [], rfl, by omega, by simp, hF, Zi .nil, HM⟩
  case round =>
   clear HM hF
   obtain ⟨i, O, B, rfl, hi, hO, HF, HS, HM⟩ := hrel
   by_cases hlt : i < m
   ·have hlt1 : (i : Int) < m := by omega
    obtain ⟨r, hr⟩ : ∃ r, M[i]? = some r := ⟨_, List.getElem?_eq_getElem Zo⟩
    have hrL : L[i]? = some r := by have h := hr; rw [HMM.out, List.getElem?_take_of_lt hlt] at h; exact h
    obtain ⟨b, off, cs, rfl, HB, -, hc9, hw⟩ := HR.out.at_ hrL
    have lk := LA.inRow (JR.f_kd r) Zk hc9.out Zd
    have ld := LA.inRow (JR.f_day r) Zk hc9.out Zd
    rw [Nat.add_zero] at lk
    have hiL : (i : Int) < L.length := by have := HMN.out; omega
    have hlt3 : decide ((i : Int) < L.length) = true := Zt hiL
    have hlt2 : decide ((i : Int) < k) = true := Zt Zo
    have HS9 := Zi (HF.out.trans (Jb.clo_step hr O))
    clear hr hrL HF hw
    by_cases h7 : r.kd = 7
    ·have h71 : (r.kd == 7) = true := beq_iff_eq.2 h7
     obtain ⟨a, ha⟩ : ∃ a : Int, Hid (a = (i : Int) + 1) := ⟨_, Zi rfl⟩
     have ha2 : (i : Int) + 1 = a := ha.out.symm
     have HF2 : Hid (F = Jb.clo (M.drop (i + 1)) (i + 1) (O ++ [⟨r.day, a, a⟩])) := Zi (by rw [HS9.out, if_pos h7, show ((i + 1 : Nat) : Int) = a by rw [ha.out]; omega])
     have HBC := fun w => JC.build r.day a a w
     have zc : (JC.c ⟨r.day, a, a⟩).size = 3 := JC.size _
     have hone : ∀ c ∈ [JC.c ⟨r.day, a, a⟩], c.all (·.oneCell') = true := by simpa using JC.one _
     have hlen : (O.map JC.c).length ≤ 4096 := by rw [List.length_map]; omega
     clear h7 HS9
     go_wp2_with (first | ((with_reducible refine g_bld ?_); refine a_rbl (v := .agg (JC.c ⟨r.day, a, a⟩)) ?_ (hy := h_bg3 rfl Zw Zw Zw (by with_reducible exact (HBC)))) | ((with_reducible refine g_bs1 ?_); refine a_bs1 (c0 := JC.c ⟨r.day, a, a⟩) HM ?_ (z0 := zc); clear HM; intro b9 w9 HM) | ((with_reducible refine g_app ?_); refine a_app (m := [JC.c ⟨r.day, a, a⟩]) (F := fun X => X) HM HS.out ((SlAt.made1 b9 zc).rd HM Zs) ?_ hone (hlen := by simp only [List.length_singleton]; omega); clear HM; intro s9 B9 w9 HSS HM) | ((with_reducible refine g_ld ?_); refine a_ld HM ?_))
     exact z9_193
    ·have h71 : (r.kd == 7) = false := Zb h7
     by_cases h8 : r.kd = 8
     case neg =>
      have h81 : (r.kd == 8) = false := Zb h8
      have HF2 : Hid (F = Jb.clo (M.drop (i + 1)) (i + 1) O) := Zi (by rw [HS9.out, if_neg h7, if_neg h8])
      clear h7 h8 HS9
      go_wp2_with ((with_reducible refine g_ld ?_); refine a_ld HM ?_)
      go_roundw
      case rel => exact ⟨i + 1, O, B, by go_num, by omega, by omega, HF2, HS, HM⟩
      case measure => simp [intOf]; omega
     case pos =>
      have h81 : (r.kd == 8) = true := beq_iff_eq.2 h8
      obtain ⟨a, ha⟩ : ∃ a : Int, Hid (a = (i : Int) + 1) := ⟨_, Zi rfl⟩
      have ha2 : (i : Int) + 1 = a := ha.out.symm
      have HF2 : Hid (F = Jb.clo (M.drop (i + 1)) (i + 1) (O.map (Jb.cor r.day a))) := Zi (by rw [HS9.out, if_neg h7, if_pos h8, show ((i + 1 : Nat) : Int) = a by rw [ha.out]; omega])
      clear h7 h8 HS9
      by_cases hO0 : O = []
      case pos =>
       subst hO0
       obtain ⟨A0, cap0, rfl, -⟩ := HS.out.val
       go_wp2_with ((with_reducible refine g_ld ?_); refine a_ld HM ?_)
       go_loopw [10] (fun jv wr => jv = .int .i64 0 ∧ Mem w [] B wr) (fun _ _ => 0)
       case atStart => exact ⟨rfl, HM⟩
       case round =>
        clear HM
        obtain ⟨rfl, HM⟩ := hrel
        go_wp2_with fail
        go_roundw
        case rel => exact ⟨i + 1, [], B, by go_num, by omega, by simp, HF2, HS, HM⟩
        case measure => simp [intOf]; omega
      case neg =>
       obtain ⟨bo, sp, e1, e2, hsz⟩ := SlAt.inv (l := O.map JC.c) HS.out (by simpa using hO0)
       rw [List.length_map] at e1
       subst e1 e2
       have hsp : ∀ c ∈ sp, c.size = 3 := fun c hc => hsz c (List.mem_append_right _ hc)
       have HSP := Zi hsp
       clear hsz HS hO0 hsp
       go_wp2_with ((with_reducible refine g_ld ?_); refine a_ld HM ?_)
       go_loopw [10] (fun jv wr => ∃ j : Nat, jv = .int .i64 (j : Nat) ∧ j ≤ O.length ∧ Mem w [] [(bo, rowsOf ((Jb.upd r.day a O j).map JC.c ++ sp))] wr) (fun jv _ => O.length - (intOf jv).toNat)
       case atStart => exact ⟨0, rfl, by omega, by rw [Jb.upd_0]; exact HM⟩
       case round =>
        clear HM
        obtain ⟨j, rfl, hj, HM⟩ := hrel
        by_cases hjl : j < O.length
        ·have hjl1 : (j : Int) < O.length := by omega
         obtain ⟨c, hc⟩ : ∃ c, O[j]? = some c := ⟨_, List.getElem?_eq_getElem hjl⟩
         have hul := Jb.upd_len r.day a O hj
         have hz : ∀ x ∈ (Jb.upd r.day a O j).map JC.c ++ sp, x.size = 3 := fun x hx => by
          rcases List.mem_append.1 hx with h | h
          ·exact JC.sizes _ x h
          ·exact HSP.out x h
         have hk : ((Jb.upd r.day a O j).map JC.c ++ sp)[j]? = some c.c := by
          exact z9_194
         have l1 : LA 3 (rowsOf ((Jb.upd r.day a O j).map JC.c ++ sp)) (j * 3 + 0) (.int .i64 c.day) := la_rowone Zk hz hk Zd c.at0
         rw [Nat.add_zero] at l1
         have s2 : SA 3 (rowsOf ((Jb.upd r.day a O j).map JC.c ++ sp)) (j * 3 + 2) (.int .i64 a) (rowsOf (((Jb.upd r.day a O j).map JC.c ++ sp).set j (JC.c { c with as_ := a }))) := by
          exact z9_195
         have HU : Hid ((Jb.upd r.day a O (j + 1)).map JC.c ++ sp = if r.day ≤ c.day then ((Jb.upd r.day a O j).map JC.c ++ sp).set j (JC.c { c with as_ := a }) else (Jb.upd r.day a O j).map JC.c ++ sp) := Zi (by
          rw [Jb.upd_step hc]
          unfold Jb.cor
          by_cases hd : r.day ≤ c.day
          ·exact z9_196
          ·rw [if_neg hd, if_neg hd, Jb.set_same (Jb.upd_at hc)])
         clear hz hk hc hul
         by_cases hd : r.day ≤ c.day
         ·have hd1 : decide (r.day ≤ c.day) = true := Zt hd
          have HU2 := Zi (HU.out.trans (if_pos hd))
          clear hd HU
          go_upto_region 15 with fail
          refine start_M2 [] HM ((Sub.keep Sub.nil)) Zk (fun w0x H9 => ?_)
          replace HM := H9; clear H9
          refine k_mv 0 (heldE HM) ?_
          refine k_mv 1 (heldE HM) ?_
          refine k_ia 2 (heldE HM) ?_
          refine k_fa 3 (heldE HM) ?_
          refine k_ld 4 [] (heldE HM) ?_
          refine k_mv 5 (heldE HM) ?_
          refine k_mv 6 (heldE HM) ?_
          refine k_ia 7 (heldE HM) ?_
          refine k_fa 8 (heldE HM) ?_
          refine k_ld 9 [] (heldE HM) ?_
          refine k_bin 10 (heldE HM) ?_
          exact z9_197
         ·have hd1 : decide (r.day ≤ c.day) = false := Zf hd
          have HU2 := Zi (HU.out.trans (if_neg hd))
          clear hd HU s2
          go_upto_region 15 with fail
          refine start_M2 [] HM ((Sub.keep Sub.nil)) Zk (fun w0x H9 => ?_)
          replace HM := H9; clear H9
          refine k_mv 0 (heldE HM) ?_
          refine k_mv 1 (heldE HM) ?_
          refine k_ia 2 (heldE HM) ?_
          refine k_fa 3 (heldE HM) ?_
          refine k_ld 4 [] (heldE HM) ?_
          refine k_mv 5 (heldE HM) ?_
          refine k_mv 6 (heldE HM) ?_
          refine k_ia 7 (heldE HM) ?_
          refine k_fa 8 (heldE HM) ?_
          refine k_ld 9 [] (heldE HM) ?_
          refine k_bin 10 (heldE HM) ?_
          exact z9_198
        ·obtain rfl : j = O.length := by omega
         have HS3 : Hid (SlAt 3 (.slice (some ⟨bo, 0, none⟩) O.length (O.length + sp.length)) ((O.map (Jb.cor r.day a)).map JC.c) [(bo, rowsOf ((O.map (Jb.cor r.day a)).map JC.c ++ sp))]) := Zi (by
          have h := SlAt.row (n := 3) bo ((O.map (Jb.cor r.day a)).map JC.c) sp (fun x hx => by
           rcases List.mem_append.1 hx with h | h
           ·exact JC.sizes _ x h
           ·exact HSP.out x h)
          rw [List.length_map, List.length_map] at h
          exact h)
         rw [Jb.upd_all] at HM
         go_wp2_with fail
         go_roundw
         case rel => exact ⟨i + 1, O.map (Jb.cor r.day a), _, by first | go_num | (congr 1; omega), by omega, by simp; omega, HF2, HS3, HM⟩
         case measure => simp [intOf]; omega
   ·obtain rfl : i = m := by omega
    have HF2 : Hid (F = O) := Zi (by rw [HF.out]; exact Jb.clo_end Zo O)
    by_cases hx : i < L.length
    case' pos =>
     have hlt3 : decide ((i : Int) < L.length) = true := Zt Zo
     have hlt2 : decide ((i : Int) < k) = false := Zf (by have := HMN.out; omega)
    case' neg =>
     have hlt3 : decide ((i : Int) < L.length) = false := Zf Zo
    all_goals
     go_wp2_with fail
     go_ret2
     refine ⟨⟨_, rfl, Zi ?_⟩, HM.low⟩
     rw [HF2.out]
     exact HS.out.rd HM (fun p hp => hp)
theorem same37_any (a b : Value) (O : List JC) (w : World) (ha : RdS 3 w a (O.map JC.c)) (hb : RdS 3 w b (O.map JC.c)) (hn : O.length ≤ 100000) :
    Calls Tryz.prog 14 #[a, b] w fun e w' => e = .returned (.bool true) ∧ Below w.heap.size w w' := by
 have HM := Mem.start w
 have HA := Zi ha
 have HB := Zi hb
 obtain ⟨Aa, ca, ea⟩ := RdS.form1 ha
 obtain ⟨Ab, cb, eb⟩ := RdS.form1 hb
 rw [List.length_map] at ea eb
 subst ea eb
 clear ha hb
 have g1 : ((O.length : Int) != (O.length : Int)) = false := by simp
 go_enter Tryz.func14, Tryz.ntmps14
 go_wp2_with fail
 go_loopw [5] (fun iv wr => ∃ i : Nat, iv = .int .i64 (i : Nat) ∧ i ≤ O.length ∧ Mem w [] [] wr) (fun iv _ => O.length - (intOf iv).toNat)
 case atStart => exact ⟨0, rfl, by omega, HM⟩
 case round =>
  clear HM
  obtain ⟨i, rfl, hi, HM⟩ := hrel
  by_cases hlt : i < O.length
  ·have hlt1 : (i : Int) < O.length := by omega
   obtain ⟨x, hx⟩ : ∃ x, O[i]? = some x := ⟨_, List.getElem?_eq_getElem hlt⟩
   obtain ⟨b1, off1, cs1, c1, e1, hb1, hc1⟩ := RdS.get HA.out (k := i) (c := x.c) (by rw [List.getElem?_map, hx]; rfl)
   obtain ⟨b2, off2, cs2, c2, e2, hb2, hc2⟩ := RdS.get HB.out (k := i) (c := x.c) (by rw [List.getElem?_map, hx]; rfl)
   injection e1 with e11 e12 e13
   injection e2 with e21 e22 e23
   subst e11 e21
   have k1 : LA 61 cs1 (off1 + i * 3) (.agg x.c) := la_in (n := 3) Zk Zk x.size hc1 Zd
   have k2 : LA 61 cs2 (off2 + i * 3) (.agg x.c) := la_in (n := 3) Zk Zk x.size hc2 Zd
   have HB1 := Zi hb1
   have HB2 := Zi hb2
   have E := JC.eq9 x x
   rw [JC.b_self] at E
   clear hx hb1 hb2 hc1 hc2 e12 e13 e22 e23
   go_upto_region 6 with fail
   refine start_M [] HM Zk (fun w0x H9 => ?_)
   replace HM := H9; clear H9
   refine k_mv 0 (heldE HM) ?_
   refine k_mv 1 (heldE HM) ?_
   refine k_ia 2 (heldE HM) ?_
   refine k_ld 3 [] (heldE HM) ?_
   refine k_mv 4 (heldE HM) ?_
   refine k_mv 5 (heldE HM) ?_
   refine k_ia 6 (heldE HM) ?_
   refine k_ld 7 [] (heldE HM) ?_
   refine t_eq (i := 8) (v := ?_) [] rfl rfl rfl Zk (fun _ _ _ h => h) (heldE HM) ?_ ?_; rotate_left 1; (focus ((refine y_cmps .neq false (.inr rfl) (E) rfl Zk (x := ?_) (y := ?_) (t := ?_) ?_ ?_ ?_ ?_; rotate_left 3; (focus rfl); (focus rfl); (focus ((conv => lhs; whnf) <;> rfl)); ((conv => lhs; whnf) <;> rfl)))); ((try simp only [Za]); (try simp only [Zx]); (try simp only [Zy]))
   refine wpAnyL_done Zk ?_ _
   go_wp2_with fail
   go_roundw
   case rel => exact ⟨i + 1, by go_num, by omega, HM⟩
   case measure => simp [intOf]; omega
  ·obtain rfl : i = O.length := by omega
   go_wp2_with fail
   go_ret
   exact ⟨rfl, HM.low⟩
end
end Go.Proofs.YtkiempioeffhbaaGreatDoor
