/- Walks, and plain facts for them. -/
import Derived.Test.YtckhdiljihhdmaaGreatPb28
import Derived.Test.YtckhdiljihhdmaaGreatPb30
import Derived.Test.YtckhdiljihhdmaaGreatPb34
namespace Go.Proofs.YtckhdiljihhdmaaGreat
set_option maxRecDepth 8000
open Go.RowKit
theorem lk_els : elemB 58 9 1 16 = true := by kernel_rfl
def Lk.bs (x : List UInt8) : ByteArray := ⟨x.toArray⟩
theorem Lk.bs_list (x : List UInt8) : (Lk.bs x).toList = x := by rw [ByteArray.toList_eq]; rfl
theorem Lk.bs_of (s : ByteArray) : Lk.bs s.toList = s := by rw [ByteArray.toList_eq]; rfl
def Ws (L : List (List UInt8)) : List (Array Value) := L.map fun x => #[.string (Lk.bs x)]
theorem Ws_len (L : List (List UInt8)) : (Ws L).length = L.length := List.length_map _
theorem Ws_one (L : List (List UInt8)) : ∀ c ∈ Ws L, c.all (·.oneCell') = true := by
 intro c hc
 obtain ⟨x, _, rfl⟩ := List.mem_map.1 hc
 simp [Value.oneCell']
theorem Ws_app (a b : List (List UInt8)) : Ws (a ++ b) = Ws a ++ Ws b := List.map_append
theorem Ws_take (L : List (List UInt8)) (i : Nat) : (Ws L).take i = Ws (L.take i) := by unfold Ws; rw [List.map_take]
theorem Ws_drop (L : List (List UInt8)) (i : Nat) : (Ws L).drop i = Ws (L.drop i) := by unfold Ws; rw [List.map_drop]
theorem RdS.atW {w : World} {A : Option Addr} {n cap : Nat} {L : List (List UInt8)} (h : RdS 1 w (.slice A n cap) (Ws L)) {i : Nat} {x : List UInt8} (hi : L[i]? = some x) : ∃ b off cs, A = some ⟨b, off, none⟩ ∧ Hid (Rbk w b cs) ∧ LA 9 cs (off + i) (.string (Lk.bs x)) := by
 obtain ⟨b, off, cs, e, hb, hc⟩ := RdS.one_at h (i := i) (v := .string (Lk.bs x)) (by unfold Ws; rw [List.getElem?_map, hi]; rfl)
 exact ⟨b, off, cs, e, hb, LA.one (by kernel_rfl) hc⟩
theorem RdS.formW {w : World} {sv : Value} {L : List (List UInt8)} (h : RdS 1 w sv (Ws L)) : ∃ A cap, sv = .slice A L.length cap := by
 obtain ⟨A, cap, e⟩ := RdS.form1 h
 rw [Ws_len] at e
 exact ⟨A, cap, e⟩
theorem Lk.less_t {x s : List UInt8} (h : x < s) : Op.bytesLess x s = true := by rw [bytesLess_eq]; exact decide_eq_true h
theorem Lk.less_f {x s : List UInt8} (h : ¬ x < s) : Op.bytesLess x s = false := by rw [bytesLess_eq]; exact decide_eq_false h
set_option maxHeartbeats 8000000 in
theorem instruments_any (lv : Value) (L : List (List Lk.H)) (w : World) (hR : RdL w lv L) (hl : L.length ≤ 8) (hv : Lk.all L = true) :
    Calls Tryz.prog 21 #[lv] w fun e w' => ∃ sv, e = .returned sv ∧ Hid (RdS 1 w' sv (Ws (Lk.names L))) ∧ Hid ((Lk.names L).length ≤ 512) ∧ Below w.heap.size w w' := by
 have HM := Mem.start w
 have HR := Lib.hid hR
 have HV := Lib.hid hv
 obtain ⟨A, cap, rfl⟩ := hR.form
 clear hR hv
 have hel := lk_els
 go_enter Tryz.func21, Tryz.ntmps21
 go_wp2_with ((with_reducible refine g_ld ?_); refine a_ld HM ?_)
 go_loopw [3, 4] (fun ov iv wr => ∃ (i : Nat) (so : Value) (N : List (List UInt8)) (B : List (Nat × Array Value)), so = ov ∧ iv = .int .i64 (i : Nat) ∧ i ≤ L.length ∧ Hid (N = Lk.nms [] (L.take i)) ∧ N.length ≤ 64 * i ∧ Hid (SlAt 1 so (Ws N) B) ∧ Mem w [] B wr) (fun _ iv _ => L.length - (intOf iv).toNat)
 case atStart => exact ⟨0, _, [], [], rfl, rfl, by omega, Lib.hid rfl, by simp, Lib.hid SlAt.nil, HM⟩
 case round =>
  clear HM
  obtain ⟨i, so, N, B, rfl, rfl, hi, HN, hN1, HS, HM⟩ := hrel
  by_cases hlt : i < L.length
  ·have hlt1 : (i : Int) < L.length := by omega
   obtain ⟨l, hll⟩ : ∃ l, L[i]? = some l := ⟨_, List.getElem?_eq_getElem hlt⟩
   obtain ⟨b, off, cs, A2, c2, rfl, HB, k1, HL⟩ := HR.out.at_ hll
   have hl64 := Lk.val_len (Lk.all_at HV.out hll)
   have HLL := Lib.hid (Lk.nms_step (acc := []) hll)
   clear hll
   go_wp2_with ((with_reducible refine g_ld ?_); refine a_ld HM ?_)
   obtain ⟨N0, hN0⟩ : ∃ N0, Hid (N0 = N) := ⟨_, Lib.hid rfl⟩
   have hN2 : N.length ≤ 64 * i + 0 := hN1
   have HN0 : Hid (N = Lk.nml N0 (l.take 0)) := Lib.hid hN0.out.symm
   clear hN1
   go_loopw [3, 5] (fun ov jv wr => ∃ (j : Nat) (so : Value) (N : List (List UInt8)) (B : List (Nat × Array Value)), so = ov ∧ jv = .int .i64 (j : Nat) ∧ j ≤ l.length ∧ Hid (N = Lk.nml N0 (l.take j)) ∧ N.length ≤ 64 * i + j ∧ Hid (SlAt 1 so (Ws N) B) ∧ Mem w [] B wr) (fun _ jv _ => l.length - (intOf jv).toNat)
   case atStart => exact ⟨0, _, N, B, rfl, rfl, by omega, HN0, hN2, HS, HM⟩
   case round =>
    clear HM hN2 HS
    replace HN : Hid (N0 = Lk.nms [] (L.take i)) := Lib.hid (by rw [hN0.out]; exact HN.out)
    clear hN0 HN0
    rename_i N9 B9 _ _ _ _
    obtain ⟨j, so, N, B, rfl, rfl, hj, HN1, hN1, HS, HM⟩ := hrel
    by_cases hjt : j < l.length
    ·have hjt1 : (j : Int) < l.length := by omega
     obtain ⟨h, hh⟩ : ∃ h, l[j]? = some h := ⟨_, List.getElem?_eq_getElem hjt⟩
     obtain ⟨b2, off2, cs2, rfl, HB2, -, k2, -⟩ := HL.out.at_ hh
     have est := Lk.nml_step (acc := N0) hh
     obtain ⟨s, hs⟩ : ∃ s, s = h.nm := ⟨_, rfl⟩
     rw [← hs] at est k2
     have HST : Hid (Lk.nml N0 (l.take (j + 1)) = Lk.ins N s.toList) := Lib.hid (by rw [est, HN1.out])
     clear hh est hs
     have HRS := Lib.hid (HS.out.rd HM (fun p hp => hp))
     obtain ⟨Ao, co, rfl⟩ := HRS.out.formW
     go_wp2_with ((with_reducible refine g_ld ?_); refine a_ld HM ?_)
     go_loopw [7] (fun kv wr => ∃ k : Nat, kv = .int .i64 (k : Nat) ∧ k ≤ N.length ∧ Hid (∀ x ∈ N.take k, x < s.toList) ∧ Mem w [] B wr) (fun kv _ => N.length - (intOf kv).toNat)
     case atStart => exact ⟨0, rfl, by omega, Lib.hid (by simp), HM⟩
     case round =>
      clear HM HRS
      obtain ⟨k, rfl, hk, HT, HM⟩ := hrel
      have HRS := Lib.hid (HS.out.rd HM (fun p hp => hp))
      by_cases hkt : k < N.length
      ·have hkt1 : (k : Int) < N.length := by omega
       obtain ⟨x, hx⟩ : ∃ x, N[k]? = some x := ⟨_, List.getElem?_eq_getElem hkt⟩
       obtain ⟨b3, off3, cs3, rfl, HB3, k3⟩ := HRS.out.atW hx
       by_cases hc : x < s.toList
       ·have g1 : Op.bytesLess (Lk.bs x).toList s.toList = true := by rw [Lk.bs_list]; exact Lk.less_t hc
        have HT2 : Hid (∀ x ∈ N.take (k + 1), x < s.toList) := Lib.hid (by
         intro z hz
         rw [List.take_add_one, hx] at hz
         rcases List.mem_append.1 hz with h | h
         ·exact HT.out z h
         ·simp at h; rw [h]; exact hc)
        clear hc hx
        go_wp2_with (first | ((with_reducible refine g_ld ?_); refine a_ldw HB3 ?_) | ((with_reducible refine g_ld ?_); refine a_ld HM ?_))
        go_roundw
        case rel => exact ⟨k + 1, by go_num, by omega, HT2, HM⟩
        case measure => simp [intOf]; omega
       ·have g1 : Op.bytesLess (Lk.bs x).toList s.toList = false := by rw [Lk.bs_list]; exact Lk.less_f hc
        have hdr : N.drop k = x :: N.drop (k + 1) := by
         obtain ⟨h1, h2⟩ := List.getElem?_eq_some_iff.1 hx
         rw [List.drop_eq_getElem_cons h1, h2]
        by_cases hs : x = s.toList
        ·have hNL : N = Lk.nml N0 (l.take (j + 1)) := by
           rw [HST.out, Lk.ins_split k N _ HT.out, hdr, Lk.ins, if_neg hc, if_pos hs, ← hdr, List.take_append_drop]
         have g2 : ((Lk.bs x).toList == s.toList) = true := by rw [Lk.bs_list, hs]; exact beq_self_eq_true _
         have HNL := Lib.hid hNL
         clear hc hx hdr hs hNL
         go_wp2_with (first | ((with_reducible refine g_ld ?_); refine a_ldw HB3 ?_) | ((with_reducible refine g_ld ?_); refine a_ld HM ?_))
         go_roundw
         case rel => exact ⟨j + 1, _, N, B, rfl, by go_num, by omega, HNL, by omega, HS, HM⟩
         case measure => simp [intOf]; omega
        ·have g2 : ((Lk.bs x).toList == s.toList) = false := beq_eq_false_iff_ne.2 (by rw [Lk.bs_list]; exact hs)
         obtain ⟨N2, hN2⟩ : ∃ N2, Hid (N2 = Lk.nml N0 (l.take (j + 1))) := ⟨_, Lib.hid rfl⟩
         have hlen2 : N2.length ≤ 64 * i + (j + 1) := by
          rw [hN2.out, HST.out]
          have := Lk.ins_len N s.toList
          omega
         obtain ⟨sv1, hrun1, hrd1⟩ := run_take HRS.out hel (k := k) (by rw [Ws_len]; omega)
         obtain ⟨sv2, hrun2, hrd2⟩ := run_drop HRS.out hel (k := k) (by rw [Ws_len]; omega)
         rw [Ws_take] at hrd1
         rw [Ws_drop] at hrd2
         have HR1 := Lib.hid hrun1
         have HR2 := Lib.hid hrun2
         have HD1 := Lib.hid hrd1
         have HD2 := Lib.hid hrd2
         clear hrun1 hrun2 hrd1 hrd2
         have HN2 : Hid (Ws N2 = [] ++ Ws (N.take k) ++ [#[.string s]] ++ Ws (N.drop k)) := Lib.hid (by
          rw [hN2.out, HST.out, Lk.ins_split k N _ HT.out, show Lk.ins (N.drop k) s.toList = s.toList :: N.drop k by rw [hdr, Lk.ins, if_neg hc, if_neg hs], Ws_app]
          simp only [List.nil_append, List.append_assoc]
          have e : Ws (s.toList :: N.drop k) = #[.string s] :: Ws (N.drop k) := by
           show #[Value.string (Lk.bs s.toList)] :: _ = _
           rw [Lk.bs_of]; rfl
          rw [e]; rfl)
         have hs1 : ∀ c ∈ [#[Value.string s]], c.all (·.oneCell') = true := by simp [Value.oneCell']
         have hc1 : (([] : List (Array Value)).length + (Ws (N.take k)).length) * (16 + 1) ≤ 140737488355328 := by simp only [List.length_nil, Ws_len, List.length_take]; omega
         have hc2 : (([] ++ Ws (N.take k)).length + [#[Value.string s]].length) * (16 + 1) ≤ 140737488355328 := by simp only [List.length_append, List.length_nil, List.length_cons, Ws_len, List.length_take]; omega
         have hc3 : (([] ++ Ws (N.take k) ++ [#[Value.string s]]).length + (Ws (N.drop k)).length) * (16 + 1) ≤ 140737488355328 := by simp only [List.length_append, List.length_nil, List.length_cons, Ws_len, List.length_take, List.length_drop]; omega
         clear hc hx hdr hs
         go_upto_region 12 with (first | ((with_reducible refine g_ld ?_); refine a_ldw HB3 ?_) | ((with_reducible refine g_ld ?_); refine a_ld HM ?_))
         refine start_M [] HM (by kernel_rfl) (fun w0x H9 => ?_)
         replace HM := H9; clear H9
         refine k_mv 0 (heldG HM) ?_
         refine k_mv 1 (heldG HM) ?_
         refine t_pure (i := 2) (v := sv1) rfl rfl (by kernel_rfl) (fun _ _ _ h => h) (heldG HM) (by rfl) ?_ ?_; (focus (exact h_sl (by rfl) (fun w => by simpa [Act.eval] using HR1.out w))); ((try simp only [List.setIfInBounds_toArray]); (try simp only [List.set_cons_succ]); (try simp only [List.set_cons_zero]))
         refine k_mv 4 (heldG HM) ?_
         refine k_mv 7 (heldG HM) ?_
         refine k_mv 8 (heldG HM) ?_
         refine t_pure (i := 9) (v := sv2) rfl rfl (by kernel_rfl) (fun _ _ _ h => h) (heldG HM) (by rfl) ?_ ?_; (focus (exact h_sl (by rfl) (fun w => by simpa [Act.eval] using HR2.out w))); ((try simp only [List.setIfInBounds_toArray]); (try simp only [List.set_cons_succ]); (try simp only [List.set_cons_zero]))
         refine j_two 3 5 ?_ ?_
         ·(first | refine j_app (m := Ws (N.take k)) (F := fun X => (bx, rowsOf [#[.string s]]) :: (X ++ B)) HM SlAt.nil (HD1.out _ (HS.out.rd HM (fun p hp => by simp [hp]))) ?_ (Ws_one _) (hlen := hc1) | refine j_app (m := Ws (N.take k)) (F := fun X => X ++ B) HM SlAt.nil (HD1.out _ (HS.out.rd HM (fun p hp => by simp [hp]))) ?_ (Ws_one _) (hlen := hc1)); clear HM; intro s3 B3 w1 HS3 HM
          refine ⟨(heldG HM), ?_⟩; ((try simp only [List.setIfInBounds_toArray]); (try simp only [List.set_cons_succ]); (try simp only [List.set_cons_zero]))
          refine j_one 5 fun K9 hK9 => ?_
          refine j_bs1 (c0 := #[.string s]) HM ?_; clear HM; intro bx w1 HM
          refine hK9 _ _ (heldG HM) ?_; clear hK9 K9; ((try simp only [List.setIfInBounds_toArray]); (try simp only [List.set_cons_succ]); (try simp only [List.set_cons_zero]))
          refine j_one 6 fun K9 hK9 => ?_
          refine j_app (m := [#[.string s]]) (F := fun X => X ++ B) HM HS3 ((SlAt.made1 bx (c := #[.string s]) rfl).rd HM (by simp)) ?_ hs1 (hlen := hc2); clear HM; intro s6 B6 w1 HS6 HM
          refine hK9 _ _ (heldG HM) ?_; clear hK9 K9; ((try simp only [List.setIfInBounds_toArray]); (try simp only [List.set_cons_succ]); (try simp only [List.set_cons_zero]))
          refine j_one 10 fun K9 hK9 => ?_
          refine j_app (m := Ws (N.drop k)) (F := fun X => X ++ B) HM HS6 (HD2.out _ (HS.out.rd HM (fun p hp => by simp [hp]))) ?_ (Ws_one _) (hlen := hc3); clear HM; intro s10 B10 w1 HS10 HM
          refine hK9 _ _ (heldG HM) ?_; clear hK9 K9; ((try simp only [List.setIfInBounds_toArray]); (try simp only [List.set_cons_succ]); (try simp only [List.set_cons_zero]))
          refine k_mv 11 (heldG HM) ?_
          refine wpAnyL_done (by kernel_rfl) ?_ _
          (go_wp2_with fail; go_roundw; (case rel => exact ⟨j + 1, _, N2, B10, rfl, by go_num, by omega, hN2, hlen2, Lib.hid (by rw [HN2.out]; exact HS10), HM.pk (by exact Pk.pre _ _)⟩); (case measure => simp [intOf]; omega))
         ·refine j_bs1 (c0 := #[.string s]) HM ?_; clear HM; intro bx w1 HM
          refine ⟨(heldG HM), ?_⟩; ((try simp only [List.setIfInBounds_toArray]); (try simp only [List.set_cons_succ]); (try simp only [List.set_cons_zero]))
          refine j_one 3 fun K9 hK9 => ?_
          (first | refine j_app (m := Ws (N.take k)) (F := fun X => (bx, rowsOf [#[.string s]]) :: (X ++ B)) HM SlAt.nil (HD1.out _ (HS.out.rd HM (fun p hp => by simp [hp]))) ?_ (Ws_one _) (hlen := hc1) | refine j_app (m := Ws (N.take k)) (F := fun X => X ++ B) HM SlAt.nil (HD1.out _ (HS.out.rd HM (fun p hp => by simp [hp]))) ?_ (Ws_one _) (hlen := hc1)); clear HM; intro s3 B3 w1 HS3 HM
          refine hK9 _ _ (heldG HM) ?_; clear hK9 K9; ((try simp only [List.setIfInBounds_toArray]); (try simp only [List.set_cons_succ]); (try simp only [List.set_cons_zero]))
          refine j_one 6 fun K9 hK9 => ?_
          refine j_app (m := [#[.string s]]) (F := fun X => X ++ B) HM HS3 ((SlAt.made1 bx (c := #[.string s]) rfl).rd HM (by simp)) ?_ hs1 (hlen := hc2); clear HM; intro s6 B6 w1 HS6 HM
          refine hK9 _ _ (heldG HM) ?_; clear hK9 K9; ((try simp only [List.setIfInBounds_toArray]); (try simp only [List.set_cons_succ]); (try simp only [List.set_cons_zero]))
          refine j_one 10 fun K9 hK9 => ?_
          refine j_app (m := Ws (N.drop k)) (F := fun X => X ++ B) HM HS6 (HD2.out _ (HS.out.rd HM (fun p hp => by simp [hp]))) ?_ (Ws_one _) (hlen := hc3); clear HM; intro s10 B10 w1 HS10 HM
          refine hK9 _ _ (heldG HM) ?_; clear hK9 K9; ((try simp only [List.setIfInBounds_toArray]); (try simp only [List.set_cons_succ]); (try simp only [List.set_cons_zero]))
          refine k_mv 11 (heldG HM) ?_
          refine wpAnyL_done (by kernel_rfl) ?_ _
          (go_wp2_with fail; go_roundw; (case rel => exact ⟨j + 1, _, N2, B10, rfl, by go_num, by omega, hN2, hlen2, Lib.hid (by rw [HN2.out]; exact HS10), HM.pk (by exact Pk.pre _ _)⟩); (case measure => simp [intOf]; omega))
      ·obtain rfl : k = N.length := by omega
       obtain ⟨N2, hN2⟩ : ∃ N2, Hid (N2 = Lk.nml N0 (l.take (j + 1))) := ⟨_, Lib.hid rfl⟩
       have hlen2 : N2.length ≤ 64 * i + (j + 1) := by
        rw [hN2.out, HST.out]
        have := Lk.ins_len N s.toList
        omega
       obtain ⟨k, hkN⟩ : ∃ k, Hid (k = N.length) := ⟨_, Lib.hid rfl⟩
       obtain ⟨sv1, hrun1, hrd1⟩ := run_take HRS.out hel (k := N.length) (by rw [Ws_len]; omega)
       obtain ⟨sv2, hrun2, hrd2⟩ := run_drop HRS.out hel (k := N.length) (by rw [Ws_len]; omega)
       rw [Ws_take] at hrd1
       rw [Ws_drop] at hrd2
       have HR1 := Lib.hid hrun1
       have HR2 := Lib.hid hrun2
       have HD1 := Lib.hid hrd1
       have HD2 := Lib.hid hrd2
       clear hrun1 hrun2 hrd1 hrd2
       have HN2 : Hid (Ws N2 = [] ++ Ws (N.take N.length) ++ [#[.string s]] ++ Ws (N.drop N.length)) := Lib.hid (by
        rw [hN2.out, HST.out, Lk.ins_split N.length N _ HT.out, show Lk.ins (N.drop N.length) s.toList = s.toList :: N.drop N.length by rw [List.drop_length]; rfl, Ws_app]
        simp only [List.nil_append, List.append_assoc]
        have e : Ws (s.toList :: N.drop N.length) = #[.string s] :: Ws (N.drop N.length) := by
         show #[Value.string (Lk.bs s.toList)] :: _ = _
         rw [Lk.bs_of]; rfl
        rw [e]; rfl)
       have hs1 : ∀ c ∈ [#[Value.string s]], c.all (·.oneCell') = true := by simp [Value.oneCell']
       have hc1 : (([] : List (Array Value)).length + (Ws (N.take N.length)).length) * (16 + 1) ≤ 140737488355328 := by simp only [List.length_nil, Ws_len, List.length_take]; omega
       have hc2 : (([] ++ Ws (N.take N.length)).length + [#[Value.string s]].length) * (16 + 1) ≤ 140737488355328 := by simp only [List.length_append, List.length_nil, List.length_cons, Ws_len, List.length_take]; omega
       have hc3 : (([] ++ Ws (N.take N.length) ++ [#[Value.string s]]).length + (Ws (N.drop N.length)).length) * (16 + 1) ≤ 140737488355328 := by simp only [List.length_append, List.length_nil, List.length_cons, Ws_len, List.length_take, List.length_drop]; omega
       go_upto_region 12 with ((with_reducible refine g_ld ?_); refine a_ld HM ?_)
       refine start_M [] HM (by kernel_rfl) (fun w0x H9 => ?_)
       replace HM := H9; clear H9
       refine k_mv 0 (heldG HM) ?_
       refine k_mv 1 (heldG HM) ?_
       refine t_pure (i := 2) (v := sv1) rfl rfl (by kernel_rfl) (fun _ _ _ h => h) (heldG HM) (by rfl) ?_ ?_; (focus (exact h_sl (by rfl) (fun w => by simpa [Act.eval] using HR1.out w))); ((try simp only [List.setIfInBounds_toArray]); (try simp only [List.set_cons_succ]); (try simp only [List.set_cons_zero]))
       refine k_mv 4 (heldG HM) ?_
       refine k_mv 7 (heldG HM) ?_
       refine k_mv 8 (heldG HM) ?_
       refine t_pure (i := 9) (v := sv2) rfl rfl (by kernel_rfl) (fun _ _ _ h => h) (heldG HM) (by rfl) ?_ ?_; (focus (exact h_sl (by rfl) (fun w => by simpa [Act.eval] using HR2.out w))); ((try simp only [List.setIfInBounds_toArray]); (try simp only [List.set_cons_succ]); (try simp only [List.set_cons_zero]))
       refine j_two 3 5 ?_ ?_
       ·(first | refine j_app (m := Ws (N.take N.length)) (F := fun X => (bx, rowsOf [#[.string s]]) :: (X ++ B)) HM SlAt.nil (HD1.out _ (HS.out.rd HM (fun p hp => by simp [hp]))) ?_ (Ws_one _) (hlen := hc1) | refine j_app (m := Ws (N.take N.length)) (F := fun X => X ++ B) HM SlAt.nil (HD1.out _ (HS.out.rd HM (fun p hp => by simp [hp]))) ?_ (Ws_one _) (hlen := hc1)); clear HM; intro s3 B3 w1 HS3 HM
        refine ⟨(heldG HM), ?_⟩; ((try simp only [List.setIfInBounds_toArray]); (try simp only [List.set_cons_succ]); (try simp only [List.set_cons_zero]))
        refine j_one 5 fun K9 hK9 => ?_
        refine j_bs1 (c0 := #[.string s]) HM ?_; clear HM; intro bx w1 HM
        refine hK9 _ _ (heldG HM) ?_; clear hK9 K9; ((try simp only [List.setIfInBounds_toArray]); (try simp only [List.set_cons_succ]); (try simp only [List.set_cons_zero]))
        refine j_one 6 fun K9 hK9 => ?_
        refine j_app (m := [#[.string s]]) (F := fun X => X ++ B) HM HS3 ((SlAt.made1 bx (c := #[.string s]) rfl).rd HM (by simp)) ?_ hs1 (hlen := hc2); clear HM; intro s6 B6 w1 HS6 HM
        refine hK9 _ _ (heldG HM) ?_; clear hK9 K9; ((try simp only [List.setIfInBounds_toArray]); (try simp only [List.set_cons_succ]); (try simp only [List.set_cons_zero]))
        refine j_one 10 fun K9 hK9 => ?_
        refine j_app (m := Ws (N.drop N.length)) (F := fun X => X ++ B) HM HS6 (HD2.out _ (HS.out.rd HM (fun p hp => by simp [hp]))) ?_ (Ws_one _) (hlen := hc3); clear HM; intro s10 B10 w1 HS10 HM
        refine hK9 _ _ (heldG HM) ?_; clear hK9 K9; ((try simp only [List.setIfInBounds_toArray]); (try simp only [List.set_cons_succ]); (try simp only [List.set_cons_zero]))
        refine k_mv 11 (heldG HM) ?_
        refine wpAnyL_done (by kernel_rfl) ?_ _
        (go_wp2_with fail; go_roundw; (case rel => exact ⟨j + 1, _, N2, B10, rfl, by go_num, by omega, hN2, hlen2, Lib.hid (by rw [HN2.out]; exact HS10), HM.pk (by exact Pk.pre _ _)⟩); (case measure => simp [intOf]; omega))
       ·refine j_bs1 (c0 := #[.string s]) HM ?_; clear HM; intro bx w1 HM
        refine ⟨(heldG HM), ?_⟩; ((try simp only [List.setIfInBounds_toArray]); (try simp only [List.set_cons_succ]); (try simp only [List.set_cons_zero]))
        refine j_one 3 fun K9 hK9 => ?_
        (first | refine j_app (m := Ws (N.take N.length)) (F := fun X => (bx, rowsOf [#[.string s]]) :: (X ++ B)) HM SlAt.nil (HD1.out _ (HS.out.rd HM (fun p hp => by simp [hp]))) ?_ (Ws_one _) (hlen := hc1) | refine j_app (m := Ws (N.take N.length)) (F := fun X => X ++ B) HM SlAt.nil (HD1.out _ (HS.out.rd HM (fun p hp => by simp [hp]))) ?_ (Ws_one _) (hlen := hc1)); clear HM; intro s3 B3 w1 HS3 HM
        refine hK9 _ _ (heldG HM) ?_; clear hK9 K9; ((try simp only [List.setIfInBounds_toArray]); (try simp only [List.set_cons_succ]); (try simp only [List.set_cons_zero]))
        refine j_one 6 fun K9 hK9 => ?_
        refine j_app (m := [#[.string s]]) (F := fun X => X ++ B) HM HS3 ((SlAt.made1 bx (c := #[.string s]) rfl).rd HM (by simp)) ?_ hs1 (hlen := hc2); clear HM; intro s6 B6 w1 HS6 HM
        refine hK9 _ _ (heldG HM) ?_; clear hK9 K9; ((try simp only [List.setIfInBounds_toArray]); (try simp only [List.set_cons_succ]); (try simp only [List.set_cons_zero]))
        refine j_one 10 fun K9 hK9 => ?_
        refine j_app (m := Ws (N.drop N.length)) (F := fun X => X ++ B) HM HS6 (HD2.out _ (HS.out.rd HM (fun p hp => by simp [hp]))) ?_ (Ws_one _) (hlen := hc3); clear HM; intro s10 B10 w1 HS10 HM
        refine hK9 _ _ (heldG HM) ?_; clear hK9 K9; ((try simp only [List.setIfInBounds_toArray]); (try simp only [List.set_cons_succ]); (try simp only [List.set_cons_zero]))
        refine k_mv 11 (heldG HM) ?_
        refine wpAnyL_done (by kernel_rfl) ?_ _
        (go_wp2_with fail; go_roundw; (case rel => exact ⟨j + 1, _, N2, B10, rfl, by go_num, by omega, hN2, hlen2, Lib.hid (by rw [HN2.out]; exact HS10), HM.pk (by exact Pk.pre _ _)⟩); (case measure => simp [intOf]; omega))
    ·obtain rfl : j = l.length := by omega
     have HN2 : Hid (N = Lk.nms [] (L.take (i + 1))) := Lib.hid (by rw [HLL.out, HN1.out, List.take_length, ← HN.out])
     go_wp2_with ((with_reducible refine g_ld ?_); refine a_ld HM ?_)
     go_roundw
     case rel => exact ⟨i + 1, _, N, B, rfl, by go_num, by omega, HN2, by omega, HS, HM⟩
     case measure => simp [intOf]; omega
  ·obtain rfl : i = L.length := by omega
   have hNN : N = Lk.names L := by rw [HN.out, List.take_length]; rfl
   subst hNN
   have hRd := Lib.hid (HS.out.rd HM (fun p hp => hp))
   have hbd := Lib.hid (show (Lk.names L).length ≤ 512 by omega)
   go_wp2_with ((with_reducible refine g_ld ?_); refine a_ld HM ?_)
   go_ret
   exact ⟨_, rfl, hRd, hbd, HM.low⟩
end Go.Proofs.YtckhdiljihhdmaaGreat
