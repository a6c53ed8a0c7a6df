/- Walks, and plain facts for them. -/
import Derived.Test.YtckhdiljihhdmaaGreatPb07
namespace Go.Proofs.YtckhdiljihhdmaaGreat
set_option maxRecDepth 8000
open Go.RowKit
theorem RdO.all {w : World} {A : Option Addr} {n cap : Nat} {l : List Lk.H} (h : RdO w (.slice A n cap) l) (h0 : 0 < l.length) : ∃ b off cs, A = some ⟨b, off, none⟩ ∧ Hid (Rbk w b cs) ∧ Hid (∀ (i : Nat) (m : Lk.H), l[i]? = some m → LA 54 cs (off + i * 2) (.agg (Lk.H.c m)) ∧ LA 9 cs (off + i * 2) (.string m.nm) ∧ LA 3 cs (off + i * 2 + 1) (.int .i64 m.q)) := by
 obtain ⟨hs, A', cap', e, _, h4⟩ := h.rd
 injection e with e1 e2 e3
 rcases h4 with h4 | ⟨b, off, cs, e4, hb, hc⟩
 ·rw [List.map_eq_nil_iff] at h4; subst h4; simp at h0
 ·refine ⟨b, off, cs, e1.trans e4, Lib.hid hb, Lib.hid fun i m hi => ?_⟩
  have hl := (List.getElem?_eq_some_iff.1 hi).1
  have hcc : ∀ j, j < 2 → cs[off + i * 2 + j]? = (Lk.H.c m)[j]? := fun j hj => by
   have := rows_at hs (k := i) (c := Lk.H.c m) (by rw [List.getElem?_map, hi]; rfl) (j := j) hj
   rw [← this, ← hc (2 * i + j) (by rw [List.length_map]; omega)]
   congr 1
   omega
  refine ⟨la_in (n := 2) (by kernel_rfl) (by kernel_rfl) rfl hcc (by decide), LA.one (by kernel_rfl) ?_, LA.one (by kernel_rfl) ?_⟩
  ·have := hcc 0 (by decide); rw [Nat.add_zero] at this; rw [this]; rfl
  ·have := hcc 1 (by decide); rw [this]; rfl
theorem right_any (sv : Value) (l : List Lk.H) (w : World) (hR : RdO w sv l) (r : Bool) (hr : Hid (r = Lk.val l)) :
    Calls Tryz.prog 41 #[sv] w fun e w' => e = .returned (.bool r) ∧ Below w.heap.size w w' := by
 have HM := Mem.start w
 have HR := Lib.hid hR
 obtain ⟨A, cap, rfl⟩ := hR.form
 clear hR
 go_enter Tryz.func41, Tryz.ntmps41
 go_wp2_with (first | ((with_reducible refine g_bld ?_); refine a_rbl ?_ (hy := lk_bl1 rfl (by (conv => lhs; whnf) <;> rfl) (port_build _ _ _))) | (go_at_call 66; ((with_reducible refine (pvalid_any _ l _ HR.out r hr).mono ?_); rintro e9 w2 ⟨rfl, hL⟩; replace HM := HM.call hL; clear hL)) | ((with_reducible refine g_bld ?_); refine a_bld ?_))
 go_ret
 exact ⟨rfl, HM.low⟩
theorem notright_any (sv : Value) (l : List Lk.H) (w : World) (hR : RdO w sv l) (r : Bool) (hr : Hid (r = Lk.val l)) :
    Calls Tryz.prog 40 #[sv] w fun e w' => e = .returned (.bool (!r)) ∧ Below w.heap.size w w' := by
 have HM := Mem.start w
 go_enter Tryz.func40, Tryz.ntmps40
 cases r with
 | true =>
  go_wp2_with (first | (go_at_call 41; ((with_reducible refine (right_any sv l _ hR true hr).mono ?_); rintro e9 w2 ⟨rfl, hL⟩; replace HM := HM.call hL; clear hL)) | fail)
  go_ret
  exact ⟨rfl, HM.low⟩
 | false =>
  go_wp2_with (first | (go_at_call 41; ((with_reducible refine (right_any sv l _ hR false hr).mono ?_); rintro e9 w2 ⟨rfl, hL⟩; replace HM := HM.call hL; clear hL)) | fail)
  go_ret
  exact ⟨rfl, HM.low⟩
theorem v_prev {T : TypeId} {x y : Operand} {j : Nat} (hj : j < 9223372036854775807) :
    ∀ w, (do eqGuard .sub T x y (.int .i64 ((j + 1 : Nat) : Int)) (.int .i64 1); binOp .sub T (.int .i64 ((j + 1 : Nat) : Int)) (.int .i64 1) : Sem Value).run Tryz.prog w = .ok (.int .i64 (j : Nat)) w :=
 v_arith (.inr (.inl ⟨rfl, by omega⟩)) (IntWalk.i64_in _ (by omega))
theorem v_sgeq {T : TypeId} {x y : Operand} {a b : ByteArray} {t : Bool} (h : (!(Op.bytesLess a.toList b.toList)) = t) :
    ∀ w, (do eqGuard .geq T x y (.string a) (.string b); binOp .geq T (.string a) (.string b) : Sem Value).run Tryz.prog w = .ok (.bool t) w := fun w => by
 first
 | (go_simp; done)
 | (go_simp; rw [h])
set_option maxHeartbeats 4000000 in
theorem rvalid_any (sv : Value) (l : List Lk.H) (w : World) (hR : RdO w sv l) (r : Bool) (hr : Hid (r = Lk.val l)) :
    Calls Tryz.prog 67 #[.agg #[sv, .slice none 0 0, .slice none 0 0]] w fun e w' => e = .returned (.bool r) ∧ Below w.heap.size w w' := by
 have HM := Mem.start w
 have HR := Lib.hid hR
 obtain ⟨A, cap, rfl⟩ := hR.form
 clear hR
 have p0 := la_p0 (.slice A l.length cap) (.slice none 0 0) (.slice none 0 0)
 have p1 := la_p1 (.slice A l.length cap) (.slice none 0 0) (.slice none 0 0)
 have p2 := la_p2 (.slice A l.length cap) (.slice none 0 0) (.slice none 0 0)
 have z0 := Lk.za
 go_enter Tryz.func67, Tryz.ntmps67
 by_cases hn : 64 < l.length
 ·have g1 : (64 : Int) < l.length := by omega
  obtain rfl : r = false := by rw [hr.out]; exact Lk.val_long hn
  clear hr
  go_wp2_with (first | ((with_reducible refine g_ld ?_); refine a_ld HM ?_) | ((with_reducible refine g_st ?_); refine a_st HM ?_; clear HM; intro w1 HM) | ((with_reducible refine g_al ?_); refine a_al HM ?_; clear HM; intro bk w1 HM) | ((with_reducible refine g_bx ?_); refine a_bx HM ?_; clear HM; intro bk w1 HM))
  go_ret
  exact ⟨rfl, HM.low⟩
 have g1 : ¬ (64 : Int) < l.length := by omega
 replace hr : Hid (r = Lk.vfrom (Lk.lastOf l 0) (l.drop 0)) := Lib.hid (by rw [hr.out]; exact Lk.val_short (by omega))
 go_wp2_with (first | ((with_reducible refine g_ld ?_); refine a_ld HM ?_) | ((with_reducible refine g_st ?_); refine a_st HM ?_; clear HM; intro w1 HM) | ((with_reducible refine g_al ?_); refine a_al HM ?_; clear HM; intro bk w1 HM) | ((with_reducible refine g_bx ?_); refine a_bx HM ?_; clear HM; intro bk w1 HM))
 obtain ⟨bn, rfl⟩ := HM.nm0
 go_loopw [2, 3] (fun rv iv wr => ∃ i : Nat, rv = .bool false ∧ iv = .int .i64 (i : Nat) ∧ i ≤ l.length ∧ Hid (r = Lk.vfrom (Lk.lastOf l i) (l.drop i)) ∧ Mem w [] [(bn, #[.slice A l.length cap, .slice none 0 0, .slice none 0 0])] wr) (fun _ iv _ => l.length - (intOf iv).toNat)
 case atStart => exact ⟨0, rfl, rfl, by omega, hr, HM⟩
 case round =>
  clear HM hr
  obtain ⟨i, rfl, rfl, hi, HV, HM⟩ := hrel
  by_cases hlt : i < l.length
  ·have hlt1 : (i : Int) < l.length := by omega
   obtain ⟨h, hh⟩ : ∃ h, l[i]? = some h := ⟨_, List.getElem?_eq_getElem hlt⟩
   obtain ⟨b, off, cs, rfl, HB, HAL⟩ := HR.out.all (by omega)
   have k0 := (HAL.out i h hh).1
   have hsz := HR.out.sz h (List.mem_of_getElem? hh)
   have HV1 : Hid (r = (Lk.paper h.nm && Lk.lt (Lk.lastOf l i) h.nm.toList && Lk.inr h.q && Lk.vfrom (Lk.lastOf l (i + 1)) (l.drop (i + 1)))) := Lib.hid (by rw [HV.out]; exact Lk.vfrom_drop hh)
   have s0 := Lk.sa Lk.z0 h
   have l0 := Lk.la0 h
   have l1 := Lk.la1 h
   have HHH := Lib.hid hh
   clear HV hh
   go_upto_region 7 with (first | ((with_reducible refine g_ld ?_); refine a_ld HM ?_) | ((with_reducible refine g_st ?_); refine a_st HM ?_; clear HM; intro w1 HM) | ((with_reducible refine g_al ?_); refine a_al HM ?_; clear HM; intro bk w1 HM) | ((with_reducible refine g_bx ?_); refine a_bx HM ?_; clear HM; intro bk w1 HM))
   obtain ⟨bx, rfl⟩ := HM.nm0
   by_cases hp : Lk.paper h.nm = true
   case neg =>
    have hp1 : Lk.paper h.nm = false := by simpa using hp
    obtain rfl : r = false := by rw [HV1.out, hp1]; rfl
    have M := fun w => (rPaper_any h.nm hsz false (Lib.hid hp1.symm) w).mono (fun e w' hh => (⟨hh.1, hh.2 ▸ Below.refl _ _⟩ : e = .returned (.bool false) ∧ Below w.heap.size w w'))
    clear hp hp1 HV1
    refine start_M [] HM (by kernel_rfl) (fun w0x H9 => ?_)
    replace HM := H9; clear H9
    refine k_fa 0 (heldE HM) ?_
    refine k_ld 1 [] (heldE HM) ?_
    refine j_one 2 fun K9 hK9 => ?_
    refine j_call1 (v := ?_) HM ?_ ?_; rotate_left 1; (focus (with_reducible (exact M _))); clear HM; intro w1 HM
    refine hK9 _ _ (heldE HM) ?_; clear hK9 K9
    refine k_not 3 (heldE HM) ?_
    refine k_mv 4 (heldE HM) ?_
    refine k_off 5 (heldE HM) ?_
    refine k_off 6 (heldE HM) ?_
    refine k_off 7 (heldE HM) ?_
    refine k_pick 8 (heldE HM) ?_
    refine k_mv 9 (heldE HM) ?_
    refine k_off 10 (heldE HM) ?_
    refine k_off 11 (heldE HM) ?_
    refine k_off 12 (heldE HM) ?_
    refine k_pick 13 (heldE HM) ?_
    refine k_mv 14 (heldE HM) ?_
    refine k_off 15 (heldE HM) ?_
    refine k_off 16 (heldE HM) ?_
    refine k_off 17 (heldE HM) ?_
    refine k_off 18 (heldE HM) ?_
    refine k_off 19 (heldE HM) ?_
    refine k_off 20 (heldE HM) ?_
    refine k_off 21 (heldE HM) ?_
    refine k_off 22 (heldE HM) ?_
    refine k_off 23 (heldE HM) ?_
    refine k_off 24 (heldE HM) ?_
    refine k_off 25 (heldE HM) ?_
    refine k_off 26 (heldE HM) ?_
    refine k_off 27 (heldE HM) ?_
    refine k_off 28 (heldE HM) ?_
    refine k_pick 29 (heldE HM) ?_
    refine wpAnyL_done (by kernel_rfl) ?_ _
    go_wp2_with (first | ((with_reducible refine g_ld ?_); refine a_ld HM ?_) | ((with_reducible refine g_st ?_); refine a_st HM ?_; clear HM; intro w1 HM) | ((with_reducible refine g_al ?_); refine a_al HM ?_; clear HM; intro bk w1 HM) | ((with_reducible refine g_bx ?_); refine a_bx HM ?_; clear HM; intro bk w1 HM))
    go_ret
    exact ⟨rfl, HM.low⟩
   have M := fun w => (rPaper_any h.nm hsz true (Lib.hid hp.symm) w).mono (fun e w' hh => (⟨hh.1, hh.2 ▸ Below.refl _ _⟩ : e = .returned (.bool true) ∧ Below w.heap.size w w'))
   have HPN := Lib.hid (Lk.paper_ne hp)
   rw [hp] at HV1
   clear hp
   by_cases hq1 : h.q < 1
   ·obtain rfl : r = false := by rw [HV1.out, show Lk.inr h.q = false from decide_eq_false (by omega)]; simp
    clear HV1
    refine start_M [] HM (by kernel_rfl) (fun w0x H9 => ?_)
    replace HM := H9; clear H9
    refine k_fa 0 (heldE HM) ?_
    refine k_ld 1 [] (heldE HM) ?_
    refine j_one 2 fun K9 hK9 => ?_
    refine j_call1 (v := ?_) HM ?_ ?_; rotate_left 1; (focus (with_reducible (exact M _))); clear HM; intro w1 HM
    refine hK9 _ _ (heldE HM) ?_; clear hK9 K9
    refine k_not 3 (heldE HM) ?_
    refine k_mv 4 (heldE HM) ?_
    refine k_fa 5 (heldE HM) ?_
    refine k_ld 6 [] (heldE HM) ?_
    refine k_bin 7 (heldE HM) ?_
    refine k_pick 8 (heldE HM) ?_
    refine k_mv 9 (heldE HM) ?_
    refine k_off 10 (heldE HM) ?_
    refine k_off 11 (heldE HM) ?_
    refine k_off 12 (heldE HM) ?_
    refine k_pick 13 (heldE HM) ?_
    refine k_mv 14 (heldE HM) ?_
    refine k_off 15 (heldE HM) ?_
    refine k_off 16 (heldE HM) ?_
    refine k_off 17 (heldE HM) ?_
    refine k_off 18 (heldE HM) ?_
    refine k_off 19 (heldE HM) ?_
    refine k_off 20 (heldE HM) ?_
    refine k_off 21 (heldE HM) ?_
    refine k_off 22 (heldE HM) ?_
    refine k_off 23 (heldE HM) ?_
    refine k_off 24 (heldE HM) ?_
    refine k_off 25 (heldE HM) ?_
    refine k_off 26 (heldE HM) ?_
    refine k_off 27 (heldE HM) ?_
    refine k_off 28 (heldE HM) ?_
    refine k_pick 29 (heldE HM) ?_
    refine wpAnyL_done (by kernel_rfl) ?_ _
    go_wp2_with (first | ((with_reducible refine g_ld ?_); refine a_ld HM ?_) | ((with_reducible refine g_st ?_); refine a_st HM ?_; clear HM; intro w1 HM) | ((with_reducible refine g_al ?_); refine a_al HM ?_; clear HM; intro bk w1 HM) | ((with_reducible refine g_bx ?_); refine a_bx HM ?_; clear HM; intro bk w1 HM))
    go_ret
    exact ⟨rfl, HM.low⟩
   by_cases hq2 : 1000000000000000 < h.q
   ·obtain rfl : r = false := by rw [HV1.out, show Lk.inr h.q = false from decide_eq_false (by omega)]; simp
    clear HV1
    refine start_M [] HM (by kernel_rfl) (fun w0x H9 => ?_)
    replace HM := H9; clear H9
    refine k_fa 0 (heldE HM) ?_
    refine k_ld 1 [] (heldE HM) ?_
    refine j_one 2 fun K9 hK9 => ?_
    refine j_call1 (v := ?_) HM ?_ ?_; rotate_left 1; (focus (with_reducible (exact M _))); clear HM; intro w1 HM
    refine hK9 _ _ (heldE HM) ?_; clear hK9 K9
    refine k_not 3 (heldE HM) ?_
    refine k_mv 4 (heldE HM) ?_
    refine k_fa 5 (heldE HM) ?_
    refine k_ld 6 [] (heldE HM) ?_
    refine k_bin 7 (heldE HM) ?_
    refine k_pick 8 (heldE HM) ?_
    refine k_mv 9 (heldE HM) ?_
    refine k_fa 10 (heldE HM) ?_
    refine k_ld 11 [] (heldE HM) ?_
    refine k_bin 12 (heldE HM) ?_
    refine k_pick 13 (heldE HM) ?_
    refine k_mv 14 (heldE HM) ?_
    refine k_off 15 (heldE HM) ?_
    refine k_off 16 (heldE HM) ?_
    refine k_off 17 (heldE HM) ?_
    refine k_off 18 (heldE HM) ?_
    refine k_off 19 (heldE HM) ?_
    refine k_off 20 (heldE HM) ?_
    refine k_off 21 (heldE HM) ?_
    refine k_off 22 (heldE HM) ?_
    refine k_off 23 (heldE HM) ?_
    refine k_off 24 (heldE HM) ?_
    refine k_off 25 (heldE HM) ?_
    refine k_off 26 (heldE HM) ?_
    refine k_off 27 (heldE HM) ?_
    refine k_off 28 (heldE HM) ?_
    refine k_pick 29 (heldE HM) ?_
    refine wpAnyL_done (by kernel_rfl) ?_ _
    go_wp2_with (first | ((with_reducible refine g_ld ?_); refine a_ld HM ?_) | ((with_reducible refine g_st ?_); refine a_st HM ?_; clear HM; intro w1 HM) | ((with_reducible refine g_al ?_); refine a_al HM ?_; clear HM; intro bk w1 HM) | ((with_reducible refine g_bx ?_); refine a_bx HM ?_; clear HM; intro bk w1 HM))
    go_ret
    exact ⟨rfl, HM.low⟩
   rw [show Lk.inr h.q = true from decide_eq_true (by omega)] at HV1
   cases i with
   | zero =>
    have HV2 : Hid (r = Lk.vfrom (Lk.lastOf l (0 + 1)) (l.drop (0 + 1))) := Lib.hid (by rw [HV1.out, show Lk.lt (Lk.lastOf l 0) h.nm.toList = true from Lk.lt_nil HPN.out]; rfl)
    clear HV1
    refine start_M [] HM (by kernel_rfl) (fun w0x H9 => ?_)
    replace HM := H9; clear H9
    refine k_fa 0 (heldE HM) ?_
    refine k_ld 1 [] (heldE HM) ?_
    refine j_one 2 fun K9 hK9 => ?_
    refine j_call1 (v := ?_) HM ?_ ?_; rotate_left 1; (focus (with_reducible (exact M _))); clear HM; intro w1 HM
    refine hK9 _ _ (heldE HM) ?_; clear hK9 K9
    refine k_not 3 (heldE HM) ?_
    refine k_mv 4 (heldE HM) ?_
    refine k_fa 5 (heldE HM) ?_
    refine k_ld 6 [] (heldE HM) ?_
    refine k_bin 7 (heldE HM) ?_
    refine k_pick 8 (heldE HM) ?_
    refine k_mv 9 (heldE HM) ?_
    refine k_fa 10 (heldE HM) ?_
    refine k_ld 11 [] (heldE HM) ?_
    refine k_bin 12 (heldE HM) ?_
    refine k_pick 13 (heldE HM) ?_
    refine k_mv 14 (heldE HM) ?_
    refine k_mv 15 (heldE HM) ?_
    refine k_bin 16 (heldE HM) ?_
    refine k_mv 17 (heldE HM) ?_
    refine k_off 18 (heldE HM) ?_
    refine k_off 19 (heldE HM) ?_
    refine k_off 20 (heldE HM) ?_
    refine k_off 21 (heldE HM) ?_
    refine k_off 22 (heldE HM) ?_
    refine k_off 23 (heldE HM) ?_
    refine k_off 24 (heldE HM) ?_
    refine k_off 25 (heldE HM) ?_
    refine k_off 26 (heldE HM) ?_
    refine k_off 27 (heldE HM) ?_
    refine k_pick 28 (heldE HM) ?_
    refine k_pick 29 (heldE HM) ?_
    refine wpAnyL_done (by kernel_rfl) ?_ _
    go_wp2_with (first | ((with_reducible refine g_ld ?_); refine a_ld HM ?_) | ((with_reducible refine g_st ?_); refine a_st HM ?_; clear HM; intro w1 HM) | ((with_reducible refine g_al ?_); refine a_al HM ?_; clear HM; intro bk w1 HM) | ((with_reducible refine g_bx ?_); refine a_bx HM ?_; clear HM; intro bk w1 HM))
    go_roundw
    case rel => exact ⟨0 + 1, rfl, by go_num, by omega, HV2, HM.pick⟩
    case measure => simp [intOf]; omega
   | succ j =>
    obtain ⟨g, hg⟩ : ∃ g, l[j]? = some g := ⟨_, List.getElem?_eq_getElem (by omega)⟩
    have kp := (HAL.out j g hg).2.1
    have el := Lk.lastOf_succ hg
    have hlt2 : (j : Int) < l.length := by omega
    have hj9 : j < 9223372036854775807 := by omega
    have gpos : decide (((j + 1 : Nat) : Int) > 0) = true := decide_eq_true (by omega)
    rw [el] at HV1
    clear el
    by_cases ho : Lk.lt g.nm.toList h.nm.toList = true
    case neg =>
     have ho1 : Lk.lt g.nm.toList h.nm.toList = false := by simpa using ho
     obtain rfl : r = false := by rw [HV1.out, ho1]; rfl
     have ho2 : (!(Op.bytesLess g.nm.toList h.nm.toList)) = true := by rw [show Op.bytesLess g.nm.toList h.nm.toList = false from ho1]; rfl
     clear ho ho1 HV1 hg
     refine start_M [] HM (by kernel_rfl) (fun w0x H9 => ?_)
     replace HM := H9; clear H9
     refine k_fa 0 (heldE HM) ?_
     refine k_ld 1 [] (heldE HM) ?_
     refine j_one 2 fun K9 hK9 => ?_
     refine j_call1 (v := ?_) HM ?_ ?_; rotate_left 1; (focus (with_reducible (exact M _))); clear HM; intro w1 HM
     refine hK9 _ _ (heldE HM) ?_; clear hK9 K9
     refine k_not 3 (heldE HM) ?_
     refine k_mv 4 (heldE HM) ?_
     refine k_fa 5 (heldE HM) ?_
     refine k_ld 6 [] (heldE HM) ?_
     refine k_bin 7 (heldE HM) ?_
     refine k_pick 8 (heldE HM) ?_
     refine k_mv 9 (heldE HM) ?_
     refine k_fa 10 (heldE HM) ?_
     refine k_ld 11 [] (heldE HM) ?_
     refine k_bin 12 (heldE HM) ?_
     refine k_pick 13 (heldE HM) ?_
     refine k_mv 14 (heldE HM) ?_
     refine k_mv 15 (heldE HM) ?_
     refine k_bin 16 (heldE HM) ?_
     refine k_mv 17 (heldE HM) ?_
     refine k_fa 18 (heldE HM) ?_
     refine k_ld 19 [] (heldE HM) ?_
     refine k_mv 20 (heldE HM) ?_
     refine t_pure (i := 21) (v := .int .i64 (j : Nat)) rfl rfl (by kernel_rfl) (fun _ _ _ h => h) (heldE HM) (by rfl) ?_ ?_; (focus (exact h_bin (by rfl) (by rfl) (by rfl) (v_prev hj9))); ((try simp only [List.setIfInBounds_toArray]); (try simp only [List.set_cons_succ]); (try simp only [List.set_cons_zero]))
     refine k_ia 22 (heldE HM) ?_
     refine k_fa 23 (heldE HM) ?_
     refine k_ld 24 [] (heldE HM) ?_
     refine k_fa 25 (heldE HM) ?_
     refine k_ld 26 [] (heldE HM) ?_
     refine t_pure (i := 27) (v := .bool true) rfl rfl (by kernel_rfl) (fun _ _ _ h => h) (heldE HM) (by rfl) ?_ ?_; (focus (exact h_bin (by rfl) (by rfl) (by rfl) (v_sgeq ho2))); ((try simp only [List.setIfInBounds_toArray]); (try simp only [List.set_cons_succ]); (try simp only [List.set_cons_zero]))
     refine k_pick 28 (heldE HM) ?_
     refine k_pick 29 (heldE HM) ?_
     refine wpAnyL_done (by kernel_rfl) ?_ _
     go_wp2_with (first | ((with_reducible refine g_ld ?_); refine a_ld HM ?_) | ((with_reducible refine g_st ?_); refine a_st HM ?_; clear HM; intro w1 HM) | ((with_reducible refine g_al ?_); refine a_al HM ?_; clear HM; intro bk w1 HM) | ((with_reducible refine g_bx ?_); refine a_bx HM ?_; clear HM; intro bk w1 HM))
     go_ret
     exact ⟨rfl, HM.low⟩
    have ho2 : (!(Op.bytesLess g.nm.toList h.nm.toList)) = false := by rw [show Op.bytesLess g.nm.toList h.nm.toList = true from ho]; rfl
    have HV2 : Hid (r = Lk.vfrom (Lk.lastOf l (j + 1 + 1)) (l.drop (j + 1 + 1))) := Lib.hid (by rw [HV1.out, ho]; rfl)
    clear ho HV1 hg
    refine start_M [] HM (by kernel_rfl) (fun w0x H9 => ?_)
    replace HM := H9; clear H9
    refine k_fa 0 (heldE HM) ?_
    refine k_ld 1 [] (heldE HM) ?_
    refine j_one 2 fun K9 hK9 => ?_
    refine j_call1 (v := ?_) HM ?_ ?_; rotate_left 1; (focus (with_reducible (exact M _))); clear HM; intro w1 HM
    refine hK9 _ _ (heldE HM) ?_; clear hK9 K9
    refine k_not 3 (heldE HM) ?_
    refine k_mv 4 (heldE HM) ?_
    refine k_fa 5 (heldE HM) ?_
    refine k_ld 6 [] (heldE HM) ?_
    refine k_bin 7 (heldE HM) ?_
    refine k_pick 8 (heldE HM) ?_
    refine k_mv 9 (heldE HM) ?_
    refine k_fa 10 (heldE HM) ?_
    refine k_ld 11 [] (heldE HM) ?_
    refine k_bin 12 (heldE HM) ?_
    refine k_pick 13 (heldE HM) ?_
    refine k_mv 14 (heldE HM) ?_
    refine k_mv 15 (heldE HM) ?_
    refine k_bin 16 (heldE HM) ?_
    refine k_mv 17 (heldE HM) ?_
    refine k_fa 18 (heldE HM) ?_
    refine k_ld 19 [] (heldE HM) ?_
    refine k_mv 20 (heldE HM) ?_
    refine t_pure (i := 21) (v := .int .i64 (j : Nat)) rfl rfl (by kernel_rfl) (fun _ _ _ h => h) (heldE HM) (by rfl) ?_ ?_; (focus (exact h_bin (by rfl) (by rfl) (by rfl) (v_prev hj9))); ((try simp only [List.setIfInBounds_toArray]); (try simp only [List.set_cons_succ]); (try simp only [List.set_cons_zero]))
    refine k_ia 22 (heldE HM) ?_
    refine k_fa 23 (heldE HM) ?_
    refine k_ld 24 [] (heldE HM) ?_
    refine k_fa 25 (heldE HM) ?_
    refine k_ld 26 [] (heldE HM) ?_
    refine t_pure (i := 27) (v := .bool false) rfl rfl (by kernel_rfl) (fun _ _ _ h => h) (heldE HM) (by rfl) ?_ ?_; (focus (exact h_bin (by rfl) (by rfl) (by rfl) (v_sgeq ho2))); ((try simp only [List.setIfInBounds_toArray]); (try simp only [List.set_cons_succ]); (try simp only [List.set_cons_zero]))
    refine k_pick 28 (heldE HM) ?_
    refine k_pick 29 (heldE HM) ?_
    refine wpAnyL_done (by kernel_rfl) ?_ _
    go_wp2_with (first | ((with_reducible refine g_ld ?_); refine a_ld HM ?_) | ((with_reducible refine g_st ?_); refine a_st HM ?_; clear HM; intro w1 HM) | ((with_reducible refine g_al ?_); refine a_al HM ?_; clear HM; intro bk w1 HM) | ((with_reducible refine g_bx ?_); refine a_bx HM ?_; clear HM; intro bk w1 HM))
    go_roundw
    case rel => exact ⟨j + 1 + 1, rfl, by go_num, by omega, HV2, HM.pick⟩
    case measure => simp [intOf]; omega
  ·obtain rfl : i = l.length := by omega
   obtain rfl : r = true := by rw [HV.out, List.drop_length]; rfl
   clear HV
   go_wp2_with (first | ((with_reducible refine g_ld ?_); refine a_ld HM ?_) | ((with_reducible refine g_st ?_); refine a_st HM ?_; clear HM; intro w1 HM) | ((with_reducible refine g_al ?_); refine a_al HM ?_; clear HM; intro bk w1 HM) | ((with_reducible refine g_bx ?_); refine a_bx HM ?_; clear HM; intro bk w1 HM))
   go_loopw [2, 5] (fun rv iv wr => rv = .bool false ∧ iv = .int .i64 0 ∧ Mem w [] [(bn, #[.slice A l.length cap, .slice none 0 0, .slice none 0 0])] wr) (fun _ _ _ => 0)
   case atStart => exact ⟨rfl, rfl, HM⟩
   case round =>
    clear HM
    obtain ⟨rfl, rfl, HM⟩ := hrel
    go_wp2_with (first | (go_at_call 96; refine (bal_nil _).mono ?_; rintro e w' ⟨rfl, rfl⟩) | (first | ((with_reducible refine g_ld ?_); refine a_ld HM ?_) | ((with_reducible refine g_st ?_); refine a_st HM ?_; clear HM; intro w1 HM) | ((with_reducible refine g_al ?_); refine a_al HM ?_; clear HM; intro bk w1 HM) | ((with_reducible refine g_bx ?_); refine a_bx HM ?_; clear HM; intro bk w1 HM)))
    go_ret
    exact ⟨rfl, HM.low⟩
theorem rholdings_any (sv : Value) (l : List Lk.H) (w : World) (hR : RdO w sv l) (r : Bool) (hr : Hid (r = Lk.val l)) :
    Calls Tryz.prog 42 #[sv] w fun e w' => e = .returned (.bool r) ∧ Below w.heap.size w w' := by
 have HM := Mem.start w
 have HR := Lib.hid hR
 obtain ⟨A, cap, rfl⟩ := hR.form
 clear hR
 go_enter Tryz.func42, Tryz.ntmps42
 go_wp2_with (first | ((with_reducible refine g_bld ?_); refine a_rbl ?_ (hy := lk_bl1 rfl (by (conv => lhs; whnf) <;> rfl) (port_build _ _ _))) | (go_at_call 67; ((with_reducible refine (rvalid_any _ l _ HR.out r hr).mono ?_); rintro e9 w2 ⟨rfl, hL⟩; replace HM := HM.call hL; clear hL)) | ((with_reducible refine g_bld ?_); refine a_bld ?_))
 go_ret
 exact ⟨rfl, HM.low⟩
end Go.Proofs.YtckhdiljihhdmaaGreat
