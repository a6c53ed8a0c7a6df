/- Walks, and plain facts for them. -/
import Derived.Test.YtckhdiljihhdmaaGreatPb31
import Derived.Test.YtckhdiljihhdmaaGreatPb18
namespace Go.Proofs.YtckhdiljihhdmaaGreat
set_option maxRecDepth 8000
open Go.RowKit
set_option maxHeartbeats 8000000 in
theorem rgrounded_any (us hs ps : Value) (U : List Int) (H : List (List Int)) (p : List Nat) (w : World) (hR : RdN w us hs U H) (hG : Ns.Good U H) (hP : RdI w ps (p.map fun x : Nat => (x : Int))) (hpm : ∀ m ∈ p, m < U.length) (hpl : p.length ≤ U.length) :
    Calls Tryz.prog 61 #[.agg #[us, hs], ps] w fun e w' => e = .returned (.bool (Ns.gr U H p)) ∧ Below w.heap.size w w' := by
 have HM := Mem.start w
 have HR := Lib.hid hR
 have HG := Lib.hid hG
 have HP := Lib.hid hP
 have HPM := Lib.hid hpm
 have hn8 := hG.sh.1
 obtain ⟨Au, cu, rfl⟩ := hR.u.form
 obtain ⟨Ah, ch, rfl⟩ := hR.h.form
 obtain ⟨Ap, cp, rfl⟩ := hP.form
 rw [List.length_map] at HP ⊢
 obtain ⟨g, hg⟩ : ∃ g, Hid (g = Ns.gr U H p) := ⟨_, Lib.hid rfl⟩
 rw [← hg.out]
 clear hR hG hP hpm
 by_cases hp0 : p.length = 0
 ·obtain rfl : p = [] := List.length_eq_zero_iff.1 hp0
  obtain rfl : g = false := by rw [hg.out]; rfl
  go_enter Tryz.func61, Tryz.ntmps61
  go_wp2_with (first | ((with_reducible refine g_ld ?_); refine a_ld HM ?_) | ((with_reducible refine g_bx ?_); refine a_bx HM ?_; clear HM; intro bk w1 HM))
  go_loopw [4, 5] (fun rv iv wr => rv = .bool false ∧ iv = .int .i64 0 ∧ Below w.heap.size w wr) (fun _ _ _ => 0)
  case atStart => exact ⟨rfl, rfl, HM.low⟩
  case round =>
   obtain ⟨rfl, rfl, hB⟩ := hrel
   go_wp2_with (first | ((with_reducible refine g_ld ?_); refine a_ld HM ?_) | ((with_reducible refine g_bx ?_); refine a_bx HM ?_; clear HM; intro bk w1 HM))
   go_ret
   exact ⟨rfl, hB⟩
 obtain ⟨b3, off3, cs3, rfl, HB3, K3⟩ := HP.out.all (by rw [List.length_map]; omega)
 obtain ⟨bu, ou, csu, rfl, HBU, KU⟩ := HR.out.u.all (by omega)
 obtain ⟨bh, oh, csh, rfl, HBH, KH⟩ := HR.out.h.all (by have := HG.out.sh.2; omega)
 have n0 := la_n0 (.slice (some ⟨bu, ou, none⟩) U.length cu) (.slice (some ⟨bh, oh, none⟩) H.length ch)
 have n1 := la_n1 (.slice (some ⟨bu, ou, none⟩) U.length cu) (.slice (some ⟨bh, oh, none⟩) H.length ch)
 go_enter Tryz.func61, Tryz.ntmps61
 go_wp2_with (first | ((with_reducible refine g_ld ?_); refine a_ld HM ?_) | ((with_reducible refine g_bx ?_); refine a_bx HM ?_; clear HM; intro bk w1 HM))
 obtain ⟨bk, rfl⟩ := HM.nm0
 go_loopw [4, 5] (fun rv jv wr => ∃ j : Nat, rv = .bool false ∧ jv = .int .i64 (j : Nat) ∧ j ≤ p.length ∧ Hid ((p.take j).any (fun m => decide (Ns.ls p (fun k => Ns.gh H k m) < Ns.gu U m)) = false) ∧ Mem w [] [(bk, #[.slice (some ⟨bu, ou, none⟩) U.length cu, .slice (some ⟨bh, oh, none⟩) H.length ch])] wr) (fun _ jv _ => p.length - (intOf jv).toNat)
 case atStart => exact ⟨0, rfl, rfl, by omega, Lib.hid rfl, HM⟩
 case round =>
  clear HM
  obtain ⟨j, rfl, rfl, hj, HGV, HM⟩ := hrel
  by_cases hjt : j < p.length
  ·have hjt1 : (j : Int) < p.length := by omega
   obtain ⟨m, hm⟩ : ∃ m, p[j]? = some m := ⟨_, List.getElem?_eq_getElem hjt⟩
   have hmn := HPM.out m (List.mem_of_getElem? hm)
   have hmn1 : (m : Int) < U.length := by omega
   have k3 := K3.out j m (by rw [List.getElem?_map, hm]; rfl)
   obtain ⟨u, hu⟩ : ∃ u, U[m]? = some u := ⟨_, List.getElem?_eq_getElem hmn⟩
   have k5 := KU.out m u hu
   have HU := Lib.hid (Ns.gu_at hu)
   have HMA := Lib.hid hm
   clear hm hu
   go_wp2_with (first | ((with_reducible refine g_ld ?_); refine a_ld HM ?_) | ((with_reducible refine g_bx ?_); refine a_bx HM ?_; clear HM; intro bk w1 HM))
   go_loopw [6, 7] (fun av kv wr => ∃ (k : Nat) (S : Int), av = .int .i64 S ∧ kv = .int .i64 (k : Nat) ∧ k ≤ p.length ∧ Hid (S = Ns.ls (p.take k) fun x => Ns.gh H x m) ∧ 0 ≤ S ∧ S ≤ k * 1000000000000000 ∧ Mem w [] [(bk, #[.slice (some ⟨bu, ou, none⟩) U.length cu, .slice (some ⟨bh, oh, none⟩) H.length ch])] wr) (fun _ kv _ => p.length - (intOf kv).toNat)
   case atStart => exact ⟨0, 0, rfl, rfl, by omega, Lib.hid rfl, by omega, by omega, HM⟩
   case round =>
    clear HM
    obtain ⟨k, S, rfl, rfl, hk, HSV, hS0, hS1, HM⟩ := hrel
    by_cases hkt : k < p.length
    ·have hkt1 : (k : Int) < p.length := by omega
     obtain ⟨x, hx⟩ : ∃ x, p[k]? = some x := ⟨_, List.getElem?_eq_getElem hkt⟩
     have hxn := HPM.out x (List.mem_of_getElem? hx)
     have hxn1 : (x : Int) < H.length := by have := HG.out.sh.2; omega
     have k4 := K3.out k x (by rw [List.getElem?_map, hx]; rfl)
     obtain ⟨l, hl, hll⟩ := HG.out.at_ hxn
     obtain ⟨y, hy⟩ : ∃ y, l[m]? = some y := ⟨_, List.getElem?_eq_getElem (by omega)⟩
     obtain ⟨A6, c6, k6, HL6⟩ := KH.out x l hl
     obtain ⟨b7, off7, cs7, rfl, HB7, k7⟩ := HL6.out.at_ hy
     have ey := Ns.gh_at hl hy
     have hy0 := HG.out.ok.h0 x m hxn hmn
     have hy1 := HG.out.ok.h1 x m hxn hmn
     rw [ey] at hy0 hy1
     have hml : (m : Int) < l.length := by omega
     have HS2 : Hid (S + y = Ns.ls (p.take (k + 1)) fun x => Ns.gh H x m) := Lib.hid (by rw [Ns.ls_take hx, ← HSV.out, ey])
     clear hx hl hll hy ey
     go_upto_region 8 with (first | ((with_reducible refine g_ld ?_); refine a_ld HM ?_) | ((with_reducible refine g_bx ?_); refine a_bx HM ?_; clear HM; intro bk w1 HM))
     refine start_M [] HM (by kernel_rfl) (fun w0x H9 => ?_)
     replace HM := H9; clear H9
     refine k_mv 0 (heldF HM) ?_
     refine k_fa 1 (heldF HM) ?_
     refine k_ld 2 [] (heldF HM) ?_
     refine k_mv 3 (heldF HM) ?_
     refine k_mv 4 (heldF HM) ?_
     refine k_ia 5 (heldF HM) ?_
     refine k_ld 6 [] (heldF HM) ?_
     refine k_ia 7 (heldF HM) ?_
     refine k_ld 8 [] (heldF HM) ?_
     refine k_mv 9 (heldF HM) ?_
     refine k_mv 10 (heldF HM) ?_
     refine k_ia 11 (heldF HM) ?_
     refine k_ld 12 [] (heldF HM) ?_
     refine k_ia 13 (heldF HM) ?_
     refine k_ld 14 [] (heldF HM) ?_
     refine k_add 15 (heldF HM) ?_
     refine k_mv 16 (heldF HM) ?_
     refine wpAnyL_done (by kernel_rfl) ?_ _
     go_wp2_with fail
     go_roundw
     case rel => exact ⟨k + 1, S + y, by go_num, by go_num, by omega, HS2, by omega, by omega, HM⟩
     case measure => simp [intOf]; omega
    ·obtain rfl : k = p.length := by omega
     have HS2 : Hid (S = Ns.ls p fun x => Ns.gh H x m) := by rw [List.take_length] at HSV; exact HSV
     have HGN : Hid (decide (S < u) = (p.take (j + 1)).any fun m => decide (Ns.ls p (fun k => Ns.gh H k m) < Ns.gu U m)) := Lib.hid (by
      rw [List.take_add_one, HMA.out, List.any_append, HGV.out, HS2.out, ← HU.out]
      simp)
     by_cases hS : S < u
     ·have hg1 : g = true := by
        rw [hg.out]
        unfold Ns.gr
        rw [List.any_eq_true]
        exact ⟨m, List.mem_of_getElem? HMA.out, by rw [← HS2.out, HU.out]; exact decide_eq_true hS⟩
      subst hg1
      go_upto_region 9 with (first | ((with_reducible refine g_ld ?_); refine a_ld HM ?_) | ((with_reducible refine g_bx ?_); refine a_bx HM ?_; clear HM; intro bk w1 HM))
      refine start_M [] HM (by kernel_rfl) (fun w0x H9 => ?_)
      replace HM := H9; clear H9
      refine k_mv 0 (heldF HM) ?_
      refine k_fa 1 (heldF HM) ?_
      refine k_ld 2 [] (heldF HM) ?_
      refine k_mv 3 (heldF HM) ?_
      refine k_mv 4 (heldF HM) ?_
      refine k_ia 5 (heldF HM) ?_
      refine k_ld 6 [] (heldF HM) ?_
      refine k_ia 7 (heldF HM) ?_
      refine k_ld 8 [] (heldF HM) ?_
      refine t_pure (i := 9) (v := .bool true) rfl rfl (by kernel_rfl) (fun _ _ _ h => h) (heldF HM) (by rfl) ?_ ?_; (focus ((intro w9; first | (go_simp; done) | (go_simp; rfl)))); ((try simp only [List.setIfInBounds_toArray]); (try simp only [List.set_cons_succ]); (try simp only [List.set_cons_zero]))
      refine wpAnyL_done (by kernel_rfl) ?_ _
      go_wp2_with fail
      go_ret
      exact ⟨rfl, HM.low⟩
     ·have HGN2 : Hid ((p.take (j + 1)).any (fun m => decide (Ns.ls p (fun k => Ns.gh H k m) < Ns.gu U m)) = false) := Lib.hid (by rw [← HGN.out]; exact decide_eq_false hS)
      go_upto_region 9 with (first | ((with_reducible refine g_ld ?_); refine a_ld HM ?_) | ((with_reducible refine g_bx ?_); refine a_bx HM ?_; clear HM; intro bk w1 HM))
      refine start_M [] HM (by kernel_rfl) (fun w0x H9 => ?_)
      replace HM := H9; clear H9
      refine k_mv 0 (heldF HM) ?_
      refine k_fa 1 (heldF HM) ?_
      refine k_ld 2 [] (heldF HM) ?_
      refine k_mv 3 (heldF HM) ?_
      refine k_mv 4 (heldF HM) ?_
      refine k_ia 5 (heldF HM) ?_
      refine k_ld 6 [] (heldF HM) ?_
      refine k_ia 7 (heldF HM) ?_
      refine k_ld 8 [] (heldF HM) ?_
      refine t_pure (i := 9) (v := .bool false) rfl rfl (by kernel_rfl) (fun _ _ _ h => h) (heldF HM) (by rfl) ?_ ?_; (focus ((intro w9; first | (go_simp; done) | (go_simp; rfl)))); ((try simp only [List.setIfInBounds_toArray]); (try simp only [List.set_cons_succ]); (try simp only [List.set_cons_zero]))
      refine wpAnyL_done (by kernel_rfl) ?_ _
      go_wp2_with fail
      go_roundw
      case rel => exact ⟨j + 1, rfl, by go_num, by omega, HGN2, HM⟩
      case measure => simp [intOf]; omega
  ·obtain rfl : j = p.length := by omega
   have hg1 : g = false := by
    have := HGV.out
    rw [List.take_length] at this
    rw [hg.out]; exact this
   subst hg1
   go_wp2_with (first | ((with_reducible refine g_ld ?_); refine a_ld HM ?_) | ((with_reducible refine g_bx ?_); refine a_bx HM ?_; clear HM; intro bk w1 HM))
   go_ret
   exact ⟨rfl, HM.low⟩
set_option maxHeartbeats 8000000 in
theorem rcircle_any (us hs : Value) (U : List Int) (H : List (List Int)) (w : World) (hR : RdN w us hs U H) (hG : Ns.Good U H) (r : Int) (h0 : ¬ Ns.Circ U.length (Ns.gu U) (Ns.gh H) → r = 0) (h1 : Ns.Circ U.length (Ns.gu U) (Ns.gh H) → r = 351) :
    Calls Tryz.prog 32 #[.agg #[us, hs]] w fun e w' => e = .returned (.int .i64 r) ∧ Below w.heap.size w w' := by
 have HM := Mem.start w
 have HR := Lib.hid hR
 have HG := Lib.hid hG
 have H0 := Lib.hid h0
 have H1 := Lib.hid h1
 have hn8 := hG.sh.1
 obtain ⟨Au, cu, rfl⟩ := hR.u.form
 obtain ⟨Ah, ch, rfl⟩ := hR.h.form
 have K := fun w' hB => rparts_any _ _ U H w' (hR.below hB) hG
 have n0 := la_n0 (.slice Au U.length cu) (.slice Ah H.length ch)
 have n2 := la_nest (.slice Au U.length cu) (.slice Ah H.length ch)
 clear hR hG h0 h1
 go_enter Tryz.func32, Tryz.ntmps32
 go_upto_region 2 with (first | (go_at_call 60; (with_reducible refine (K _ HM.low).mono ?_); rintro e9 w2 ⟨s, P, rfl, HP, HS, hL⟩; replace HM := HM.call hL; clear hL) | (first | ((with_reducible refine g_ld ?_); refine a_ld HM ?_) | ((with_reducible refine g_bx ?_); refine a_bx HM ?_; clear HM; intro bk w1 HM)))
 obtain ⟨bg, rfl⟩ := HM.nm0
 obtain ⟨A, cp, rfl⟩ := HS.out.form
 rw [pI_len] at HS ⊢
 have HB0 := Lib.hid HM.low
 have HN2 := Lib.hid (HR.out.below HM.low)
 have HBG : Hid (Rbk w2 bg #[.slice Au U.length cu, .slice Ah H.length ch]) := Lib.hid (HM.get .here).rbk
 have HPT : Hid (Ns.Pts U.length (Ns.gh H) P) := Lib.hid HP.out.1
 have hPl := HP.out.1.len
 clear HR HM K HP
 have HM := Mem.start w2
 go_wp2_with (first | ((with_reducible refine g_ld ?_); refine a_ld HM ?_) | ((with_reducible refine g_bx ?_); refine a_bx HM ?_; clear HM; intro bk w1 HM))
 go_loopw [2, 5] (fun rv iv wr => ∃ i : Nat, rv = .int .i64 0 ∧ iv = .int .i64 (i : Nat) ∧ i ≤ P.length ∧ Hid (∀ k p, k < i → P[k]? = some p → (∃ j ∈ p, 0 < Ns.gu U j) → Ns.gr U H p = true) ∧ Mem w2 [] [] wr) (fun _ iv _ => P.length - (intOf iv).toNat)
 case atStart => exact ⟨0, rfl, rfl, by omega, Lib.hid (fun k p hk => by omega), HM⟩
 case round =>
  clear HM
  obtain ⟨i, rfl, rfl, hi, HD, HM⟩ := hrel
  by_cases hlt : i < P.length
  ·have hlt1 : (i : Int) < P.length := by omega
   obtain ⟨p, hp⟩ : ∃ p, P[i]? = some p := ⟨_, List.getElem?_eq_getElem hlt⟩
   obtain ⟨hpm, hpl⟩ := HPT.out.mem (List.mem_of_getElem? hp)
   obtain ⟨b, off, cs, A2, c2, rfl, HB, k1, HL⟩ := HS.out.at_ (pI_at hp)
   rw [List.length_map] at k1 HL
   have HPM := Lib.hid hpm
   have HPA := Lib.hid hp
   have HWH : Hid (Ns.gr U H p = false → Ns.whole U.length (Ns.gu U) (Ns.gh H) p) := Lib.hid (fun e => by
    obtain ⟨a, _, rfl⟩ := HPT.out.one p (List.mem_of_getElem? hp)
    exact Ns.gr_whole.1 e)
   clear hp hpm
   go_wp2_with (first | ((with_reducible refine g_ld ?_); refine a_ld HM ?_) | ((with_reducible refine g_bx ?_); refine a_bx HM ?_; clear HM; intro bk w1 HM))
   go_loopw [6, 7] (fun bv jv wr => ∃ (j : Nat) (g : Bool), bv = .bool g ∧ jv = .int .i64 (j : Nat) ∧ j ≤ p.length ∧ Hid (g = (p.take j).any fun m => decide (0 < Ns.gu U m)) ∧ Mem w2 [] [] wr) (fun _ jv _ => p.length - (intOf jv).toNat)
   case atStart => exact ⟨0, false, rfl, rfl, by omega, Lib.hid rfl, HM⟩
   case round =>
    clear HM
    obtain ⟨j, g, rfl, rfl, hj, HGV, HM⟩ := hrel
    by_cases hjt : j < p.length
    ·have hjt1 : (j : Int) < p.length := by omega
     obtain ⟨m, hm⟩ : ∃ m, p[j]? = some m := ⟨_, List.getElem?_eq_getElem hjt⟩
     have hmn := HPM.out m (List.mem_of_getElem? hm)
     have hmn1 : (m : Int) < U.length := by omega
     obtain ⟨b3, off3, cs3, rfl, HB3, K3⟩ := HL.out.all (by rw [List.length_map]; omega)
     have k3 := K3.out j m (by rw [List.getElem?_map, hm]; rfl)
     obtain ⟨u, hu⟩ : ∃ u, U[m]? = some u := ⟨_, List.getElem?_eq_getElem hmn⟩
     obtain ⟨b5, off5, cs5, rfl, HB5, k5⟩ := HN2.out.u.at_ hu
     have HU := Lib.hid (Ns.gu_at hu)
     have HGN : Hid ((g || decide (0 < u)) = (p.take (j + 1)).any fun m => decide (0 < Ns.gu U m)) := Lib.hid (by
      rw [List.take_add_one, hm, List.any_append, ← HGV.out, ← HU.out]
      simp)
     clear hm hu
     cases g with
     | true =>
      go_upto_region 9 with (first | ((with_reducible refine g_ld ?_); refine a_ld HM ?_) | ((with_reducible refine g_bx ?_); refine a_bx HM ?_; clear HM; intro bk w1 HM))
      refine start_M [] HM (by kernel_rfl) (fun w0x H9 => ?_)
      replace HM := H9; clear H9
      refine k_mv 0 (heldF HM) ?_
      refine k_mv 1 (heldF HM) ?_
      refine k_off 2 (heldF HM) ?_
      refine k_off 3 (heldF HM) ?_
      refine k_off 4 (heldF HM) ?_
      refine k_off 5 (heldF HM) ?_
      refine k_off 6 (heldF HM) ?_
      refine k_off 7 (heldF HM) ?_
      refine k_off 8 (heldF HM) ?_
      refine k_off 9 (heldF HM) ?_
      refine k_off 10 (heldF HM) ?_
      refine k_off 11 (heldF HM) ?_
      refine k_off 12 (heldF HM) ?_
      refine k_off 13 (heldF HM) ?_
      refine k_pick 14 (heldF HM) ?_
      refine k_mv 15 (heldF HM) ?_
      refine wpAnyL_done (by kernel_rfl) ?_ _
      go_wp2_with fail
      go_roundw
      case rel => exact ⟨j + 1, true, rfl, by go_num, by omega, by simpa using HGN, HM⟩
      case measure => simp [intOf]; omega
     | false =>
      by_cases hu0 : 0 < u
      ·have HGN2 : Hid (true = (p.take (j + 1)).any fun m => decide (0 < Ns.gu U m)) := Lib.hid (by rw [← HGN.out]; simp [hu0])
       go_upto_region 9 with (first | ((with_reducible refine g_ld ?_); refine a_ld HM ?_) | ((with_reducible refine g_bx ?_); refine a_bx HM ?_; clear HM; intro bk w1 HM))
       refine start_M [] HM (by kernel_rfl) (fun w0x H9 => ?_)
       replace HM := H9; clear H9
       refine k_mv 0 (heldF HM) ?_
       refine k_mv 1 (heldF HM) ?_
       refine k_fa 2 (heldF HM) ?_
       refine k_ld 3 [] (heldF HM) ?_
       refine k_mv 4 (heldF HM) ?_
       refine k_mv 5 (heldF HM) ?_
       refine k_ia 6 (heldF HM) ?_
       refine k_ld 7 [] (heldF HM) ?_
       refine k_mv 8 (heldF HM) ?_
       refine k_ia 9 (heldF HM) ?_
       refine k_ld 10 [] (heldF HM) ?_
       refine k_ia 11 (heldF HM) ?_
       refine k_ld 12 [] (heldF HM) ?_
       refine t_pure (i := 13) (v := .bool true) rfl rfl (by kernel_rfl) (fun _ _ _ h => h) (heldF HM) (by rfl) ?_ ?_; (focus ((intro w9; first | (go_simp; done) | (go_simp; rfl)))); ((try simp only [List.setIfInBounds_toArray]); (try simp only [List.set_cons_succ]); (try simp only [List.set_cons_zero]))
       refine k_pick 14 (heldF HM) ?_
       refine k_mv 15 (heldF HM) ?_
       refine wpAnyL_done (by kernel_rfl) ?_ _
       go_wp2_with fail
       go_roundw
       case rel => exact ⟨j + 1, true, rfl, by go_num, by omega, HGN2, HM⟩
       case measure => simp [intOf]; omega
      ·have HGN2 : Hid (false = (p.take (j + 1)).any fun m => decide (0 < Ns.gu U m)) := Lib.hid (by rw [← HGN.out]; simp [hu0])
       have hu1 : u ≤ 0 := by omega
       go_upto_region 9 with (first | ((with_reducible refine g_ld ?_); refine a_ld HM ?_) | ((with_reducible refine g_bx ?_); refine a_bx HM ?_; clear HM; intro bk w1 HM))
       refine start_M [] HM (by kernel_rfl) (fun w0x H9 => ?_)
       replace HM := H9; clear H9
       refine k_mv 0 (heldF HM) ?_
       refine k_mv 1 (heldF HM) ?_
       refine k_fa 2 (heldF HM) ?_
       refine k_ld 3 [] (heldF HM) ?_
       refine k_mv 4 (heldF HM) ?_
       refine k_mv 5 (heldF HM) ?_
       refine k_ia 6 (heldF HM) ?_
       refine k_ld 7 [] (heldF HM) ?_
       refine k_mv 8 (heldF HM) ?_
       refine k_ia 9 (heldF HM) ?_
       refine k_ld 10 [] (heldF HM) ?_
       refine k_ia 11 (heldF HM) ?_
       refine k_ld 12 [] (heldF HM) ?_
       refine t_pure (i := 13) (v := .bool false) rfl rfl (by kernel_rfl) (fun _ _ _ h => h) (heldF HM) (by rfl) ?_ ?_; (focus ((intro w9; first | (go_simp; done) | (go_simp; rfl)))); ((try simp only [List.setIfInBounds_toArray]); (try simp only [List.set_cons_succ]); (try simp only [List.set_cons_zero]))
       refine k_pick 14 (heldF HM) ?_
       refine k_mv 15 (heldF HM) ?_
       refine wpAnyL_done (by kernel_rfl) ?_ _
       go_wp2_with fail
       go_roundw
       case rel => exact ⟨j + 1, false, rfl, by go_num, by omega, HGN2, HM⟩
       case measure => simp [intOf]; omega
    ·obtain rfl : j = p.length := by omega
     have HG2 : Hid (g = p.any fun m => decide (0 < Ns.gu U m)) := by rw [List.take_length] at HGV; exact HGV
     clear HGV
     cases g with
     | false =>
      have HD2 : Hid (∀ k q, k < i + 1 → P[k]? = some q → (∃ j ∈ q, 0 < Ns.gu U j) → Ns.gr U H q = true) := Lib.hid (fun k q hk hq hu => by
       by_cases e : k = i
       ·subst e
        rw [HPA.out] at hq
        injection hq with hq
        subst hq
        obtain ⟨j, h1, h2⟩ := hu
        have := HG2.out.symm
        rw [List.any_eq_false] at this
        exact absurd (decide_eq_true h2) (this j h1)
       ·exact HD.out k q (by omega) hq hu)
      go_upto_region 10 with (first | ((with_reducible refine g_ld ?_); refine a_ld HM ?_) | ((with_reducible refine g_bx ?_); refine a_bx HM ?_; clear HM; intro bk w1 HM))
      refine start_M [] HM (by kernel_rfl) (fun w0x H9 => ?_)
      replace HM := H9; clear H9
      refine k_mv 0 (heldF HM) ?_
      refine k_mv 1 (heldF HM) ?_
      refine k_off 2 (heldF HM) ?_
      refine k_off 3 (heldF HM) ?_
      refine k_off 4 (heldF HM) ?_
      refine k_off 5 (heldF HM) ?_
      refine k_off 6 (heldF HM) ?_
      refine k_off 7 (heldF HM) ?_
      refine k_off 8 (heldF HM) ?_
      refine k_pick 9 (heldF HM) ?_
      refine wpAnyL_done (by kernel_rfl) ?_ _
      go_wp2_with fail
      go_roundw
      case rel => exact ⟨i + 1, rfl, by go_num, by omega, HD2, HM⟩
      case measure => simp [intOf]; omega
     | true =>
      have hun : ∃ j ∈ p, 0 < Ns.gu U j := by
       have := HG2.out.symm
       rw [List.any_eq_true] at this
       obtain ⟨j, h1, h2⟩ := this
       exact ⟨j, h1, of_decide_eq_true h2⟩
      have HUN := Lib.hid hun
      clear hun
      obtain ⟨gd, hgd⟩ : ∃ g, Hid (g = Ns.gr U H p) := ⟨_, Lib.hid rfl⟩
      have GR : ∀ w', Below w2.heap.size w2 w' → Calls Tryz.prog 61 #[.agg #[.slice Au U.length cu, .slice Ah H.length ch], .slice A2 p.length c2] w' fun e w3 => e = .returned (.bool gd) ∧ Below w'.heap.size w' w3 := fun w' hB => by
       rw [hgd.out]
       exact rgrounded_any _ _ _ U H p w' (HN2.out.below hB) HG.out (HL.out.below hB) HPM.out hpl
      cases gd with
      | true =>
       have HD2 : Hid (∀ k q, k < i + 1 → P[k]? = some q → (∃ j ∈ q, 0 < Ns.gu U j) → Ns.gr U H q = true) := Lib.hid (fun k q hk hq hu => by
        by_cases e : k = i
        ·subst e
         rw [HPA.out] at hq
         injection hq with hq
         subst hq
         exact hgd.out.symm
        ·exact HD.out k q (by omega) hq hu)
       go_upto_region 10 with (first | ((with_reducible refine g_ld ?_); refine a_ld HM ?_) | ((with_reducible refine g_bx ?_); refine a_bx HM ?_; clear HM; intro bk w1 HM))
       refine start_M [] HM (by kernel_rfl) (fun w0x H9 => ?_)
       replace HM := H9; clear H9
       refine k_mv 0 (heldF HM) ?_
       refine k_mv 1 (heldF HM) ?_
       refine k_ld 2 [] (heldF HM) ?_
       refine k_mv 3 (heldF HM) ?_
       refine k_mv 4 (heldF HM) ?_
       refine k_ia 5 (heldF HM) ?_
       refine k_ld 6 [] (heldF HM) ?_
       refine j_one 7 fun K9 hK9 => ?_
       refine j_call2 (v := ?_) HM ?_ ?_; rotate_left 1; (focus (with_reducible (exact GR _ HM.low))); clear HM; intro w1 HM
       refine hK9 _ _ (heldF HM) ?_; clear hK9 K9
       refine k_not 8 (heldF HM) ?_
       refine k_pick 9 (heldF HM) ?_
       refine wpAnyL_done (by kernel_rfl) ?_ _
       go_wp2_with fail
       go_roundw
       case rel => exact ⟨i + 1, rfl, by go_num, by omega, HD2, HM⟩
       case measure => simp [intOf]; omega
      | false =>
       obtain rfl : r = 351 := H1.out ((Ns.circ_iff HPT.out).2 ⟨p, List.mem_of_getElem? HPA.out, HUN.out, HWH.out hgd.out.symm⟩)
       go_upto_region 10 with (first | ((with_reducible refine g_ld ?_); refine a_ld HM ?_) | ((with_reducible refine g_bx ?_); refine a_bx HM ?_; clear HM; intro bk w1 HM))
       refine start_M [] HM (by kernel_rfl) (fun w0x H9 => ?_)
       replace HM := H9; clear H9
       refine k_mv 0 (heldF HM) ?_
       refine k_mv 1 (heldF HM) ?_
       refine k_ld 2 [] (heldF HM) ?_
       refine k_mv 3 (heldF HM) ?_
       refine k_mv 4 (heldF HM) ?_
       refine k_ia 5 (heldF HM) ?_
       refine k_ld 6 [] (heldF HM) ?_
       refine j_one 7 fun K9 hK9 => ?_
       refine j_call2 (v := ?_) HM ?_ ?_; rotate_left 1; (focus (with_reducible (exact GR _ HM.low))); clear HM; intro w1 HM
       refine hK9 _ _ (heldF HM) ?_; clear hK9 K9
       refine k_not 8 (heldF HM) ?_
       refine k_pick 9 (heldF HM) ?_
       refine wpAnyL_done (by kernel_rfl) ?_ _
       go_wp2_with fail
       go_ret
       exact ⟨rfl, below_seq HB0.out HM.low⟩
  ·obtain rfl : i = P.length := by omega
   obtain rfl : r = 0 := H0.out (fun hc => by
    obtain ⟨p, hp, hu, hw⟩ := (Ns.circ_iff HPT.out).1 hc
    obtain ⟨k, hk⟩ := List.mem_iff_getElem?.1 hp
    have := HD.out k p (List.getElem?_eq_some_iff.1 hk).1 hk hu
    obtain ⟨a, _, rfl⟩ := HPT.out.one p hp
    rw [Ns.gr_whole.2 hw] at this
    cases this)
   go_wp2_with (first | ((with_reducible refine g_ld ?_); refine a_ld HM ?_) | ((with_reducible refine g_bx ?_); refine a_bx HM ?_; clear HM; intro bk w1 HM))
   go_ret
   exact ⟨rfl, below_seq HB0.out HM.low⟩
end Go.Proofs.YtckhdiljihhdmaaGreat
namespace Go.Proofs.YtckhdiljihhdmaaGreat
set_option maxRecDepth 8000
open Go.RowKit
theorem rmul_ff (p d z : Int) (hp : p.natAbs < Bg.lim) (hd : d.natAbs < Bg.lim) (hz : Hid (z = p * d)) (hl : z.natAbs < Bg.lim) (w : World) :
    Calls Tryz.prog 103 #[.agg (Bg.zA p), .agg (Bg.zA d)] w fun r w' => r = .returned (.tuple #[.agg (Bg.zA z), .int .i64 0]) ∧ Below w.heap.size w w' := by
 rw [zA_int p, zA_int d]
 exact rmul_any _ _ _ _ z z 0 hp hd (Lib.hid (by rw [Bg.toZ_iv, Bg.toZ_iv]; exact hz.out)) (Lib.hid (by unfold Bg.resZ; rw [if_pos hl])) (Lib.hid (by unfold Bg.resE; rw [if_pos hl])) w
theorem rsub_ff (p d z : Int) (hp : p.natAbs < Bg.lim) (hd : d.natAbs < Bg.lim) (hz : Hid (z = p - d)) (hl : z.natAbs < Bg.lim) (w : World) :
    Calls Tryz.prog 155 #[.agg (Bg.zA p), .agg (Bg.zA d)] w fun r w' => r = .returned (.tuple #[.agg (Bg.zA z), .int .i64 0]) ∧ Below w.heap.size w w' := by
 rw [zA_int p, zA_int d]
 exact rsub_any _ _ _ _ z z 0 hp hd (Lib.hid (by rw [Bg.toZ_iv, Bg.toZ_iv]; exact hz.out)) (Lib.hid (by unfold Bg.resZ; rw [if_pos hl])) (Lib.hid (by unfold Bg.resE; rw [if_pos hl])) w
set_option maxHeartbeats 4000000 in
theorem rmul35 (p d z : Int) (hp : p.natAbs < Bg.lim) (hd : d.natAbs < Bg.lim) (hz : Hid (z = p * d)) (hl : z.natAbs < Bg.lim) (w : World) :
    Calls Tryz.prog 129 #[.agg (Bg.zA p), .agg (Bg.zA d)] w fun r w' => r = .returned (.agg (Bg.zA z)) ∧ Below w.heap.size w w' := by
 have HM := Mem.start w
 have hzi := za_int
 have M1 := fun w => rmul_ff p d z hp hd hz hl w
 go_enter Tryz.func129, Tryz.ntmps129
 go_wp2_with (first | (go_at_call 103; ((with_reducible refine (M1 _).mono ?_); rintro e9 w2 ⟨rfl, hL⟩; replace HM := HM.call hL; clear hL)) | (first | ((with_reducible refine g_ld ?_); refine a_ld HM ?_) | ((with_reducible refine g_st ?_); refine a_st HM ?_; clear HM; intro w1 HM) | ((with_reducible refine g_al ?_); refine a_al HM ?_; clear HM; intro bk w1 HM) | ((with_reducible refine g_bx ?_); refine a_bx HM ?_; clear HM; intro bk w1 HM)))
 refine bodyPost_ret (r_c rfl rfl (HM.get (by ((repeat (first | exact Look.here | refine Look.there ?_)); done))) (la_z _)) rfl ⟨rfl, HM.low⟩
set_option maxHeartbeats 4000000 in
theorem rsub35 (p d z : Int) (hp : p.natAbs < Bg.lim) (hd : d.natAbs < Bg.lim) (hz : Hid (z = p - d)) (hl : z.natAbs < Bg.lim) (w : World) :
    Calls Tryz.prog 128 #[.agg (Bg.zA p), .agg (Bg.zA d)] w fun r w' => r = .returned (.agg (Bg.zA z)) ∧ Below w.heap.size w w' := by
 have HM := Mem.start w
 have hzi := za_int
 have M1 := fun w => rsub_ff p d z hp hd hz hl w
 go_enter Tryz.func128, Tryz.ntmps128
 go_wp2_with (first | (go_at_call 155; ((with_reducible refine (M1 _).mono ?_); rintro e9 w2 ⟨rfl, hL⟩; replace HM := HM.call hL; clear hL)) | (first | ((with_reducible refine g_ld ?_); refine a_ld HM ?_) | ((with_reducible refine g_st ?_); refine a_st HM ?_; clear HM; intro w1 HM) | ((with_reducible refine g_al ?_); refine a_al HM ?_; clear HM; intro bk w1 HM) | ((with_reducible refine g_bx ?_); refine a_bx HM ?_; clear HM; intro bk w1 HM)))
 refine bodyPost_ret (r_c rfl rfl (HM.get (by ((repeat (first | exact Look.here | refine Look.there ?_)); done))) (la_z _)) rfl ⟨rfl, HM.low⟩
end Go.Proofs.YtckhdiljihhdmaaGreat
namespace Go.Proofs.YtckhdiljihhdmaaGreat
set_option maxRecDepth 8000
open Go.RowKit
theorem sw_range {n i k : Nat} (hi : i < n) (hk : k < n) : ((List.range n).map (Mx.sw i k)).Perm (List.range n) := by
 have hnd : ((List.range n).map (Mx.sw i k)).Nodup := by
  unfold List.Nodup
  rw [List.pairwise_map]
  have key : ∀ {a b : Nat}, a ≠ b → Mx.sw i k a ≠ Mx.sw i k b := fun {a b} h e => by
   have := congrArg (Mx.sw i k) e
   rw [Mx.sw_sw, Mx.sw_sw] at this
   exact h this
  exact List.Pairwise.imp key List.nodup_range
 refine (List.perm_ext_iff_of_nodup hnd List.nodup_range).2 fun a => ?_
 simp only [List.mem_map, List.mem_range]
 constructor
 ·rintro ⟨b, hb, rfl⟩; exact Mx.sw_lt hi hk hb
 ·intro ha
  exact ⟨Mx.sw i k a, Mx.sw_lt hi hk ha, Mx.sw_sw i k a⟩
def swl (rb : List Nat) (i k : Nat) : List Nat := (List.range rb.length).map fun r => rb.getD (Mx.sw i k r) 0
theorem NF_range (rb : List Nat) (F : Nat → Array Value) : NF rb F = (List.range rb.length).map fun r => (rb.getD r 0, F r) := by
 apply List.ext_getElem?
 intro j
 by_cases hj : j < rb.length
 ·have hb : rb[j]? = some rb[j] := List.getElem?_eq_getElem hj
  rw [NF_at hb, List.getElem?_map, List.getElem?_range hj]
  show _ = some (rb.getD j 0, F j)
  rw [List.getD_eq_getElem?_getD, hb]; rfl
 ·rw [List.getElem?_eq_none (by rw [NF_len]; omega), List.getElem?_eq_none (by simp; omega)]
theorem swl_len {rb : List Nat} {i k : Nat} : (swl rb i k).length = rb.length := by simp [swl]
theorem swl_at {rb : List Nat} {i k r : Nat} (hr : r < rb.length) : (swl rb i k).getD r 0 = rb.getD (Mx.sw i k r) 0 := by
 unfold swl
 rw [List.getD_eq_getElem?_getD, List.getElem?_map, List.getElem?_range hr]; rfl
theorem NF_swap {rb : List Nat} {F : Nat → Array Value} {i k : Nat} (hi : i < rb.length) (hk : k < rb.length) : (NF (swl rb i k) fun r => F (Mx.sw i k r)).Perm (NF rb F) := by
 rw [NF_range, NF_range, swl_len]
 have e : (List.range rb.length).map (fun r => ((swl rb i k).getD r 0, F (Mx.sw i k r))) = ((List.range rb.length).map (Mx.sw i k)).map fun r => (rb.getD r 0, F r) := by
  rw [List.map_map]
  refine List.map_congr_left fun r hr => ?_
  rw [swl_at (by simpa using hr)]; rfl
 rw [e]
 exact (sw_range hi hk).map _
theorem rv_swap {n : Nat} {rb : List Nat} {i k bi bk : Nat} (hi : rb[i]? = some bi) (hk : rb[k]? = some bk) : ((rv n rb).set i (.slice (some ⟨bk, 0, none⟩) n n)).set k (.slice (some ⟨bi, 0, none⟩) n n) = rv n (swl rb i k) := by
 have hil := (List.getElem?_eq_some_iff.1 hi).1
 have hkl := (List.getElem?_eq_some_iff.1 hk).1
 apply List.ext_getElem?
 intro j
 unfold rv
 rw [List.getElem?_set, List.getElem?_set, List.length_set, List.length_map, List.getElem?_map, List.getElem?_map]
 by_cases hj : j < rb.length
 ·have h1 : (swl rb i k)[j]? = some (rb.getD (Mx.sw i k j) 0) := by unfold swl; rw [List.getElem?_map, List.getElem?_range hj]; rfl
  rw [h1]
  unfold Mx.sw
  by_cases e1 : k = j
  ·subst e1
   rw [if_pos rfl, if_pos hj]
   by_cases e2 : k = i
   ·subst e2
    rw [if_pos rfl, List.getD_eq_getElem?_getD, hi]; rfl
   ·rw [if_neg e2, if_pos rfl, List.getD_eq_getElem?_getD, hi]; rfl
  ·rw [if_neg e1]
   by_cases e2 : i = j
   ·subst e2
    rw [if_pos rfl, if_pos hj, if_pos rfl, List.getD_eq_getElem?_getD, hk]; rfl
   ·rw [if_neg e2, if_neg (fun h => e2 h.symm), if_neg (fun h => e1 h.symm), List.getD_eq_getElem?_getD, List.getElem?_eq_getElem hj]; rfl
 ·rw [List.getElem?_eq_none (l := rb) (by omega), if_neg (show ¬ k = j by omega), if_neg (show ¬ i = j by omega), List.getElem?_eq_none (by rw [swl_len]; omega)]
def zR (n : Nat) (Z : Nat → Nat → Int) (i : Nat) : Array Value := rowsOf (So.ol (fun j => Bg.zA (Z i j)) n)
theorem zR_sizes (f : Nat → Int) (n : Nat) : ∀ c ∈ So.ol (fun j => Bg.zA (f j)) n, c.size = 33 := by
 intro c hc; unfold So.ol at hc; obtain ⟨x, _, rfl⟩ := List.mem_map.1 hc; exact zA_size _
theorem la_zR (Z : Nat → Nat → Int) {n i j : Nat} (hj : j < n) : LA 48 (zR n Z i) (j * 33) (.agg (Bg.zA (Z i j))) :=
 la_row (by kernel_rfl) (by kernel_rfl) (zR_sizes _ n) (So.ol_at _ hj)
theorem sa_zR (Z Y : Nat → Nat → Int) {n i j : Nat} {z : Int} (hj : j < n) (hz : Y i j = z) (hY : ∀ k, k < n → k ≠ j → Y i k = Z i k) : SA 48 (zR n Z i) (j * 33) (.agg (Bg.zA z)) (zR n Y i) := by
 have := sa_row (T := 48) (n := 33) (l := So.ol (fun j => Bg.zA (Z i j)) n) (k := j) (d := Bg.zA z) (by kernel_rfl) (zR_sizes _ n) (So.ol_at _ hj) (zA_size z) (zA_one z)
 have e : (So.ol (fun j => Bg.zA (Z i j)) n).set j (Bg.zA z) = So.ol (fun j => Bg.zA (Y i j)) n := by
  rw [← hz]
  exact So.ol_set (F := fun j => Bg.zA (Z i j)) (G := fun j => Bg.zA (Y i j)) fun k hk => by
   by_cases e : k = j
   ·subst e; rw [if_pos rfl]
   ·rw [if_neg e, hY k hk e]
 rw [e] at this
 exact this
theorem zR_congr {n : Nat} {Z Y : Nat → Nat → Int} {i : Nat} (h : ∀ j, j < n → Z i j = Y i j) : zR n Z i = zR n Y i := by
 unfold zR; rw [ol_congr fun j hj => by rw [h j hj]]
theorem la_valsZ {l : List Value} {i : Nat} {v : Value} (h : l[i]? = some v) : LA 179 (rowsOf (l.map vc)) i v := by
 refine LA.one (by kernel_rfl) ?_
 have hs : ∀ c ∈ l.map vc, c.size = 1 := by intro c hc; obtain ⟨x, _, rfl⟩ := List.mem_map.1 hc; rfl
 have := rows_at hs (k := i) (j := 0) (c := vc v) (by rw [List.getElem?_map, h]; rfl) (by decide)
 rw [Nat.one_mul, Nat.add_zero] at this
 rw [this]; rfl
theorem sa_valsZ (l : List Value) {i : Nat} (v : Value) (h : i < l.length) (hv : v.oneCell' = true) : SA 179 (rowsOf (l.map vc)) i v (rowsOf ((l.set i v).map vc)) := by
 have hs : ∀ c ∈ l.map vc, c.size = 1 := by intro c hc; obtain ⟨x, _, rfl⟩ := List.mem_map.1 hc; rfl
 have h1 : (l.map vc)[i]? = some (vc l[i]) := by rw [List.getElem?_map, List.getElem?_eq_getElem h]; rfl
 have := sa_rowone (T := 179) (n := 1) (a := 0) (l := l.map vc) (k := i) (v := v) (by kernel_rfl) hs h1 (by decide) hv
 rw [Nat.mul_one, Nat.add_zero] at this
 have e : (l.map vc).set i ((vc l[i]).setIfInBounds 0 v) = (l.set i v).map vc := by rw [List.map_set]; rfl
 rw [e] at this
 exact this
theorem za_sz : ZA 179 (vc (.slice none 0 0)) := ⟨.slice none 0 0, rfl, fun w => by kernel_rfl⟩
def dst (Z : Nat → Nat → Int) (k : Nat) (last : Int) (i j : Nat) (a b : Nat) : Int := if k < a ∧ k < b ∧ (a < i ∨ (a = i ∧ b < j)) then Mx.nx Z k last a b else Z a b
theorem dst_start {Z : Nat → Nat → Int} {k : Nat} {last : Int} {a b : Nat} : dst Z k last (k + 1) (k + 1) a b = Z a b := by
 unfold dst; rw [if_neg (by omega)]
theorem dst_row {Z : Nat → Nat → Int} {k n i : Nat} {last : Int} {a b : Nat} (hb : b < n) : dst Z k last i n a b = dst Z k last (i + 1) (k + 1) a b := by
 unfold dst
 by_cases e : k < a ∧ k < b ∧ (a < i ∨ (a = i ∧ b < n))
 ·rw [if_pos e, if_pos (by omega)]
 ·rw [if_neg e, if_neg (by omega)]
theorem dst_here {Z : Nat → Nat → Int} {k i j : Nat} {last : Int} : dst Z k last i j i j = Z i j := by unfold dst; rw [if_neg (by omega)]
theorem dst_col {Z : Nat → Nat → Int} {k i j a : Nat} {last : Int} : dst Z k last i j a k = Z a k := by unfold dst; rw [if_neg (by omega)]
theorem dst_top {Z : Nat → Nat → Int} {k i j b : Nat} {last : Int} : dst Z k last i j k b = Z k b := by unfold dst; rw [if_neg (by omega)]
theorem dst_new {Z : Nat → Nat → Int} {k i j : Nat} {last : Int} (hi : k < i) (hj : k < j) : dst Z k last i (j + 1) i j = Mx.nx Z k last i j := by unfold dst; rw [if_pos (by omega)]
theorem dst_old {Z : Nat → Nat → Int} {k i j a b : Nat} {last : Int} (h : ¬ (a = i ∧ b = j)) : dst Z k last i (j + 1) a b = dst Z k last i j a b := by
 unfold dst
 by_cases e : k < a ∧ k < b ∧ (a < i ∨ (a = i ∧ b < j))
 ·rw [if_pos e, if_pos (by omega)]
 ·rw [if_neg e, if_neg (by omega)]
theorem dst_done {Z : Nat → Nat → Int} {k n j a b : Nat} {last : Int} (ha : k < a) (hb : k < b) (hn : a < n) : dst Z k last n j a b = Mx.nx Z k last a b := by unfold dst; rw [if_pos (by omega)]
end Go.Proofs.YtckhdiljihhdmaaGreat
namespace Go.Proofs.YtckhdiljihhdmaaGreat
set_option maxRecDepth 8000
open Go.RowKit
set_option maxRecDepth 100000 in
set_option maxHeartbeats 8000000 in
theorem rdet_any (n : Nat) (Z0 : Nat → Nat → Int) (A : Mx.Mat) (bo : Nat) (rb0 : List Nat) (W w : World) (R : List (Nat × Array Value)) (HM : Mem W [] ((bo, rowsOf ((rv n rb0).map vc)) :: (NF rb0 (zR n Z0) ++ R)) w) (hr : rb0.length = n) (hn : n ≤ 8)
    (hu : ∀ r, r < n → ∃ q, ∀ r', r' < n → A r' q = if r' = r then 1 else 0) (hZ : ∀ i j, i < n → j < n → (Z0 i j : Rat) = A i j) (hE : Mx.Ent A n (1000000000000000 : Nat)) :
    Calls Tryz.prog 86 #[.slice (some ⟨bo, 0, none⟩) n n] w fun e w' => ∃ D : Int, e = .returned (.agg (Bg.zA D)) ∧ Hid ((D : Rat) = Mx.det n A) ∧ Hid (D.natAbs ≤ Mx.big) ∧ Mem W [] R w' := by
 have HE := Lib.hid hE
 have HG0 : Hid (Mx.Gz n n A 0 0 false Z0 1) := Lib.hid (Mx.Gz.start hu hZ)
 have HR0 := Lib.hid hr
 have hzi := za_int
 have F1 := fun w => rfromInt_z 1 (by decide) (by decide) w
 have F0 := fun w => rfromInt_z 0 (by decide) (by decide) w
 clear hE hu hZ hr
 go_enter Tryz.func86, Tryz.ntmps86
 go_upto_region 2 with (first | (go_at_call 69; ((with_reducible refine (F1 _).mono ?_); rintro e9 w2 ⟨rfl, hL⟩; replace HM := HM.call hL; clear hL)) | (first | ((with_reducible refine g_ld ?_); refine a_ld HM ?_) | ((with_reducible refine g_st ?_); refine a_st HM ?_; clear HM; intro w1 HM) | ((with_reducible refine g_al ?_); refine a_al HM ?_; clear HM; intro bk w1 HM)))
 obtain ⟨b4, rfl⟩ := HM.nm0
 obtain ⟨b2, rfl⟩ := HM.nm1
 go_wp2_with (first | ((with_reducible refine g_ld ?_); refine a_ld HM ?_) | ((with_reducible refine g_st ?_); refine a_st HM ?_; clear HM; intro w1 HM) | ((with_reducible refine g_al ?_); refine a_al HM ?_; clear HM; intro bk w1 HM))
 go_loopw [5, 6] (fun mv kv wr => ∃ (k : Nat) (m : Bool) (Z : Nat → Nat → Int) (last : Int) (rb : List Nat), mv = .bool m ∧ kv = .int .i64 (k : Nat) ∧ k ≤ n ∧ Hid (rb.length = n) ∧ Hid (Mx.Gz n n A k k m Z last) ∧ Mem W [] ((b4, Bg.zA last) :: (b2, Bg.zA 0) :: (bo, rowsOf ((rv n rb).map vc)) :: (NF rb (zR n Z) ++ R)) wr) (fun _ kv _ => n - (intOf kv).toNat)
 case atStart => exact ⟨0, false, Z0, 1, rb0, rfl, rfl, by omega, HR0, HG0, HM⟩
 case round =>
  clear HM
  obtain ⟨k, m, Z, last, rb, rfl, rfl, hk, HRL, HG, HM⟩ := hrel
  by_cases hkt : k < n
  ·have hkt1 : (k : Int) < n := by omega
   go_wp2_with (first | ((with_reducible refine g_ld ?_); refine a_ld HM ?_) | ((with_reducible refine g_st ?_); refine a_st HM ?_; clear HM; intro w1 HM) | ((with_reducible refine g_al ?_); refine a_al HM ?_; clear HM; intro bk w1 HM))
   go_loopw [7] (fun rv_ wr => ∃ row : Nat, rv_ = .int .i64 (row : Nat) ∧ k ≤ row ∧ row ≤ n ∧ Hid (∀ i, k ≤ i → i < row → Z i k = 0) ∧ Mem W [] ((b4, Bg.zA last) :: (b2, Bg.zA 0) :: (bo, rowsOf ((rv n rb).map vc)) :: (NF rb (zR n Z) ++ R)) wr) (fun rv_ _ => n - (intOf rv_).toNat)
   case atStart => exact ⟨k, rfl, by omega, by omega, Lib.hid (fun i h1 h2 => by omega), HM⟩
   case round =>
    clear HM
    obtain ⟨row, rfl, hrow0, hrow, HZ, HM⟩ := hrel
    by_cases hrt : row < n
    ·have hrt1 : (row : Int) < n := by omega
     obtain ⟨br, hbr⟩ : ∃ b, rb[row]? = some b := ⟨_, List.getElem?_eq_getElem (by rw [HRL.out]; exact hrt)⟩
     obtain ⟨x, hx⟩ : ∃ x, Hid (x = Z row k) := ⟨_, Lib.hid rfl⟩
     have hidx : row < (NF rb (zR n Z)).length := by rw [NF_len, HRL.out]; exact hrt
     have HIX := Lib.hid hidx
     have lv : LA 179 (rowsOf ((rv n rb).map vc)) row (.slice (some ⟨br, 0, none⟩) n n) := la_valsZ (by unfold rv; rw [List.getElem?_map, hbr]; rfl)
     have lx : LA 48 (zR n Z row) (k * 33) (.agg (Bg.zA x)) := by rw [hx.out]; exact la_zR _ hkt
     have xb : x.natAbs < Bg.lim := by rw [hx.out]; exact Sy.lim (HG.out.bound HE.out hn hk hrow0 hrt (Nat.le_refl _) hkt)
     obtain ⟨g, hg⟩ : ∃ g, Hid (g = x.sign) := ⟨_, Lib.hid rfl⟩
     have SG := fun w => rsign_z x g xb hg w
     have ES : Hid ((NF rb (zR n Z)).set row (br, zR n Z row) = NF rb (zR n Z)) := Lib.hid (NF_set hbr fun _ _ _ => rfl)
     have HM2 := HM.openRow [_, _, _] (NF_at hbr)
     clear HM
     have HM := HM2
     clear HM2
     replace HM : Mem W [] ((br, zR n Z row) :: (b4, Bg.zA last) :: (b2, Bg.zA 0) :: (bo, rowsOf ((rv n rb).map vc)) :: ((NF rb (zR n Z)).eraseIdx row ++ R)) _ := HM
     have HBR := Lib.hid hbr
     clear hidx hbr xb
     by_cases hx0 : x = 0
     ·obtain rfl : g = 0 := by rw [hg.out, hx0]; rfl
      have HZ2 : Hid (∀ i, k ≤ i → i < row + 1 → Z i k = 0) := Lib.hid (fun i h1 h2 => by
       by_cases e : i = row
       ·subst e; rw [← hx.out]; exact hx0
       ·exact HZ.out i h1 (by omega))
      clear hx0 hx hg
      go_wp2_with (first | (go_at_call 88; ((with_reducible refine (SG _).mono ?_); rintro e9 w2 ⟨rfl, hL⟩; replace HM := HM.call hL; clear hL)) | (first | ((with_reducible refine g_ld ?_); refine a_ld HM ?_) | ((with_reducible refine g_st ?_); refine a_st HM ?_; clear HM; intro w1 HM) | ((with_reducible refine g_al ?_); refine a_al HM ?_; clear HM; intro bk w1 HM)))
      go_roundw
      case rel => exact ⟨row + 1, by go_num, by omega, by omega, HZ2, by have := HM.closeRow [_, _, _] HIX.out; rw [ES.out] at this; exact this⟩
      case measure => simp [intOf]; omega
     ·have hg0 : g ≠ 0 := by rw [hg.out]; intro e; exact hx0 (Int.sign_eq_zero_iff_zero.1 e)
      have hg1 : (g == 0) = false := beq_eq_false_iff_ne.2 hg0
      clear hx0
      have hrn : ¬ (row : Int) = n := by omega
      go_upto_region 10 with (first | (go_at_call 88; ((with_reducible refine (SG _).mono ?_); rintro e9 w2 ⟨rfl, hL⟩; replace HM := HM.call hL; clear hL)) | (first | ((with_reducible refine g_ld ?_); refine a_ld HM ?_) | ((with_reducible refine g_st ?_); refine a_st HM ?_; clear HM; intro w1 HM) | ((with_reducible refine g_al ?_); refine a_al HM ?_; clear HM; intro bk w1 HM)))
      have HM2 := HM.closeRow [_, _, _] HIX.out
      rw [ES.out] at HM2
      clear HM
      have HM := HM2
      clear HM2
      replace HM : Mem W [] ((b4, Bg.zA last) :: (b2, Bg.zA 0) :: (bo, rowsOf ((rv n rb).map vc)) :: (NF rb (zR n Z) ++ R)) _ := HM
      have HX0 : Hid (Z row k ≠ 0) := Lib.hid (by rw [← hx.out]; intro e; rw [e] at hg; exact hg0 hg.out)
      clear lx lv SG hg hg0 hg1 hx
      rcases Classical.em (row = k) with hrk | hrk
      case' inl =>
       have HX1 : Hid (Z k k ≠ 0) := Lib.hid (by have := HX0.out; rw [hrk] at this; exact this)
       have hrk1 : (row : Int) = k := by omega
       clear hrk HX0 HBR
       obtain ⟨Z1, rfl⟩ : ∃ Z1, Z1 = Z := ⟨_, rfl⟩
       obtain ⟨rb1, rfl⟩ : ∃ r, r = rb := ⟨_, rfl⟩
       obtain ⟨m1, rfl⟩ : ∃ r, r = m := ⟨_, rfl⟩
       have HG1 := HG
       have HRL1 := HRL
       go_upto_region 12 with (first | ((with_reducible refine g_ld ?_); refine a_ld HM ?_) | ((with_reducible refine g_st ?_); refine a_st HM ?_; clear HM; intro w1 HM) | ((with_reducible refine g_al ?_); refine a_al HM ?_; clear HM; intro bk w1 HM))
       clear hrk1
      case' inr =>
       have hrk1 : ¬ (row : Int) = k := by omega
       obtain ⟨bk, hbk⟩ : ∃ b, rb[k]? = some b := ⟨_, List.getElem?_eq_getElem (by rw [HRL.out]; exact hkt)⟩
       have hrl : (rv n rb).length = n := by simp [rv, HRL.out]
       have lvr : LA 179 (rowsOf ((rv n rb).map vc)) row (.slice (some ⟨br, 0, none⟩) n n) := la_valsZ (by unfold rv; rw [List.getElem?_map, HBR.out]; rfl)
       have lvk : LA 179 (rowsOf ((rv n rb).map vc)) k (.slice (some ⟨bk, 0, none⟩) n n) := la_valsZ (by unfold rv; rw [List.getElem?_map, hbk]; rfl)
       have s1 := sa_valsZ (rv n rb) (i := row) (.slice (some ⟨bk, 0, none⟩) n n) (by omega) rfl
       have s2 := sa_valsZ ((rv n rb).set row (.slice (some ⟨bk, 0, none⟩) n n)) (i := k) (.slice (some ⟨br, 0, none⟩) n n) (by rw [List.length_set]; omega) rfl
       rw [rv_swap HBR.out hbk] at s2
       have HSW : Hid ((NF (swl rb row k) fun r => zR n Z (Mx.sw row k r)).Perm (NF rb (zR n Z))) := Lib.hid (NF_swap (by rw [HRL.out]; exact hrt) (by rw [HRL.out]; exact hkt))
       have HG2 := Lib.hid (HG.out.swap (Nat.le_refl _) (show k < row by omega) hrt)
       have HX2 : Hid (Z (Mx.sw row k k) k ≠ 0) := Lib.hid (by
        have : Mx.sw row k k = row := by unfold Mx.sw; rw [if_neg (fun h => hrk h.symm), if_pos rfl]
        rw [this]; exact HX0.out)
       clear hbk hrl hrk
       go_upto_region 11 with (first | ((with_reducible refine g_ld ?_); refine a_ld HM ?_) | ((with_reducible refine g_st ?_); refine a_st HM ?_; clear HM; intro w1 HM) | ((with_reducible refine g_al ?_); refine a_al HM ?_; clear HM; intro bk w1 HM))
       refine start_M [15, 17] HM (by kernel_rfl) (fun w0x H9 => ?_)
       replace HM := H9; clear H9
       refine k_mv 0 (heldF HM) ?_
       refine k_mv 1 (heldF HM) ?_
       refine k_mv 2 (heldF HM) ?_
       refine k_mv 3 (heldF HM) ?_
       refine k_mv 4 (heldF HM) ?_
       refine k_mv 5 (heldF HM) ?_
       refine k_ia 6 (heldF HM) ?_
       refine k_ld 7 [14, 15, 16, 17, 18] (heldF HM) ?_
       refine k_mv 8 (heldF HM) ?_
       refine k_mv 9 (heldF HM) ?_
       refine k_ia 10 (heldF HM) ?_
       refine k_ld 11 [14, 15, 16, 17, 18] (heldF HM) ?_
       refine k_mv 12 (heldF HM) ?_
       refine k_not 13 (heldF HM) ?_
       refine k_ia 14 (heldF HM) ?_
       refine j_one 15 fun K9 hK9 => ?_
       refine j_st HM ?_; clear HM; intro w1 HM
       refine hK9 _ _ heldN ?_; clear hK9 K9
       refine k_ia 16 heldN ?_
       refine j_one 17 fun K9 hK9 => ?_
       refine j_st HM ?_; clear HM; intro w1 HM
       refine hK9 _ _ heldN ?_; clear hK9 K9
       refine k_mv 18 heldN ?_
       refine wpAnyL_done (by kernel_rfl) ?_ _
       replace HM := HM.perm (((HSW.out.append_right R).cons _).cons _ |>.cons _)
       obtain ⟨Z1, hZ1⟩ : ∃ Z1, Z1 = fun r => Z (Mx.sw row k r) := ⟨_, rfl⟩
       obtain ⟨rb1, hrb1⟩ : ∃ r, r = swl rb row k := ⟨_, rfl⟩
       have eZ : (fun r => zR n Z (Mx.sw row k r)) = zR n Z1 := by rw [hZ1]; rfl
       have HX1 : Hid (Z1 k k ≠ 0) := Lib.hid (by rw [hZ1]; exact HX2.out)
       have HRL1 : Hid (rb1.length = n) := Lib.hid (by rw [hrb1, swl_len]; exact HRL.out)
       have HG1 := HG2
       rw [← hZ1] at HG1
       rw [eZ, ← hrb1] at HM
       generalize (!m) = m1 at HG1 ⊢
       clear HG2 HX2 eZ hZ1 hrb1 HSW lvr lvk s1 s2 hrk1 HX0 HBR
       go_upto_region 12 with (first | ((with_reducible refine g_ld ?_); refine a_ld HM ?_) | ((with_reducible refine g_st ?_); refine a_st HM ?_; clear HM; intro w1 HM) | ((with_reducible refine g_al ?_); refine a_al HM ?_; clear HM; intro bk w1 HM))
      all_goals
       go_wp2_with (first | ((with_reducible refine g_ld ?_); refine a_ld HM ?_) | ((with_reducible refine g_st ?_); refine a_st HM ?_; clear HM; intro w1 HM) | ((with_reducible refine g_al ?_); refine a_al HM ?_; clear HM; intro bk w1 HM))
       go_loopw [8] (fun iv wr => ∃ i : Nat, iv = .int .i64 (i : Nat) ∧ k + 1 ≤ i ∧ i ≤ n ∧ Mem W [] ((b4, Bg.zA last) :: (b2, Bg.zA 0) :: (bo, rowsOf ((rv n rb1).map vc)) :: (NF rb1 (zR n (dst Z1 k last i (k + 1))) ++ R)) wr) (fun iv _ => n - (intOf iv).toNat)
       case atStart => exact ⟨k + 1, by go_num, by omega, by omega, by
        have e : NF rb1 (zR n (dst Z1 k last (k + 1) (k + 1))) = NF rb1 (zR n Z1) := NF_congr fun a _ => zR_congr fun b _ => dst_start
        rw [e]; exact HM⟩
       case round =>
        clear HM
        obtain ⟨i, rfl, hi0, hi, HM⟩ := hrel
        by_cases hit : i < n
        ·have hit1 : (i : Int) < n := by omega
         go_wp2_with (first | ((with_reducible refine g_ld ?_); refine a_ld HM ?_) | ((with_reducible refine g_st ?_); refine a_st HM ?_; clear HM; intro w1 HM) | ((with_reducible refine g_al ?_); refine a_al HM ?_; clear HM; intro bk w1 HM))
         go_loopw [9] (fun jv wr => ∃ j : Nat, jv = .int .i64 (j : Nat) ∧ k + 1 ≤ j ∧ j ≤ n ∧ Mem W [] ((b4, Bg.zA last) :: (b2, Bg.zA 0) :: (bo, rowsOf ((rv n rb1).map vc)) :: (NF rb1 (zR n (dst Z1 k last i j)) ++ R)) wr) (fun jv _ => n - (intOf jv).toNat)
         case atStart => exact ⟨k + 1, by go_num, by omega, by omega, HM⟩
         case round =>
          clear HM
          obtain ⟨j, rfl, hj0, hj, HM⟩ := hrel
          by_cases hjt : j < n
          ·have hjt1 : (j : Int) < n := by omega
           obtain ⟨bi, hbi⟩ : ∃ b, rb1[i]? = some b := ⟨_, List.getElem?_eq_getElem (by rw [HRL1.out]; exact hit)⟩
           obtain ⟨bk, hbk⟩ : ∃ b, rb1[k]? = some b := ⟨_, List.getElem?_eq_getElem (by rw [HRL1.out]; exact hkt)⟩
           have lvi : LA 179 (rowsOf ((rv n rb1).map vc)) i (.slice (some ⟨bi, 0, none⟩) n n) := la_valsZ (by unfold rv; rw [List.getElem?_map, hbi]; rfl)
           have lvk : LA 179 (rowsOf ((rv n rb1).map vc)) k (.slice (some ⟨bk, 0, none⟩) n n) := la_valsZ (by unfold rv; rw [List.getElem?_map, hbk]; rfl)
           obtain ⟨p, hp⟩ : ∃ y, Hid (y = Z1 k k) := ⟨_, Lib.hid rfl⟩
           obtain ⟨q, hq⟩ : ∃ y, Hid (y = Z1 i j) := ⟨_, Lib.hid rfl⟩
           obtain ⟨r, hr⟩ : ∃ y, Hid (y = Z1 i k) := ⟨_, Lib.hid rfl⟩
           obtain ⟨s, hs⟩ : ∃ y, Hid (y = Z1 k j) := ⟨_, Lib.hid rfl⟩
           have lkk : LA 48 (zR n (dst Z1 k last i j) k) (k * 33) (.agg (Bg.zA p)) := by
            have := la_zR (dst Z1 k last i j) (i := k) hkt
            rw [dst_top, ← hp.out] at this; exact this
           have lij : LA 48 (zR n (dst Z1 k last i j) i) (j * 33) (.agg (Bg.zA q)) := by
            have := la_zR (dst Z1 k last i j) (i := i) hjt
            rw [dst_here, ← hq.out] at this; exact this
           have lik : LA 48 (zR n (dst Z1 k last i j) i) (k * 33) (.agg (Bg.zA r)) := by
            have := la_zR (dst Z1 k last i j) (i := i) hkt
            rw [dst_col, ← hr.out] at this; exact this
           have lkj : LA 48 (zR n (dst Z1 k last i j) k) (j * 33) (.agg (Bg.zA s)) := by
            have := la_zR (dst Z1 k last i j) (i := k) hjt
            rw [dst_top, ← hs.out] at this; exact this
           have bp : p.natAbs ≤ Mx.big := by rw [hp.out]; exact HG1.out.bound HE.out hn hk (Nat.le_refl _) hkt (Nat.le_refl _) hkt
           have bq : q.natAbs ≤ Mx.big := by rw [hq.out]; exact HG1.out.bound HE.out hn hk (by omega) hit (by omega) hjt
           have br_ : r.natAbs ≤ Mx.big := by rw [hr.out]; exact HG1.out.bound HE.out hn hk (by omega) hit (Nat.le_refl _) hkt
           have bs : s.natAbs ≤ Mx.big := by rw [hs.out]; exact HG1.out.bound HE.out hn hk (Nat.le_refl _) hkt (by omega) hjt
           have bl := HG1.out.bound_last HE.out hn hk
           have hbl := Sy.big_lim
           rw [Bg.p2_lim] at hbl
           obtain ⟨u, hu⟩ : ∃ u, Hid (u = p * q) := ⟨_, Lib.hid rfl⟩
           obtain ⟨v, hv⟩ : ∃ v, Hid (v = r * s) := ⟨_, Lib.hid rfl⟩
           obtain ⟨z, hzz⟩ : ∃ z, Hid (z = u - v) := ⟨_, Lib.hid rfl⟩
           obtain ⟨x1, hx1⟩ : ∃ x, Hid (x = z / last) := ⟨_, Lib.hid rfl⟩
           obtain ⟨y1, hy1⟩ : ∃ x, Hid (x = z % last) := ⟨_, Lib.hid rfl⟩
           have lu : u.natAbs ≤ Mx.big * Mx.big := by rw [hu.out]; exact Sy.mul_lim bp bq
           have lw : v.natAbs ≤ Mx.big * Mx.big := by rw [hv.out]; exact Sy.mul_lim br_ bs
           have lz : z.natAbs ≤ Mx.big * Mx.big + Mx.big * Mx.big := by rw [hzz.out]; omega
           have M1 := fun w => rmul35 p q u (Sy.lim bp) (Sy.lim bq) hu (by omega) w
           have M2 := fun w => rmul35 r s v (Sy.lim br_) (Sy.lim bs) hv (by omega) w
           have S1 := fun w => rsub35 u v z (by omega) (by omega) hzz (by omega) w
           have D1 := fun w => rdivMod_zz z last x1 y1 (by omega) (Sy.lim bl) HG1.out.last_ne hx1 hy1 w
           have hnx : Mx.nx Z1 k last i j = x1 := by
            unfold Mx.nx
            rw [if_neg (by omega), hx1.out, hzz.out, hu.out, hv.out, hp.out, hq.out, hr.out, hs.out]
           have sx := sa_zR (dst Z1 k last i j) (dst Z1 k last i (j + 1)) (i := i) (z := x1) hjt (by rw [dst_new (by omega) (by omega)]; exact hnx) (fun b _ hb => dst_old (by omega))
           have ES : Hid ((NF rb1 (zR n (dst Z1 k last i j))).set i (bi, zR n (dst Z1 k last i (j + 1)) i) = NF rb1 (zR n (dst Z1 k last i (j + 1)))) := Lib.hid (NF_set hbi fun a _ ha => zR_congr fun b _ => dst_old (by omega))
           obtain ⟨rest, HM2, hcl⟩ := HM.openTwo [_, _, _] (NF_at hbi) (NF_at hbk) (show k ≠ i by omega)
           clear HM
           have HM := HM2
           clear HM2
           replace HM : Mem W [] ((bi, zR n (dst Z1 k last i j) i) :: (bk, zR n (dst Z1 k last i j) k) :: (b4, Bg.zA last) :: (b2, Bg.zA 0) :: (bo, rowsOf ((rv n rb1).map vc)) :: (rest ++ R)) _ := HM
           have HCLO := Lib.hid hcl
           clear hcl hbi hbk bp bq br_ bs bl hbl lu lw lz hnx hp hq hr hs hu hv hzz hx1 hy1
           go_upto_region 18 with (first | ((with_reducible refine g_ld ?_); refine a_ld HM ?_) | ((with_reducible refine g_st ?_); refine a_st HM ?_; clear HM; intro w1 HM) | ((with_reducible refine g_al ?_); refine a_al HM ?_; clear HM; intro bk w1 HM))
           refine start_M [43] HM (by kernel_rfl) (fun w0x H9 => ?_)
           replace HM := H9; clear H9
           refine k_mv 0 (heldF HM) ?_
           refine k_mv 1 (heldF HM) ?_
           refine k_ia 2 (heldF HM) ?_
           refine k_ld 3 [42, 43] (heldF HM) ?_
           refine k_mv 4 (heldF HM) ?_
           refine k_mv 5 (heldF HM) ?_
           refine k_mv 6 (heldF HM) ?_
           refine k_ia 7 (heldF HM) ?_
           refine k_ld 8 [10, 11, 19, 34, 35, 37, 38, 39, 40, 41, 42, 43] (heldF HM) ?_
           refine k_mv 9 (heldF HM) ?_
           refine k_ia 10 (heldF HM) ?_
           refine k_ld 11 [19, 34, 35, 37, 38, 39, 40, 41, 42, 43] (heldF HM) ?_
           refine k_mv 12 (heldF HM) ?_
           refine k_mv 13 (heldF HM) ?_
           refine k_ia 14 (heldF HM) ?_
           refine k_ld 15 [17, 18, 19, 34, 35, 37, 38, 39, 40, 41, 42, 43] (heldF HM) ?_
           refine k_mv 16 (heldF HM) ?_
           refine k_ia 17 (heldF HM) ?_
           refine k_ld 18 [19, 34, 35, 37, 38, 39, 40, 41, 42, 43] (heldF HM) ?_
           refine k_mv 20 (heldF HM) ?_
           refine k_mv 21 (heldF HM) ?_
           refine k_ia 22 (heldF HM) ?_
           refine k_ld 23 [25, 26, 34, 35, 37, 38, 39, 40, 41, 42, 43] (heldF HM) ?_
           refine k_mv 24 (heldF HM) ?_
           refine k_ia 25 (heldF HM) ?_
           refine k_ld 26 [34, 35, 37, 38, 39, 40, 41, 42, 43] (heldF HM) ?_
           refine k_mv 27 (heldF HM) ?_
           refine k_mv 28 (heldF HM) ?_
           refine k_ia 29 (heldF HM) ?_
           refine k_ld 30 [32, 33, 34, 35, 37, 38, 39, 40, 41, 42, 43] (heldF HM) ?_
           refine k_mv 31 (heldF HM) ?_
           refine k_ia 32 (heldF HM) ?_
           refine k_ld 33 [34, 35, 37, 38, 39, 40, 41, 42, 43] (heldF HM) ?_
           refine k_ld 36 [37, 38, 39, 40, 41, 42, 43] (heldF HM) ?_
           refine j_one 19 fun K9 hK9 => ?_
           refine j_call2 (v := ?_) HM ?_ ?_; rotate_left 1; (focus (with_reducible (first | exact M1 _ | exact M2 _ | exact S1 _ | exact D1 _))); clear HM; intro w1 HM
           refine hK9 _ _ (heldF HM) ?_; clear hK9 K9
           refine j_one 34 fun K9 hK9 => ?_
           refine j_call2 (v := ?_) HM ?_ ?_; rotate_left 1; (focus (with_reducible (first | exact M1 _ | exact M2 _ | exact S1 _ | exact D1 _))); clear HM; intro w1 HM
           refine hK9 _ _ (heldF HM) ?_; clear hK9 K9
           refine j_one 35 fun K9 hK9 => ?_
           refine j_call2 (v := ?_) HM ?_ ?_; rotate_left 1; (focus (with_reducible (first | exact M1 _ | exact M2 _ | exact S1 _ | exact D1 _))); clear HM; intro w1 HM
           refine hK9 _ _ (heldF HM) ?_; clear hK9 K9
           refine j_one 37 fun K9 hK9 => ?_
           refine j_call2 (v := ?_) HM ?_ ?_; rotate_left 1; (focus (with_reducible (first | exact M1 _ | exact M2 _ | exact S1 _ | exact D1 _))); clear HM; intro w1 HM
           refine hK9 _ _ (heldF HM) ?_; clear hK9 K9
           refine k_mv 38 (heldF HM) ?_
           refine k_ext 39 (heldF HM) ?_
           refine k_ext 40 (heldF HM) ?_
           refine k_ext 41 (heldF HM) ?_
           refine k_ia 42 (heldF HM) ?_
           refine j_one 43 fun K9 hK9 => ?_
           refine j_st HM ?_; clear HM; intro w1 HM
           refine hK9 _ _ heldN ?_; clear hK9 K9
           refine wpAnyL_done (by kernel_rfl) ?_ _
           go_wp2_with fail
           go_roundw
           case rel => exact ⟨j + 1, by go_num, by omega, by omega, by have := HCLO.out _ _ HM; rw [ES.out] at this; exact this⟩
           case measure => simp [intOf]; omega
          ·obtain rfl : n = j := by omega
           go_wp2_with fail
           go_roundw
           case rel =>
            refine ⟨i + 1, by go_num, by omega, by omega, ?_⟩
            have e : NF rb1 (zR n (dst Z1 k last i n)) = NF rb1 (zR n (dst Z1 k last (i + 1) (k + 1))) := NF_congr fun a _ => zR_congr fun b hb => dst_row hb
            rw [← e]; exact HM
           case measure => simp [intOf]; omega
        ·obtain rfl : n = i := by omega
         obtain ⟨bk, hbk⟩ : ∃ b, rb1[k]? = some b := ⟨_, List.getElem?_eq_getElem (by rw [HRL1.out]; exact hkt)⟩
         obtain ⟨y, hy⟩ : ∃ y, Hid (y = Z1 k k) := ⟨_, Lib.hid rfl⟩
         have lv : LA 179 (rowsOf ((rv n rb1).map vc)) k (.slice (some ⟨bk, 0, none⟩) n n) := la_valsZ (by unfold rv; rw [List.getElem?_map, hbk]; rfl)
         have lx : LA 48 (zR n (dst Z1 k last n (k + 1)) k) (k * 33) (.agg (Bg.zA y)) := by
          have := la_zR (dst Z1 k last n (k + 1)) (i := k) hkt
          rw [dst_top, ← hy.out] at this
          exact this
         have HIX : Hid (k < (NF rb1 (zR n (dst Z1 k last n (k + 1)))).length) := Lib.hid (by rw [NF_len, HRL1.out]; exact hkt)
         have ES : Hid ((NF rb1 (zR n (dst Z1 k last n (k + 1)))).set k (bk, zR n (dst Z1 k last n (k + 1)) k) = NF rb1 (zR n (dst Z1 k last n (k + 1)))) := Lib.hid (NF_set hbk fun _ _ _ => rfl)
         have HG3 : Hid (Mx.Gz n n A (k + 1) (k + 1) m1 (dst Z1 k last n (k + 1)) y) := Lib.hid (by
          rw [hy.out]
          exact HG1.out.step HE.out (Nat.le_refl _) hkt hkt HX1.out (Nat.le_succ _) fun a b h1 h2 h3 _ => dst_done h1 h3 h2)
         have HM2 := HM.openRow [_, _, _] (NF_at hbk)
         clear HM
         have HM := HM2
         clear HM2
         replace HM : Mem W [] ((bk, zR n (dst Z1 k last n (k + 1)) k) :: (b4, Bg.zA last) :: (b2, Bg.zA 0) :: (bo, rowsOf ((rv n rb1).map vc)) :: ((NF rb1 (zR n (dst Z1 k last n (k + 1)))).eraseIdx k ++ R)) _ := HM
         clear hbk
         go_wp2_with (first | ((with_reducible refine g_ld ?_); refine a_ld HM ?_) | ((with_reducible refine g_st ?_); refine a_st HM ?_; clear HM; intro w1 HM) | ((with_reducible refine g_al ?_); refine a_al HM ?_; clear HM; intro bk w1 HM))
         go_roundw
         case rel => exact ⟨k + 1, m1, dst Z1 k last n (k + 1), y, rb1, rfl, by go_num, by omega, HRL1, HG3, by have := HM.closeRow [_, _, _] HIX.out; rw [ES.out] at this; exact this⟩
         case measure => simp [intOf]; omega
    ·obtain rfl : n = row := by omega
     have HD : Hid (Mx.det n A = 0) := Lib.hid (HG.out.det0 (Nat.le_refl _) hkt hkt HZ.out)
     go_wp2_with (first | (go_at_call 69; ((with_reducible refine (F0 _).mono ?_); rintro e9 w2 ⟨rfl, hL⟩; replace HM := HM.call hL; clear hL)) | (first | ((with_reducible refine g_ld ?_); refine a_ld HM ?_) | ((with_reducible refine g_st ?_); refine a_st HM ?_; clear HM; intro w1 HM) | ((with_reducible refine g_al ?_); refine a_al HM ?_; clear HM; intro bk w1 HM)))
     refine bodyPost_ret (r_c rfl rfl (HM.get (by ((repeat (first | exact Look.here | refine Look.there ?_)); done))) (la_z _)) rfl ⟨0, rfl, Lib.hid (by rw [HD.out]; rfl), Lib.hid (by decide), HM.pick⟩
  ·obtain rfl : n = k := by omega
   have HD := Lib.hid HG.out.det
   have hlb := HG.out.bound_last HE.out hn (Nat.le_refl _)
   have HLB := Lib.hid hlb
   have hll := Sy.lim hlb
   cases m with
   | true =>
    have NG := fun w => rneg_z last (-last) hll (Lib.hid rfl) w
    clear hlb hll
    go_wp2_with (first | (go_at_call 105; ((with_reducible refine (NG _).mono ?_); rintro e9 w2 ⟨rfl, hL⟩; replace HM := HM.call hL; clear hL)) | (first | ((with_reducible refine g_ld ?_); refine a_ld HM ?_) | ((with_reducible refine g_st ?_); refine a_st HM ?_; clear HM; intro w1 HM) | ((with_reducible refine g_al ?_); refine a_al HM ?_; clear HM; intro bk w1 HM)))
    refine bodyPost_ret (r_c rfl rfl (HM.get (by ((repeat (first | exact Look.here | refine Look.there ?_)); done))) (la_z _)) rfl ⟨-last, rfl, Lib.hid ?_, Lib.hid (by rw [Int.natAbs_neg]; exact HLB.out), HM.pick⟩
    rw [HD.out, Rat.intCast_neg]
    show -(last : Rat) = (-1 : Rat) * last
    grind
   | false =>
    clear hlb hll
    go_wp2_with (first | ((with_reducible refine g_ld ?_); refine a_ld HM ?_) | ((with_reducible refine g_st ?_); refine a_st HM ?_; clear HM; intro w1 HM) | ((with_reducible refine g_al ?_); refine a_al HM ?_; clear HM; intro bk w1 HM))
    refine bodyPost_ret (r_c rfl rfl (HM.get (by ((repeat (first | exact Look.here | refine Look.there ?_)); done))) (la_z _)) rfl ⟨last, rfl, Lib.hid ?_, HLB, HM.pick⟩
    rw [HD.out]
    show (last : Rat) = (1 : Rat) * last
    grind
end Go.Proofs.YtckhdiljihhdmaaGreat
