/- The document's grounded and Circle, walked. -/
import Derived.Test.YtadnddffdedjgaaRfD
import Derived.Test.YtadnddffdedjgaaNsE
namespace Go.Proofs.Ytadnddffdedjgaa
set_option maxRecDepth 8000
open Go.RowKit
set_option maxHeartbeats 8000000 in
theorem rgrounded_any (us hs ps : Value) (U : List Int) (H : List (List Int)) (p : List Nat) (w : World) (hR : RdN w us hs U H) (hG : Ns.Good U H) (hP : RdI w ps (p.map fun x : Nat => (x : Int))) (hpm : ∀ m ∈ p, m < U.length) (hpl : p.length ≤ U.length) :
    Calls Try.prog 46 #[.agg #[us, hs], ps] w fun e w' => e = .returned (.bool (Ns.gr U H p)) ∧ Below w.heap.size w w' := by
  have HM := Mem.start w
  have HR := Lib.hid hR
  have HG := Lib.hid hG
  have HP := Lib.hid hP
  have HPM := Lib.hid hpm
  have hn8 := hG.sh.1
  obtain ⟨Au, cu, rfl⟩ := hR.u.form
  obtain ⟨Ah, ch, rfl⟩ := hR.h.form
  obtain ⟨Ap, cp, rfl⟩ := hP.form
  rw [List.length_map] at HP ⊢
  obtain ⟨g, hg⟩ : ∃ g, Hid (g = Ns.gr U H p) := ⟨_, Lib.hid rfl⟩
  rw [← hg.out]
  clear hR hG hP hpm
  by_cases hp0 : p.length = 0
  · obtain rfl : p = [] := List.length_eq_zero_iff.1 hp0
    obtain rfl : g = false := by rw [hg.out]; rfl
    go_enter Try.func46, Try.ntmps46
    go_wp2_with (first | fail | (first | ((with_reducible refine g_ld ?_); refine a_ld HM ?_) | ((with_reducible refine g_st ?_); refine a_st HM ?_; clear HM; intro w1 HM) | ((with_reducible refine g_al ?_); refine a_al HM ?_; clear HM; intro bk w1 HM) | ((with_reducible refine g_bx ?_); refine a_bx HM ?_; clear HM; intro bk w1 HM) | ((with_reducible refine g_bld ?_); refine a_bld ?_)))
    go_loopw [4, 5] (fun rv iv wr => rv = .bool false ∧ iv = .int .i64 0 ∧ Below w.heap.size w wr) (fun _ _ _ => 0)
    case atStart => exact ⟨rfl, rfl, HM.low⟩
    case round =>
      obtain ⟨rfl, rfl, hB⟩ := hrel
      go_wp2_with (first | fail | (first | ((with_reducible refine g_ld ?_); refine a_ld HM ?_) | ((with_reducible refine g_st ?_); refine a_st HM ?_; clear HM; intro w1 HM) | ((with_reducible refine g_al ?_); refine a_al HM ?_; clear HM; intro bk w1 HM) | ((with_reducible refine g_bx ?_); refine a_bx HM ?_; clear HM; intro bk w1 HM) | ((with_reducible refine g_bld ?_); refine a_bld ?_)))
      go_ret
      exact ⟨rfl, hB⟩
  obtain ⟨b3, off3, cs3, rfl, HB3, K3⟩ := HP.out.all (by rw [List.length_map]; omega)
  obtain ⟨bu, ou, csu, rfl, HBU, KU⟩ := HR.out.u.all (by omega)
  obtain ⟨bh, oh, csh, rfl, HBH, KH⟩ := HR.out.h.all (by have := HG.out.sh.2; omega)
  have n0 := la_n0 (.slice (some ⟨bu, ou, none⟩) U.length cu) (.slice (some ⟨bh, oh, none⟩) H.length ch)
  have n1 := la_n1 (.slice (some ⟨bu, ou, none⟩) U.length cu) (.slice (some ⟨bh, oh, none⟩) H.length ch)
  go_enter Try.func46, Try.ntmps46
  go_wp2_with (first | fail | (first | ((with_reducible refine g_ld ?_); refine a_ld HM ?_) | ((with_reducible refine g_st ?_); refine a_st HM ?_; clear HM; intro w1 HM) | ((with_reducible refine g_al ?_); refine a_al HM ?_; clear HM; intro bk w1 HM) | ((with_reducible refine g_bx ?_); refine a_bx HM ?_; clear HM; intro bk w1 HM) | ((with_reducible refine g_bld ?_); refine a_bld ?_)))
  obtain ⟨bk, rfl⟩ := HM.nm0
  go_loopw [4, 5] (fun rv jv wr => ∃ j : Nat, rv = .bool false ∧ jv = .int .i64 (j : Nat) ∧ j ≤ p.length ∧ Hid ((p.take j).any (fun m => decide (Ns.ls p (fun k => Ns.gh H k m) < Ns.gu U m)) = false) ∧ Mem w [] [(bk, #[.slice (some ⟨bu, ou, none⟩) U.length cu, .slice (some ⟨bh, oh, none⟩) H.length ch])] wr) (fun _ jv _ => p.length - (intOf jv).toNat)
  case atStart => exact ⟨0, rfl, rfl, by omega, Lib.hid rfl, HM⟩
  case round =>
    clear HM
    obtain ⟨j, rfl, rfl, hj, HGV, HM⟩ := hrel
    by_cases hjt : j < p.length
    · have hjt1 : (j : Int) < p.length := by omega
      obtain ⟨m, hm⟩ : ∃ m, p[j]? = some m := ⟨_, List.getElem?_eq_getElem hjt⟩
      have hmn := HPM.out m (List.mem_of_getElem? hm)
      have hmn1 : (m : Int) < U.length := by omega
      have k3 := K3.out j m (by rw [List.getElem?_map, hm]; rfl)
      obtain ⟨u, hu⟩ : ∃ u, U[m]? = some u := ⟨_, List.getElem?_eq_getElem hmn⟩
      have k5 := KU.out m u hu
      have HU := Lib.hid (Ns.gu_at hu)
      have HMA := Lib.hid hm
      clear hm hu
      go_wp2_with (first | fail | (first | ((with_reducible refine g_ld ?_); refine a_ld HM ?_) | ((with_reducible refine g_st ?_); refine a_st HM ?_; clear HM; intro w1 HM) | ((with_reducible refine g_al ?_); refine a_al HM ?_; clear HM; intro bk w1 HM) | ((with_reducible refine g_bx ?_); refine a_bx HM ?_; clear HM; intro bk w1 HM) | ((with_reducible refine g_bld ?_); refine a_bld ?_)))
      go_loopw [6, 7] (fun av kv wr => ∃ (k : Nat) (S : Int), av = .int .i64 S ∧ kv = .int .i64 (k : Nat) ∧ k ≤ p.length ∧ Hid (S = Ns.ls (p.take k) fun x => Ns.gh H x m) ∧ 0 ≤ S ∧ S ≤ k * 1000000000000000 ∧ Mem w [] [(bk, #[.slice (some ⟨bu, ou, none⟩) U.length cu, .slice (some ⟨bh, oh, none⟩) H.length ch])] wr) (fun _ kv _ => p.length - (intOf kv).toNat)
      case atStart => exact ⟨0, 0, rfl, rfl, by omega, Lib.hid rfl, by omega, by omega, HM⟩
      case round =>
        clear HM
        obtain ⟨k, S, rfl, rfl, hk, HSV, hS0, hS1, HM⟩ := hrel
        by_cases hkt : k < p.length
        · have hkt1 : (k : Int) < p.length := by omega
          obtain ⟨x, hx⟩ : ∃ x, p[k]? = some x := ⟨_, List.getElem?_eq_getElem hkt⟩
          have hxn := HPM.out x (List.mem_of_getElem? hx)
          have hxn1 : (x : Int) < H.length := by have := HG.out.sh.2; omega
          have k4 := K3.out k x (by rw [List.getElem?_map, hx]; rfl)
          obtain ⟨l, hl, hll⟩ := HG.out.at_ hxn
          obtain ⟨y, hy⟩ : ∃ y, l[m]? = some y := ⟨_, List.getElem?_eq_getElem (by omega)⟩
          obtain ⟨A6, c6, k6, HL6⟩ := KH.out x l hl
          obtain ⟨b7, off7, cs7, rfl, HB7, k7⟩ := HL6.out.at_ hy
          have ey := Ns.gh_at hl hy
          have hy0 := HG.out.ok.h0 x m hxn hmn
          have hy1 := HG.out.ok.h1 x m hxn hmn
          rw [ey] at hy0 hy1
          have hml : (m : Int) < l.length := by omega
          have HS2 : Hid (S + y = Ns.ls (p.take (k + 1)) fun x => Ns.gh H x m) := Lib.hid (by rw [Ns.ls_take hx, ← HSV.out, ey])
          clear hx hl hll hy ey
          go_upto_region 8 with (first | fail | (first | ((with_reducible refine g_ld ?_); refine a_ld HM ?_) | ((with_reducible refine g_st ?_); refine a_st HM ?_; clear HM; intro w1 HM) | ((with_reducible refine g_al ?_); refine a_al HM ?_; clear HM; intro bk w1 HM) | ((with_reducible refine g_bx ?_); refine a_bx HM ?_; clear HM; intro bk w1 HM) | ((with_reducible refine g_bld ?_); refine a_bld ?_)))
          refine start_M [] HM (by kernel_rfl) (fun w0x H9 => ?_)
          replace HM := H9; clear H9
          refine k_mv 0 (heldF HM) ?_
          refine k_fa 1 (heldF HM) ?_
          refine k_ld 2 [] (heldF HM) ?_
          refine k_mv 3 (heldF HM) ?_
          refine k_mv 4 (heldF HM) ?_
          refine k_ia 5 (heldF HM) ?_
          refine k_ld 6 [] (heldF HM) ?_
          refine k_ia 7 (heldF HM) ?_
          refine k_ld 8 [] (heldF HM) ?_
          refine k_mv 9 (heldF HM) ?_
          refine k_mv 10 (heldF HM) ?_
          refine k_ia 11 (heldF HM) ?_
          refine k_ld 12 [] (heldF HM) ?_
          refine k_ia 13 (heldF HM) ?_
          refine k_ld 14 [] (heldF HM) ?_
          refine k_add 15 (heldF HM) ?_
          refine k_mv 16 (heldF HM) ?_
          refine wpAnyL_done (by kernel_rfl) ?_ _
          go_wp2_with fail
          go_roundw
          case rel => exact ⟨k + 1, S + y, by go_num, by go_num, by omega, HS2, by omega, by omega, HM⟩
          case measure => simp [intOf]; omega
        · obtain rfl : k = p.length := by omega
          have HS2 : Hid (S = Ns.ls p fun x => Ns.gh H x m) := by rw [List.take_length] at HSV; exact HSV
          have HGN : Hid (decide (S < u) = (p.take (j + 1)).any fun m => decide (Ns.ls p (fun k => Ns.gh H k m) < Ns.gu U m)) := Lib.hid (by
            rw [List.take_add_one, HMA.out, List.any_append, HGV.out, HS2.out, ← HU.out]
            simp)
          by_cases hS : S < u
          · have hg1 : g = true := by
              rw [hg.out]
              unfold Ns.gr
              rw [List.any_eq_true]
              exact ⟨m, List.mem_of_getElem? HMA.out, by rw [← HS2.out, HU.out]; exact decide_eq_true hS⟩
            subst hg1
            go_upto_region 9 with (first | fail | (first | ((with_reducible refine g_ld ?_); refine a_ld HM ?_) | ((with_reducible refine g_st ?_); refine a_st HM ?_; clear HM; intro w1 HM) | ((with_reducible refine g_al ?_); refine a_al HM ?_; clear HM; intro bk w1 HM) | ((with_reducible refine g_bx ?_); refine a_bx HM ?_; clear HM; intro bk w1 HM) | ((with_reducible refine g_bld ?_); refine a_bld ?_)))
            refine start_M [] HM (by kernel_rfl) (fun w0x H9 => ?_)
            replace HM := H9; clear H9
            refine k_mv 0 (heldF HM) ?_
            refine k_fa 1 (heldF HM) ?_
            refine k_ld 2 [] (heldF HM) ?_
            refine k_mv 3 (heldF HM) ?_
            refine k_mv 4 (heldF HM) ?_
            refine k_ia 5 (heldF HM) ?_
            refine k_ld 6 [] (heldF HM) ?_
            refine k_ia 7 (heldF HM) ?_
            refine k_ld 8 [] (heldF HM) ?_
            refine t_pure (i := 9) (v := .bool true) rfl rfl (by kernel_rfl) (fun _ _ _ h => h) (heldF HM) (by rfl) ?_ ?_; (focus ((intro w9; first | (go_simp; done) | (go_simp; rfl)))); ((try simp only [List.setIfInBounds_toArray]); (try simp only [List.set_cons_succ]); (try simp only [List.set_cons_zero]))
            refine wpAnyL_done (by kernel_rfl) ?_ _
            go_wp2_with fail
            go_ret
            exact ⟨rfl, HM.low⟩
          · have HGN2 : Hid ((p.take (j + 1)).any (fun m => decide (Ns.ls p (fun k => Ns.gh H k m) < Ns.gu U m)) = false) := Lib.hid (by rw [← HGN.out]; exact decide_eq_false hS)
            go_upto_region 9 with (first | fail | (first | ((with_reducible refine g_ld ?_); refine a_ld HM ?_) | ((with_reducible refine g_st ?_); refine a_st HM ?_; clear HM; intro w1 HM) | ((with_reducible refine g_al ?_); refine a_al HM ?_; clear HM; intro bk w1 HM) | ((with_reducible refine g_bx ?_); refine a_bx HM ?_; clear HM; intro bk w1 HM) | ((with_reducible refine g_bld ?_); refine a_bld ?_)))
            refine start_M [] HM (by kernel_rfl) (fun w0x H9 => ?_)
            replace HM := H9; clear H9
            refine k_mv 0 (heldF HM) ?_
            refine k_fa 1 (heldF HM) ?_
            refine k_ld 2 [] (heldF HM) ?_
            refine k_mv 3 (heldF HM) ?_
            refine k_mv 4 (heldF HM) ?_
            refine k_ia 5 (heldF HM) ?_
            refine k_ld 6 [] (heldF HM) ?_
            refine k_ia 7 (heldF HM) ?_
            refine k_ld 8 [] (heldF HM) ?_
            refine t_pure (i := 9) (v := .bool false) rfl rfl (by kernel_rfl) (fun _ _ _ h => h) (heldF HM) (by rfl) ?_ ?_; (focus ((intro w9; first | (go_simp; done) | (go_simp; rfl)))); ((try simp only [List.setIfInBounds_toArray]); (try simp only [List.set_cons_succ]); (try simp only [List.set_cons_zero]))
            refine wpAnyL_done (by kernel_rfl) ?_ _
            go_wp2_with fail
            go_roundw
            case rel => exact ⟨j + 1, rfl, by go_num, by omega, HGN2, HM⟩
            case measure => simp [intOf]; omega
    · obtain rfl : j = p.length := by omega
      have hg1 : g = false := by
        have := HGV.out
        rw [List.take_length] at this
        rw [hg.out]; exact this
      subst hg1
      go_wp2_with (first | fail | (first | ((with_reducible refine g_ld ?_); refine a_ld HM ?_) | ((with_reducible refine g_st ?_); refine a_st HM ?_; clear HM; intro w1 HM) | ((with_reducible refine g_al ?_); refine a_al HM ?_; clear HM; intro bk w1 HM) | ((with_reducible refine g_bx ?_); refine a_bx HM ?_; clear HM; intro bk w1 HM) | ((with_reducible refine g_bld ?_); refine a_bld ?_)))
      go_ret
      exact ⟨rfl, HM.low⟩
set_option maxHeartbeats 8000000 in
theorem rcircle_any (us hs : Value) (U : List Int) (H : List (List Int)) (w : World) (hR : RdN w us hs U H) (hG : Ns.Good U H) (r : Int) (h0 : ¬ Ns.Circ U.length (Ns.gu U) (Ns.gh H) → r = 0) (h1 : Ns.Circ U.length (Ns.gu U) (Ns.gh H) → r = 351) :
    Calls Try.prog 27 #[.agg #[us, hs]] w fun e w' => e = .returned (.int .i64 r) ∧ Below w.heap.size w w' := by
  have HM := Mem.start w
  have HR := Lib.hid hR
  have HG := Lib.hid hG
  have H0 := Lib.hid h0
  have H1 := Lib.hid h1
  have hn8 := hG.sh.1
  obtain ⟨Au, cu, rfl⟩ := hR.u.form
  obtain ⟨Ah, ch, rfl⟩ := hR.h.form
  have K := fun w' hB => rparts_any _ _ U H w' (hR.below hB) hG
  have n0 := la_n0 (.slice Au U.length cu) (.slice Ah H.length ch)
  have n2 := la_nest (.slice Au U.length cu) (.slice Ah H.length ch)
  clear hR hG h0 h1
  go_enter Try.func27, Try.ntmps27
  go_upto_region 2 with (first | (go_at_call 45; (with_reducible refine (K _ HM.low).mono ?_); rintro e9 w2 ⟨s, P, rfl, HP, HS, hL⟩; replace HM := HM.call hL; clear hL) | (first | ((with_reducible refine g_ld ?_); refine a_ld HM ?_) | ((with_reducible refine g_st ?_); refine a_st HM ?_; clear HM; intro w1 HM) | ((with_reducible refine g_al ?_); refine a_al HM ?_; clear HM; intro bk w1 HM) | ((with_reducible refine g_bx ?_); refine a_bx HM ?_; clear HM; intro bk w1 HM) | ((with_reducible refine g_bld ?_); refine a_bld ?_)))
  obtain ⟨bg, rfl⟩ := HM.nm0
  obtain ⟨A, cp, rfl⟩ := HS.out.form
  rw [pI_len] at HS ⊢
  have HB0 := Lib.hid HM.low
  have HN2 := Lib.hid (HR.out.below HM.low)
  have HBG : Hid (Rbk w2 bg #[.slice Au U.length cu, .slice Ah H.length ch]) := Lib.hid (HM.get .here).rbk
  have HPT : Hid (Ns.Pts U.length (Ns.gh H) P) := Lib.hid HP.out.1
  have hPl := HP.out.1.len
  clear HR HM K HP
  have HM := Mem.start w2
  go_wp2_with (first | fail | (first | ((with_reducible refine g_ld ?_); refine a_ld HM ?_) | ((with_reducible refine g_st ?_); refine a_st HM ?_; clear HM; intro w1 HM) | ((with_reducible refine g_al ?_); refine a_al HM ?_; clear HM; intro bk w1 HM) | ((with_reducible refine g_bx ?_); refine a_bx HM ?_; clear HM; intro bk w1 HM) | ((with_reducible refine g_bld ?_); refine a_bld ?_)))
  go_loopw [2, 5] (fun rv iv wr => ∃ i : Nat, rv = .int .i64 0 ∧ iv = .int .i64 (i : Nat) ∧ i ≤ P.length ∧ Hid (∀ k p, k < i → P[k]? = some p → (∃ j ∈ p, 0 < Ns.gu U j) → Ns.gr U H p = true) ∧ Mem w2 [] [] wr) (fun _ iv _ => P.length - (intOf iv).toNat)
  case atStart => exact ⟨0, rfl, rfl, by omega, Lib.hid (fun k p hk => by omega), HM⟩
  case round =>
    clear HM
    obtain ⟨i, rfl, rfl, hi, HD, HM⟩ := hrel
    by_cases hlt : i < P.length
    · have hlt1 : (i : Int) < P.length := by omega
      obtain ⟨p, hp⟩ : ∃ p, P[i]? = some p := ⟨_, List.getElem?_eq_getElem hlt⟩
      obtain ⟨hpm, hpl⟩ := HPT.out.mem (List.mem_of_getElem? hp)
      obtain ⟨b, off, cs, A2, c2, rfl, HB, k1, HL⟩ := HS.out.at_ (pI_at hp)
      rw [List.length_map] at k1 HL
      have HPM := Lib.hid hpm
      have HPA := Lib.hid hp
      have HWH : Hid (Ns.gr U H p = false → Ns.whole U.length (Ns.gu U) (Ns.gh H) p) := Lib.hid (fun e => by
        obtain ⟨a, _, rfl⟩ := HPT.out.one p (List.mem_of_getElem? hp)
        exact Ns.gr_whole.1 e)
      clear hp hpm
      go_wp2_with (first | fail | (first | ((with_reducible refine g_ld ?_); refine a_ld HM ?_) | ((with_reducible refine g_st ?_); refine a_st HM ?_; clear HM; intro w1 HM) | ((with_reducible refine g_al ?_); refine a_al HM ?_; clear HM; intro bk w1 HM) | ((with_reducible refine g_bx ?_); refine a_bx HM ?_; clear HM; intro bk w1 HM) | ((with_reducible refine g_bld ?_); refine a_bld ?_)))
      go_loopw [6, 7] (fun bv jv wr => ∃ (j : Nat) (g : Bool), bv = .bool g ∧ jv = .int .i64 (j : Nat) ∧ j ≤ p.length ∧ Hid (g = (p.take j).any fun m => decide (0 < Ns.gu U m)) ∧ Mem w2 [] [] wr) (fun _ jv _ => p.length - (intOf jv).toNat)
      case atStart => exact ⟨0, false, rfl, rfl, by omega, Lib.hid rfl, HM⟩
      case round =>
        clear HM
        obtain ⟨j, g, rfl, rfl, hj, HGV, HM⟩ := hrel
        by_cases hjt : j < p.length
        · have hjt1 : (j : Int) < p.length := by omega
          obtain ⟨m, hm⟩ : ∃ m, p[j]? = some m := ⟨_, List.getElem?_eq_getElem hjt⟩
          have hmn := HPM.out m (List.mem_of_getElem? hm)
          have hmn1 : (m : Int) < U.length := by omega
          obtain ⟨b3, off3, cs3, rfl, HB3, K3⟩ := HL.out.all (by rw [List.length_map]; omega)
          have k3 := K3.out j m (by rw [List.getElem?_map, hm]; rfl)
          obtain ⟨u, hu⟩ : ∃ u, U[m]? = some u := ⟨_, List.getElem?_eq_getElem hmn⟩
          obtain ⟨b5, off5, cs5, rfl, HB5, k5⟩ := HN2.out.u.at_ hu
          have HU := Lib.hid (Ns.gu_at hu)
          have HGN : Hid ((g || decide (0 < u)) = (p.take (j + 1)).any fun m => decide (0 < Ns.gu U m)) := Lib.hid (by
            rw [List.take_add_one, hm, List.any_append, ← HGV.out, ← HU.out]
            simp)
          clear hm hu
          cases g with
          | true =>
            go_upto_region 9 with (first | fail | (first | ((with_reducible refine g_ld ?_); refine a_ld HM ?_) | ((with_reducible refine g_st ?_); refine a_st HM ?_; clear HM; intro w1 HM) | ((with_reducible refine g_al ?_); refine a_al HM ?_; clear HM; intro bk w1 HM) | ((with_reducible refine g_bx ?_); refine a_bx HM ?_; clear HM; intro bk w1 HM) | ((with_reducible refine g_bld ?_); refine a_bld ?_)))
            refine start_M [] HM (by kernel_rfl) (fun w0x H9 => ?_)
            replace HM := H9; clear H9
            refine k_mv 0 (heldF HM) ?_
            refine k_mv 1 (heldF HM) ?_
            refine k_off 2 (heldF HM) ?_
            refine k_off 3 (heldF HM) ?_
            refine k_off 4 (heldF HM) ?_
            refine k_off 5 (heldF HM) ?_
            refine k_off 6 (heldF HM) ?_
            refine k_off 7 (heldF HM) ?_
            refine k_off 8 (heldF HM) ?_
            refine k_off 9 (heldF HM) ?_
            refine k_off 10 (heldF HM) ?_
            refine k_off 11 (heldF HM) ?_
            refine k_off 12 (heldF HM) ?_
            refine k_off 13 (heldF HM) ?_
            refine k_pick 14 (heldF HM) ?_
            refine k_mv 15 (heldF HM) ?_
            refine wpAnyL_done (by kernel_rfl) ?_ _
            go_wp2_with fail
            go_roundw
            case rel => exact ⟨j + 1, true, rfl, by go_num, by omega, by simpa using HGN, HM⟩
            case measure => simp [intOf]; omega
          | false =>
            by_cases hu0 : 0 < u
            · have HGN2 : Hid (true = (p.take (j + 1)).any fun m => decide (0 < Ns.gu U m)) := Lib.hid (by rw [← HGN.out]; simp [hu0])
              go_upto_region 9 with (first | fail | (first | ((with_reducible refine g_ld ?_); refine a_ld HM ?_) | ((with_reducible refine g_st ?_); refine a_st HM ?_; clear HM; intro w1 HM) | ((with_reducible refine g_al ?_); refine a_al HM ?_; clear HM; intro bk w1 HM) | ((with_reducible refine g_bx ?_); refine a_bx HM ?_; clear HM; intro bk w1 HM) | ((with_reducible refine g_bld ?_); refine a_bld ?_)))
              refine start_M [] HM (by kernel_rfl) (fun w0x H9 => ?_)
              replace HM := H9; clear H9
              refine k_mv 0 (heldF HM) ?_
              refine k_mv 1 (heldF HM) ?_
              refine k_fa 2 (heldF HM) ?_
              refine k_ld 3 [] (heldF HM) ?_
              refine k_mv 4 (heldF HM) ?_
              refine k_mv 5 (heldF HM) ?_
              refine k_ia 6 (heldF HM) ?_
              refine k_ld 7 [] (heldF HM) ?_
              refine k_mv 8 (heldF HM) ?_
              refine k_ia 9 (heldF HM) ?_
              refine k_ld 10 [] (heldF HM) ?_
              refine k_ia 11 (heldF HM) ?_
              refine k_ld 12 [] (heldF HM) ?_
              refine t_pure (i := 13) (v := .bool true) rfl rfl (by kernel_rfl) (fun _ _ _ h => h) (heldF HM) (by rfl) ?_ ?_; (focus ((intro w9; first | (go_simp; done) | (go_simp; rfl)))); ((try simp only [List.setIfInBounds_toArray]); (try simp only [List.set_cons_succ]); (try simp only [List.set_cons_zero]))
              refine k_pick 14 (heldF HM) ?_
              refine k_mv 15 (heldF HM) ?_
              refine wpAnyL_done (by kernel_rfl) ?_ _
              go_wp2_with fail
              go_roundw
              case rel => exact ⟨j + 1, true, rfl, by go_num, by omega, HGN2, HM⟩
              case measure => simp [intOf]; omega
            · have HGN2 : Hid (false = (p.take (j + 1)).any fun m => decide (0 < Ns.gu U m)) := Lib.hid (by rw [← HGN.out]; simp [hu0])
              have hu1 : u ≤ 0 := by omega
              go_upto_region 9 with (first | fail | (first | ((with_reducible refine g_ld ?_); refine a_ld HM ?_) | ((with_reducible refine g_st ?_); refine a_st HM ?_; clear HM; intro w1 HM) | ((with_reducible refine g_al ?_); refine a_al HM ?_; clear HM; intro bk w1 HM) | ((with_reducible refine g_bx ?_); refine a_bx HM ?_; clear HM; intro bk w1 HM) | ((with_reducible refine g_bld ?_); refine a_bld ?_)))
              refine start_M [] HM (by kernel_rfl) (fun w0x H9 => ?_)
              replace HM := H9; clear H9
              refine k_mv 0 (heldF HM) ?_
              refine k_mv 1 (heldF HM) ?_
              refine k_fa 2 (heldF HM) ?_
              refine k_ld 3 [] (heldF HM) ?_
              refine k_mv 4 (heldF HM) ?_
              refine k_mv 5 (heldF HM) ?_
              refine k_ia 6 (heldF HM) ?_
              refine k_ld 7 [] (heldF HM) ?_
              refine k_mv 8 (heldF HM) ?_
              refine k_ia 9 (heldF HM) ?_
              refine k_ld 10 [] (heldF HM) ?_
              refine k_ia 11 (heldF HM) ?_
              refine k_ld 12 [] (heldF HM) ?_
              refine t_pure (i := 13) (v := .bool false) rfl rfl (by kernel_rfl) (fun _ _ _ h => h) (heldF HM) (by rfl) ?_ ?_; (focus ((intro w9; first | (go_simp; done) | (go_simp; rfl)))); ((try simp only [List.setIfInBounds_toArray]); (try simp only [List.set_cons_succ]); (try simp only [List.set_cons_zero]))
              refine k_pick 14 (heldF HM) ?_
              refine k_mv 15 (heldF HM) ?_
              refine wpAnyL_done (by kernel_rfl) ?_ _
              go_wp2_with fail
              go_roundw
              case rel => exact ⟨j + 1, false, rfl, by go_num, by omega, HGN2, HM⟩
              case measure => simp [intOf]; omega
        · obtain rfl : j = p.length := by omega
          have HG2 : Hid (g = p.any fun m => decide (0 < Ns.gu U m)) := by rw [List.take_length] at HGV; exact HGV
          clear HGV
          cases g with
          | false =>
            have HD2 : Hid (∀ k q, k < i + 1 → P[k]? = some q → (∃ j ∈ q, 0 < Ns.gu U j) → Ns.gr U H q = true) := Lib.hid (fun k q hk hq hu => by
              by_cases e : k = i
              · subst e
                rw [HPA.out] at hq
                injection hq with hq
                subst hq
                obtain ⟨j, h1, h2⟩ := hu
                have := HG2.out.symm
                rw [List.any_eq_false] at this
                exact absurd (decide_eq_true h2) (this j h1)
              · exact HD.out k q (by omega) hq hu)
            go_upto_region 10 with (first | fail | (first | ((with_reducible refine g_ld ?_); refine a_ld HM ?_) | ((with_reducible refine g_st ?_); refine a_st HM ?_; clear HM; intro w1 HM) | ((with_reducible refine g_al ?_); refine a_al HM ?_; clear HM; intro bk w1 HM) | ((with_reducible refine g_bx ?_); refine a_bx HM ?_; clear HM; intro bk w1 HM) | ((with_reducible refine g_bld ?_); refine a_bld ?_)))
            refine start_M [] HM (by kernel_rfl) (fun w0x H9 => ?_)
            replace HM := H9; clear H9
            refine k_mv 0 (heldF HM) ?_
            refine k_mv 1 (heldF HM) ?_
            refine k_off 2 (heldF HM) ?_
            refine k_off 3 (heldF HM) ?_
            refine k_off 4 (heldF HM) ?_
            refine k_off 5 (heldF HM) ?_
            refine k_off 6 (heldF HM) ?_
            refine k_off 7 (heldF HM) ?_
            refine k_off 8 (heldF HM) ?_
            refine k_pick 9 (heldF HM) ?_
            refine wpAnyL_done (by kernel_rfl) ?_ _
            go_wp2_with fail
            go_roundw
            case rel => exact ⟨i + 1, rfl, by go_num, by omega, HD2, HM⟩
            case measure => simp [intOf]; omega
          | true =>
            have hun : ∃ j ∈ p, 0 < Ns.gu U j := by
              have := HG2.out.symm
              rw [List.any_eq_true] at this
              obtain ⟨j, h1, h2⟩ := this
              exact ⟨j, h1, of_decide_eq_true h2⟩
            have HUN := Lib.hid hun
            clear hun
            obtain ⟨gd, hgd⟩ : ∃ g, Hid (g = Ns.gr U H p) := ⟨_, Lib.hid rfl⟩
            have GR : ∀ w', Below w2.heap.size w2 w' → Calls Try.prog 46 #[.agg #[.slice Au U.length cu, .slice Ah H.length ch], .slice A2 p.length c2] w' fun e w3 => e = .returned (.bool gd) ∧ Below w'.heap.size w' w3 := fun w' hB => by
              rw [hgd.out]
              exact rgrounded_any _ _ _ U H p w' (HN2.out.below hB) HG.out (HL.out.below hB) HPM.out hpl
            cases gd with
            | true =>
              have HD2 : Hid (∀ k q, k < i + 1 → P[k]? = some q → (∃ j ∈ q, 0 < Ns.gu U j) → Ns.gr U H q = true) := Lib.hid (fun k q hk hq hu => by
                by_cases e : k = i
                · subst e
                  rw [HPA.out] at hq
                  injection hq with hq
                  subst hq
                  exact hgd.out.symm
                · exact HD.out k q (by omega) hq hu)
              go_upto_region 10 with (first | fail | (first | ((with_reducible refine g_ld ?_); refine a_ld HM ?_) | ((with_reducible refine g_st ?_); refine a_st HM ?_; clear HM; intro w1 HM) | ((with_reducible refine g_al ?_); refine a_al HM ?_; clear HM; intro bk w1 HM) | ((with_reducible refine g_bx ?_); refine a_bx HM ?_; clear HM; intro bk w1 HM) | ((with_reducible refine g_bld ?_); refine a_bld ?_)))
              refine start_M [] HM (by kernel_rfl) (fun w0x H9 => ?_)
              replace HM := H9; clear H9
              refine k_mv 0 (heldF HM) ?_
              refine k_mv 1 (heldF HM) ?_
              refine k_ld 2 [] (heldF HM) ?_
              refine k_mv 3 (heldF HM) ?_
              refine k_mv 4 (heldF HM) ?_
              refine k_ia 5 (heldF HM) ?_
              refine k_ld 6 [] (heldF HM) ?_
              refine j_one 7 fun K9 hK9 => ?_
              refine j_call2 (v := ?_) HM ?_ ?_; rotate_left 1; (focus (with_reducible (exact GR _ HM.low))); clear HM; intro w1 HM
              refine hK9 _ _ (heldF HM) ?_; clear hK9 K9
              refine k_not 8 (heldF HM) ?_
              refine k_pick 9 (heldF HM) ?_
              refine wpAnyL_done (by kernel_rfl) ?_ _
              go_wp2_with fail
              go_roundw
              case rel => exact ⟨i + 1, rfl, by go_num, by omega, HD2, HM⟩
              case measure => simp [intOf]; omega
            | false =>
              obtain rfl : r = 351 := H1.out ((Ns.circ_iff HPT.out).2 ⟨p, List.mem_of_getElem? HPA.out, HUN.out, HWH.out hgd.out.symm⟩)
              go_upto_region 10 with (first | fail | (first | ((with_reducible refine g_ld ?_); refine a_ld HM ?_) | ((with_reducible refine g_st ?_); refine a_st HM ?_; clear HM; intro w1 HM) | ((with_reducible refine g_al ?_); refine a_al HM ?_; clear HM; intro bk w1 HM) | ((with_reducible refine g_bx ?_); refine a_bx HM ?_; clear HM; intro bk w1 HM) | ((with_reducible refine g_bld ?_); refine a_bld ?_)))
              refine start_M [] HM (by kernel_rfl) (fun w0x H9 => ?_)
              replace HM := H9; clear H9
              refine k_mv 0 (heldF HM) ?_
              refine k_mv 1 (heldF HM) ?_
              refine k_ld 2 [] (heldF HM) ?_
              refine k_mv 3 (heldF HM) ?_
              refine k_mv 4 (heldF HM) ?_
              refine k_ia 5 (heldF HM) ?_
              refine k_ld 6 [] (heldF HM) ?_
              refine j_one 7 fun K9 hK9 => ?_
              refine j_call2 (v := ?_) HM ?_ ?_; rotate_left 1; (focus (with_reducible (exact GR _ HM.low))); clear HM; intro w1 HM
              refine hK9 _ _ (heldF HM) ?_; clear hK9 K9
              refine k_not 8 (heldF HM) ?_
              refine k_pick 9 (heldF HM) ?_
              refine wpAnyL_done (by kernel_rfl) ?_ _
              go_wp2_with fail
              go_ret
              exact ⟨rfl, below_seq HB0.out HM.low⟩
    · obtain rfl : i = P.length := by omega
      obtain rfl : r = 0 := H0.out (fun hc => by
        obtain ⟨p, hp, hu, hw⟩ := (Ns.circ_iff HPT.out).1 hc
        obtain ⟨k, hk⟩ := List.mem_iff_getElem?.1 hp
        have := HD.out k p (List.getElem?_eq_some_iff.1 hk).1 hk hu
        obtain ⟨a, _, rfl⟩ := HPT.out.one p hp
        rw [Ns.gr_whole.2 hw] at this
        cases this)
      go_wp2_with (first | fail | (first | ((with_reducible refine g_ld ?_); refine a_ld HM ?_) | ((with_reducible refine g_st ?_); refine a_st HM ?_; clear HM; intro w1 HM) | ((with_reducible refine g_al ?_); refine a_al HM ?_; clear HM; intro bk w1 HM) | ((with_reducible refine g_bx ?_); refine a_bx HM ?_; clear HM; intro bk w1 HM) | ((with_reducible refine g_bld ?_); refine a_bld ?_)))
      go_ret
      exact ⟨rfl, below_seq HB0.out HM.low⟩
end Go.Proofs.Ytadnddffdedjgaa
