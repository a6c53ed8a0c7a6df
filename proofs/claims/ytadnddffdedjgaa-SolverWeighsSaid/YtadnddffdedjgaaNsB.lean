/- Check of the document's nests. -/
import Derived.Test.YtadnddffdedjgaaNsA
namespace Go.Proofs.Ytadnddffdedjgaa
set_option maxRecDepth 8000
open Go.RowKit
theorem Ns.zs_mono {f : Nat → Int} {n m : Nat} (h : ∀ i, i < n → 0 ≤ f i) (hm : m ≤ n) : Ns.zs m f ≤ Ns.zs n f := by
  induction n with
  | zero => obtain rfl : m = 0 := by omega
            exact Int.le_refl _
  | succ n ih =>
    by_cases e : m = n + 1
    · subst e; exact Int.le_refl _
    · have h1 := ih (fun i hi => h i (by omega)) (by omega)
      have h2 := h n (by omega)
      rw [Ns.zs]; omega
set_option maxHeartbeats 4000000 in
theorem rncheck_any (us hs : Value) (U : List Int) (H : List (List Int)) (w : World) (hR : RdN w us hs U H) (r : Int) (hr : Hid (r = Ns.chk U H)) :
    Calls Try.prog 33 #[.agg #[us, hs]] w fun e w' => e = .returned (.int .i64 r) ∧ Below w.heap.size w w' := by
  have HM := Mem.start w
  have HR := Lib.hid hR
  obtain ⟨Au, cu, rfl⟩ := hR.u.form
  obtain ⟨Ah, ch, rfl⟩ := hR.h.form
  clear hR
  go_enter Try.func33, Try.ntmps33
  by_cases hn8 : 8 < U.length
  · have g1 : (8 : Int) < U.length := by omega
    obtain rfl : r = 340 := by rw [hr.out]; exact Ns.chk_shape (fun h => by have := h.1; omega)
    clear hr
    go_wp2_with (first | fail | (first | ((with_reducible refine g_ld ?_); refine a_ld HM ?_) | ((with_reducible refine g_st ?_); refine a_st HM ?_; clear HM; intro w1 HM) | ((with_reducible refine g_al ?_); refine a_al HM ?_; clear HM; intro bk w1 HM) | ((with_reducible refine g_bx ?_); refine a_bx HM ?_; clear HM; intro bk w1 HM) | ((with_reducible refine g_bld ?_); refine a_bld ?_)))
    go_ret
    exact ⟨rfl, HM.low⟩
  have g1 : ¬ (8 : Int) < U.length := by omega
  by_cases hhl : H.length = U.length
  case neg =>
    have g2 : ¬ (H.length : Int) = U.length := by omega
    obtain rfl : r = 340 := by rw [hr.out]; exact Ns.chk_shape (fun h => hhl h.2)
    clear hr
    go_wp2_with (first | fail | (first | ((with_reducible refine g_ld ?_); refine a_ld HM ?_) | ((with_reducible refine g_st ?_); refine a_st HM ?_; clear HM; intro w1 HM) | ((with_reducible refine g_al ?_); refine a_al HM ?_; clear HM; intro bk w1 HM) | ((with_reducible refine g_bx ?_); refine a_bx HM ?_; clear HM; intro bk w1 HM) | ((with_reducible refine g_bld ?_); refine a_bld ?_)))
    go_ret
    exact ⟨rfl, HM.low⟩
  case pos =>
  have g2 : (H.length : Int) = U.length := by omega
  go_wp2_with (first | fail | (first | ((with_reducible refine g_ld ?_); refine a_ld HM ?_) | ((with_reducible refine g_st ?_); refine a_st HM ?_; clear HM; intro w1 HM) | ((with_reducible refine g_al ?_); refine a_al HM ?_; clear HM; intro bk w1 HM) | ((with_reducible refine g_bx ?_); refine a_bx HM ?_; clear HM; intro bk w1 HM) | ((with_reducible refine g_bld ?_); refine a_bld ?_)))
  obtain ⟨bn, rfl⟩ := HM.nm0
  have hsh : Ns.shape U H := ⟨by omega, hhl⟩
  have HSH := Lib.hid hsh
  clear hsh
  go_loopw [2, 4] (fun rv iv wr => ∃ i : Nat, rv = .int .i64 0 ∧ iv = .int .i64 (i : Nat) ∧ i ≤ U.length ∧ Hid (∀ k, k < i → Ns.rowok U H k) ∧ Mem w [] [(bn, #[.slice Au U.length cu, .slice Ah H.length ch])] wr) (fun _ iv _ => U.length - (intOf iv).toNat)
  case atStart => exact ⟨0, rfl, rfl, by omega, Lib.hid (fun k hk => absurd hk (by omega)), HM⟩
  case round =>
    clear HM
    obtain ⟨i, rfl, rfl, hi, HK, HM⟩ := hrel
    by_cases hlt : i < U.length
    · have hlt1 : (i : Int) < U.length := by omega
      obtain ⟨l, hl⟩ : ∃ l, H[i]? = some l := ⟨_, List.getElem?_eq_getElem (by omega)⟩
      obtain ⟨x, hx⟩ : ∃ x, U[i]? = some x := ⟨_, List.getElem?_eq_getElem hlt⟩
      have ex := Ns.gu_at hx
      obtain ⟨b, off, cs, A2, c2, rfl, HB, k1, HL⟩ := HR.out.h.at_ hl
      obtain ⟨b', off', cs', rfl, HB', k2⟩ := HR.out.u.at_ hx
      have hD : H.getD i [] = l := by rw [List.getD_eq_getElem?_getD, hl]; rfl
      by_cases hll : l.length = U.length
      case neg =>
        have g3 : ¬ (l.length : Int) = U.length := by omega
        obtain rfl : r = 340 := by rw [hr.out]; exact Ns.chk_row hlt (fun h => hll (hD ▸ h.1))
        clear hr hl hx ex hD
        go_wp2_with (first | fail | (first | ((with_reducible refine g_ld ?_); refine a_ld HM ?_) | ((with_reducible refine g_st ?_); refine a_st HM ?_; clear HM; intro w1 HM) | ((with_reducible refine g_al ?_); refine a_al HM ?_; clear HM; intro bk w1 HM) | ((with_reducible refine g_bx ?_); refine a_bx HM ?_; clear HM; intro bk w1 HM) | ((with_reducible refine g_bld ?_); refine a_bld ?_)))
        go_ret
        exact ⟨rfl, HM.low⟩
      case pos =>
      have g3 : (l.length : Int) = U.length := by omega
      by_cases hx0 : x < 0
      · obtain rfl : r = 340 := by rw [hr.out]; exact Ns.chk_row hlt (fun h => by have := h.2.1; omega)
        clear hr hl hx ex hD
        go_wp2_with (first | fail | (first | ((with_reducible refine g_ld ?_); refine a_ld HM ?_) | ((with_reducible refine g_st ?_); refine a_st HM ?_; clear HM; intro w1 HM) | ((with_reducible refine g_al ?_); refine a_al HM ?_; clear HM; intro bk w1 HM) | ((with_reducible refine g_bx ?_); refine a_bx HM ?_; clear HM; intro bk w1 HM) | ((with_reducible refine g_bld ?_); refine a_bld ?_)))
        go_ret
        exact ⟨rfl, HM.low⟩
      by_cases hx1 : 1000000000000000 < x
      · obtain rfl : r = 340 := by rw [hr.out]; exact Ns.chk_row hlt (fun h => by have := h.2.2.1; omega)
        clear hr hl hx ex hD
        go_wp2_with (first | fail | (first | ((with_reducible refine g_ld ?_); refine a_ld HM ?_) | ((with_reducible refine g_st ?_); refine a_st HM ?_; clear HM; intro w1 HM) | ((with_reducible refine g_al ?_); refine a_al HM ?_; clear HM; intro bk w1 HM) | ((with_reducible refine g_bx ?_); refine a_bx HM ?_; clear HM; intro bk w1 HM) | ((with_reducible refine g_bld ?_); refine a_bld ?_)))
        go_ret
        exact ⟨rfl, HM.low⟩
      have HX := Lib.hid (show Ns.gu U i = x from ex)
      have HD := Lib.hid hD
      have HHL := Lib.hid hl
      clear hx ex hl hD
      go_wp2_with (first | fail | (first | ((with_reducible refine g_ld ?_); refine a_ld HM ?_) | ((with_reducible refine g_st ?_); refine a_st HM ?_; clear HM; intro w1 HM) | ((with_reducible refine g_al ?_); refine a_al HM ?_; clear HM; intro bk w1 HM) | ((with_reducible refine g_bx ?_); refine a_bx HM ?_; clear HM; intro bk w1 HM) | ((with_reducible refine g_bld ?_); refine a_bld ?_)))
      go_loopw [2, 5] (fun rv iv wr => ∃ j : Nat, rv = .int .i64 0 ∧ iv = .int .i64 (j : Nat) ∧ j ≤ U.length ∧ Hid (∀ k, k < j → 0 ≤ Ns.gh H i k ∧ Ns.gh H i k ≤ 1000000000000000) ∧ Mem w [] [(bn, #[.slice (some ⟨b', off', none⟩) U.length cu, .slice (some ⟨b, off, none⟩) H.length ch])] wr) (fun _ iv _ => U.length - (intOf iv).toNat)
      case atStart => exact ⟨0, rfl, rfl, by omega, Lib.hid (fun k hk => absurd hk (by omega)), HM⟩
      case round =>
        clear HM
        obtain ⟨j, rfl, rfl, hj, HJ, HM⟩ := hrel
        by_cases hjt : j < U.length
        · have hjt1 : (j : Int) < U.length := by omega
          obtain ⟨y, hy⟩ : ∃ y, l[j]? = some y := ⟨_, List.getElem?_eq_getElem (by omega)⟩
          have ey := Ns.gh_at HHL.out hy
          obtain ⟨b3, off3, cs3, rfl, HB3, k3⟩ := HL.out.at_ hy
          clear hy
          by_cases hy0 : y < 0
          · obtain rfl : r = 340 := by rw [hr.out]; exact Ns.chk_row hlt (fun h => by have := (h.2.2.2 j hjt).1; omega)
            clear hr ey
            go_wp2_with (first | fail | (first | ((with_reducible refine g_ld ?_); refine a_ld HM ?_) | ((with_reducible refine g_st ?_); refine a_st HM ?_; clear HM; intro w1 HM) | ((with_reducible refine g_al ?_); refine a_al HM ?_; clear HM; intro bk w1 HM) | ((with_reducible refine g_bx ?_); refine a_bx HM ?_; clear HM; intro bk w1 HM) | ((with_reducible refine g_bld ?_); refine a_bld ?_)))
            go_ret
            exact ⟨rfl, HM.low⟩
          by_cases hy1 : 1000000000000000 < y
          · obtain rfl : r = 340 := by rw [hr.out]; exact Ns.chk_row hlt (fun h => by have := (h.2.2.2 j hjt).2; omega)
            clear hr ey
            go_wp2_with (first | fail | (first | ((with_reducible refine g_ld ?_); refine a_ld HM ?_) | ((with_reducible refine g_st ?_); refine a_st HM ?_; clear HM; intro w1 HM) | ((with_reducible refine g_al ?_); refine a_al HM ?_; clear HM; intro bk w1 HM) | ((with_reducible refine g_bx ?_); refine a_bx HM ?_; clear HM; intro bk w1 HM) | ((with_reducible refine g_bld ?_); refine a_bld ?_)))
            go_ret
            exact ⟨rfl, HM.low⟩
          have HJ2 : Hid (∀ k, k < j + 1 → 0 ≤ Ns.gh H i k ∧ Ns.gh H i k ≤ 1000000000000000) := Lib.hid (fun k hk => by
            by_cases e : k = j
            · subst e; rw [ey]; omega
            · exact HJ.out k (by omega))
          clear ey
          go_wp2_with (first | fail | (first | ((with_reducible refine g_ld ?_); refine a_ld HM ?_) | ((with_reducible refine g_st ?_); refine a_st HM ?_; clear HM; intro w1 HM) | ((with_reducible refine g_al ?_); refine a_al HM ?_; clear HM; intro bk w1 HM) | ((with_reducible refine g_bx ?_); refine a_bx HM ?_; clear HM; intro bk w1 HM) | ((with_reducible refine g_bld ?_); refine a_bld ?_)))
          go_roundw
          case rel => exact ⟨j + 1, rfl, by go_num, by omega, HJ2, HM.pick⟩
          case measure => simp [intOf]; omega
        · obtain rfl : j = U.length := by omega
          have HK2 : Hid (∀ k, k < i + 1 → Ns.rowok U H k) := Lib.hid (fun k hk => by
            by_cases e : k = i
            · subst e; exact ⟨by rw [HD.out]; exact hll, by rw [HX.out]; omega, by rw [HX.out]; omega, HJ.out⟩
            · exact HK.out k (by omega))
          go_wp2_with (first | fail | (first | ((with_reducible refine g_ld ?_); refine a_ld HM ?_) | ((with_reducible refine g_st ?_); refine a_st HM ?_; clear HM; intro w1 HM) | ((with_reducible refine g_al ?_); refine a_al HM ?_; clear HM; intro bk w1 HM) | ((with_reducible refine g_bx ?_); refine a_bx HM ?_; clear HM; intro bk w1 HM) | ((with_reducible refine g_bld ?_); refine a_bld ?_)))
          go_roundw
          case rel => exact ⟨i + 1, rfl, by go_num, by omega, HK2, HM.pick⟩
          case measure => simp [intOf]; omega
    · obtain rfl : i = U.length := by omega
      have hGr : ∀ i j, i < U.length → j < U.length → 0 ≤ Ns.gh H i j ∧ Ns.gh H i j ≤ 1000000000000000 := fun i j hi hj => (HK.out i hi).2.2.2 j hj
      have HG := Lib.hid hGr
      clear hGr
      go_wp2_with (first | fail | (first | ((with_reducible refine g_ld ?_); refine a_ld HM ?_) | ((with_reducible refine g_st ?_); refine a_st HM ?_; clear HM; intro w1 HM) | ((with_reducible refine g_al ?_); refine a_al HM ?_; clear HM; intro bk w1 HM) | ((with_reducible refine g_bx ?_); refine a_bx HM ?_; clear HM; intro bk w1 HM) | ((with_reducible refine g_bld ?_); refine a_bld ?_)))
      go_loopw [2, 6] (fun rv jv wr => ∃ j : Nat, rv = .int .i64 0 ∧ jv = .int .i64 (j : Nat) ∧ j ≤ U.length ∧ Hid (∀ k, k < j → Ns.zs U.length (fun i => Ns.gh H i k) ≤ Ns.gu U k) ∧ Mem w [] [(bn, #[.slice Au U.length cu, .slice Ah H.length ch])] wr) (fun _ jv _ => U.length - (intOf jv).toNat)
      case atStart => exact ⟨0, rfl, rfl, by omega, Lib.hid (fun k hk => absurd hk (by omega)), HM⟩
      case round =>
        clear HM
        obtain ⟨j, rfl, rfl, hj, HC, HM⟩ := hrel
        by_cases hjt : j < U.length
        · have hjt1 : (j : Int) < U.length := by omega
          obtain ⟨x, hx⟩ : ∃ x, U[j]? = some x := ⟨_, List.getElem?_eq_getElem hjt⟩
          have HX := Lib.hid (Ns.gu_at hx)
          obtain ⟨b', off', cs', rfl, HB', k2⟩ := HR.out.u.at_ hx
          have hx1 := (HK.out j hjt).2.1
          have hx2 := (HK.out j hjt).2.2.1
          rw [HX.out] at hx1 hx2
          clear hx
          go_wp2_with (first | fail | (first | ((with_reducible refine g_ld ?_); refine a_ld HM ?_) | ((with_reducible refine g_st ?_); refine a_st HM ?_; clear HM; intro w1 HM) | ((with_reducible refine g_al ?_); refine a_al HM ?_; clear HM; intro bk w1 HM) | ((with_reducible refine g_bx ?_); refine a_bx HM ?_; clear HM; intro bk w1 HM) | ((with_reducible refine g_bld ?_); refine a_bld ?_)))
          go_loopw [2, 7, 8] (fun rv av iv wr => ∃ (i : Nat) (S : Int), rv = .int .i64 0 ∧ av = .int .i64 (x - S) ∧ iv = .int .i64 (i : Nat) ∧ i ≤ U.length ∧ Hid (S = Ns.zs i (fun i => Ns.gh H i j)) ∧ 0 ≤ S ∧ S ≤ x ∧ Mem w [] [(bn, #[.slice (some ⟨b', off', none⟩) U.length cu, .slice Ah H.length ch])] wr) (fun _ _ iv _ => U.length - (intOf iv).toNat)
          case atStart => exact ⟨0, 0, rfl, by go_num, rfl, by omega, Lib.hid rfl, by omega, by omega, HM⟩
          case round =>
            clear HM
            obtain ⟨i, S, rfl, rfl, rfl, hi, HS, hS0, hS1, HM⟩ := hrel
            by_cases hit : i < U.length
            · have hit1 : (i : Int) < U.length := by omega
              obtain ⟨l, hl⟩ : ∃ l, H[i]? = some l := ⟨_, List.getElem?_eq_getElem (by omega)⟩
              obtain ⟨b, off, cs, A2, c2, rfl, HB, k1, HL⟩ := HR.out.h.at_ hl
              have hll : l.length = U.length := by
                have := (HK.out i hit).1
                rwa [List.getD_eq_getElem?_getD, hl] at this
              have hjl : (j : Int) < l.length := by omega
              obtain ⟨y, hy⟩ : ∃ y, l[j]? = some y := ⟨_, List.getElem?_eq_getElem (by omega)⟩
              obtain ⟨b3, off3, cs3, rfl, HB3, k3⟩ := HL.out.at_ hy
              have hb := HG.out i j hit hjt
              have ey := Ns.gh_at hl hy
              rw [ey] at hb
              obtain ⟨hy0, hy1⟩ := hb
              have HS2 : Hid (S + y = Ns.zs (i + 1) (fun i => Ns.gh H i j)) := Lib.hid (by rw [HS.out, Ns.zs, ey])
              by_cases hS : x - S < y
              · obtain rfl : r = 341 := by
                  rw [hr.out]
                  refine Ns.chk_held HSH.out HK.out hjt (fun h => ?_)
                  rw [HX.out] at h
                  have h1 := Ns.zs_mono (f := fun i => Ns.gh H i j) (n := U.length) (m := i + 1) (fun k hk => (HG.out k j hk hjt).1) (by omega)
                  rw [← HS2.out] at h1
                  omega
                clear hl hy ey
                go_wp2_with (first | fail | (first | ((with_reducible refine g_ld ?_); refine a_ld HM ?_) | ((with_reducible refine g_st ?_); refine a_st HM ?_; clear HM; intro w1 HM) | ((with_reducible refine g_al ?_); refine a_al HM ?_; clear HM; intro bk w1 HM) | ((with_reducible refine g_bx ?_); refine a_bx HM ?_; clear HM; intro bk w1 HM) | ((with_reducible refine g_bld ?_); refine a_bld ?_)))
                go_ret
                exact ⟨rfl, HM.low⟩
              clear hl hy ey
              go_wp2_with (first | fail | (first | ((with_reducible refine g_ld ?_); refine a_ld HM ?_) | ((with_reducible refine g_st ?_); refine a_st HM ?_; clear HM; intro w1 HM) | ((with_reducible refine g_al ?_); refine a_al HM ?_; clear HM; intro bk w1 HM) | ((with_reducible refine g_bx ?_); refine a_bx HM ?_; clear HM; intro bk w1 HM) | ((with_reducible refine g_bld ?_); refine a_bld ?_)))
              go_roundw
              case rel => exact ⟨i + 1, S + y, rfl, by go_num, by go_num, by omega, HS2, by omega, by omega, HM.pick⟩
              case measure => simp [intOf]; omega
            · obtain rfl : i = U.length := by omega
              have HC2 : Hid (∀ k, k < j + 1 → Ns.zs U.length (fun i => Ns.gh H i k) ≤ Ns.gu U k) := Lib.hid (fun k hk => by
                by_cases e : k = j
                · subst e; rw [← HS.out, HX.out]; omega
                · exact HC.out k (by omega))
              go_wp2_with (first | fail | (first | ((with_reducible refine g_ld ?_); refine a_ld HM ?_) | ((with_reducible refine g_st ?_); refine a_st HM ?_; clear HM; intro w1 HM) | ((with_reducible refine g_al ?_); refine a_al HM ?_; clear HM; intro bk w1 HM) | ((with_reducible refine g_bx ?_); refine a_bx HM ?_; clear HM; intro bk w1 HM) | ((with_reducible refine g_bld ?_); refine a_bld ?_)))
              go_roundw
              case rel => exact ⟨j + 1, rfl, by go_num, by omega, HC2, HM.pick⟩
              case measure => simp [intOf]; omega
        · obtain rfl : j = U.length := by omega
          obtain rfl : r = 0 := by rw [hr.out]; exact Ns.chk_ok HSH.out HK.out HC.out
          go_wp2_with (first | fail | (first | ((with_reducible refine g_ld ?_); refine a_ld HM ?_) | ((with_reducible refine g_st ?_); refine a_st HM ?_; clear HM; intro w1 HM) | ((with_reducible refine g_al ?_); refine a_al HM ?_; clear HM; intro bk w1 HM) | ((with_reducible refine g_bx ?_); refine a_bx HM ?_; clear HM; intro bk w1 HM) | ((with_reducible refine g_bld ?_); refine a_bld ?_)))
          go_ret
          exact ⟨rfl, HM.low⟩
end Go.Proofs.Ytadnddffdedjgaa
