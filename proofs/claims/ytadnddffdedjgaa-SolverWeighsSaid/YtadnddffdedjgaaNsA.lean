/- Lists of ints and nests as arguments; Check of the program. -/
import Derived.Test.YtadnddffdedjgaaSlicesE
import Derived.Test.YtadnddffdedjgaaSolMath
namespace Go.Proofs.Ytadnddffdedjgaa
set_option maxRecDepth 8000
open Go.RowKit
/-- The cells of an int as a record. -/
def ic (x : Int) : Array Value := #[.int .i64 x]
def vc (v : Value) : Array Value := #[v]
/-- A slice of ints. -/
def RdI (w : World) (sv : Value) (l : List Int) : Prop := RdS 1 w sv (l.map ic)
theorem RdI.below {w w' : World} {sv : Value} {l : List Int} (h : RdI w sv l) (hb : Below w.heap.size w w') : RdI w' sv l := RdS.below h hb
theorem RdI.form {w : World} {sv : Value} {l : List Int} (h : RdI w sv l) : ∃ A cap, sv = .slice A l.length cap := by
  obtain ⟨A, cap, e⟩ := RdS.form1 h
  rw [List.length_map] at e
  exact ⟨A, cap, e⟩
theorem RdS.one_at {w : World} {A : Option Addr} {k cap : Nat} {m : List (Array Value)} (h : RdS 1 w (.slice A k cap) m) {i : Nat} {v : Value} (hi : m[i]? = Option.some #[v]) : ∃ b off cs, A = Option.some ⟨b, off, none⟩ ∧ Hid (Rbk w b cs) ∧ cs[off + i]? = Option.some v := by
  obtain ⟨b, off, cs, cap', e, hb, hc⟩ := h.get (k := i) hi
  injection e with e1 e2 e3
  refine ⟨b, off, cs, e1, Lib.hid hb, ?_⟩
  have h0 := hc 0 (by decide)
  rw [Nat.mul_one, Nat.add_zero] at h0
  rw [h0]; rfl
theorem RdI.at_ {w : World} {A : Option Addr} {k cap : Nat} {l : List Int} (h : RdI w (.slice A k cap) l) {i : Nat} {x : Int} (hi : l[i]? = Option.some x) : ∃ b off cs, A = Option.some ⟨b, off, none⟩ ∧ Hid (Rbk w b cs) ∧ LA 3 cs (off + i) (.int .i64 x) := by
  obtain ⟨b, off, cs, e, hb, hc⟩ := RdS.one_at h (i := i) (v := .int .i64 x) (by rw [List.getElem?_map, hi]; rfl)
  exact ⟨b, off, cs, e, hb, LA.one (by kernel_rfl) hc⟩
/-- All of it at once. -/
theorem RdS.one_all {w : World} {A : Option Addr} {k cap : Nat} {m : List (Array Value)} (h : RdS 1 w (.slice A k cap) m) (h0 : 0 < m.length) : ∃ b off cs, A = Option.some ⟨b, off, none⟩ ∧ Hid (Rbk w b cs) ∧ ∀ (i : Nat) (v : Value), m[i]? = Option.some #[v] → cs[off + i]? = Option.some v := by
  obtain ⟨hs, A', cap', e, _, h4⟩ := h
  injection e with e1 e2 e3
  rcases h4 with h4 | ⟨b, off, cs, e4, hb, hc⟩
  · subst h4; simp at h0
  · refine ⟨b, off, cs, e1.trans e4, Lib.hid hb, fun i v hi => ?_⟩
    have hl := (List.getElem?_eq_some_iff.1 hi).1
    rw [hc i (by omega)]
    have := rows_at hs hi (j := 0) (by decide)
    rw [Nat.one_mul, Nat.add_zero] at this
    rw [this]; rfl
theorem RdI.all {w : World} {A : Option Addr} {k cap : Nat} {l : List Int} (h : RdI w (.slice A k cap) l) (h0 : 0 < l.length) : ∃ b off cs, A = Option.some ⟨b, off, none⟩ ∧ Hid (Rbk w b cs) ∧ Hid (∀ (i : Nat) (x : Int), l[i]? = Option.some x → LA 3 cs (off + i) (.int .i64 x)) := by
  obtain ⟨b, off, cs, e, hb, hc⟩ := RdS.one_all h (by simpa using h0)
  exact ⟨b, off, cs, e, hb, Lib.hid fun i x hi => LA.one (by kernel_rfl) (hc i _ (by rw [List.getElem?_map, hi]; rfl))⟩
/-- A slice of slices of ints. -/
def RdH (w : World) (sv : Value) (H : List (List Int)) : Prop := ∃ hv : List Value, RdS 1 w sv (hv.map vc) ∧ hv.length = H.length ∧ ∀ (i : Nat) (l : List Int), H[i]? = some l → ∃ v, hv[i]? = some v ∧ RdI w v l
theorem RdH.below {w w' : World} {sv : Value} {H : List (List Int)} (h : RdH w sv H) (hb : Below w.heap.size w w') : RdH w' sv H := by
  obtain ⟨hv, h1, h2, h3⟩ := h
  refine ⟨hv, h1.below hb, h2, fun i l hl => ?_⟩
  obtain ⟨v, h4, h5⟩ := h3 i l hl
  exact ⟨v, h4, h5.below hb⟩
theorem RdH.form {w : World} {sv : Value} {H : List (List Int)} (h : RdH w sv H) : ∃ A cap, sv = .slice A H.length cap := by
  obtain ⟨hv, h1, h2, _⟩ := h
  obtain ⟨A, cap, e⟩ := RdS.form1 h1
  rw [List.length_map, h2] at e
  exact ⟨A, cap, e⟩
theorem RdH.at_ {w : World} {A : Option Addr} {k cap : Nat} {H : List (List Int)} (h : RdH w (.slice A k cap) H) {i : Nat} {l : List Int} (hi : H[i]? = Option.some l) : ∃ b off cs A2 cap2, A = Option.some ⟨b, off, none⟩ ∧ Hid (Rbk w b cs) ∧ LA 22 cs (off + i) (.slice A2 l.length cap2) ∧ Hid (RdI w (.slice A2 l.length cap2) l) := by
  obtain ⟨hv, h1, h2, h3⟩ := h
  obtain ⟨v, h4, h5⟩ := h3 i l hi
  obtain ⟨A2, cap2, rfl⟩ := h5.form
  obtain ⟨b, off, cs, e, hb, hc⟩ := RdS.one_at h1 (i := i) (v := .slice A2 l.length cap2) (by rw [List.getElem?_map, h4]; rfl)
  exact ⟨b, off, cs, A2, cap2, e, hb, LA.one (by kernel_rfl) hc, Lib.hid h5⟩
theorem RdH.all {w : World} {A : Option Addr} {k cap : Nat} {H : List (List Int)} (h : RdH w (.slice A k cap) H) (h0 : 0 < H.length) : ∃ b off cs, A = Option.some ⟨b, off, none⟩ ∧ Hid (Rbk w b cs) ∧ Hid (∀ (i : Nat) (l : List Int), H[i]? = Option.some l → ∃ A2 cap2, LA 22 cs (off + i) (.slice A2 l.length cap2) ∧ Hid (RdI w (.slice A2 l.length cap2) l)) := by
  obtain ⟨hv, h1, h2, h3⟩ := h
  obtain ⟨b, off, cs, e, hb, hc⟩ := RdS.one_all h1 (by simpa [h2] using h0)
  refine ⟨b, off, cs, e, hb, Lib.hid fun i l hi => ?_⟩
  obtain ⟨v, h4, h5⟩ := h3 i l hi
  obtain ⟨A2, cap2, rfl⟩ := h5.form
  exact ⟨A2, cap2, LA.one (by kernel_rfl) (hc i _ (by rw [List.getElem?_map, h4]; rfl)), Lib.hid h5⟩
/-- A nest: its units, its holdings. -/
structure RdN (w : World) (us hs : Value) (U : List Int) (H : List (List Int)) : Prop where
  u : RdI w us U
  h : RdH w hs H
theorem RdN.below {w w' : World} {us hs : Value} {U : List Int} {H : List (List Int)} (h : RdN w us hs U H) (hb : Below w.heap.size w w') : RdN w' us hs U H := ⟨h.u.below hb, h.h.below hb⟩
theorem la_n0 (us hs : Value) : LA 22 #[us, hs] 0 us := LA.one (by kernel_rfl) rfl
theorem la_n1 (us hs : Value) : LA 23 #[us, hs] 1 hs := LA.one (by kernel_rfl) rfl
theorem la_nest (us hs : Value) : LA 25 #[us, hs] 0 (.agg #[us, hs]) := LA.whole (by kernel_rfl) (by kernel_rfl)
namespace Ns
def gu (U : List Int) (j : Nat) : Int := U.getD j 0
def gh (H : List (List Int)) (i j : Nat) : Int := (H.getD i []).getD j 0
theorem gu_at {U : List Int} {j : Nat} {x : Int} (h : U[j]? = some x) : gu U j = x := by unfold gu; rw [List.getD_eq_getElem?_getD, h]; rfl
theorem gh_at {H : List (List Int)} {i j : Nat} {l : List Int} {x : Int} (h : H[i]? = some l) (h2 : l[j]? = some x) : gh H i j = x := by
  have e : H.getD i [] = l := by rw [List.getD_eq_getElem?_getD, h]; rfl
  unfold gh; rw [e, List.getD_eq_getElem?_getD, h2]; rfl
/-- Row i is right. -/
def rowok (U : List Int) (H : List (List Int)) (i : Nat) : Prop := (H.getD i []).length = U.length ∧ 0 ≤ gu U i ∧ gu U i ≤ 1000000000000000 ∧ ∀ j, j < U.length → 0 ≤ gh H i j ∧ gh H i j ≤ 1000000000000000
def shape (U : List Int) (H : List (List Int)) : Prop := U.length ≤ 8 ∧ H.length = U.length
open Classical in
/-- What Check answers. -/
noncomputable def chk (U : List Int) (H : List (List Int)) : Int :=
  if shape U H then (if ∀ i, i < U.length → rowok U H i then (if ∀ j, j < U.length → zs U.length (fun i => gh H i j) ≤ gu U j then 0 else 341) else 340) else 340
theorem chk_shape {U : List Int} {H : List (List Int)} (h : ¬ shape U H) : chk U H = 340 := if_neg h
theorem chk_row {U : List Int} {H : List (List Int)} {i : Nat} (hi : i < U.length) (h : ¬ rowok U H i) : chk U H = 340 := by
  unfold chk
  by_cases hs : shape U H
  · rw [if_pos hs, if_neg (fun h' => h (h' i hi))]
  · rw [if_neg hs]
theorem chk_held {U : List Int} {H : List (List Int)} (hs : shape U H) (hr : ∀ i, i < U.length → rowok U H i) {j : Nat} (hj : j < U.length) (h : ¬ zs U.length (fun i => gh H i j) ≤ gu U j) : chk U H = 341 := by
  unfold chk
  rw [if_pos hs, if_pos hr, if_neg (fun h' => h (h' j hj))]
theorem chk_ok {U : List Int} {H : List (List Int)} (hs : shape U H) (hr : ∀ i, i < U.length → rowok U H i) (h : ∀ j, j < U.length → zs U.length (fun i => gh H i j) ≤ gu U j) : chk U H = 0 := by
  unfold chk
  rw [if_pos hs, if_pos hr, if_pos h]
/-- A nest that Check lets pass. -/
structure Good (U : List Int) (H : List (List Int)) : Prop where
  sh : shape U H
  row : ∀ i, i < U.length → (H.getD i []).length = U.length
  ok : Ok U.length (gu U) (gh H)
theorem chk_good {U : List Int} {H : List (List Int)} (h : chk U H = 0) : Good U H := by
  unfold chk at h
  by_cases hs : shape U H
  · rw [if_pos hs] at h
    by_cases hr : ∀ i, i < U.length → rowok U H i
    · rw [if_pos hr] at h
      by_cases hh : ∀ j, j < U.length → zs U.length (fun i => gh H i j) ≤ gu U j
      · exact ⟨hs, fun i hi => (hr i hi).1, hs.1, fun i hi => (hr i hi).2.1, fun i hi => (hr i hi).2.2.1, fun i j hi hj => ((hr i hi).2.2.2 j hj).1, fun i j hi hj => ((hr i hi).2.2.2 j hj).2, hh⟩
      · rw [if_neg hh] at h; cases h
    · rw [if_neg hr] at h; cases h
  · rw [if_neg hs] at h; cases h
theorem Good.at_ {U : List Int} {H : List (List Int)} (h : Good U H) {i : Nat} (hi : i < U.length) : ∃ l, H[i]? = some l ∧ l.length = U.length := by
  have h1 : i < H.length := by have := h.sh.2; omega
  refine ⟨H[i], List.getElem?_eq_getElem h1, ?_⟩
  have := h.row i hi
  rwa [List.getD_eq_getElem?_getD, List.getElem?_eq_getElem h1] at this
theorem Good.good {U : List Int} {H : List (List Int)} (h : Good U H) : chk U H = 0 :=
  chk_ok h.sh (fun i hi => ⟨h.row i hi, h.ok.u0 i hi, h.ok.u1 i hi, fun j hj => ⟨h.ok.h0 i j hi hj, h.ok.h1 i j hi hj⟩⟩) h.ok.held
end Ns
set_option maxHeartbeats 4000000 in
theorem ncheck_any (us hs : Value) (U : List Int) (H : List (List Int)) (w : World) (hR : RdN w us hs U H) (r : Int) (hr : Hid (r = Ns.chk U H)) :
    Calls Try.prog 44 #[.agg #[us, hs]] w fun e w' => e = .returned (.int .i64 r) ∧ Below w.heap.size w w' := by
  have HM := Mem.start w
  have HR := Lib.hid hR
  obtain ⟨Au, cu, rfl⟩ := hR.u.form
  obtain ⟨Ah, ch, rfl⟩ := hR.h.form
  clear hR
  go_enter Try.func44, Try.ntmps44
  by_cases hn8 : 8 < U.length
  · have g1 : (8 : Int) < U.length := by omega
    obtain rfl : r = 340 := by rw [hr.out]; exact Ns.chk_shape (fun h => by have := h.1; omega)
    clear hr
    go_wp2_with (first | fail | (first | ((with_reducible refine g_ld ?_); refine a_ld HM ?_) | ((with_reducible refine g_st ?_); refine a_st HM ?_; clear HM; intro w1 HM) | ((with_reducible refine g_al ?_); refine a_al HM ?_; clear HM; intro bk w1 HM) | ((with_reducible refine g_bx ?_); refine a_bx HM ?_; clear HM; intro bk w1 HM) | ((with_reducible refine g_bld ?_); refine a_bld ?_)))
    go_ret
    exact ⟨rfl, HM.low⟩
  have g1 : ¬ (8 : Int) < U.length := by omega
  by_cases hhl : H.length = U.length
  case neg =>
    have g2 : ¬ (H.length : Int) = U.length := by omega
    obtain rfl : r = 340 := by rw [hr.out]; exact Ns.chk_shape (fun h => hhl h.2)
    clear hr
    go_wp2_with (first | fail | (first | ((with_reducible refine g_ld ?_); refine a_ld HM ?_) | ((with_reducible refine g_st ?_); refine a_st HM ?_; clear HM; intro w1 HM) | ((with_reducible refine g_al ?_); refine a_al HM ?_; clear HM; intro bk w1 HM) | ((with_reducible refine g_bx ?_); refine a_bx HM ?_; clear HM; intro bk w1 HM) | ((with_reducible refine g_bld ?_); refine a_bld ?_)))
    go_ret
    exact ⟨rfl, HM.low⟩
  case pos =>
  have g2 : (H.length : Int) = U.length := by omega
  go_wp2_with (first | fail | (first | ((with_reducible refine g_ld ?_); refine a_ld HM ?_) | ((with_reducible refine g_st ?_); refine a_st HM ?_; clear HM; intro w1 HM) | ((with_reducible refine g_al ?_); refine a_al HM ?_; clear HM; intro bk w1 HM) | ((with_reducible refine g_bx ?_); refine a_bx HM ?_; clear HM; intro bk w1 HM) | ((with_reducible refine g_bld ?_); refine a_bld ?_)))
  obtain ⟨bn, rfl⟩ := HM.nm0
  have hsh : Ns.shape U H := ⟨by omega, hhl⟩
  have HSH := Lib.hid hsh
  clear hsh
  go_loopw [2, 27] (fun rv iv wr => ∃ i : Nat, rv = .int .i64 0 ∧ iv = .int .i64 (i : Nat) ∧ i ≤ U.length ∧ Hid (∀ k, k < i → Ns.rowok U H k) ∧ Mem w [] [(bn, #[.slice Au U.length cu, .slice Ah H.length ch])] wr) (fun _ iv _ => U.length - (intOf iv).toNat)
  case atStart => exact ⟨0, rfl, rfl, by omega, Lib.hid (fun k hk => absurd hk (by omega)), HM⟩
  case round =>
    clear HM
    obtain ⟨i, rfl, rfl, hi, HK, HM⟩ := hrel
    by_cases hlt : i < U.length
    · have hlt1 : (i : Int) < U.length := by omega
      obtain ⟨l, hl⟩ : ∃ l, H[i]? = some l := ⟨_, List.getElem?_eq_getElem (by omega)⟩
      obtain ⟨x, hx⟩ : ∃ x, U[i]? = some x := ⟨_, List.getElem?_eq_getElem hlt⟩
      have ex := Ns.gu_at hx
      obtain ⟨b, off, cs, A2, c2, rfl, HB, k1, HL⟩ := HR.out.h.at_ hl
      obtain ⟨b', off', cs', rfl, HB', k2⟩ := HR.out.u.at_ hx
      have hD : H.getD i [] = l := by rw [List.getD_eq_getElem?_getD, hl]; rfl
      by_cases hll : l.length = U.length
      case neg =>
        have g3 : ¬ (l.length : Int) = U.length := by omega
        obtain rfl : r = 340 := by rw [hr.out]; exact Ns.chk_row hlt (fun h => hll (hD ▸ h.1))
        clear hr hl hx ex hD
        go_wp2_with (first | fail | (first | ((with_reducible refine g_ld ?_); refine a_ld HM ?_) | ((with_reducible refine g_st ?_); refine a_st HM ?_; clear HM; intro w1 HM) | ((with_reducible refine g_al ?_); refine a_al HM ?_; clear HM; intro bk w1 HM) | ((with_reducible refine g_bx ?_); refine a_bx HM ?_; clear HM; intro bk w1 HM) | ((with_reducible refine g_bld ?_); refine a_bld ?_)))
        go_ret
        exact ⟨rfl, HM.low⟩
      case pos =>
      have g3 : (l.length : Int) = U.length := by omega
      by_cases hx0 : x < 0
      · obtain rfl : r = 340 := by rw [hr.out]; exact Ns.chk_row hlt (fun h => by have := h.2.1; omega)
        clear hr hl hx ex hD
        go_wp2_with (first | fail | (first | ((with_reducible refine g_ld ?_); refine a_ld HM ?_) | ((with_reducible refine g_st ?_); refine a_st HM ?_; clear HM; intro w1 HM) | ((with_reducible refine g_al ?_); refine a_al HM ?_; clear HM; intro bk w1 HM) | ((with_reducible refine g_bx ?_); refine a_bx HM ?_; clear HM; intro bk w1 HM) | ((with_reducible refine g_bld ?_); refine a_bld ?_)))
        go_ret
        exact ⟨rfl, HM.low⟩
      by_cases hx1 : 1000000000000000 < x
      · obtain rfl : r = 340 := by rw [hr.out]; exact Ns.chk_row hlt (fun h => by have := h.2.2.1; omega)
        clear hr hl hx ex hD
        go_wp2_with (first | fail | (first | ((with_reducible refine g_ld ?_); refine a_ld HM ?_) | ((with_reducible refine g_st ?_); refine a_st HM ?_; clear HM; intro w1 HM) | ((with_reducible refine g_al ?_); refine a_al HM ?_; clear HM; intro bk w1 HM) | ((with_reducible refine g_bx ?_); refine a_bx HM ?_; clear HM; intro bk w1 HM) | ((with_reducible refine g_bld ?_); refine a_bld ?_)))
        go_ret
        exact ⟨rfl, HM.low⟩
      have HX := Lib.hid (show Ns.gu U i = x from ex)
      have HD := Lib.hid hD
      have HHL := Lib.hid hl
      clear hx ex hl hD
      go_wp2_with (first | fail | (first | ((with_reducible refine g_ld ?_); refine a_ld HM ?_) | ((with_reducible refine g_st ?_); refine a_st HM ?_; clear HM; intro w1 HM) | ((with_reducible refine g_al ?_); refine a_al HM ?_; clear HM; intro bk w1 HM) | ((with_reducible refine g_bx ?_); refine a_bx HM ?_; clear HM; intro bk w1 HM) | ((with_reducible refine g_bld ?_); refine a_bld ?_)))
      go_loopw [2, 54] (fun rv iv wr => ∃ j : Nat, rv = .int .i64 0 ∧ iv = .int .i64 (j : Nat) ∧ j ≤ U.length ∧ Hid (∀ k, k < j → 0 ≤ Ns.gh H i k ∧ Ns.gh H i k ≤ 1000000000000000) ∧ Mem w [] [(bn, #[.slice (some ⟨b', off', none⟩) U.length cu, .slice (some ⟨b, off, none⟩) H.length ch])] wr) (fun _ iv _ => U.length - (intOf iv).toNat)
      case atStart => exact ⟨0, rfl, rfl, by omega, Lib.hid (fun k hk => absurd hk (by omega)), HM⟩
      case round =>
        clear HM
        obtain ⟨j, rfl, rfl, hj, HJ, HM⟩ := hrel
        by_cases hjt : j < U.length
        · have hjt1 : (j : Int) < U.length := by omega
          obtain ⟨y, hy⟩ : ∃ y, l[j]? = some y := ⟨_, List.getElem?_eq_getElem (by omega)⟩
          have ey := Ns.gh_at HHL.out hy
          obtain ⟨b3, off3, cs3, rfl, HB3, k3⟩ := HL.out.at_ hy
          clear hy
          by_cases hy0 : y < 0
          · obtain rfl : r = 340 := by rw [hr.out]; exact Ns.chk_row hlt (fun h => by have := (h.2.2.2 j hjt).1; omega)
            clear hr ey
            go_wp2_with (first | fail | (first | ((with_reducible refine g_ld ?_); refine a_ld HM ?_) | ((with_reducible refine g_st ?_); refine a_st HM ?_; clear HM; intro w1 HM) | ((with_reducible refine g_al ?_); refine a_al HM ?_; clear HM; intro bk w1 HM) | ((with_reducible refine g_bx ?_); refine a_bx HM ?_; clear HM; intro bk w1 HM) | ((with_reducible refine g_bld ?_); refine a_bld ?_)))
            go_ret
            exact ⟨rfl, HM.low⟩
          by_cases hy1 : 1000000000000000 < y
          · obtain rfl : r = 340 := by rw [hr.out]; exact Ns.chk_row hlt (fun h => by have := (h.2.2.2 j hjt).2; omega)
            clear hr ey
            go_wp2_with (first | fail | (first | ((with_reducible refine g_ld ?_); refine a_ld HM ?_) | ((with_reducible refine g_st ?_); refine a_st HM ?_; clear HM; intro w1 HM) | ((with_reducible refine g_al ?_); refine a_al HM ?_; clear HM; intro bk w1 HM) | ((with_reducible refine g_bx ?_); refine a_bx HM ?_; clear HM; intro bk w1 HM) | ((with_reducible refine g_bld ?_); refine a_bld ?_)))
            go_ret
            exact ⟨rfl, HM.low⟩
          have HJ2 : Hid (∀ k, k < j + 1 → 0 ≤ Ns.gh H i k ∧ Ns.gh H i k ≤ 1000000000000000) := Lib.hid (fun k hk => by
            by_cases e : k = j
            · subst e; rw [ey]; omega
            · exact HJ.out k (by omega))
          clear ey
          go_wp2_with (first | fail | (first | ((with_reducible refine g_ld ?_); refine a_ld HM ?_) | ((with_reducible refine g_st ?_); refine a_st HM ?_; clear HM; intro w1 HM) | ((with_reducible refine g_al ?_); refine a_al HM ?_; clear HM; intro bk w1 HM) | ((with_reducible refine g_bx ?_); refine a_bx HM ?_; clear HM; intro bk w1 HM) | ((with_reducible refine g_bld ?_); refine a_bld ?_)))
          go_roundw
          case rel => exact ⟨j + 1, rfl, by go_num, by omega, HJ2, HM.pick⟩
          case measure => simp [intOf]; omega
        · obtain rfl : j = U.length := by omega
          have HK2 : Hid (∀ k, k < i + 1 → Ns.rowok U H k) := Lib.hid (fun k hk => by
            by_cases e : k = i
            · subst e; exact ⟨by rw [HD.out]; exact hll, by rw [HX.out]; omega, by rw [HX.out]; omega, HJ.out⟩
            · exact HK.out k (by omega))
          go_wp2_with (first | fail | (first | ((with_reducible refine g_ld ?_); refine a_ld HM ?_) | ((with_reducible refine g_st ?_); refine a_st HM ?_; clear HM; intro w1 HM) | ((with_reducible refine g_al ?_); refine a_al HM ?_; clear HM; intro bk w1 HM) | ((with_reducible refine g_bx ?_); refine a_bx HM ?_; clear HM; intro bk w1 HM) | ((with_reducible refine g_bld ?_); refine a_bld ?_)))
          go_roundw
          case rel => exact ⟨i + 1, rfl, by go_num, by omega, HK2, HM.pick⟩
          case measure => simp [intOf]; omega
    · obtain rfl : i = U.length := by omega
      have hGr : ∀ i j, i < U.length → j < U.length → 0 ≤ Ns.gh H i j ∧ Ns.gh H i j ≤ 1000000000000000 := fun i j hi hj => (HK.out i hi).2.2.2 j hj
      have HG := Lib.hid hGr
      clear hGr
      go_wp2_with (first | fail | (first | ((with_reducible refine g_ld ?_); refine a_ld HM ?_) | ((with_reducible refine g_st ?_); refine a_st HM ?_; clear HM; intro w1 HM) | ((with_reducible refine g_al ?_); refine a_al HM ?_; clear HM; intro bk w1 HM) | ((with_reducible refine g_bx ?_); refine a_bx HM ?_; clear HM; intro bk w1 HM) | ((with_reducible refine g_bld ?_); refine a_bld ?_)))
      go_loopw [2, 69] (fun rv jv wr => ∃ j : Nat, rv = .int .i64 0 ∧ jv = .int .i64 (j : Nat) ∧ j ≤ U.length ∧ Hid (∀ k, k < j → Ns.zs U.length (fun i => Ns.gh H i k) ≤ Ns.gu U k) ∧ Mem w [] [(bn, #[.slice Au U.length cu, .slice Ah H.length ch])] wr) (fun _ jv _ => U.length - (intOf jv).toNat)
      case atStart => exact ⟨0, rfl, rfl, by omega, Lib.hid (fun k hk => absurd hk (by omega)), HM⟩
      case round =>
        clear HM
        obtain ⟨j, rfl, rfl, hj, HC, HM⟩ := hrel
        by_cases hjt : j < U.length
        · have hjt1 : (j : Int) < U.length := by omega
          obtain ⟨x, hx⟩ : ∃ x, U[j]? = some x := ⟨_, List.getElem?_eq_getElem hjt⟩
          have HX := Lib.hid (Ns.gu_at hx)
          obtain ⟨b', off', cs', rfl, HB', k2⟩ := HR.out.u.at_ hx
          have hx1 := (HK.out j hjt).2.1
          have hx2 := (HK.out j hjt).2.2.1
          rw [HX.out] at hx1 hx2
          clear hx
          go_wp2_with (first | fail | (first | ((with_reducible refine g_ld ?_); refine a_ld HM ?_) | ((with_reducible refine g_st ?_); refine a_st HM ?_; clear HM; intro w1 HM) | ((with_reducible refine g_al ?_); refine a_al HM ?_; clear HM; intro bk w1 HM) | ((with_reducible refine g_bx ?_); refine a_bx HM ?_; clear HM; intro bk w1 HM) | ((with_reducible refine g_bld ?_); refine a_bld ?_)))
          go_loopw [9, 77] (fun av iv wr => ∃ (i : Nat) (S : Int), av = .int .i64 (x - S) ∧ iv = .int .i64 (i : Nat) ∧ i ≤ U.length ∧ Hid (S = Ns.zs i (fun i => Ns.gh H i j)) ∧ 0 ≤ S ∧ S ≤ i * 1000000000000000 ∧ Mem w [] [(bn, #[.slice (some ⟨b', off', none⟩) U.length cu, .slice Ah H.length ch])] wr) (fun _ iv _ => U.length - (intOf iv).toNat)
          case atStart => exact ⟨0, 0, by go_num, rfl, by omega, Lib.hid rfl, by omega, by omega, HM⟩
          case round =>
            clear HM
            obtain ⟨i, S, rfl, rfl, hi, HS, hS0, hS1, HM⟩ := hrel
            by_cases hit : i < U.length
            · have hit1 : (i : Int) < U.length := by omega
              obtain ⟨l, hl⟩ : ∃ l, H[i]? = some l := ⟨_, List.getElem?_eq_getElem (by omega)⟩
              obtain ⟨b, off, cs, A2, c2, rfl, HB, k1, HL⟩ := HR.out.h.at_ hl
              have hll : l.length = U.length := by
                have := (HK.out i hit).1
                rwa [List.getD_eq_getElem?_getD, hl] at this
              have hjl : (j : Int) < l.length := by omega
              obtain ⟨y, hy⟩ : ∃ y, l[j]? = some y := ⟨_, List.getElem?_eq_getElem (by omega)⟩
              obtain ⟨b3, off3, cs3, rfl, HB3, k3⟩ := HL.out.at_ hy
              have hb := HG.out i j hit hjt
              have ey := Ns.gh_at hl hy
              rw [ey] at hb
              obtain ⟨hy0, hy1⟩ := hb
              have HS2 : Hid (S + y = Ns.zs (i + 1) (fun i => Ns.gh H i j)) := Lib.hid (by rw [HS.out, Ns.zs, ey])
              clear hl hy ey
              go_wp2_with (first | fail | (first | ((with_reducible refine g_ld ?_); refine a_ld HM ?_) | ((with_reducible refine g_st ?_); refine a_st HM ?_; clear HM; intro w1 HM) | ((with_reducible refine g_al ?_); refine a_al HM ?_; clear HM; intro bk w1 HM) | ((with_reducible refine g_bx ?_); refine a_bx HM ?_; clear HM; intro bk w1 HM) | ((with_reducible refine g_bld ?_); refine a_bld ?_)))
              go_roundw
              case rel => exact ⟨i + 1, S + y, by go_num, by go_num, by omega, HS2, by omega, by omega, HM.pick⟩
              case measure => simp [intOf]; omega
            · obtain rfl : i = U.length := by omega
              by_cases hS : x < S
              · obtain rfl : r = 341 := by rw [hr.out]; exact Ns.chk_held HSH.out HK.out hjt (fun h => by rw [← HS.out, HX.out] at h; omega)
                have g4 : x - S < 0 := by omega
                go_wp2_with (first | fail | (first | ((with_reducible refine g_ld ?_); refine a_ld HM ?_) | ((with_reducible refine g_st ?_); refine a_st HM ?_; clear HM; intro w1 HM) | ((with_reducible refine g_al ?_); refine a_al HM ?_; clear HM; intro bk w1 HM) | ((with_reducible refine g_bx ?_); refine a_bx HM ?_; clear HM; intro bk w1 HM) | ((with_reducible refine g_bld ?_); refine a_bld ?_)))
                go_ret
                exact ⟨rfl, HM.low⟩
              · have g4 : ¬ x - S < 0 := by omega
                have HC2 : Hid (∀ k, k < j + 1 → Ns.zs U.length (fun i => Ns.gh H i k) ≤ Ns.gu U k) := Lib.hid (fun k hk => by
                  by_cases e : k = j
                  · subst e; rw [← HS.out, HX.out]; omega
                  · exact HC.out k (by omega))
                go_wp2_with (first | fail | (first | ((with_reducible refine g_ld ?_); refine a_ld HM ?_) | ((with_reducible refine g_st ?_); refine a_st HM ?_; clear HM; intro w1 HM) | ((with_reducible refine g_al ?_); refine a_al HM ?_; clear HM; intro bk w1 HM) | ((with_reducible refine g_bx ?_); refine a_bx HM ?_; clear HM; intro bk w1 HM) | ((with_reducible refine g_bld ?_); refine a_bld ?_)))
                go_roundw
                case rel => exact ⟨j + 1, rfl, by go_num, by omega, HC2, HM.pick⟩
                case measure => simp [intOf]; omega
        · obtain rfl : j = U.length := by omega
          obtain rfl : r = 0 := by rw [hr.out]; exact Ns.chk_ok HSH.out HK.out HC.out
          go_wp2_with (first | fail | (first | ((with_reducible refine g_ld ?_); refine a_ld HM ?_) | ((with_reducible refine g_st ?_); refine a_st HM ?_; clear HM; intro w1 HM) | ((with_reducible refine g_al ?_); refine a_al HM ?_; clear HM; intro bk w1 HM) | ((with_reducible refine g_bx ?_); refine a_bx HM ?_; clear HM; intro bk w1 HM) | ((with_reducible refine g_bld ?_); refine a_bld ?_)))
          go_ret
          exact ⟨rfl, HM.low⟩
end Go.Proofs.Ytadnddffdedjgaa
