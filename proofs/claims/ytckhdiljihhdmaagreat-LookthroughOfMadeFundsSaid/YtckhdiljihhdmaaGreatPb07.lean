/- Walks, and plain facts for them. -/
import Derived.Test.YtckhdiljihhdmaaGreatPb05
import Derived.Test.YtckhdiljihhdmaaGreatPb06
import Derived.Test.YtckhdiljihhdmaaGreatPb02
namespace Go.Proofs.YtckhdiljihhdmaaGreat
set_option maxRecDepth 8000
open Go.RowKit
def ic (x : Int) : Array Value := #[.int .i64 x]
def vc (v : Value) : Array Value := #[v]
def RdI (w : World) (sv : Value) (l : List Int) : Prop := RdS 1 w sv (l.map ic)
theorem RdI.below {w w' : World} {sv : Value} {l : List Int} (h : RdI w sv l) (hb : Below w.heap.size w w') : RdI w' sv l := RdS.below h hb
theorem RdI.form {w : World} {sv : Value} {l : List Int} (h : RdI w sv l) : ∃ A cap, sv = .slice A l.length cap := by
 obtain ⟨A, cap, e⟩ := RdS.form1 h
 rw [List.length_map] at e
 exact ⟨A, cap, e⟩
theorem RdS.one_at {w : World} {A : Option Addr} {k cap : Nat} {m : List (Array Value)} (h : RdS 1 w (.slice A k cap) m) {i : Nat} {v : Value} (hi : m[i]? = Option.some #[v]) : ∃ b off cs, A = Option.some ⟨b, off, none⟩ ∧ Hid (Rbk w b cs) ∧ cs[off + i]? = Option.some v := by
 obtain ⟨b, off, cs, cap', e, hb, hc⟩ := h.get (k := i) hi
 injection e with e1 e2 e3
 refine ⟨b, off, cs, e1, Lib.hid hb, ?_⟩
 have h0 := hc 0 (by decide)
 rw [Nat.mul_one, Nat.add_zero] at h0
 rw [h0]; rfl
theorem RdI.at_ {w : World} {A : Option Addr} {k cap : Nat} {l : List Int} (h : RdI w (.slice A k cap) l) {i : Nat} {x : Int} (hi : l[i]? = Option.some x) : ∃ b off cs, A = Option.some ⟨b, off, none⟩ ∧ Hid (Rbk w b cs) ∧ LA 3 cs (off + i) (.int .i64 x) := by
 obtain ⟨b, off, cs, e, hb, hc⟩ := RdS.one_at h (i := i) (v := .int .i64 x) (by rw [List.getElem?_map, hi]; rfl)
 exact ⟨b, off, cs, e, hb, LA.one (by kernel_rfl) hc⟩
theorem RdS.one_all {w : World} {A : Option Addr} {k cap : Nat} {m : List (Array Value)} (h : RdS 1 w (.slice A k cap) m) (h0 : 0 < m.length) : ∃ b off cs, A = Option.some ⟨b, off, none⟩ ∧ Hid (Rbk w b cs) ∧ ∀ (i : Nat) (v : Value), m[i]? = Option.some #[v] → cs[off + i]? = Option.some v := by
 obtain ⟨hs, A', cap', e, _, h4⟩ := h
 injection e with e1 e2 e3
 rcases h4 with h4 | ⟨b, off, cs, e4, hb, hc⟩
 ·subst h4; simp at h0
 ·refine ⟨b, off, cs, e1.trans e4, Lib.hid hb, fun i v hi => ?_⟩
  have hl := (List.getElem?_eq_some_iff.1 hi).1
  rw [hc i (by omega)]
  have := rows_at hs hi (j := 0) (by decide)
  rw [Nat.one_mul, Nat.add_zero] at this
  rw [this]; rfl
theorem RdI.all {w : World} {A : Option Addr} {k cap : Nat} {l : List Int} (h : RdI w (.slice A k cap) l) (h0 : 0 < l.length) : ∃ b off cs, A = Option.some ⟨b, off, none⟩ ∧ Hid (Rbk w b cs) ∧ Hid (∀ (i : Nat) (x : Int), l[i]? = Option.some x → LA 3 cs (off + i) (.int .i64 x)) := by
 obtain ⟨b, off, cs, e, hb, hc⟩ := RdS.one_all h (by simpa using h0)
 exact ⟨b, off, cs, e, hb, Lib.hid fun i x hi => LA.one (by kernel_rfl) (hc i _ (by rw [List.getElem?_map, hi]; rfl))⟩
def RdH (w : World) (sv : Value) (H : List (List Int)) : Prop := ∃ hv : List Value, RdS 1 w sv (hv.map vc) ∧ hv.length = H.length ∧ ∀ (i : Nat) (l : List Int), H[i]? = some l → ∃ v, hv[i]? = some v ∧ RdI w v l
theorem RdH.below {w w' : World} {sv : Value} {H : List (List Int)} (h : RdH w sv H) (hb : Below w.heap.size w w') : RdH w' sv H := by
 obtain ⟨hv, h1, h2, h3⟩ := h
 refine ⟨hv, h1.below hb, h2, fun i l hl => ?_⟩
 obtain ⟨v, h4, h5⟩ := h3 i l hl
 exact ⟨v, h4, h5.below hb⟩
theorem RdH.form {w : World} {sv : Value} {H : List (List Int)} (h : RdH w sv H) : ∃ A cap, sv = .slice A H.length cap := by
 obtain ⟨hv, h1, h2, _⟩ := h
 obtain ⟨A, cap, e⟩ := RdS.form1 h1
 rw [List.length_map, h2] at e
 exact ⟨A, cap, e⟩
theorem RdH.at_ {w : World} {A : Option Addr} {k cap : Nat} {H : List (List Int)} (h : RdH w (.slice A k cap) H) {i : Nat} {l : List Int} (hi : H[i]? = Option.some l) : ∃ b off cs A2 cap2, A = Option.some ⟨b, off, none⟩ ∧ Hid (Rbk w b cs) ∧ LA 22 cs (off + i) (.slice A2 l.length cap2) ∧ Hid (RdI w (.slice A2 l.length cap2) l) := by
 obtain ⟨hv, h1, h2, h3⟩ := h
 obtain ⟨v, h4, h5⟩ := h3 i l hi
 obtain ⟨A2, cap2, rfl⟩ := h5.form
 obtain ⟨b, off, cs, e, hb, hc⟩ := RdS.one_at h1 (i := i) (v := .slice A2 l.length cap2) (by rw [List.getElem?_map, h4]; rfl)
 exact ⟨b, off, cs, A2, cap2, e, hb, LA.one (by kernel_rfl) hc, Lib.hid h5⟩
theorem RdH.all {w : World} {A : Option Addr} {k cap : Nat} {H : List (List Int)} (h : RdH w (.slice A k cap) H) (h0 : 0 < H.length) : ∃ b off cs, A = Option.some ⟨b, off, none⟩ ∧ Hid (Rbk w b cs) ∧ Hid (∀ (i : Nat) (l : List Int), H[i]? = Option.some l → ∃ A2 cap2, LA 22 cs (off + i) (.slice A2 l.length cap2) ∧ Hid (RdI w (.slice A2 l.length cap2) l)) := by
 obtain ⟨hv, h1, h2, h3⟩ := h
 obtain ⟨b, off, cs, e, hb, hc⟩ := RdS.one_all h1 (by simpa [h2] using h0)
 refine ⟨b, off, cs, e, hb, Lib.hid fun i l hi => ?_⟩
 obtain ⟨v, h4, h5⟩ := h3 i l hi
 obtain ⟨A2, cap2, rfl⟩ := h5.form
 exact ⟨A2, cap2, LA.one (by kernel_rfl) (hc i _ (by rw [List.getElem?_map, h4]; rfl)), Lib.hid h5⟩
structure RdN (w : World) (us hs : Value) (U : List Int) (H : List (List Int)) : Prop where
 u : RdI w us U
 h : RdH w hs H
theorem RdN.below {w w' : World} {us hs : Value} {U : List Int} {H : List (List Int)} (h : RdN w us hs U H) (hb : Below w.heap.size w w') : RdN w' us hs U H := ⟨h.u.below hb, h.h.below hb⟩
theorem la_n0 (us hs : Value) : LA 22 #[us, hs] 0 us := LA.one (by kernel_rfl) rfl
theorem la_n1 (us hs : Value) : LA 23 #[us, hs] 1 hs := LA.one (by kernel_rfl) rfl
theorem la_nest (us hs : Value) : LA 25 #[us, hs] 0 (.agg #[us, hs]) := LA.whole (by kernel_rfl) (by kernel_rfl)
namespace Ns
def gu (U : List Int) (j : Nat) : Int := U.getD j 0
def gh (H : List (List Int)) (i j : Nat) : Int := (H.getD i []).getD j 0
theorem gu_at {U : List Int} {j : Nat} {x : Int} (h : U[j]? = some x) : gu U j = x := by unfold gu; rw [List.getD_eq_getElem?_getD, h]; rfl
theorem gh_at {H : List (List Int)} {i j : Nat} {l : List Int} {x : Int} (h : H[i]? = some l) (h2 : l[j]? = some x) : gh H i j = x := by
 have e : H.getD i [] = l := by rw [List.getD_eq_getElem?_getD, h]; rfl
 unfold gh; rw [e, List.getD_eq_getElem?_getD, h2]; rfl
def rowok (U : List Int) (H : List (List Int)) (i : Nat) : Prop := (H.getD i []).length = U.length ∧ 0 ≤ gu U i ∧ gu U i ≤ 1000000000000000 ∧ ∀ j, j < U.length → 0 ≤ gh H i j ∧ gh H i j ≤ 1000000000000000
def shape (U : List Int) (H : List (List Int)) : Prop := U.length ≤ 8 ∧ H.length = U.length
open Classical in
noncomputable def chk (U : List Int) (H : List (List Int)) : Int :=
 if shape U H then (if ∀ i, i < U.length → rowok U H i then (if ∀ j, j < U.length → zs U.length (fun i => gh H i j) ≤ gu U j then 0 else 341) else 340) else 340
theorem chk_shape {U : List Int} {H : List (List Int)} (h : ¬ shape U H) : chk U H = 340 := if_neg h
theorem chk_row {U : List Int} {H : List (List Int)} {i : Nat} (hi : i < U.length) (h : ¬ rowok U H i) : chk U H = 340 := by
 unfold chk
 by_cases hs : shape U H
 ·rw [if_pos hs, if_neg (fun h' => h (h' i hi))]
 ·rw [if_neg hs]
theorem chk_held {U : List Int} {H : List (List Int)} (hs : shape U H) (hr : ∀ i, i < U.length → rowok U H i) {j : Nat} (hj : j < U.length) (h : ¬ zs U.length (fun i => gh H i j) ≤ gu U j) : chk U H = 341 := by
 unfold chk
 rw [if_pos hs, if_pos hr, if_neg (fun h' => h (h' j hj))]
theorem chk_ok {U : List Int} {H : List (List Int)} (hs : shape U H) (hr : ∀ i, i < U.length → rowok U H i) (h : ∀ j, j < U.length → zs U.length (fun i => gh H i j) ≤ gu U j) : chk U H = 0 := by
 unfold chk
 rw [if_pos hs, if_pos hr, if_pos h]
structure Good (U : List Int) (H : List (List Int)) : Prop where
 sh : shape U H
 row : ∀ i, i < U.length → (H.getD i []).length = U.length
 ok : Ok U.length (gu U) (gh H)
theorem chk_good {U : List Int} {H : List (List Int)} (h : chk U H = 0) : Good U H := by
 unfold chk at h
 by_cases hs : shape U H
 ·rw [if_pos hs] at h
  by_cases hr : ∀ i, i < U.length → rowok U H i
  ·rw [if_pos hr] at h
   by_cases hh : ∀ j, j < U.length → zs U.length (fun i => gh H i j) ≤ gu U j
   ·exact ⟨hs, fun i hi => (hr i hi).1, hs.1, fun i hi => (hr i hi).2.1, fun i hi => (hr i hi).2.2.1, fun i j hi hj => ((hr i hi).2.2.2 j hj).1, fun i j hi hj => ((hr i hi).2.2.2 j hj).2, hh⟩
   ·rw [if_neg hh] at h; cases h
  ·rw [if_neg hr] at h; cases h
 ·rw [if_neg hs] at h; cases h
theorem Good.at_ {U : List Int} {H : List (List Int)} (h : Good U H) {i : Nat} (hi : i < U.length) : ∃ l, H[i]? = some l ∧ l.length = U.length := by
 have h1 : i < H.length := by have := h.sh.2; omega
 refine ⟨H[i], List.getElem?_eq_getElem h1, ?_⟩
 have := h.row i hi
 rwa [List.getD_eq_getElem?_getD, List.getElem?_eq_getElem h1] at this
theorem Good.good {U : List Int} {H : List (List Int)} (h : Good U H) : chk U H = 0 :=
 chk_ok h.sh (fun i hi => ⟨h.row i hi, h.ok.u0 i hi, h.ok.u1 i hi, fun j hj => ⟨h.ok.h0 i j hi hj, h.ok.h1 i j hi hj⟩⟩) h.ok.held
end Ns
set_option maxHeartbeats 4000000 in
theorem ncheck_any (us hs : Value) (U : List Int) (H : List (List Int)) (w : World) (hR : RdN w us hs U H) (r : Int) (hr : Hid (r = Ns.chk U H)) :
    Calls Tryz.prog 36 #[.agg #[us, hs]] w fun e w' => e = .returned (.int .i64 r) ∧ Below w.heap.size w w' := by
 have HM := Mem.start w
 have HR := Lib.hid hR
 obtain ⟨Au, cu, rfl⟩ := hR.u.form
 obtain ⟨Ah, ch, rfl⟩ := hR.h.form
 clear hR
 go_enter Tryz.func36, Tryz.ntmps36
 by_cases hn8 : 8 < U.length
 ·have g1 : (8 : Int) < U.length := by omega
  obtain rfl : r = 340 := by rw [hr.out]; exact Ns.chk_shape (fun h => by have := h.1; omega)
  clear hr
  go_wp2_with (first | ((with_reducible refine g_ld ?_); refine a_ld HM ?_) | ((with_reducible refine g_bx ?_); refine a_bx HM ?_; clear HM; intro bk w1 HM))
  go_ret
  exact ⟨rfl, HM.low⟩
 have g1 : ¬ (8 : Int) < U.length := by omega
 by_cases hhl : H.length = U.length
 case neg =>
  have g2 : ¬ (H.length : Int) = U.length := by omega
  obtain rfl : r = 340 := by rw [hr.out]; exact Ns.chk_shape (fun h => hhl h.2)
  clear hr
  go_wp2_with (first | ((with_reducible refine g_ld ?_); refine a_ld HM ?_) | ((with_reducible refine g_bx ?_); refine a_bx HM ?_; clear HM; intro bk w1 HM))
  go_ret
  exact ⟨rfl, HM.low⟩
 case pos =>
 have g2 : (H.length : Int) = U.length := by omega
 go_wp2_with (first | ((with_reducible refine g_ld ?_); refine a_ld HM ?_) | ((with_reducible refine g_bx ?_); refine a_bx HM ?_; clear HM; intro bk w1 HM))
 obtain ⟨bn, rfl⟩ := HM.nm0
 have hsh : Ns.shape U H := ⟨by omega, hhl⟩
 have HSH := Lib.hid hsh
 clear hsh
 go_loopw [2, 27] (fun rv iv wr => ∃ i : Nat, rv = .int .i64 0 ∧ iv = .int .i64 (i : Nat) ∧ i ≤ U.length ∧ Hid (∀ k, k < i → Ns.rowok U H k) ∧ Mem w [] [(bn, #[.slice Au U.length cu, .slice Ah H.length ch])] wr) (fun _ iv _ => U.length - (intOf iv).toNat)
 case atStart => exact ⟨0, rfl, rfl, by omega, Lib.hid (fun k hk => absurd hk (by omega)), HM⟩
 case round =>
  clear HM
  obtain ⟨i, rfl, rfl, hi, HK, HM⟩ := hrel
  by_cases hlt : i < U.length
  ·have hlt1 : (i : Int) < U.length := by omega
   obtain ⟨l, hl⟩ : ∃ l, H[i]? = some l := ⟨_, List.getElem?_eq_getElem (by omega)⟩
   obtain ⟨x, hx⟩ : ∃ x, U[i]? = some x := ⟨_, List.getElem?_eq_getElem hlt⟩
   have ex := Ns.gu_at hx
   obtain ⟨b, off, cs, A2, c2, rfl, HB, k1, HL⟩ := HR.out.h.at_ hl
   obtain ⟨b', off', cs', rfl, HB', k2⟩ := HR.out.u.at_ hx
   have hD : H.getD i [] = l := by rw [List.getD_eq_getElem?_getD, hl]; rfl
   by_cases hll : l.length = U.length
   case neg =>
    have g3 : ¬ (l.length : Int) = U.length := by omega
    obtain rfl : r = 340 := by rw [hr.out]; exact Ns.chk_row hlt (fun h => hll (hD ▸ h.1))
    clear hr hl hx ex hD
    go_wp2_with (first | ((with_reducible refine g_ld ?_); refine a_ld HM ?_) | ((with_reducible refine g_bx ?_); refine a_bx HM ?_; clear HM; intro bk w1 HM))
    go_ret
    exact ⟨rfl, HM.low⟩
   case pos =>
   have g3 : (l.length : Int) = U.length := by omega
   by_cases hx0 : x < 0
   ·obtain rfl : r = 340 := by rw [hr.out]; exact Ns.chk_row hlt (fun h => by have := h.2.1; omega)
    clear hr hl hx ex hD
    go_wp2_with (first | ((with_reducible refine g_ld ?_); refine a_ld HM ?_) | ((with_reducible refine g_bx ?_); refine a_bx HM ?_; clear HM; intro bk w1 HM))
    go_ret
    exact ⟨rfl, HM.low⟩
   by_cases hx1 : 1000000000000000 < x
   ·obtain rfl : r = 340 := by rw [hr.out]; exact Ns.chk_row hlt (fun h => by have := h.2.2.1; omega)
    clear hr hl hx ex hD
    go_wp2_with (first | ((with_reducible refine g_ld ?_); refine a_ld HM ?_) | ((with_reducible refine g_bx ?_); refine a_bx HM ?_; clear HM; intro bk w1 HM))
    go_ret
    exact ⟨rfl, HM.low⟩
   have HX := Lib.hid (show Ns.gu U i = x from ex)
   have HD := Lib.hid hD
   have HHL := Lib.hid hl
   clear hx ex hl hD
   go_wp2_with (first | ((with_reducible refine g_ld ?_); refine a_ld HM ?_) | ((with_reducible refine g_bx ?_); refine a_bx HM ?_; clear HM; intro bk w1 HM))
   go_loopw [2, 54] (fun rv iv wr => ∃ j : Nat, rv = .int .i64 0 ∧ iv = .int .i64 (j : Nat) ∧ j ≤ U.length ∧ Hid (∀ k, k < j → 0 ≤ Ns.gh H i k ∧ Ns.gh H i k ≤ 1000000000000000) ∧ Mem w [] [(bn, #[.slice (some ⟨b', off', none⟩) U.length cu, .slice (some ⟨b, off, none⟩) H.length ch])] wr) (fun _ iv _ => U.length - (intOf iv).toNat)
   case atStart => exact ⟨0, rfl, rfl, by omega, Lib.hid (fun k hk => absurd hk (by omega)), HM⟩
   case round =>
    clear HM
    obtain ⟨j, rfl, rfl, hj, HJ, HM⟩ := hrel
    by_cases hjt : j < U.length
    ·have hjt1 : (j : Int) < U.length := by omega
     obtain ⟨y, hy⟩ : ∃ y, l[j]? = some y := ⟨_, List.getElem?_eq_getElem (by omega)⟩
     have ey := Ns.gh_at HHL.out hy
     obtain ⟨b3, off3, cs3, rfl, HB3, k3⟩ := HL.out.at_ hy
     clear hy
     by_cases hy0 : y < 0
     ·obtain rfl : r = 340 := by rw [hr.out]; exact Ns.chk_row hlt (fun h => by have := (h.2.2.2 j hjt).1; omega)
      clear hr ey
      go_wp2_with (first | ((with_reducible refine g_ld ?_); refine a_ld HM ?_) | ((with_reducible refine g_bx ?_); refine a_bx HM ?_; clear HM; intro bk w1 HM))
      go_ret
      exact ⟨rfl, HM.low⟩
     by_cases hy1 : 1000000000000000 < y
     ·obtain rfl : r = 340 := by rw [hr.out]; exact Ns.chk_row hlt (fun h => by have := (h.2.2.2 j hjt).2; omega)
      clear hr ey
      go_wp2_with (first | ((with_reducible refine g_ld ?_); refine a_ld HM ?_) | ((with_reducible refine g_bx ?_); refine a_bx HM ?_; clear HM; intro bk w1 HM))
      go_ret
      exact ⟨rfl, HM.low⟩
     have HJ2 : Hid (∀ k, k < j + 1 → 0 ≤ Ns.gh H i k ∧ Ns.gh H i k ≤ 1000000000000000) := Lib.hid (fun k hk => by
      by_cases e : k = j
      ·subst e; rw [ey]; omega
      ·exact HJ.out k (by omega))
     clear ey
     go_wp2_with (first | ((with_reducible refine g_ld ?_); refine a_ld HM ?_) | ((with_reducible refine g_bx ?_); refine a_bx HM ?_; clear HM; intro bk w1 HM))
     go_roundw
     case rel => exact ⟨j + 1, rfl, by go_num, by omega, HJ2, HM.pick⟩
     case measure => simp [intOf]; omega
    ·obtain rfl : j = U.length := by omega
     have HK2 : Hid (∀ k, k < i + 1 → Ns.rowok U H k) := Lib.hid (fun k hk => by
      by_cases e : k = i
      ·subst e; exact ⟨by rw [HD.out]; exact hll, by rw [HX.out]; omega, by rw [HX.out]; omega, HJ.out⟩
      ·exact HK.out k (by omega))
     go_wp2_with (first | ((with_reducible refine g_ld ?_); refine a_ld HM ?_) | ((with_reducible refine g_bx ?_); refine a_bx HM ?_; clear HM; intro bk w1 HM))
     go_roundw
     case rel => exact ⟨i + 1, rfl, by go_num, by omega, HK2, HM.pick⟩
     case measure => simp [intOf]; omega
  ·obtain rfl : i = U.length := by omega
   have hGr : ∀ i j, i < U.length → j < U.length → 0 ≤ Ns.gh H i j ∧ Ns.gh H i j ≤ 1000000000000000 := fun i j hi hj => (HK.out i hi).2.2.2 j hj
   have HG := Lib.hid hGr
   clear hGr
   go_wp2_with (first | ((with_reducible refine g_ld ?_); refine a_ld HM ?_) | ((with_reducible refine g_bx ?_); refine a_bx HM ?_; clear HM; intro bk w1 HM))
   go_loopw [2, 69] (fun rv jv wr => ∃ j : Nat, rv = .int .i64 0 ∧ jv = .int .i64 (j : Nat) ∧ j ≤ U.length ∧ Hid (∀ k, k < j → Ns.zs U.length (fun i => Ns.gh H i k) ≤ Ns.gu U k) ∧ Mem w [] [(bn, #[.slice Au U.length cu, .slice Ah H.length ch])] wr) (fun _ jv _ => U.length - (intOf jv).toNat)
   case atStart => exact ⟨0, rfl, rfl, by omega, Lib.hid (fun k hk => absurd hk (by omega)), HM⟩
   case round =>
    clear HM
    obtain ⟨j, rfl, rfl, hj, HC, HM⟩ := hrel
    by_cases hjt : j < U.length
    ·have hjt1 : (j : Int) < U.length := by omega
     obtain ⟨x, hx⟩ : ∃ x, U[j]? = some x := ⟨_, List.getElem?_eq_getElem hjt⟩
     have HX := Lib.hid (Ns.gu_at hx)
     obtain ⟨b', off', cs', rfl, HB', k2⟩ := HR.out.u.at_ hx
     have hx1 := (HK.out j hjt).2.1
     have hx2 := (HK.out j hjt).2.2.1
     rw [HX.out] at hx1 hx2
     clear hx
     go_wp2_with (first | ((with_reducible refine g_ld ?_); refine a_ld HM ?_) | ((with_reducible refine g_bx ?_); refine a_bx HM ?_; clear HM; intro bk w1 HM))
     go_loopw [9, 77] (fun av iv wr => ∃ (i : Nat) (S : Int), av = .int .i64 (x - S) ∧ iv = .int .i64 (i : Nat) ∧ i ≤ U.length ∧ Hid (S = Ns.zs i (fun i => Ns.gh H i j)) ∧ 0 ≤ S ∧ S ≤ i * 1000000000000000 ∧ Mem w [] [(bn, #[.slice (some ⟨b', off', none⟩) U.length cu, .slice Ah H.length ch])] wr) (fun _ iv _ => U.length - (intOf iv).toNat)
     case atStart => exact ⟨0, 0, by go_num, rfl, by omega, Lib.hid rfl, by omega, by omega, HM⟩
     case round =>
      clear HM
      obtain ⟨i, S, rfl, rfl, hi, HS, hS0, hS1, HM⟩ := hrel
      by_cases hit : i < U.length
      ·have hit1 : (i : Int) < U.length := by omega
       obtain ⟨l, hl⟩ : ∃ l, H[i]? = some l := ⟨_, List.getElem?_eq_getElem (by omega)⟩
       obtain ⟨b, off, cs, A2, c2, rfl, HB, k1, HL⟩ := HR.out.h.at_ hl
       have hll : l.length = U.length := by
        have := (HK.out i hit).1
        rwa [List.getD_eq_getElem?_getD, hl] at this
       have hjl : (j : Int) < l.length := by omega
       obtain ⟨y, hy⟩ : ∃ y, l[j]? = some y := ⟨_, List.getElem?_eq_getElem (by omega)⟩
       obtain ⟨b3, off3, cs3, rfl, HB3, k3⟩ := HL.out.at_ hy
       have hb := HG.out i j hit hjt
       have ey := Ns.gh_at hl hy
       rw [ey] at hb
       obtain ⟨hy0, hy1⟩ := hb
       have HS2 : Hid (S + y = Ns.zs (i + 1) (fun i => Ns.gh H i j)) := Lib.hid (by rw [HS.out, Ns.zs, ey])
       clear hl hy ey
       go_wp2_with (first | ((with_reducible refine g_ld ?_); refine a_ld HM ?_) | ((with_reducible refine g_bx ?_); refine a_bx HM ?_; clear HM; intro bk w1 HM))
       go_roundw
       case rel => exact ⟨i + 1, S + y, by go_num, by go_num, by omega, HS2, by omega, by omega, HM.pick⟩
       case measure => simp [intOf]; omega
      ·obtain rfl : i = U.length := by omega
       by_cases hS : x < S
       ·obtain rfl : r = 341 := by rw [hr.out]; exact Ns.chk_held HSH.out HK.out hjt (fun h => by rw [← HS.out, HX.out] at h; omega)
        have g4 : x - S < 0 := by omega
        go_wp2_with (first | ((with_reducible refine g_ld ?_); refine a_ld HM ?_) | ((with_reducible refine g_bx ?_); refine a_bx HM ?_; clear HM; intro bk w1 HM))
        go_ret
        exact ⟨rfl, HM.low⟩
       ·have g4 : ¬ x - S < 0 := by omega
        have HC2 : Hid (∀ k, k < j + 1 → Ns.zs U.length (fun i => Ns.gh H i k) ≤ Ns.gu U k) := Lib.hid (fun k hk => by
         by_cases e : k = j
         ·subst e; rw [← HS.out, HX.out]; omega
         ·exact HC.out k (by omega))
        go_wp2_with (first | ((with_reducible refine g_ld ?_); refine a_ld HM ?_) | ((with_reducible refine g_bx ?_); refine a_bx HM ?_; clear HM; intro bk w1 HM))
        go_roundw
        case rel => exact ⟨j + 1, rfl, by go_num, by omega, HC2, HM.pick⟩
        case measure => simp [intOf]; omega
    ·obtain rfl : j = U.length := by omega
     obtain rfl : r = 0 := by rw [hr.out]; exact Ns.chk_ok HSH.out HK.out HC.out
     go_wp2_with (first | ((with_reducible refine g_ld ?_); refine a_ld HM ?_) | ((with_reducible refine g_bx ?_); refine a_bx HM ?_; clear HM; intro bk w1 HM))
     go_ret
     exact ⟨rfl, HM.low⟩
end Go.Proofs.YtckhdiljihhdmaaGreat
namespace Go.Proofs.YtckhdiljihhdmaaGreat
set_option maxRecDepth 8000
open Go.RowKit
theorem Lk.c_one (M : List Lk.H) : ∀ c ∈ M.map Lk.H.c, c.all (·.oneCell') = true := by
 intro c hc
 obtain ⟨m, _, rfl⟩ := List.mem_map.1 hc
 simp [Lk.H.c, Value.oneCell']
structure RdO (w : World) (sv : Value) (l : List Lk.H) : Prop where
 rd : RdS 2 w sv (l.map Lk.H.c)
 sz : ∀ h ∈ l, h.nm.size ≤ 9223372036854775807
theorem RdO.below {w w' : World} {sv : Value} {l : List Lk.H} (h : RdO w sv l) (hb : Below w.heap.size w w') : RdO w' sv l := ⟨RdS.below h.rd hb, h.sz⟩
theorem RdO.form {w : World} {sv : Value} {l : List Lk.H} (h : RdO w sv l) : ∃ A cap, sv = .slice A l.length cap := by
 obtain ⟨A, cap, e⟩ := RdS.form1 h.rd
 rw [List.length_map] at e
 exact ⟨A, cap, e⟩
theorem RdO.at_ {w : World} {A : Option Addr} {n cap : Nat} {l : List Lk.H} (h : RdO w (.slice A n cap) l) {i : Nat} {m : Lk.H} (hm : l[i]? = some m) :
    ∃ b off cs, A = some ⟨b, off, none⟩ ∧ Hid (Rbk w b cs) ∧ LA 54 cs (off + i * 2) (.agg (Lk.H.c m)) ∧ LA 9 cs (off + i * 2) (.string m.nm) ∧ LA 3 cs (off + i * 2 + 1) (.int .i64 m.q) := by
 obtain ⟨b, off, cs, cap', e, hb, hc⟩ := h.rd.get (k := i) (c := Lk.H.c m) (by rw [List.getElem?_map, hm]; rfl)
 injection e with e1 e2 e3
 refine ⟨b, off, cs, e1, Lib.hid hb, la_in (n := 2) (by kernel_rfl) (by kernel_rfl) rfl hc (by decide), LA.one (by kernel_rfl) ?_, LA.one (by kernel_rfl) ?_⟩
 ·have := hc 0 (by decide); rw [Nat.add_zero] at this; rw [this]; rfl
 ·have := hc 1 (by decide); rw [this]; rfl
theorem RdO.nil (w : World) : RdO w (.slice none 0 0) [] := ⟨⟨by simp, none, 0, rfl, Nat.le_refl _, .inl rfl⟩, by simp⟩
theorem Lk.sa (m m' : Lk.H) : SA 54 (Lk.H.c m) 0 (.agg (Lk.H.c m')) (Lk.H.c m') := SA.whole (by kernel_rfl) (Lk.c_one [m'] _ (by simp)) rfl
def Lk.z0 : Lk.H := ⟨{ data := #[] }, 0⟩
theorem Lk.za : ZA 54 (Lk.H.c Lk.z0) := ⟨.agg (Lk.H.c Lk.z0), rfl, fun w => by kernel_rfl⟩
theorem Lk.la0 (m : Lk.H) : LA 9 (Lk.H.c m) 0 (.string m.nm) := LA.one (by kernel_rfl) rfl
theorem Lk.la1 (m : Lk.H) : LA 3 (Lk.H.c m) 1 (.int .i64 m.q) := LA.one (by kernel_rfl) rfl
theorem capital_any (x : Int) (v : Bool) (hv : Hid (v = decide (65 ≤ x ∧ x ≤ 90))) (w : World) :
    Calls Tryz.prog 136 #[.int .u8 x] w fun e w' => e = .returned (.bool v) ∧ w = w' := by
 go_enter Tryz.func136, Tryz.ntmps136
 by_cases h1 : 65 ≤ x
 ·by_cases h2 : x ≤ 90
  ·obtain rfl : v = true := by rw [hv.out]; exact decide_eq_true ⟨h1, h2⟩
   go_wp2
   go_ret
   exact ⟨rfl, rfl⟩
  ·obtain rfl : v = false := by rw [hv.out]; exact decide_eq_false (fun h => h2 h.2)
   go_wp2
   go_ret
   exact ⟨rfl, rfl⟩
 ·obtain rfl : v = false := by rw [hv.out]; exact decide_eq_false (fun h => h1 h.1)
  go_wp2
  go_ret
  exact ⟨rfl, rfl⟩
theorem within_any (x a b : Int) (v : Bool) (hv : Hid (v = decide (a ≤ x ∧ x ≤ b))) (w : World) :
    Calls Tryz.prog 90 #[.int .i64 x, .int .i64 a, .int .i64 b] w fun e w' => e = .returned (.bool v) ∧ w = w' := by
 go_enter Tryz.func90, Tryz.ntmps90
 by_cases h1 : a ≤ x
 ·by_cases h2 : x ≤ b
  ·obtain rfl : v = true := by rw [hv.out]; exact decide_eq_true ⟨h1, h2⟩
   go_wp2
   go_ret
   exact ⟨rfl, rfl⟩
  ·obtain rfl : v = false := by rw [hv.out]; exact decide_eq_false (fun h => h2 h.2)
   go_wp2
   go_ret
   exact ⟨rfl, rfl⟩
 ·obtain rfl : v = false := by rw [hv.out]; exact decide_eq_false (fun h => h1 h.1)
  go_wp2
  go_ret
  exact ⟨rfl, rfl⟩
theorem Lk.byte (c : UInt8) (_k : Nat) : (Lk.capB c = true ∧ 65 ≤ (c.toNat : Int) ∧ (c.toNat : Int) ≤ 90) ∨ (Lk.capB c = false ∧ (c.toNat : Int) < 65 ∨ Lk.capB c = false ∧ ¬ (c.toNat : Int) < 65 ∧ 90 < (c.toNat : Int)) := by
 by_cases h1 : (c.toNat : Int) < 65
 ·exact .inr (.inl ⟨decide_eq_false (by omega), h1⟩)
 by_cases h2 : (c.toNat : Int) ≤ 90
 ·exact .inl ⟨decide_eq_true (by omega), by omega, h2⟩
 ·exact .inr (.inr ⟨decide_eq_false (by omega), h1, by omega⟩)
set_option maxHeartbeats 1000000 in
theorem capitals_any (s : ByteArray) (hs : s.size ≤ 9223372036854775807) (v : Bool) (hv : Hid (v = Lk.paper s)) (w : World) :
    Calls Tryz.prog 131 #[.string s, .int .i64 1, .int .i64 12, .bool true] w fun e w' => e = .returned (.bool v) ∧ w = w' := by
 go_enter Tryz.func131, Tryz.ntmps131
 go_wp2
 go_loop [8, 12] (fun rv t => ∃ k : Nat, rv = .bool false ∧ k ≤ s.size ∧ t = .int .i64 k ∧ Hid (∀ j, (h : j < s.size) → j < k → Lk.capB s[j] = true ∨ (j ≠ 0 ∧ Lk.digB s[j] = true))) (fun _ t => s.size - (intOf t).toNat)
 case atStart => exact ⟨0, rfl, by omega, rfl, Lib.hid (fun j _ h => by omega)⟩
 case round =>
  obtain ⟨k, rfl, hk, rfl, HO⟩ := hrel
  by_cases hlt : k < s.size
  ·have next : Lk.capB s[k] = true ∨ (k ≠ 0 ∧ Lk.digB s[k] = true) → Hid (∀ j, (h : j < s.size) → j < k + 1 → Lk.capB s[j] = true ∨ (j ≠ 0 ∧ Lk.digB s[j] = true)) := fun hn => Lib.hid (fun j h hj => by
     by_cases e : j = k
     ·subst e; exact hn
     ·exact HO.out j h (by omega))
   rcases Lk.byte s[k] k with ⟨hc, h1, h2⟩ | hc
   ·have HN := next (.inl hc)
    clear next hc
    go_wp2
    go_round
    case rel => exact ⟨k + 1, rfl, by omega, by go_num, HN⟩
    case measure => simp [intOf]; omega
   ·by_cases h0 : k = 0
    ·have hb : ((k : Int) == 0) = true := by subst h0; rfl
     obtain rfl : v = false := by rw [hv.out]; exact Lk.paper_noat hlt (by rcases hc with h | h <;> exact h.1) (.inl h0)
     clear next h0
     rcases hc with ⟨hc, h1⟩ | ⟨hc, h1, h2⟩
     all_goals
      clear hc
      go_wp2
      go_ret
      exact ⟨rfl, rfl⟩
    ·have hb : ((k : Int) == 0) = false := beq_eq_false_iff_ne.2 (by omega)
     by_cases hd : Lk.digB s[k] = true
     ·have HN := next (.inr ⟨h0, hd⟩)
      have hd2 := of_decide_eq_true hd
      obtain ⟨d1, d2⟩ := hd2
      have h1 : (s[k].toNat : Int) < 65 := by omega
      clear next hc hd h0
      go_wp2
      go_round
      case rel => exact ⟨k + 1, rfl, by omega, by go_num, HN⟩
      case measure => simp [intOf]; omega
     ·have hd2 : Lk.digB s[k] = false := by simpa using hd
      obtain rfl : v = false := by rw [hv.out]; exact Lk.paper_noat hlt (by rcases hc with h | h <;> exact h.1) (.inr hd2)
      have hd3 := of_decide_eq_false hd2
      have hd4 : (s[k].toNat : Int) < 48 ∨ ¬ (s[k].toNat : Int) < 48 ∧ 57 < (s[k].toNat : Int) := by omega
      clear next hd hd2 hd3 h0
      rcases hc with ⟨hc, h1⟩ | ⟨hc, h1, h2⟩ <;> rcases hd4 with d1 | ⟨d1, d2⟩
      all_goals
       clear hc
       go_wp2
       go_ret
       exact ⟨rfl, rfl⟩
  ·obtain rfl : k = s.size := by omega
   by_cases h1 : (1 : Int) ≤ s.size
   ·by_cases h2 : (s.size : Int) ≤ 12
    ·obtain rfl : v = true := by rw [hv.out]; exact Lk.paper_yes (by omega) (by omega) (fun j h => HO.out j h h)
     go_wp2
     go_ret
     exact ⟨rfl, rfl⟩
    ·obtain rfl : v = false := by rw [hv.out]; exact Lk.paper_no12 (by omega)
     go_wp2
     go_ret
     exact ⟨rfl, rfl⟩
   ·obtain rfl : v = false := by rw [hv.out]; exact Lk.paper_no0 (by omega)
    go_wp2
    go_ret
    exact ⟨rfl, rfl⟩
theorem instrument_any (s : ByteArray) (hs : s.size ≤ 9223372036854775807) (v : Bool) (hv : Hid (v = Lk.paper s)) (w : World) :
    Calls Tryz.prog 89 #[.string s] w fun e w' => e = .returned (.bool v) ∧ w = w' := by
 go_enter Tryz.func89, Tryz.ntmps89
 go_wp2_with (go_at_call 131; refine (capitals_any s hs v hv _).mono ?_; rintro e w' ⟨rfl, rfl⟩)
 go_ret
 exact ⟨rfl, rfl⟩
set_option maxHeartbeats 1000000 in
theorem rPaper_any (s : ByteArray) (hs : s.size ≤ 9223372036854775807) (v : Bool) (hv : Hid (v = Lk.paper s)) (w : World) :
    Calls Tryz.prog 95 #[.string s] w fun e w' => e = .returned (.bool v) ∧ w = w' := by
 by_cases h1 : (s.size : Int) < 1
 ·obtain rfl : v = false := by rw [hv.out]; exact Lk.paper_no0 (by omega)
  go_enter Tryz.func95, Tryz.ntmps95
  go_wp2
  go_ret
  exact ⟨rfl, rfl⟩
 by_cases h2 : 12 < (s.size : Int)
 ·obtain rfl : v = false := by rw [hv.out]; exact Lk.paper_no12 (by omega)
  go_enter Tryz.func95, Tryz.ntmps95
  go_wp2
  go_ret
  exact ⟨rfl, rfl⟩
 have h0 : 0 < s.size := by omega
 by_cases hc : Lk.capB s[0] = true
 case neg =>
  have hc2 : Lk.capB s[0] = false := by simpa using hc
  obtain rfl : v = false := by rw [hv.out]; exact Lk.paper_noat h0 hc2 (.inl rfl)
  have hv0 : Hid (false = decide (65 ≤ (s[0].toNat : Int) ∧ (s[0].toNat : Int) ≤ 90)) := Lib.hid hc2.symm
  clear hc hc2
  go_enter Tryz.func95, Tryz.ntmps95
  go_wp2_with (go_at_call 136; refine (capital_any _ false hv0 _).mono ?_; rintro e w' ⟨rfl, rfl⟩)
  go_ret
  exact ⟨rfl, rfl⟩
 case pos =>
 have hv0 : Hid (true = decide (65 ≤ (s[0].toNat : Int) ∧ (s[0].toNat : Int) ≤ 90)) := Lib.hid hc.symm
 have HC0 := Lib.hid hc
 clear hc
 go_enter Tryz.func95, Tryz.ntmps95
 go_wp2_with (go_at_call 136; refine (capital_any _ true hv0 _).mono ?_; rintro e w' ⟨rfl, rfl⟩)
 go_loop [2, 3] (fun rv t => ∃ k : Nat, rv = .bool false ∧ k ≤ s.size ∧ t = .int .i64 k ∧ Hid (∀ j, (h : j < s.size) → j < k → Lk.capB s[j] = true ∨ (j ≠ 0 ∧ Lk.digB s[j] = true))) (fun _ t => s.size - (intOf t).toNat)
 case atStart => exact ⟨0, rfl, by omega, rfl, Lib.hid (fun j _ h => by omega)⟩
 case round =>
  obtain ⟨k, rfl, hk, rfl, HO⟩ := hrel
  by_cases hlt : k < s.size
  ·have next : Lk.capB s[k] = true ∨ (k ≠ 0 ∧ Lk.digB s[k] = true) → Hid (∀ j, (h : j < s.size) → j < k + 1 → Lk.capB s[j] = true ∨ (j ≠ 0 ∧ Lk.digB s[j] = true)) := fun hn => Lib.hid (fun j h hj => by
     by_cases e : j = k
     ·subst e; exact hn
     ·exact HO.out j h (by omega))
   by_cases hc : Lk.capB s[k] = true
   ·have HN := next (.inl hc)
    have hv1 : Hid (true = decide (65 ≤ (s[k].toNat : Int) ∧ (s[k].toNat : Int) ≤ 90)) := Lib.hid hc.symm
    clear next hc
    go_wp2_with (go_at_call 136; refine (capital_any _ true hv1 _).mono ?_; rintro e w' ⟨rfl, rfl⟩)
    go_round
    case rel => exact ⟨k + 1, rfl, by omega, by go_num, HN⟩
    case measure => simp [intOf]; omega
   ·have hc2 : Lk.capB s[k] = false := by simpa using hc
    have hv1 : Hid (false = decide (65 ≤ (s[k].toNat : Int) ∧ (s[k].toNat : Int) ≤ 90)) := Lib.hid hc2.symm
    have hk0 : k ≠ 0 := by
     rintro rfl
     exact hc HC0.out
    by_cases hd : Lk.digB s[k] = true
    ·have HN := next (.inr ⟨hk0, hd⟩)
     have hd2 := of_decide_eq_true hd
     obtain ⟨d1, d2⟩ := hd2
     clear next hc hc2 hd hk0
     go_wp2_with (go_at_call 136; refine (capital_any _ false hv1 _).mono ?_; rintro e w' ⟨rfl, rfl⟩)
     go_round
     case rel => exact ⟨k + 1, rfl, by omega, by go_num, HN⟩
     case measure => simp [intOf]; omega
    ·have hd2 : Lk.digB s[k] = false := by simpa using hd
     obtain rfl : v = false := by rw [hv.out]; exact Lk.paper_noat hlt hc2 (.inr hd2)
     have hd3 := of_decide_eq_false hd2
     have hd4 : (s[k].toNat : Int) < 48 ∨ ¬ (s[k].toNat : Int) < 48 ∧ 57 < (s[k].toNat : Int) := by omega
     clear next hd hd2 hd3 hc hc2 hk0
     rcases hd4 with d1 | ⟨d1, d2⟩
     all_goals
      go_wp2_with (go_at_call 136; refine (capital_any _ false hv1 _).mono ?_; rintro e w' ⟨rfl, rfl⟩)
      go_ret
      exact ⟨rfl, rfl⟩
  ·obtain rfl : k = s.size := by omega
   obtain rfl : v = true := by rw [hv.out]; exact Lk.paper_yes (by omega) (by omega) (fun j h => HO.out j h h)
   go_wp2
   go_ret
   exact ⟨rfl, rfl⟩
end Go.Proofs.YtckhdiljihhdmaaGreat
namespace Go.Proofs.YtckhdiljihhdmaaGreat
set_option maxRecDepth 8000
open Go.RowKit
theorem la_p0 (a b c : Value) : LA 27 #[a, b, c] 0 a := LA.one (by kernel_rfl) rfl
theorem la_p1 (a b c : Value) : LA 107 #[a, b, c] 1 b := LA.one (by kernel_rfl) rfl
theorem la_p2 (a b c : Value) : LA 107 #[a, b, c] 2 c := LA.one (by kernel_rfl) rfl
set_option maxHeartbeats 1000000 in
theorem indexB_nil (w : World) :
    Calls Tryz.prog 135 #[.slice none 0 0, .func (.func 94) #[] #[]] w fun e w' => e = .returned (.int .i64 (-1)) ∧ w = w' := by
 go_enter Tryz.func135, Tryz.ntmps135
 go_wp2
 go_loop [8] (fun t => t = .int .i64 0) (fun _ => 0)
 case atStart => exact rfl
 case round =>
  subst hrel
  go_wp2
  go_ret
  exact ⟨rfl, rfl⟩
theorem containsB_nil (w : World) :
    Calls Tryz.prog 93 #[.slice none 0 0, .func (.func 94) #[] #[]] w fun e w' => e = .returned (.bool false) ∧ w = w' := by
 go_enter Tryz.func93, Tryz.ntmps93
 go_wp2_with (go_at_call 135; refine (indexB_nil _).mono ?_; rintro e w' ⟨rfl, rfl⟩)
 go_ret
 exact ⟨rfl, rfl⟩
theorem bal_nil (w : World) :
    Calls Tryz.prog 96 #[.slice none 0 0] w fun e w' => e = .returned (.bool true) ∧ w = w' := by
 go_enter Tryz.func96, Tryz.ntmps96
 go_wp2
 go_loop [3] (fun t => t = .int .i64 0) (fun _ => 0)
 case atStart => exact rfl
 case round =>
  subst hrel
  go_wp2
  go_ret
  exact ⟨rfl, rfl⟩
theorem Lk.leq_t {a b : List UInt8} (h : Lk.lt b a = false) : (Op.bytesLess a b || a == b) = true := by
 by_cases e : a = b
 ·subst e; simp
 ·rw [show Op.bytesLess a b = true from Lk.lt_tri h e]; rfl
theorem Lk.leq_f {a b : List UInt8} (h : Lk.lt b a = true) : (Op.bytesLess a b || a == b) = false := by
 have h1 : Op.bytesLess a b = false := Lk.lt_asymm h
 have h2 : (a == b) = false := beq_eq_false_iff_ne.2 (fun e => by
  subst e
  rw [show Lk.lt a a = false from Lk.lt_irrefl a] at h
  cases h)
 rw [h1, h2]; rfl
theorem toList_nil : ({ data := #[] } : ByteArray).toList = [] := by rw [ByteArray.toList_eq]
set_option maxHeartbeats 4000000 in
theorem pvalid_any (sv : Value) (l : List Lk.H) (w : World) (hR : RdO w sv l) (r : Bool) (hr : Hid (r = Lk.val l)) :
    Calls Tryz.prog 66 #[.agg #[sv, .slice none 0 0, .slice none 0 0]] w fun e w' => e = .returned (.bool r) ∧ Below w.heap.size w w' := by
 have HM := Mem.start w
 have HR := Lib.hid hR
 obtain ⟨A, cap, rfl⟩ := hR.form
 clear hR
 have p0 := la_p0 (.slice A l.length cap) (.slice none 0 0) (.slice none 0 0)
 have p1 := la_p1 (.slice A l.length cap) (.slice none 0 0) (.slice none 0 0)
 have p2 := la_p2 (.slice A l.length cap) (.slice none 0 0) (.slice none 0 0)
 have z0 := Lk.za
 have eb : elemB 143 107 1 24 = true := by kernel_rfl
 go_enter Tryz.func66, Tryz.ntmps66
 by_cases hn : 64 < l.length
 ·have g1 : (64 : Int) < l.length := by omega
  obtain rfl : r = false := by rw [hr.out]; exact Lk.val_long hn
  clear hr
  go_wp2_with (first | ((with_reducible refine g_ld ?_); refine a_ld HM ?_) | ((with_reducible refine g_st ?_); refine a_st HM ?_; clear HM; intro w1 HM) | ((with_reducible refine g_al ?_); refine a_al HM ?_; clear HM; intro bk w1 HM) | ((with_reducible refine g_bx ?_); refine a_bx HM ?_; clear HM; intro bk w1 HM) | ((with_reducible refine g_bld ?_); refine a_bld ?_))
  go_ret
  exact ⟨rfl, HM.low⟩
 have g1 : ¬ (64 : Int) < l.length := by omega
 replace hr : Hid (r = Lk.vfrom (Lk.lastOf l 0) (l.drop 0)) := Lib.hid (by rw [hr.out]; exact Lk.val_short (by omega))
 go_wp2_with (first | ((with_reducible refine g_ld ?_); refine a_ld HM ?_) | ((with_reducible refine g_st ?_); refine a_st HM ?_; clear HM; intro w1 HM) | ((with_reducible refine g_al ?_); refine a_al HM ?_; clear HM; intro bk w1 HM) | ((with_reducible refine g_bx ?_); refine a_bx HM ?_; clear HM; intro bk w1 HM) | ((with_reducible refine g_bld ?_); refine a_bld ?_))
 obtain ⟨bn, rfl⟩ := HM.nm0
 go_loopw [2, 3, 23] (fun rv tv iv wr => ∃ (i : Nat) (s : ByteArray), rv = .bool false ∧ tv = .string s ∧ iv = .int .i64 (i : Nat) ∧ i ≤ l.length ∧ Hid (s.toList = Lk.lastOf l i) ∧ Hid (r = Lk.vfrom (Lk.lastOf l i) (l.drop i)) ∧ Mem w [] [(bn, #[.slice A l.length cap, .slice none 0 0, .slice none 0 0])] wr) (fun _ _ iv _ => l.length - (intOf iv).toNat)
 case atStart => exact ⟨0, _, rfl, rfl, rfl, by omega, Lib.hid toList_nil, hr, HM⟩
 case round =>
  clear HM hr
  obtain ⟨i, s, rfl, rfl, rfl, hi, HS, HV, HM⟩ := hrel
  by_cases hlt : i < l.length
  ·have hlt1 : (i : Int) < l.length := by omega
   obtain ⟨h, hh⟩ : ∃ h, l[i]? = some h := ⟨_, List.getElem?_eq_getElem hlt⟩
   obtain ⟨b, off, cs, rfl, HB, k0, k1, k2⟩ := HR.out.at_ hh
   have hsz := HR.out.sz h (List.mem_of_getElem? hh)
   have HV1 : Hid (r = (Lk.paper h.nm && Lk.lt (Lk.lastOf l i) h.nm.toList && Lk.inr h.q && Lk.vfrom (Lk.lastOf l (i + 1)) (l.drop (i + 1)))) := Lib.hid (by rw [HV.out]; exact Lk.vfrom_drop hh)
   have HL := Lib.hid (Lk.lastOf_succ hh)
   have s0 := Lk.sa Lk.z0 h
   have l0 := Lk.la0 h
   have l1 := Lk.la1 h
   clear HV hh k1 k2
   by_cases hp : Lk.paper h.nm = true
   case neg =>
    have hp1 : Lk.paper h.nm = false := by simpa using hp
    obtain rfl : r = false := by rw [HV1.out, hp1]; rfl
    have hI := Lib.hid hp1.symm
    clear hp hp1 HV1
    go_wp2_with (first | (go_at_call 89; refine (instrument_any h.nm hsz false hI _).mono ?_; rintro e w' ⟨rfl, rfl⟩) | (first | ((with_reducible refine g_ld ?_); refine a_ld HM ?_) | ((with_reducible refine g_st ?_); refine a_st HM ?_; clear HM; intro w1 HM) | ((with_reducible refine g_al ?_); refine a_al HM ?_; clear HM; intro bk w1 HM) | ((with_reducible refine g_bx ?_); refine a_bx HM ?_; clear HM; intro bk w1 HM) | ((with_reducible refine g_bld ?_); refine a_bld ?_)))
    go_ret
    exact ⟨rfl, HM.low⟩
   have hI := Lib.hid hp.symm
   rw [hp] at HV1
   clear hp
   by_cases ho : Lk.lt (Lk.lastOf l i) h.nm.toList = true
   case neg =>
    have ho1 : Lk.lt (Lk.lastOf l i) h.nm.toList = false := by simpa using ho
    obtain rfl : r = false := by rw [HV1.out, ho1]; rfl
    rw [← HS.out] at ho1
    have ho2 := Lk.leq_t ho1
    clear ho ho1 HV1
    go_wp2_with (first | (go_at_call 89; refine (instrument_any h.nm hsz true hI _).mono ?_; rintro e w' ⟨rfl, rfl⟩) | (first | ((with_reducible refine g_ld ?_); refine a_ld HM ?_) | ((with_reducible refine g_st ?_); refine a_st HM ?_; clear HM; intro w1 HM) | ((with_reducible refine g_al ?_); refine a_al HM ?_; clear HM; intro bk w1 HM) | ((with_reducible refine g_bx ?_); refine a_bx HM ?_; clear HM; intro bk w1 HM) | ((with_reducible refine g_bld ?_); refine a_bld ?_)))
    go_ret
    exact ⟨rfl, HM.low⟩
   rw [ho] at HV1
   rw [← HS.out] at ho
   have ho2 := Lk.leq_f ho
   clear ho
   by_cases hq : Lk.inr h.q = true
   case neg =>
    have hq1 : Lk.inr h.q = false := by simpa using hq
    obtain rfl : r = false := by rw [HV1.out, hq1]; rfl
    have hW := Lib.hid hq1.symm
    clear hq hq1 HV1
    go_wp2_with (first | (go_at_call 89; refine (instrument_any h.nm hsz true hI _).mono ?_; rintro e w' ⟨rfl, rfl⟩) | (go_at_call 90; refine (within_any h.q 1 1000000000000000 false hW _).mono ?_; rintro e w' ⟨rfl, rfl⟩) | (first | ((with_reducible refine g_ld ?_); refine a_ld HM ?_) | ((with_reducible refine g_st ?_); refine a_st HM ?_; clear HM; intro w1 HM) | ((with_reducible refine g_al ?_); refine a_al HM ?_; clear HM; intro bk w1 HM) | ((with_reducible refine g_bx ?_); refine a_bx HM ?_; clear HM; intro bk w1 HM) | ((with_reducible refine g_bld ?_); refine a_bld ?_)))
    go_ret
    exact ⟨rfl, HM.low⟩
   have hW := Lib.hid hq.symm
   have HV2 : Hid (r = Lk.vfrom (Lk.lastOf l (i + 1)) (l.drop (i + 1))) := Lib.hid (by rw [HV1.out, hq]; rfl)
   have HS2 : Hid (h.nm.toList = Lk.lastOf l (i + 1)) := Lib.hid HL.out.symm
   clear hq HV1
   go_wp2_with (first | (go_at_call 89; refine (instrument_any h.nm hsz true hI _).mono ?_; rintro e w' ⟨rfl, rfl⟩) | (go_at_call 90; refine (within_any h.q 1 1000000000000000 true hW _).mono ?_; rintro e w' ⟨rfl, rfl⟩) | (first | ((with_reducible refine g_ld ?_); refine a_ld HM ?_) | ((with_reducible refine g_st ?_); refine a_st HM ?_; clear HM; intro w1 HM) | ((with_reducible refine g_al ?_); refine a_al HM ?_; clear HM; intro bk w1 HM) | ((with_reducible refine g_bx ?_); refine a_bx HM ?_; clear HM; intro bk w1 HM) | ((with_reducible refine g_bld ?_); refine a_bld ?_)))
   go_roundw
   case rel => exact ⟨i + 1, h.nm, rfl, rfl, by go_num, by omega, HS2, HV2, HM.pick⟩
   case measure => simp [intOf]; omega
  ·obtain rfl : i = l.length := by omega
   obtain rfl : r = true := by rw [HV.out, List.drop_length]; rfl
   clear HV HS
   go_wp2_with (first | ((with_reducible refine g_bs2 ?_); refine a_bs2 HM ?_; clear HM; intro bx w1 HM) | (first | ((with_reducible refine g_ld ?_); refine a_ld HM ?_) | ((with_reducible refine g_st ?_); refine a_st HM ?_; clear HM; intro w1 HM) | ((with_reducible refine g_al ?_); refine a_al HM ?_; clear HM; intro bk w1 HM) | ((with_reducible refine g_bx ?_); refine a_bx HM ?_; clear HM; intro bk w1 HM) | ((with_reducible refine g_bld ?_); refine a_bld ?_)))
   obtain ⟨bl, rfl⟩ := HM.nm0
   have q0 : LA 107 (rowsOf [#[.slice none 0 0], #[.slice none 0 0]]) 0 (.slice none 0 0) := LA.one (by kernel_rfl) rfl
   have q1 : LA 107 (rowsOf [#[.slice none 0 0], #[.slice none 0 0]]) 1 (.slice none 0 0) := LA.one (by kernel_rfl) rfl
   go_loopw [2, 52] (fun rv iv wr => ∃ j : Nat, rv = .bool false ∧ iv = .int .i64 (j : Nat) ∧ j ≤ 2 ∧ Mem w [] [(bl, rowsOf [#[.slice none 0 0], #[.slice none 0 0]]), (bn, #[.slice A l.length cap, .slice none 0 0, .slice none 0 0])] wr) (fun _ iv _ => 2 - (intOf iv).toNat)
   case atStart => exact ⟨0, rfl, rfl, by omega, HM.pick⟩
   case round =>
    clear HM
    obtain ⟨j, rfl, rfl, hj, HM⟩ := hrel
    by_cases hj2 : j < 2
    ·have hjs : j = 0 ∨ j = 1 := by omega
     have hlt : (j : Int) < 2 := by omega
     have qj : LA 107 (rowsOf [#[.slice none 0 0], #[.slice none 0 0]]) j (.slice none 0 0) := by rcases hjs with rfl | rfl <;> assumption
     clear hjs
     go_wp2_with (first | ((with_reducible refine g_ld ?_); refine a_ld HM ?_) | ((with_reducible refine g_st ?_); refine a_st HM ?_; clear HM; intro w1 HM) | ((with_reducible refine g_al ?_); refine a_al HM ?_; clear HM; intro bk w1 HM) | ((with_reducible refine g_bx ?_); refine a_bx HM ?_; clear HM; intro bk w1 HM) | ((with_reducible refine g_bld ?_); refine a_bld ?_))
     go_loopw [2, 58] (fun rv iv wr => rv = .bool false ∧ iv = .int .i64 0 ∧ Mem w [] [(bl, rowsOf [#[.slice none 0 0], #[.slice none 0 0]]), (bn, #[.slice A l.length cap, .slice none 0 0, .slice none 0 0])] wr) (fun _ _ _ => 0)
     case atStart => exact ⟨rfl, rfl, HM.pick⟩
     case round =>
      clear HM
      obtain ⟨rfl, rfl, HM⟩ := hrel
      go_wp2_with (first | ((with_reducible refine g_ld ?_); refine a_ld HM ?_) | ((with_reducible refine g_st ?_); refine a_st HM ?_; clear HM; intro w1 HM) | ((with_reducible refine g_al ?_); refine a_al HM ?_; clear HM; intro bk w1 HM) | ((with_reducible refine g_bx ?_); refine a_bx HM ?_; clear HM; intro bk w1 HM) | ((with_reducible refine g_bld ?_); refine a_bld ?_))
      go_roundw
      case rel => exact ⟨j + 1, rfl, by go_num, by omega, HM.pick⟩
      case measure => simp [intOf]; omega
    ·obtain rfl : j = 2 := by omega
     go_wp2_with (first | (go_at_call 93; refine (containsB_nil _).mono ?_; rintro e w' ⟨rfl, rfl⟩) | (first | ((with_reducible refine g_ld ?_); refine a_ld HM ?_) | ((with_reducible refine g_st ?_); refine a_st HM ?_; clear HM; intro w1 HM) | ((with_reducible refine g_al ?_); refine a_al HM ?_; clear HM; intro bk w1 HM) | ((with_reducible refine g_bx ?_); refine a_bx HM ?_; clear HM; intro bk w1 HM) | ((with_reducible refine g_bld ?_); refine a_bld ?_)))
     go_ret
     exact ⟨rfl, HM.low⟩
end Go.Proofs.YtckhdiljihhdmaaGreat
namespace Go.Proofs.YtckhdiljihhdmaaGreat
set_option maxRecDepth 8000
open Go.RowKit
theorem Ns.zs_mono {f : Nat → Int} {n m : Nat} (h : ∀ i, i < n → 0 ≤ f i) (hm : m ≤ n) : Ns.zs m f ≤ Ns.zs n f := by
 induction n with
 | zero => obtain rfl : m = 0 := by omega
           exact Int.le_refl _
 | succ n ih =>
  by_cases e : m = n + 1
  ·subst e; exact Int.le_refl _
  ·have h1 := ih (fun i hi => h i (by omega)) (by omega)
   have h2 := h n (by omega)
   rw [Ns.zs]; omega
set_option maxHeartbeats 4000000 in
theorem rncheck_any (us hs : Value) (U : List Int) (H : List (List Int)) (w : World) (hR : RdN w us hs U H) (r : Int) (hr : Hid (r = Ns.chk U H)) :
    Calls Tryz.prog 38 #[.agg #[us, hs]] w fun e w' => e = .returned (.int .i64 r) ∧ Below w.heap.size w w' := by
 have HM := Mem.start w
 have HR := Lib.hid hR
 obtain ⟨Au, cu, rfl⟩ := hR.u.form
 obtain ⟨Ah, ch, rfl⟩ := hR.h.form
 clear hR
 go_enter Tryz.func38, Tryz.ntmps38
 by_cases hn8 : 8 < U.length
 ·have g1 : (8 : Int) < U.length := by omega
  obtain rfl : r = 340 := by rw [hr.out]; exact Ns.chk_shape (fun h => by have := h.1; omega)
  clear hr
  go_wp2_with (first | ((with_reducible refine g_ld ?_); refine a_ld HM ?_) | ((with_reducible refine g_bx ?_); refine a_bx HM ?_; clear HM; intro bk w1 HM))
  go_ret
  exact ⟨rfl, HM.low⟩
 have g1 : ¬ (8 : Int) < U.length := by omega
 by_cases hhl : H.length = U.length
 case neg =>
  have g2 : ¬ (H.length : Int) = U.length := by omega
  obtain rfl : r = 340 := by rw [hr.out]; exact Ns.chk_shape (fun h => hhl h.2)
  clear hr
  go_wp2_with (first | ((with_reducible refine g_ld ?_); refine a_ld HM ?_) | ((with_reducible refine g_bx ?_); refine a_bx HM ?_; clear HM; intro bk w1 HM))
  go_ret
  exact ⟨rfl, HM.low⟩
 case pos =>
 have g2 : (H.length : Int) = U.length := by omega
 go_wp2_with (first | ((with_reducible refine g_ld ?_); refine a_ld HM ?_) | ((with_reducible refine g_bx ?_); refine a_bx HM ?_; clear HM; intro bk w1 HM))
 obtain ⟨bn, rfl⟩ := HM.nm0
 have hsh : Ns.shape U H := ⟨by omega, hhl⟩
 have HSH := Lib.hid hsh
 clear hsh
 go_loopw [2, 4] (fun rv iv wr => ∃ i : Nat, rv = .int .i64 0 ∧ iv = .int .i64 (i : Nat) ∧ i ≤ U.length ∧ Hid (∀ k, k < i → Ns.rowok U H k) ∧ Mem w [] [(bn, #[.slice Au U.length cu, .slice Ah H.length ch])] wr) (fun _ iv _ => U.length - (intOf iv).toNat)
 case atStart => exact ⟨0, rfl, rfl, by omega, Lib.hid (fun k hk => absurd hk (by omega)), HM⟩
 case round =>
  clear HM
  obtain ⟨i, rfl, rfl, hi, HK, HM⟩ := hrel
  by_cases hlt : i < U.length
  ·have hlt1 : (i : Int) < U.length := by omega
   obtain ⟨l, hl⟩ : ∃ l, H[i]? = some l := ⟨_, List.getElem?_eq_getElem (by omega)⟩
   obtain ⟨x, hx⟩ : ∃ x, U[i]? = some x := ⟨_, List.getElem?_eq_getElem hlt⟩
   have ex := Ns.gu_at hx
   obtain ⟨b, off, cs, A2, c2, rfl, HB, k1, HL⟩ := HR.out.h.at_ hl
   obtain ⟨b', off', cs', rfl, HB', k2⟩ := HR.out.u.at_ hx
   have hD : H.getD i [] = l := by rw [List.getD_eq_getElem?_getD, hl]; rfl
   by_cases hll : l.length = U.length
   case neg =>
    have g3 : ¬ (l.length : Int) = U.length := by omega
    obtain rfl : r = 340 := by rw [hr.out]; exact Ns.chk_row hlt (fun h => hll (hD ▸ h.1))
    clear hr hl hx ex hD
    go_wp2_with (first | ((with_reducible refine g_ld ?_); refine a_ld HM ?_) | ((with_reducible refine g_bx ?_); refine a_bx HM ?_; clear HM; intro bk w1 HM))
    go_ret
    exact ⟨rfl, HM.low⟩
   case pos =>
   have g3 : (l.length : Int) = U.length := by omega
   by_cases hx0 : x < 0
   ·obtain rfl : r = 340 := by rw [hr.out]; exact Ns.chk_row hlt (fun h => by have := h.2.1; omega)
    clear hr hl hx ex hD
    go_wp2_with (first | ((with_reducible refine g_ld ?_); refine a_ld HM ?_) | ((with_reducible refine g_bx ?_); refine a_bx HM ?_; clear HM; intro bk w1 HM))
    go_ret
    exact ⟨rfl, HM.low⟩
   by_cases hx1 : 1000000000000000 < x
   ·obtain rfl : r = 340 := by rw [hr.out]; exact Ns.chk_row hlt (fun h => by have := h.2.2.1; omega)
    clear hr hl hx ex hD
    go_wp2_with (first | ((with_reducible refine g_ld ?_); refine a_ld HM ?_) | ((with_reducible refine g_bx ?_); refine a_bx HM ?_; clear HM; intro bk w1 HM))
    go_ret
    exact ⟨rfl, HM.low⟩
   have HX := Lib.hid (show Ns.gu U i = x from ex)
   have HD := Lib.hid hD
   have HHL := Lib.hid hl
   clear hx ex hl hD
   go_wp2_with (first | ((with_reducible refine g_ld ?_); refine a_ld HM ?_) | ((with_reducible refine g_bx ?_); refine a_bx HM ?_; clear HM; intro bk w1 HM))
   go_loopw [2, 5] (fun rv iv wr => ∃ j : Nat, rv = .int .i64 0 ∧ iv = .int .i64 (j : Nat) ∧ j ≤ U.length ∧ Hid (∀ k, k < j → 0 ≤ Ns.gh H i k ∧ Ns.gh H i k ≤ 1000000000000000) ∧ Mem w [] [(bn, #[.slice (some ⟨b', off', none⟩) U.length cu, .slice (some ⟨b, off, none⟩) H.length ch])] wr) (fun _ iv _ => U.length - (intOf iv).toNat)
   case atStart => exact ⟨0, rfl, rfl, by omega, Lib.hid (fun k hk => absurd hk (by omega)), HM⟩
   case round =>
    clear HM
    obtain ⟨j, rfl, rfl, hj, HJ, HM⟩ := hrel
    by_cases hjt : j < U.length
    ·have hjt1 : (j : Int) < U.length := by omega
     obtain ⟨y, hy⟩ : ∃ y, l[j]? = some y := ⟨_, List.getElem?_eq_getElem (by omega)⟩
     have ey := Ns.gh_at HHL.out hy
     obtain ⟨b3, off3, cs3, rfl, HB3, k3⟩ := HL.out.at_ hy
     clear hy
     by_cases hy0 : y < 0
     ·obtain rfl : r = 340 := by rw [hr.out]; exact Ns.chk_row hlt (fun h => by have := (h.2.2.2 j hjt).1; omega)
      clear hr ey
      go_wp2_with (first | ((with_reducible refine g_ld ?_); refine a_ld HM ?_) | ((with_reducible refine g_bx ?_); refine a_bx HM ?_; clear HM; intro bk w1 HM))
      go_ret
      exact ⟨rfl, HM.low⟩
     by_cases hy1 : 1000000000000000 < y
     ·obtain rfl : r = 340 := by rw [hr.out]; exact Ns.chk_row hlt (fun h => by have := (h.2.2.2 j hjt).2; omega)
      clear hr ey
      go_wp2_with (first | ((with_reducible refine g_ld ?_); refine a_ld HM ?_) | ((with_reducible refine g_bx ?_); refine a_bx HM ?_; clear HM; intro bk w1 HM))
      go_ret
      exact ⟨rfl, HM.low⟩
     have HJ2 : Hid (∀ k, k < j + 1 → 0 ≤ Ns.gh H i k ∧ Ns.gh H i k ≤ 1000000000000000) := Lib.hid (fun k hk => by
      by_cases e : k = j
      ·subst e; rw [ey]; omega
      ·exact HJ.out k (by omega))
     clear ey
     go_wp2_with (first | ((with_reducible refine g_ld ?_); refine a_ld HM ?_) | ((with_reducible refine g_bx ?_); refine a_bx HM ?_; clear HM; intro bk w1 HM))
     go_roundw
     case rel => exact ⟨j + 1, rfl, by go_num, by omega, HJ2, HM.pick⟩
     case measure => simp [intOf]; omega
    ·obtain rfl : j = U.length := by omega
     have HK2 : Hid (∀ k, k < i + 1 → Ns.rowok U H k) := Lib.hid (fun k hk => by
      by_cases e : k = i
      ·subst e; exact ⟨by rw [HD.out]; exact hll, by rw [HX.out]; omega, by rw [HX.out]; omega, HJ.out⟩
      ·exact HK.out k (by omega))
     go_wp2_with (first | ((with_reducible refine g_ld ?_); refine a_ld HM ?_) | ((with_reducible refine g_bx ?_); refine a_bx HM ?_; clear HM; intro bk w1 HM))
     go_roundw
     case rel => exact ⟨i + 1, rfl, by go_num, by omega, HK2, HM.pick⟩
     case measure => simp [intOf]; omega
  ·obtain rfl : i = U.length := by omega
   have hGr : ∀ i j, i < U.length → j < U.length → 0 ≤ Ns.gh H i j ∧ Ns.gh H i j ≤ 1000000000000000 := fun i j hi hj => (HK.out i hi).2.2.2 j hj
   have HG := Lib.hid hGr
   clear hGr
   go_wp2_with (first | ((with_reducible refine g_ld ?_); refine a_ld HM ?_) | ((with_reducible refine g_bx ?_); refine a_bx HM ?_; clear HM; intro bk w1 HM))
   go_loopw [2, 6] (fun rv jv wr => ∃ j : Nat, rv = .int .i64 0 ∧ jv = .int .i64 (j : Nat) ∧ j ≤ U.length ∧ Hid (∀ k, k < j → Ns.zs U.length (fun i => Ns.gh H i k) ≤ Ns.gu U k) ∧ Mem w [] [(bn, #[.slice Au U.length cu, .slice Ah H.length ch])] wr) (fun _ jv _ => U.length - (intOf jv).toNat)
   case atStart => exact ⟨0, rfl, rfl, by omega, Lib.hid (fun k hk => absurd hk (by omega)), HM⟩
   case round =>
    clear HM
    obtain ⟨j, rfl, rfl, hj, HC, HM⟩ := hrel
    by_cases hjt : j < U.length
    ·have hjt1 : (j : Int) < U.length := by omega
     obtain ⟨x, hx⟩ : ∃ x, U[j]? = some x := ⟨_, List.getElem?_eq_getElem hjt⟩
     have HX := Lib.hid (Ns.gu_at hx)
     obtain ⟨b', off', cs', rfl, HB', k2⟩ := HR.out.u.at_ hx
     have hx1 := (HK.out j hjt).2.1
     have hx2 := (HK.out j hjt).2.2.1
     rw [HX.out] at hx1 hx2
     clear hx
     go_wp2_with (first | ((with_reducible refine g_ld ?_); refine a_ld HM ?_) | ((with_reducible refine g_bx ?_); refine a_bx HM ?_; clear HM; intro bk w1 HM))
     go_loopw [2, 7, 8] (fun rv av iv wr => ∃ (i : Nat) (S : Int), rv = .int .i64 0 ∧ av = .int .i64 (x - S) ∧ iv = .int .i64 (i : Nat) ∧ i ≤ U.length ∧ Hid (S = Ns.zs i (fun i => Ns.gh H i j)) ∧ 0 ≤ S ∧ S ≤ x ∧ Mem w [] [(bn, #[.slice (some ⟨b', off', none⟩) U.length cu, .slice Ah H.length ch])] wr) (fun _ _ iv _ => U.length - (intOf iv).toNat)
     case atStart => exact ⟨0, 0, rfl, by go_num, rfl, by omega, Lib.hid rfl, by omega, by omega, HM⟩
     case round =>
      clear HM
      obtain ⟨i, S, rfl, rfl, rfl, hi, HS, hS0, hS1, HM⟩ := hrel
      by_cases hit : i < U.length
      ·have hit1 : (i : Int) < U.length := by omega
       obtain ⟨l, hl⟩ : ∃ l, H[i]? = some l := ⟨_, List.getElem?_eq_getElem (by omega)⟩
       obtain ⟨b, off, cs, A2, c2, rfl, HB, k1, HL⟩ := HR.out.h.at_ hl
       have hll : l.length = U.length := by
        have := (HK.out i hit).1
        rwa [List.getD_eq_getElem?_getD, hl] at this
       have hjl : (j : Int) < l.length := by omega
       obtain ⟨y, hy⟩ : ∃ y, l[j]? = some y := ⟨_, List.getElem?_eq_getElem (by omega)⟩
       obtain ⟨b3, off3, cs3, rfl, HB3, k3⟩ := HL.out.at_ hy
       have hb := HG.out i j hit hjt
       have ey := Ns.gh_at hl hy
       rw [ey] at hb
       obtain ⟨hy0, hy1⟩ := hb
       have HS2 : Hid (S + y = Ns.zs (i + 1) (fun i => Ns.gh H i j)) := Lib.hid (by rw [HS.out, Ns.zs, ey])
       by_cases hS : x - S < y
       ·obtain rfl : r = 341 := by
          rw [hr.out]
          refine Ns.chk_held HSH.out HK.out hjt (fun h => ?_)
          rw [HX.out] at h
          have h1 := Ns.zs_mono (f := fun i => Ns.gh H i j) (n := U.length) (m := i + 1) (fun k hk => (HG.out k j hk hjt).1) (by omega)
          rw [← HS2.out] at h1
          omega
        clear hl hy ey
        go_wp2_with (first | ((with_reducible refine g_ld ?_); refine a_ld HM ?_) | ((with_reducible refine g_bx ?_); refine a_bx HM ?_; clear HM; intro bk w1 HM))
        go_ret
        exact ⟨rfl, HM.low⟩
       clear hl hy ey
       go_wp2_with (first | ((with_reducible refine g_ld ?_); refine a_ld HM ?_) | ((with_reducible refine g_bx ?_); refine a_bx HM ?_; clear HM; intro bk w1 HM))
       go_roundw
       case rel => exact ⟨i + 1, S + y, rfl, by go_num, by go_num, by omega, HS2, by omega, by omega, HM.pick⟩
       case measure => simp [intOf]; omega
      ·obtain rfl : i = U.length := by omega
       have HC2 : Hid (∀ k, k < j + 1 → Ns.zs U.length (fun i => Ns.gh H i k) ≤ Ns.gu U k) := Lib.hid (fun k hk => by
        by_cases e : k = j
        ·subst e; rw [← HS.out, HX.out]; omega
        ·exact HC.out k (by omega))
       go_wp2_with (first | ((with_reducible refine g_ld ?_); refine a_ld HM ?_) | ((with_reducible refine g_bx ?_); refine a_bx HM ?_; clear HM; intro bk w1 HM))
       go_roundw
       case rel => exact ⟨j + 1, rfl, by go_num, by omega, HC2, HM.pick⟩
       case measure => simp [intOf]; omega
    ·obtain rfl : j = U.length := by omega
     obtain rfl : r = 0 := by rw [hr.out]; exact Ns.chk_ok HSH.out HK.out HC.out
     go_wp2_with (first | ((with_reducible refine g_ld ?_); refine a_ld HM ?_) | ((with_reducible refine g_bx ?_); refine a_bx HM ?_; clear HM; intro bk w1 HM))
     go_ret
     exact ⟨rfl, HM.low⟩
end Go.Proofs.YtckhdiljihhdmaaGreat
