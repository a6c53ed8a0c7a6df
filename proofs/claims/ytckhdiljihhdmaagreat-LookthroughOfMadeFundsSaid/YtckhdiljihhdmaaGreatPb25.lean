/- Walks, and plain facts for them. -/
import Derived.Test.YtckhdiljihhdmaaGreatPb24
namespace Go.Proofs.YtckhdiljihhdmaaGreat
set_option maxRecDepth 8000
open Go.RowKit
theorem SlAt.inv2 {n k c : Nat} {A : Option Addr} {l : List (Array Value)} {B : List (Nat × Array Value)} (h : SlAt n (.slice A k c) l B) (h0 : l ≠ []) : ∃ b sp, A = Option.some ⟨b, 0, none⟩ ∧ B = [(b, rowsOf (l ++ sp))] ∧ ∀ c ∈ l ++ sp, c.size = n := by
 obtain ⟨b, sp, e, h1, h2⟩ := h.inv h0
 injection e with e1 e2 e3
 exact ⟨b, sp, e1, h1, h2⟩
theorem la_i1 {l : List (Array Value)} {r : Nat} {x : Int} (hs : ∀ c ∈ l, c.size = 1) (h : l[r]? = some (ic x)) : LA 3 (rowsOf l) r (.int .i64 x) := by
 refine LA.one (by kernel_rfl) ?_
 have := rows_at hs h (j := 0) (by decide)
 rw [Nat.one_mul, Nat.add_zero] at this
 rw [this]; rfl
namespace Sy
def pg (n : Nat) (Y Z : Nat → Nat → Int) (i j : Nat) : Nat → Nat → Int := fun r c => if r < i ∧ c ≤ n ∨ r = i ∧ c < j then Y r c else Z r c
theorem pg_start {n : Nat} {Y Z : Nat → Nat → Int} : pg n Y Z 0 0 = Z := by funext r c; unfold pg; rw [if_neg (by omega)]
theorem pg_next {n : Nat} {Y Z : Nat → Nat → Int} {i : Nat} : pg n Y Z i (n + 1) = pg n Y Z (i + 1) 0 := by
 funext r c; unfold pg
 by_cases h : r < i ∧ c ≤ n ∨ r = i ∧ c < n + 1
 ·rw [if_pos h, if_pos (by omega)]
 ·rw [if_neg h, if_neg (by omega)]
theorem pg_set {n : Nat} {Y Z : Nat → Nat → Int} {i j : Nat} : upd (pg n Y Z i j) i j (Y i j) = pg n Y Z i (j + 1) := by
 funext r c; unfold upd pg
 by_cases h : r = i ∧ c = j
 ·obtain ⟨rfl, rfl⟩ := h
  rw [if_pos ⟨rfl, rfl⟩, if_pos (by omega)]
 ·rw [if_neg h]
  by_cases h2 : r < i ∧ c ≤ n ∨ r = i ∧ c < j
  ·rw [if_pos h2, if_pos (by omega)]
  ·rw [if_neg h2, if_neg (by omega)]
theorem pg_ext {n : Nat} {Y Z : Nat → Nat → Int} : ∀ r, r < n → Ns.ext n (pg n Y Z n 0) r = Ns.ext n Y r := by
 intro r hr
 funext c
 unfold Ns.ext
 by_cases h : c ≤ n
 ·rw [if_pos h, if_pos h]; unfold pg; rw [if_pos (by omega)]
 ·rw [if_neg h, if_neg h]
end Sy
theorem Mx.Ent.congr {A B : Mx.Mat} {n : Nat} {b : Rat} (h : Mx.Ent A n b) (e : ∀ r, r < n → B r = A r) : Mx.Ent B n b := fun r c hr => by rw [e r hr]; exact h r c hr
theorem Mx.Ns.congr {A B : Mx.Mat} {n : Nat} (h : Mx.Ns n A) (e : ∀ r, r < n → B r = A r) : Mx.Ns n B := fun x hx => h x (hx.congr fun r hr => (e r hr).symm)
theorem Mx.Solves.congr {A B : Mx.Mat} {n : Nat} {x : Nat → Rat} (h : Mx.Solves n A x) (e : ∀ r, r < n → B r = A r) : Mx.Solves n B x := fun r hr => by rw [e r hr]; exact h r hr
namespace So
def ol (F : Nat → Array Value) (n : Nat) : List (Array Value) := (List.range n).map F
theorem ol_at (F : Nat → Array Value) {n i : Nat} (hi : i < n) : (ol F n)[i]? = some (F i) := by unfold ol; simp [hi]
theorem ol_set {F G : Nat → Array Value} {n i : Nat} (h : ∀ j, j < n → G j = if j = i then G i else F j) : (ol F n).set i (G i) = ol G n := by
 apply List.ext_getElem?
 intro j
 have hl : ∀ F, (ol F n).length = n := fun F => by simp [ol]
 rw [List.getElem?_set]
 by_cases e : i = j
 ·subst e
  rw [if_pos rfl, hl]
  by_cases hi : i < n
  ·rw [if_pos hi, ol_at G hi]
  ·rw [if_neg hi, List.getElem?_eq_none (by rw [hl]; omega)]
 ·rw [if_neg e]
  by_cases hj : j < n
  ·rw [ol_at F hj, ol_at G hj, h j hj, if_neg (fun h => e h.symm)]
  ·rw [List.getElem?_eq_none (by rw [hl]; omega), List.getElem?_eq_none (by rw [hl]; omega)]
theorem ol_congr {F G : Nat → Array Value} {n : Nat} (h : ∀ j, j < n → F j = G j) : ol F n = ol G n := by
 unfold ol
 exact List.map_congr_left fun j hj => h j (by simpa using hj)
theorem ol_rep (c : Array Value) (n : Nat) : List.replicate n c = ol (fun _ => c) n := by unfold ol; rw [List.map_const', List.length_range]
end So
theorem sa_ol {F G : Nat → Array Value} {n i : Nat} {q : Rat} (hF : ∀ j, (F j).size = 66) (hi : i < n) (hG : G i = Rt.qA q) (h : ∀ j, j < n → G j = if j = i then G i else F j) : SA 50 (rowsOf (So.ol F n)) (i * 66) (.agg (Rt.qA q)) (rowsOf (So.ol G n)) := by
 rw [← So.ol_set h, hG]
 exact sa_row (by kernel_rfl) (fun c hc => by obtain ⟨j, _, rfl⟩ := List.mem_map.1 hc; exact hF j) (So.ol_at F hi) (qA_size _) (qA_one _)
def qrows (n : Nat) (f : Nat → Rat) : List (Array Value) := So.ol (fun i => Rt.qA (f i)) n
theorem Mem.recell {w0 w : World} {X : List Nat} {b : Nat} {c c' : Array Value} {L : List (Nat × Array Value)} (h : Mem w0 X ((b, c) :: L) w) (e : c = c') : Mem w0 X ((b, c') :: L) w := e ▸ h
theorem Ns.mat_who {U : List Int} {H : List (List Int)} {i j : Nat} {u y : Int} (hu : Ns.gu U i = u) (h0 : 0 < u) (hy : Ns.gh H i j = y) : Ns.mat (Ns.gu U) (Ns.gh H) i j = if i = j then u - y else -y := by
 unfold Ns.mat
 rw [if_neg (by omega)]
 by_cases e : i = j
 ·subst e; rw [if_pos rfl, if_pos rfl, hu, hy]
 ·rw [if_neg e, if_neg e, hy]
set_option maxRecDepth 100000 in
set_option maxHeartbeats 8000000 in
theorem prices_any (us hs as_ : Value) (U : List Int) (H : List (List Int)) (A : List Int) (w : World) (hR : RdN w us hs U H) (hG : Ns.Good U H) (hA : RdI w as_ A) (hAl : A.length = U.length) (ha : ∀ i, i < U.length → (Ns.gu A i).natAbs ≤ 1000000000000000) :
    Calls Tryz.prog 52 #[.agg #[us, hs], as_] w fun e w' => Below w.heap.size w w' ∧
     ((Ns.Circ U.length (Ns.gu U) (Ns.gh H) ∧ e = .returned (.tuple #[.slice none 0 0, .int .i64 351])) ∨
      (¬ Ns.Circ U.length (Ns.gu U) (Ns.gh H) ∧ ∃ s f, e = .returned (.tuple #[s, .int .i64 0]) ∧ Hid (RdS 66 w' s (qrows U.length f)) ∧ Hid (Ns.Pr U.length (Ns.gu U) (Ns.gh H) (Ns.gu A) f ∧ ∀ i, i < U.length → Rt.Fit (f i)))) := by
 have HM := Mem.start w
 have HG := Lib.hid hG
 have HR := Lib.hid hR
 have HA := Lib.hid hA
 have HAB := Lib.hid ha
 have hn8 := hG.sh.1
 obtain ⟨Au, cu, rfl⟩ := hR.u.form
 obtain ⟨Ah, ch, rfl⟩ := hR.h.form
 obtain ⟨Aa, ca, rfl⟩ := hA.form
 have G := fun w' hB => ngrounded_any _ _ U H w' (hR.below hB) hG
 have K := fun w' hB => nparts_any _ _ U H w' (hR.below hB) hG
 have n0 := la_n0 (.slice Au U.length cu) (.slice Ah H.length ch)
 have n1 := la_n1 (.slice Au U.length cu) (.slice Ah H.length ch)
 have n2 := la_nest (.slice Au U.length cu) (.slice Ah H.length ch)
 clear hR hG hA ha
 go_enter Tryz.func52, Tryz.ntmps52
 go_upto_region 1 with (first | ((with_reducible refine g_ld ?_); refine a_ld HM ?_) | ((with_reducible refine g_st ?_); refine a_st HM ?_; clear HM; intro w1 HM) | ((with_reducible refine g_al ?_); refine a_al HM ?_; clear HM; intro bk w1 HM) | ((with_reducible refine g_bx ?_); refine a_bx HM ?_; clear HM; intro bk w1 HM) | ((with_reducible refine g_bld ?_); refine a_bld ?_))
 obtain ⟨bg, rfl⟩ := HM.nm0
 go_upto_region 4 with (first | (go_at_call 75; refine (G _ HM.low).mono ?_; rintro e9 w2 ⟨sg, rfl, HSG, hL⟩; replace HM := HM.call hL; clear hL) | (first | ((with_reducible refine g_ld ?_); refine a_ld HM ?_) | ((with_reducible refine g_st ?_); refine a_st HM ?_; clear HM; intro w1 HM) | ((with_reducible refine g_al ?_); refine a_al HM ?_; clear HM; intro bk w1 HM) | ((with_reducible refine g_bx ?_); refine a_bx HM ?_; clear HM; intro bk w1 HM) | ((with_reducible refine g_bld ?_); refine a_bld ?_)))
 obtain ⟨Ag, cg, rfl⟩ := HSG.out.form1
 rw [List.length_map, List.length_map] at HSG ⊢
 go_wp2_with (first | ((with_reducible refine g_ld ?_); refine a_ld HM ?_) | ((with_reducible refine g_st ?_); refine a_st HM ?_; clear HM; intro w1 HM) | ((with_reducible refine g_al ?_); refine a_al HM ?_; clear HM; intro bk w1 HM) | ((with_reducible refine g_bx ?_); refine a_bx HM ?_; clear HM; intro bk w1 HM) | ((with_reducible refine g_bld ?_); refine a_bld ?_))
 refine (K _ HM.low).mono ?_
 rintro e9 w3 ⟨sp, P, rfl, HP, HS, hL⟩
 obtain ⟨Ap, cp, rfl⟩ := HS.out.form
 have HSG3 := Lib.hid (HSG.out.below hL)
 replace HM := HM.call hL
 clear hL HSG G K
 rw [← HP.out.2] at HSG3
 rw [pI_len] at HS
 rw [pI_len, ← HP.out.2]
 have HB0 := Lib.hid HM.low
 have HN2 := Lib.hid (HR.out.below HM.low)
 have HA2 := Lib.hid (HA.out.below HM.low)
 have HBG : Hid (Rbk w3 bg #[.slice Au U.length cu, .slice Ah H.length ch]) := Lib.hid (HM.get .here).rbk
 clear HR HA HM
 have HM := Mem.start w3
 have HPT : Hid (Ns.Pts U.length (Ns.gh H) P) := Lib.hid HP.out.1
 have hPl := HP.out.1.len
 clear HP
 have eli : elemB 22 3 1 8 = true := by kernel_rfl
 have elq : elemB 67 50 66 264 = true := by kernel_rfl
 have zq := za_rat
 go_wp2_with (first | ((with_reducible refine g_ld ?_); refine a_ld HM ?_) | ((with_reducible refine g_st ?_); refine a_st HM ?_; clear HM; intro w1 HM) | ((with_reducible refine g_al ?_); refine a_al HM ?_; clear HM; intro bk w1 HM) | ((with_reducible refine g_bx ?_); refine a_bx HM ?_; clear HM; intro bk w1 HM) | ((with_reducible refine g_bld ?_); refine a_bld ?_))
 go_loopw [4, 5, 43] (fun rv qv iv wr => ∃ i : Nat, rv = .slice none 0 0 ∧ qv = .int .i64 0 ∧ iv = .int .i64 (i : Nat) ∧ i ≤ P.length ∧ Hid (∀ p ∈ P.take i, (∃ j ∈ p, 0 < Ns.gu U j) → Ns.gr U H p = true) ∧ Mem w3 [] [] wr) (fun _ _ iv _ => P.length - (intOf iv).toNat)
 case atStart => exact ⟨0, rfl, rfl, rfl, by omega, Lib.hid (by simp), HM⟩
 case round =>
  clear HM
  obtain ⟨i, rfl, rfl, rfl, hi, HCK, HM⟩ := hrel
  by_cases hlt : i < P.length
  ·have hlt1 : (i : Int) < P.length := by omega
   obtain ⟨p, hp⟩ : ∃ p, P[i]? = some p := ⟨_, List.getElem?_eq_getElem hlt⟩
   obtain ⟨hpm, hpl⟩ := HPT.out.mem (List.mem_of_getElem? hp)
   obtain ⟨b, off, cs, A2, c2, rfl, HB, k1, HL⟩ := HS.out.at_ (pI_at hp)
   rw [List.length_map] at k1 HL
   obtain ⟨g, hg⟩ : ∃ g, Hid (g = Ns.gr U H p) := ⟨_, Lib.hid rfl⟩
   obtain ⟨b4, off4, cs4, rfl, HB4, k4⟩ := RdS.one_at HSG3.out (i := i) (v := .bool g) (by rw [List.getElem?_map, List.getElem?_map, hp, hg.out]; rfl)
   have k5 : LA 4 cs4 (off4 + i) (.bool g) := LA.one (by kernel_rfl) k4
   have HPM := Lib.hid hpm
   have HPA := Lib.hid hp
   clear hp hpm k4
   go_wp2_with (first | ((with_reducible refine g_ld ?_); refine a_ld HM ?_) | ((with_reducible refine g_st ?_); refine a_st HM ?_; clear HM; intro w1 HM) | ((with_reducible refine g_al ?_); refine a_al HM ?_; clear HM; intro bk w1 HM) | ((with_reducible refine g_bx ?_); refine a_bx HM ?_; clear HM; intro bk w1 HM) | ((with_reducible refine g_bld ?_); refine a_bld ?_))
   go_loopw [4, 5, 50] (fun rv qv jv wr => ∃ j : Nat, rv = .slice none 0 0 ∧ qv = .int .i64 0 ∧ jv = .int .i64 (j : Nat) ∧ j ≤ p.length ∧ Hid ((∃ m ∈ p.take j, 0 < Ns.gu U m) → g = true) ∧ Mem w3 [] [] wr) (fun _ _ jv _ => p.length - (intOf jv).toNat)
   case atStart => exact ⟨0, rfl, rfl, rfl, by omega, Lib.hid (by simp), HM⟩
   case round =>
    clear HM
    obtain ⟨j, rfl, rfl, rfl, hj, HQ, HM⟩ := hrel
    by_cases hjt : j < p.length
    ·have hjt1 : (j : Int) < p.length := by omega
     obtain ⟨m, hm⟩ : ∃ m, p[j]? = some m := ⟨_, List.getElem?_eq_getElem hjt⟩
     have hmn := HPM.out m (List.mem_of_getElem? hm)
     have hmn1 : (m : Int) < U.length := by omega
     obtain ⟨b3, off3, cs3, rfl, HB3, k3⟩ := HL.out.at_ (i := j) (x := m) (by rw [List.getElem?_map, hm]; rfl)
     obtain ⟨u, hu⟩ : ∃ u, U[m]? = some u := ⟨_, List.getElem?_eq_getElem hmn⟩
     obtain ⟨b5, off5, cs5, rfl, HB5, k6⟩ := HN2.out.u.at_ hu
     have HU := Lib.hid (Ns.gu_at hu)
     have HQ2 : (0 < u → g = true) → Hid ((∃ m ∈ p.take (j + 1), 0 < Ns.gu U m) → g = true) := fun h => Lib.hid (by
      rintro ⟨x, hx, hx0⟩
      rw [List.take_add_one, hm] at hx
      rcases List.mem_append.1 hx with hx | hx
      ·exact HQ.out ⟨x, hx, hx0⟩
      ·simp at hx; subst hx; rw [HU.out] at hx0; exact h hx0)
     have HMI := Lib.hid (List.mem_of_getElem? hm)
     clear hm hu
     by_cases hu0 : 0 < u
     ·cases g with
      | true =>
       have HQ3 := HQ2 fun _ => rfl
       clear HQ2
       go_wp2_with (first | ((with_reducible refine g_ld ?_); refine a_ld HM ?_) | ((with_reducible refine g_st ?_); refine a_st HM ?_; clear HM; intro w1 HM) | ((with_reducible refine g_al ?_); refine a_al HM ?_; clear HM; intro bk w1 HM) | ((with_reducible refine g_bx ?_); refine a_bx HM ?_; clear HM; intro bk w1 HM) | ((with_reducible refine g_bld ?_); refine a_bld ?_))
       go_roundw
       case rel => exact ⟨j + 1, rfl, rfl, by go_num, by omega, by first | exact HQ3 | exact Lib.hid fun _ => trivial, HM⟩
       case measure => simp [intOf]; omega
      | false =>
       clear HQ2
       go_wp2_with (first | ((with_reducible refine g_ld ?_); refine a_ld HM ?_) | ((with_reducible refine g_st ?_); refine a_st HM ?_; clear HM; intro w1 HM) | ((with_reducible refine g_al ?_); refine a_al HM ?_; clear HM; intro bk w1 HM) | ((with_reducible refine g_bx ?_); refine a_bx HM ?_; clear HM; intro bk w1 HM) | ((with_reducible refine g_bld ?_); refine a_bld ?_))
       go_ret2
       refine ⟨below_seq HB0.out HM.low, .inl ⟨?_, rfl⟩⟩
       have hmem := List.mem_of_getElem? HPA.out
       refine (Ns.circ_iff HPT.out).2 ⟨p, hmem, ⟨m, HMI.out, by rw [HU.out]; exact hu0⟩, ?_⟩
       obtain ⟨i0, _, rfl⟩ := HPT.out.one p hmem
       exact Ns.gr_whole.1 hg.out.symm
     ·have HQ3 := HQ2 fun h => absurd h hu0
      clear HQ2
      go_wp2_with (first | ((with_reducible refine g_ld ?_); refine a_ld HM ?_) | ((with_reducible refine g_st ?_); refine a_st HM ?_; clear HM; intro w1 HM) | ((with_reducible refine g_al ?_); refine a_al HM ?_; clear HM; intro bk w1 HM) | ((with_reducible refine g_bx ?_); refine a_bx HM ?_; clear HM; intro bk w1 HM) | ((with_reducible refine g_bld ?_); refine a_bld ?_))
      go_roundw
      case rel => exact ⟨j + 1, rfl, rfl, by go_num, by omega, by first | exact HQ3 | exact Lib.hid fun _ => trivial, HM⟩
      case measure => simp [intOf]; omega
    ·obtain rfl : j = p.length := by omega
     have HC2 : Hid (∀ q ∈ P.take (i + 1), (∃ j ∈ q, 0 < Ns.gu U j) → Ns.gr U H q = true) := Lib.hid (by
      intro q hq
      rw [List.take_add_one, HPA.out] at hq
      rcases List.mem_append.1 hq with hq | hq
      ·exact HCK.out q hq
      ·simp at hq; subst hq
       intro h
       rw [← hg.out]
       exact HQ.out (by rw [List.take_length]; exact h))
     go_wp2_with (first | ((with_reducible refine g_ld ?_); refine a_ld HM ?_) | ((with_reducible refine g_st ?_); refine a_st HM ?_; clear HM; intro w1 HM) | ((with_reducible refine g_al ?_); refine a_al HM ?_; clear HM; intro bk w1 HM) | ((with_reducible refine g_bx ?_); refine a_bx HM ?_; clear HM; intro bk w1 HM) | ((with_reducible refine g_bld ?_); refine a_bld ?_))
     go_roundw
     case rel => exact ⟨i + 1, rfl, rfl, by go_num, by omega, HC2, HM⟩
     case measure => simp [intOf]; omega
  ·obtain rfl : i = P.length := by omega
   have hnc : ¬ Ns.Circ U.length (Ns.gu U) (Ns.gh H) := fun h => by
    obtain ⟨p, hp, hu, hw⟩ := (Ns.circ_iff HPT.out).1 h
    have h1 := HCK.out p (by rw [List.take_length]; exact hp) hu
    obtain ⟨i0, _, rfl⟩ := HPT.out.one p hp
    rw [Ns.gr_whole.2 hw] at h1; cases h1
   have HNC := Lib.hid hnc
   have HNCC := Lib.hid hnc
   clear hnc HCK HPT HS HSG3
   go_upto_region 17 with (first | ((with_reducible refine g_mks ?_); refine a_mks U.length HM ?_ (by omega); clear HM; intro bk w1 HM) | (first | ((with_reducible refine g_ld ?_); refine a_ld HM ?_) | ((with_reducible refine g_st ?_); refine a_st HM ?_; clear HM; intro w1 HM) | ((with_reducible refine g_al ?_); refine a_al HM ?_; clear HM; intro bk w1 HM) | ((with_reducible refine g_bx ?_); refine a_bx HM ?_; clear HM; intro bk w1 HM) | ((with_reducible refine g_bld ?_); refine a_bld ?_)))
   obtain ⟨bo, rfl⟩ := HM.nm0
   rw [So.ol_rep] at HM
   have WZ := fun w => whole_q 0 0 (by decide) (by decide) (Lib.hid rfl) w
   go_wp2_with (first | ((with_reducible refine g_ld ?_); refine a_ld HM ?_) | ((with_reducible refine g_st ?_); refine a_st HM ?_; clear HM; intro w1 HM) | ((with_reducible refine g_al ?_); refine a_al HM ?_; clear HM; intro bk w1 HM) | ((with_reducible refine g_bx ?_); refine a_bx HM ?_; clear HM; intro bk w1 HM) | ((with_reducible refine g_bld ?_); refine a_bld ?_))
   go_loopw [14, 76] (fun sv iv wr => ∃ (i : Nat) (B : List (Nat × Array Value)), iv = .int .i64 (i : Nat) ∧ i ≤ U.length ∧ Hid (SlAt 1 sv ((Ns.wl (Ns.hu (Ns.gu U)) i).map fun x : Nat => ic x) B) ∧ Mem w3 [] ((bo, rowsOf (So.ol (fun j => if j < i then Rt.qA 0 else Bg.rZ 0 0) U.length)) :: B) wr) (fun _ iv _ => U.length - (intOf iv).toNat)
   case atStart => exact ⟨0, [], rfl, by omega, Lib.hid .nil, HM⟩
   case round =>
    clear HM
    obtain ⟨i, B, rfl, hi, HW, HM⟩ := hrel
    by_cases hit : i < U.length
    ·have hit1 : (i : Int) < U.length := by omega
     obtain ⟨u, hu⟩ : ∃ u, U[i]? = some u := ⟨_, List.getElem?_eq_getElem hit⟩
     obtain ⟨b5, off5, cs5, rfl, HB5, k6⟩ := HN2.out.u.at_ hu
     have ex := Ns.gu_at hu
     have s1 := sa_ol (F := fun j => if j < i then Rt.qA 0 else Bg.rZ 0 0) (G := fun j => if j < i + 1 then Rt.qA 0 else Bg.rZ 0 0) (n := U.length) (i := i) (q := 0) (fun j => by
      show (if j < i then Rt.qA 0 else Bg.rZ 0 0).size = 66
      split
      ·exact qA_size _
      ·exact rZ_size _ _) hit (if_pos (by omega)) (fun j _ => by
      by_cases e : j = i
      ·subst e; simp
      ·rw [if_neg e]
       by_cases h : j < i
       ·rw [if_pos h, if_pos (by omega)]
       ·rw [if_neg h, if_neg (by omega)])
     have hwl := Ns.wl_len (p := Ns.hu (Ns.gu U)) i
     by_cases hu0 : 0 < u
     ·have hWS : Hid (Ns.wl (Ns.hu (Ns.gu U)) (i + 1) = Ns.wl (Ns.hu (Ns.gu U)) i ++ [i]) := Lib.hid (by rw [Ns.wl_succ, if_pos (by unfold Ns.hu; rw [ex]; simpa using hu0)])
      have hcap : (((Ns.wl (Ns.hu (Ns.gu U)) i).map fun x : Nat => ic x).length + [#[Value.int .i64 (i : Int)]].length) * (8 + 1) ≤ 140737488355328 := by rw [List.length_map]; simp; omega
      clear ex hu hwl
      go_wp2_with (first | first
       | (go_at_call 31; ((with_reducible refine (WZ _).mono ?_); rintro e9 w2 ⟨rfl, hL⟩; replace HM := HM.call hL; clear hL))
       | ((with_reducible refine g_bs1 ?_); refine a_bs1 (c0 := #[.int .i64 (i : Int)]) HM ?_; clear HM; intro bx w1 HM)
       | ((with_reducible refine g_app ?_); refine a_app (m := [#[.int .i64 (i : Int)]]) (F := fun X => (bo, rowsOf (So.ol (fun j => if j < i + 1 then Rt.qA 0 else Bg.rZ 0 0) U.length)) :: X) HM HW.out ((SlAt.made1 bx rfl).rd HM (by simp)) ?_ (by simp [Value.oneCell']) (hlen := hcap); clear HM; intro s2 B2 w1 HS2 HM) | (first | ((with_reducible refine g_ld ?_); refine a_ld HM ?_) | ((with_reducible refine g_st ?_); refine a_st HM ?_; clear HM; intro w1 HM) | ((with_reducible refine g_al ?_); refine a_al HM ?_; clear HM; intro bk w1 HM) | ((with_reducible refine g_bx ?_); refine a_bx HM ?_; clear HM; intro bk w1 HM) | ((with_reducible refine g_bld ?_); refine a_bld ?_)))
      go_roundw
      case rel => exact ⟨i + 1, B2, by go_num, by omega, Lib.hid (by rw [hWS.out, List.map_append]; exact HS2), HM.pick⟩
      case measure => simp [intOf]; omega
     ·have hWS : Hid (Ns.wl (Ns.hu (Ns.gu U)) (i + 1) = Ns.wl (Ns.hu (Ns.gu U)) i) := Lib.hid (by rw [Ns.wl_succ, if_neg (by unfold Ns.hu; rw [ex]; simpa using hu0)])
      clear ex hu hwl
      go_wp2_with (first | (go_at_call 31; ((with_reducible refine (WZ _).mono ?_); rintro e9 w2 ⟨rfl, hL⟩; replace HM := HM.call hL; clear hL)) | (first | ((with_reducible refine g_ld ?_); refine a_ld HM ?_) | ((with_reducible refine g_st ?_); refine a_st HM ?_; clear HM; intro w1 HM) | ((with_reducible refine g_al ?_); refine a_al HM ?_; clear HM; intro bk w1 HM) | ((with_reducible refine g_bx ?_); refine a_bx HM ?_; clear HM; intro bk w1 HM) | ((with_reducible refine g_bld ?_); refine a_bld ?_)))
      go_roundw
      case rel => exact ⟨i + 1, B, by go_num, by omega, Lib.hid (by rw [hWS.out]; exact HW.out), HM.pick⟩
      case measure => simp [intOf]; omega
    ·obtain rfl : i = U.length := by omega
     obtain ⟨A14, c14, rfl, h14⟩ := HW.out.val
     rw [List.length_map] at HW ⊢
     clear h14
     have hwl := Ns.wl_len (p := Ns.hu (Ns.gu U)) U.length
     generalize hm : (Ns.wl (Ns.hu (Ns.gu U)) U.length).length = m at HW hwl ⊢
     have HMM := Lib.hid hm
     clear hm WZ
     go_upto_region 25 with (first | ((with_reducible refine g_ld ?_); refine a_ld HM ?_) | ((with_reducible refine g_st ?_); refine a_st HM ?_; clear HM; intro w1 HM) | ((with_reducible refine g_al ?_); refine a_al HM ?_; clear HM; intro bk w1 HM) | ((with_reducible refine g_bx ?_); refine a_bx HM ?_; clear HM; intro bk w1 HM) | ((with_reducible refine g_bld ?_); refine a_bld ?_))
     obtain ⟨bs, rfl⟩ := HM.nm0
     replace HM := HM.recell (c' := Sy.cells m fun _ _ => 0) (by rw [Sy.cells_zero]; kernel_rfl)
     obtain ⟨Zw, hZw⟩ : ∃ Z, Hid (Z = Ns.zw U.length (Ns.gu U) (Ns.gh H) (Ns.gu A)) := ⟨_, Lib.hid rfl⟩
     obtain ⟨wl, hwle⟩ : ∃ l, Hid (l = Ns.wl (Ns.hu (Ns.gu U)) U.length) := ⟨_, Lib.hid rfl⟩
     rw [← hwle.out] at HW HMM
     have HWA : Hid (∀ r, r < m → ∃ i0, wl[r]? = some i0 ∧ i0 < U.length ∧ 0 < Ns.gu U i0 ∧ Ns.wh (Ns.hu (Ns.gu U)) U.length r = i0 ∧ (Ns.wl (Ns.hu (Ns.gu U)) i0).length = r) := Lib.hid (fun r hr => by
      have h1 : r < (Ns.wl (Ns.hu (Ns.gu U)) U.length).length := by rw [← hwle.out, HMM.out]; exact hr
      obtain ⟨a1, a2, a3⟩ := Ns.wh_spec h1
      exact ⟨_, by rw [hwle.out]; exact Ns.wh_at h1, a2, Ns.hu_iff.1 a3, rfl, a1⟩)
     replace HM := HM.recell (c' := Sy.cells m (Sy.pg m Zw (fun _ _ => 0) 0 0)) (by rw [Sy.pg_start])
     have hm8 : m ≤ 8 := by omega
     clear hwl
     go_wp2_with (first | ((with_reducible refine g_ld ?_); refine a_ld HM ?_) | ((with_reducible refine g_st ?_); refine a_st HM ?_; clear HM; intro w1 HM) | ((with_reducible refine g_al ?_); refine a_al HM ?_; clear HM; intro bk w1 HM) | ((with_reducible refine g_bx ?_); refine a_bx HM ?_; clear HM; intro bk w1 HM) | ((with_reducible refine g_bld ?_); refine a_bld ?_))
     go_loopw [98] (fun rv wr => ∃ r : Nat, rv = .int .i64 (r : Nat) ∧ r ≤ m ∧ Mem w3 [] ((bs, Sy.cells m (Sy.pg m Zw (fun _ _ => 0) r 0)) :: (bo, rowsOf (So.ol (fun j => if j < U.length then Rt.qA 0 else Bg.rZ 0 0) U.length)) :: B) wr) (fun rv _ => m - (intOf rv).toNat)
     case atStart => exact ⟨0, rfl, by omega, HM⟩
     case round =>
      clear HM
      obtain ⟨r, rfl, hr, HM⟩ := hrel
      by_cases hrt : r < m
      ·have hrt1 : (r : Int) < m := by omega
       have hr8 : (r : Int) < 8 := by omega
       obtain ⟨i0, hi0, hi0n, hi0u, hi0w, -⟩ := HWA.out r hrt
       obtain ⟨b14, sp14, rfl, rfl, hsz⟩ := HW.out.inv2 (fun h => by rw [List.map_eq_nil_iff] at h; rw [h] at hi0; cases hi0)
       have HSZ := Lib.hid hsz
       have k14 : LA 3 (rowsOf ((wl.map fun x : Nat => ic x) ++ sp14)) r (.int .i64 (i0 : Int)) := la_i1 hsz (by rw [List.getElem?_append_left (by have := (List.getElem?_eq_some_iff.1 hi0).1; rw [List.length_map]; exact this), List.getElem?_map, hi0]; rfl)
       obtain ⟨l, hl, hll⟩ := HG.out.at_ hi0n
       obtain ⟨b, off, cs, A2, c2, rfl, HB, kh, HL⟩ := HN2.out.h.at_ hl
       rw [hll] at kh HL
       have HLL := Lib.hid hl
       have HLN := Lib.hid hll
       have hi0h : (i0 : Int) < H.length := by have := HG.out.sh.2; omega
       have hi0n1 : (i0 : Int) < U.length := by omega
       have HI0 := Lib.hid hi0
       have HI0W := Lib.hid hi0w
       obtain ⟨u, hu⟩ : ∃ u, U[i0]? = some u := ⟨_, List.getElem?_eq_getElem hi0n⟩
       obtain ⟨b5, off5, cs5, rfl, HB5, ku⟩ := HN2.out.u.at_ hu
       have eu := Ns.gu_at hu
       have hu1 := HG.out.ok.u1 i0 hi0n
       rw [eu] at hi0u hu1
       have HU := Lib.hid eu
       obtain ⟨v, hv⟩ : ∃ v, A[i0]? = some v := ⟨_, List.getElem?_eq_getElem (by omega)⟩
       obtain ⟨b6, off6, cs6, rfl, HB6, ka⟩ := HA2.out.at_ hv
       have ev := Ns.gu_at hv
       have hvb := HAB.out i0 hi0n
       rw [ev] at hvb
       have HV := Lib.hid ev
       have n1 := la_n1 (.slice (some ⟨b5, off5, none⟩) U.length cu) (.slice (some ⟨b, off, none⟩) H.length ch)
       have n0 := la_n0 (.slice (some ⟨b5, off5, none⟩) U.length cu) (.slice (some ⟨b, off, none⟩) H.length ch)
       clear hi0 hi0w hl hll hu eu hv ev hsz
       go_wp2_with (first | ((with_reducible refine g_ld ?_); refine a_ld HM ?_) | ((with_reducible refine g_st ?_); refine a_st HM ?_; clear HM; intro w1 HM) | ((with_reducible refine g_al ?_); refine a_al HM ?_; clear HM; intro bk w1 HM) | ((with_reducible refine g_bx ?_); refine a_bx HM ?_; clear HM; intro bk w1 HM) | ((with_reducible refine g_bld ?_); refine a_bld ?_))
       go_loopw [105] (fun cv wr => ∃ c : Nat, cv = .int .i64 (c : Nat) ∧ c ≤ m ∧ Mem w3 [] ((bs, Sy.cells m (Sy.pg m Zw (fun _ _ => 0) r c)) :: (bo, rowsOf (So.ol (fun j => if j < U.length then Rt.qA 0 else Bg.rZ 0 0) U.length)) :: [(b14, rowsOf ((wl.map fun x : Nat => ic x) ++ sp14))]) wr) (fun cv _ => m - (intOf cv).toNat)
       case atStart => exact ⟨0, rfl, by omega, HM⟩
       case round =>
        clear HM
        obtain ⟨c, rfl, hc, HM⟩ := hrel
        by_cases hct : c < m
        ·have hct1 : (c : Int) < m := by omega
         have hc9 : (c : Int) < 9 := by omega
         obtain ⟨j0, hj0, hj0n, hj0u, hj0w, -⟩ := HWA.out c hct
         have k15 : LA 3 (rowsOf ((wl.map fun x : Nat => ic x) ++ sp14)) c (.int .i64 (j0 : Int)) := la_i1 HSZ.out (by rw [List.getElem?_append_left (by have := (List.getElem?_eq_some_iff.1 hj0).1; rw [List.length_map]; exact this), List.getElem?_map, hj0]; rfl)
         obtain ⟨y, hy⟩ : ∃ y, l[j0]? = some y := ⟨_, List.getElem?_eq_getElem (by have := HLN.out; omega)⟩
         obtain ⟨b7, off7, cs7, rfl, HB7, ky⟩ := HL.out.at_ hy
         have ey := Ns.gh_at HLL.out hy
         have hy0 := HG.out.ok.h0 i0 j0 hi0n hj0n
         have hy1 := HG.out.ok.h1 i0 j0 hi0n hj0n
         rw [ey] at hy0 hy1
         have hj0n1 : (j0 : Int) < U.length := by omega
         obtain ⟨x, hx⟩ : ∃ x, Hid (x = Zw r c) := ⟨_, Lib.hid rfl⟩
         have hxe : x = if i0 = j0 then u - y else -y := by
          rw [hx.out, hZw.out]
          unfold Ns.zw
          rw [if_pos (by rw [← hwle.out, HMM.out]; exact hct), HI0W.out, hj0w]
          exact Ns.mat_who HU.out hi0u ey
         have s1 := sa_sy m (Sy.pg m Zw (fun _ _ => 0) r c) (i := r) (j := c) x (by omega) (by omega)
         rw [hx.out, Sy.pg_set, ← hx.out] at s1
         by_cases hij : i0 = j0
         ·subst hij
          rw [if_pos rfl] at hxe
          have hxe2 : -y + u = x := by omega
          have FI := fun w => fromInt_z x (by omega) (by omega) w
          clear hj0 hj0w hy ey hxe hj0u
          go_upto_region 34 with (first | ((with_reducible refine g_ld ?_); refine a_ld HM ?_) | ((with_reducible refine g_st ?_); refine a_st HM ?_; clear HM; intro w1 HM) | ((with_reducible refine g_al ?_); refine a_al HM ?_; clear HM; intro bk w1 HM) | ((with_reducible refine g_bx ?_); refine a_bx HM ?_; clear HM; intro bk w1 HM) | ((with_reducible refine g_bld ?_); refine a_bld ?_))
          try rw [hxe2]
          clear hxe2
          refine start_M [9] HM (by kernel_rfl) (fun w0x H9 => ?_)
          replace HM := H9; clear H9
          refine k_mv 0 (heldE HM) ?_
          refine k_mv 1 (heldE HM) ?_
          refine k_mv 2 (heldE HM) ?_
          refine k_mv 3 (heldE HM) ?_
          refine k_pv 5 (heldE HM) ?_
          refine k_fa 6 (heldE HM) ?_
          refine k_ia 7 (heldE HM) ?_
          refine j_one 4 fun K9 hK9 => ?_
          refine j_call1 (v := ?_) HM ?_ ?_; rotate_left 1; (focus (with_reducible (exact FI _))); clear HM; intro w1 HM
          refine hK9 _ _ (heldE HM) ?_; clear hK9 K9
          refine k_ia 8 (heldE HM) ?_
          refine j_one 9 fun K9 hK9 => ?_
          refine j_st HM ?_; clear HM; intro w1 HM
          refine hK9 _ _ heldN ?_; clear hK9 K9
          refine wpAnyL_done (by kernel_rfl) ?_ _
          go_wp2_with fail
          go_roundw
          case rel => exact ⟨c + 1, by go_num, by omega, HM⟩
          case measure => simp [intOf]; omega
         ·rw [if_neg hij] at hxe
          have hij1 : ¬ (i0 : Int) = j0 := by omega
          have hxe2 : -y = x := hxe.symm
          have FI := fun w => fromInt_z x (by omega) (by omega) w
          clear hj0 hj0w hy ey hxe hj0u
          go_upto_region 34 with (first | ((with_reducible refine g_ld ?_); refine a_ld HM ?_) | ((with_reducible refine g_st ?_); refine a_st HM ?_; clear HM; intro w1 HM) | ((with_reducible refine g_al ?_); refine a_al HM ?_; clear HM; intro bk w1 HM) | ((with_reducible refine g_bx ?_); refine a_bx HM ?_; clear HM; intro bk w1 HM) | ((with_reducible refine g_bld ?_); refine a_bld ?_))
          try rw [hxe2]
          clear hxe2
          refine start_M [9] HM (by kernel_rfl) (fun w0x H9 => ?_)
          replace HM := H9; clear H9
          refine k_mv 0 (heldE HM) ?_
          refine k_mv 1 (heldE HM) ?_
          refine k_mv 2 (heldE HM) ?_
          refine k_mv 3 (heldE HM) ?_
          refine k_pv 5 (heldE HM) ?_
          refine k_fa 6 (heldE HM) ?_
          refine k_ia 7 (heldE HM) ?_
          refine j_one 4 fun K9 hK9 => ?_
          refine j_call1 (v := ?_) HM ?_ ?_; rotate_left 1; (focus (with_reducible (exact FI _))); clear HM; intro w1 HM
          refine hK9 _ _ (heldE HM) ?_; clear hK9 K9
          refine k_ia 8 (heldE HM) ?_
          refine j_one 9 fun K9 hK9 => ?_
          refine j_st HM ?_; clear HM; intro w1 HM
          refine hK9 _ _ heldN ?_; clear hK9 K9
          refine wpAnyL_done (by kernel_rfl) ?_ _
          go_wp2_with fail
          go_roundw
          case rel => exact ⟨c + 1, by go_num, by omega, HM⟩
          case measure => simp [intOf]; omega
        ·obtain rfl : c = m := by omega
         have hxe : v = Zw r c := by
          rw [hZw.out]
          unfold Ns.zw
          rw [if_neg (by rw [← hwle.out, HMM.out]; omega), if_pos (by rw [← hwle.out, HMM.out]), HI0W.out]
          exact HV.out.symm
         have s1 := sa_sy c (Sy.pg c Zw (fun _ _ => 0) r c) (i := r) (j := c) v (by omega) (by omega)
         rw [hxe, Sy.pg_set, Sy.pg_next, ← hxe] at s1
         have nm := la_syn c (Sy.pg c Zw (fun _ _ => 0) r c)
         have hc9 : (c : Int) < 9 := by omega
         have hal : (i0 : Int) < A.length := by omega
         have FI := fun w => fromInt_z v (by omega) (by omega) w
         clear hxe
         go_upto_region 36 with (first | ((with_reducible refine g_ld ?_); refine a_ld HM ?_) | ((with_reducible refine g_st ?_); refine a_st HM ?_; clear HM; intro w1 HM) | ((with_reducible refine g_al ?_); refine a_al HM ?_; clear HM; intro bk w1 HM) | ((with_reducible refine g_bx ?_); refine a_bx HM ?_; clear HM; intro bk w1 HM) | ((with_reducible refine g_bld ?_); refine a_bld ?_))
         refine start_M [15] HM (by kernel_rfl) (fun w0x H9 => ?_)
         replace HM := H9; clear H9
         refine k_mv 0 (heldE HM) ?_
         refine k_mv 1 (heldE HM) ?_
         refine k_mv 2 (heldE HM) ?_
         refine k_pv 3 (heldE HM) ?_
         refine k_fa 4 (heldE HM) ?_
         refine k_ld 5 [14, 15] (heldE HM) ?_
         refine k_mv 6 (heldE HM) ?_
         refine k_mv 7 (heldE HM) ?_
         refine k_ia 8 (heldE HM) ?_
         refine k_ld 9 [10, 14, 15] (heldE HM) ?_
         refine k_pv 11 (heldE HM) ?_
         refine k_fa 12 (heldE HM) ?_
         refine k_ia 13 (heldE HM) ?_
         refine j_one 10 fun K9 hK9 => ?_
         refine j_call1 (v := ?_) HM ?_ ?_; rotate_left 1; (focus (with_reducible (exact FI _))); clear HM; intro w1 HM
         refine hK9 _ _ (heldE HM) ?_; clear hK9 K9
         refine k_ia 14 (heldE HM) ?_
         refine j_one 15 fun K9 hK9 => ?_
         refine j_st HM ?_; clear HM; intro w1 HM
         refine hK9 _ _ heldN ?_; clear hK9 K9
         refine wpAnyL_done (by kernel_rfl) ?_ _
         go_wp2_with fail
         go_roundw
         case rel => exact ⟨r + 1, by go_num, by omega, HM⟩
         case measure => simp [intOf]; omega
      ·obtain rfl : r = m := by omega
       have hns := Ns.zw_ns (a := Ns.gu A) HG.out.ok HNC.out
       have hbd := Ns.zw_bound HG.out.ok HAB.out
       have hpr := fun y => Ns.zw_pr (a := Ns.gu A) (y := y) HG.out.ok
       rw [← hwle.out, HMM.out, ← hZw.out] at hns hbd hpr
       have HPR := Lib.hid hpr
       have S := fun w HM => solve_any r (Sy.pg r Zw (fun _ _ => 0) r 0) bs w3 w ((bo, rowsOf (So.ol (fun j => if j < U.length then Rt.qA 0 else Bg.rZ 0 0) U.length)) :: B) HM hm8 ((Ns.ext_ent (by decide) hbd).congr Sy.pg_ext) (hns.congr Sy.pg_ext)
       have z24 := za_arr8 fun _ => 0
       clear hns hbd hpr
       go_upto_region 38 with (first | ((with_reducible refine g_ld ?_); refine a_ld HM ?_) | ((with_reducible refine g_st ?_); refine a_st HM ?_; clear HM; intro w1 HM) | ((with_reducible refine g_al ?_); refine a_al HM ?_; clear HM; intro bk w1 HM) | ((with_reducible refine g_bx ?_); refine a_bx HM ?_; clear HM; intro bk w1 HM) | ((with_reducible refine g_bld ?_); refine a_bld ?_))
       go_upto_region 41 with (first | (go_at_call 77; refine (S _ HM).mono ?_; rintro e9 w4 ⟨f, Z4, rfl, HM2, HF⟩; replace HM := HM2; clear HM2; have s24 := sa_arr8 (fun _ => 0) f 0 r) | (first | ((with_reducible refine g_ld ?_); refine a_ld HM ?_) | ((with_reducible refine g_st ?_); refine a_st HM ?_; clear HM; intro w1 HM) | ((with_reducible refine g_al ?_); refine a_al HM ?_; clear HM; intro bk w1 HM) | ((with_reducible refine g_bx ?_); refine a_bx HM ?_; clear HM; intro bk w1 HM) | ((with_reducible refine g_bld ?_); refine a_bld ?_)))
       obtain ⟨b24, rfl⟩ := HM.nm0
       have HPRF : Hid (Ns.Pr U.length (Ns.gu U) (Ns.gh H) (Ns.gu A) (Ns.lift (Ns.gu U) f)) := Lib.hid (HPR.out f (HF.out.1.congr fun r hr => (Sy.pg_ext r hr).symm))
       have HFIT : Hid (∀ i, i < U.length → Rt.Fit (Ns.lift (Ns.gu U) f i)) := Lib.hid (fun i hi => by
        unfold Ns.lift
        by_cases hp : Ns.hu (Ns.gu U) i = true
        ·rw [if_pos hp]
         have h1 := (List.getElem?_eq_some_iff.1 (Ns.wl_pos hi hp)).1
         rw [← hwle.out, HMM.out] at h1
         exact HF.out.2 _ h1
        ·rw [if_neg hp]; exact Rt.fit_zero)
       clear HPR HF S HNC z24
       obtain ⟨Fo, hFo⟩ : ∃ Fo : Nat → Nat → Array Value, Hid (Fo = fun q j => if Ns.hu (Ns.gu U) j = true ∧ (Ns.wl (Ns.hu (Ns.gu U)) j).length < q then Rt.qA (f (Ns.wl (Ns.hu (Ns.gu U)) j).length) else Rt.qA 0) := ⟨_, Lib.hid rfl⟩
       have hol : So.ol (fun j => if j < U.length then Rt.qA 0 else Bg.rZ 0 0) U.length = So.ol (Fo 0) U.length := So.ol_congr fun j hj => by
        rw [hFo.out]
        simp [hj]
       rw [hol] at HM
       clear hol
       go_wp2_with (first | ((with_reducible refine g_ld ?_); refine a_ld HM ?_) | ((with_reducible refine g_st ?_); refine a_st HM ?_; clear HM; intro w1 HM) | ((with_reducible refine g_al ?_); refine a_al HM ?_; clear HM; intro bk w1 HM) | ((with_reducible refine g_bx ?_); refine a_bx HM ?_; clear HM; intro bk w1 HM) | ((with_reducible refine g_bld ?_); refine a_bld ?_))
       go_loopw [164] (fun rv wr => ∃ q : Nat, rv = .int .i64 (q : Nat) ∧ q ≤ r ∧ Mem w3 [] ((b24, So.arr f r) :: (bo, rowsOf (So.ol (Fo q) U.length)) :: B) wr) (fun rv _ => r - (intOf rv).toNat)
       case atStart => exact ⟨0, rfl, by omega, HM.pick⟩
       case round =>
        clear HM
        obtain ⟨q, rfl, hq, HM⟩ := hrel
        by_cases hqt : q < r
        ·have hqt1 : (q : Int) < r := by omega
         have hq8 : (q : Int) < 8 := by omega
         obtain ⟨i0, hi0, hi0n, hi0u, -, hi0l⟩ := HWA.out q hqt
         obtain ⟨b14, sp14, rfl, rfl, hsz⟩ := HW.out.inv2 (fun h => by rw [List.map_eq_nil_iff] at h; rw [h] at hi0; cases hi0)
         have k14 : LA 3 (rowsOf ((wl.map fun x : Nat => ic x) ++ sp14)) q (.int .i64 (i0 : Int)) := la_i1 hsz (by rw [List.getElem?_append_left (by have := (List.getElem?_eq_some_iff.1 hi0).1; rw [List.length_map]; exact this), List.getElem?_map, hi0]; rfl)
         have hi0n1 : (i0 : Int) < U.length := by omega
         have hFs : ∀ q j, (Fo q j).size = 66 := fun q j => by
          rw [hFo.out]
          show (if _ then Rt.qA _ else Rt.qA 0).size = 66
          split <;> exact qA_size _
         have ka := la_arr8i f (m := r) (i := q) hqt (by omega)
         have sa := sa_ol (F := Fo q) (G := Fo (q + 1)) (n := U.length) (i := i0) (q := f q) (hFs q) hi0n (by
          rw [hFo.out]
          show (if _ then Rt.qA _ else Rt.qA 0) = _
          rw [if_pos ⟨Ns.hu_iff.2 hi0u, by omega⟩, hi0l]) (fun j hj => by
          by_cases e : j = i0
          ·subst e; rw [if_pos rfl]
          ·rw [if_neg e, hFo.out]
           show (if _ then Rt.qA _ else Rt.qA 0) = (if _ then Rt.qA _ else Rt.qA 0)
           by_cases h1 : Ns.hu (Ns.gu U) j = true ∧ (Ns.wl (Ns.hu (Ns.gu U)) j).length < q
           ·rw [if_pos h1, if_pos ⟨h1.1, by omega⟩]
           ·rw [if_neg h1, if_neg (fun h2 => h1 ⟨h2.1, by
              have h3 := Ns.wl_pos hj h2.1
              by_cases e2 : (Ns.wl (Ns.hu (Ns.gu U)) j).length = q
              ·rw [e2, ← hwle.out, hi0] at h3
               exact absurd (by simpa using h3.symm) e
              ·omega⟩)])
         clear hi0 hsz hFs
         go_wp2_with (first | ((with_reducible refine g_ld ?_); refine a_ld HM ?_) | ((with_reducible refine g_st ?_); refine a_st HM ?_; clear HM; intro w1 HM) | ((with_reducible refine g_al ?_); refine a_al HM ?_; clear HM; intro bk w1 HM) | ((with_reducible refine g_bx ?_); refine a_bx HM ?_; clear HM; intro bk w1 HM) | ((with_reducible refine g_bld ?_); refine a_bld ?_))
         go_roundw
         case rel => exact ⟨q + 1, by go_num, by omega, HM⟩
         case measure => simp [intOf]; omega
        ·obtain rfl : q = r := by omega
         have hol : So.ol (Fo q) U.length = qrows U.length (Ns.lift (Ns.gu U) f) := So.ol_congr fun j hj => by
          rw [hFo.out]
          show (if _ then Rt.qA _ else Rt.qA 0) = Rt.qA (Ns.lift (Ns.gu U) f j)
          unfold Ns.lift
          by_cases hp : Ns.hu (Ns.gu U) j = true
          ·have h1 := (List.getElem?_eq_some_iff.1 (Ns.wl_pos hj hp)).1
           rw [← hwle.out, HMM.out] at h1
           rw [if_pos hp, if_pos ⟨hp, h1⟩]
          ·rw [if_neg hp, if_neg (fun h => hp h.1)]
         have HOL := Lib.hid hol
         clear hol
         go_wp2_with (first | ((with_reducible refine g_ld ?_); refine a_ld HM ?_) | ((with_reducible refine g_st ?_); refine a_st HM ?_; clear HM; intro w1 HM) | ((with_reducible refine g_al ?_); refine a_al HM ?_; clear HM; intro bk w1 HM) | ((with_reducible refine g_bx ?_); refine a_bx HM ?_; clear HM; intro bk w1 HM) | ((with_reducible refine g_bld ?_); refine a_bld ?_))
         go_ret2
         refine ⟨below_seq HB0.out HM.low, .inr ⟨HNCC.out, _, Ns.lift (Ns.gu U) f, rfl, Lib.hid ?_, Lib.hid ⟨HPRF.out, HFIT.out⟩⟩⟩
         rw [HOL.out] at HM
         have h1 := (SlAt.row (n := 66) bo (qrows U.length (Ns.lift (Ns.gu U) f)) [] (fun c hc => by
          rw [List.append_nil] at hc
          obtain ⟨j, _, rfl⟩ := List.mem_map.1 hc
          exact qA_size _)).rd HM (by simp)
         have hl : (qrows U.length (Ns.lift (Ns.gu U) f)).length = U.length := by simp [qrows, So.ol]
         rw [List.length_nil, Nat.add_zero, hl] at h1
         exact h1
end Go.Proofs.YtckhdiljihhdmaaGreat
namespace Go.Proofs.YtckhdiljihhdmaaGreat
set_option maxRecDepth 8000
open Go.RowKit
namespace Sv
def inr (a : Int) : Prop := -1000000000000000 ≤ a ∧ a ≤ 1000000000000000
open Classical in
noncomputable def chk (U : List Int) (H : List (List Int)) (A : List Int) : Int :=
 if Ns.chk U H = 0 then (if A.length = U.length then (if ∀ a ∈ A, inr a then 0 else 350) else 350) else Ns.chk U H
open Classical in
noncomputable def err (U : List Int) (H : List (List Int)) (A : List Int) : Int :=
 if chk U H A = 0 then (if Ns.Circ U.length (Ns.gu U) (Ns.gh H) then 351 else 0) else chk U H A
theorem chk_nest {U : List Int} {H : List (List Int)} {A : List Int} (h : Ns.chk U H ≠ 0) : chk U H A = Ns.chk U H := if_neg h
theorem chk_len {U : List Int} {H : List (List Int)} {A : List Int} (h : Ns.chk U H = 0) (hl : A.length ≠ U.length) : chk U H A = 350 := by
 unfold chk; rw [if_pos h, if_neg hl]
theorem chk_bad {U : List Int} {H : List (List Int)} {A : List Int} {a : Int} (h : Ns.chk U H = 0) (hl : A.length = U.length) (ha : a ∈ A) (hb : ¬ inr a) : chk U H A = 350 := by
 unfold chk; rw [if_pos h, if_pos hl, if_neg (fun h => hb (h a ha))]
theorem chk_ok {U : List Int} {H : List (List Int)} {A : List Int} (h : Ns.chk U H = 0) (hl : A.length = U.length) (ha : ∀ a ∈ A, inr a) : chk U H A = 0 := by
 unfold chk; rw [if_pos h, if_pos hl, if_pos ha]
theorem chk_spec {U : List Int} {H : List (List Int)} {A : List Int} (h : chk U H A = 0) : Ns.Good U H ∧ A.length = U.length ∧ ∀ i, i < U.length → (Ns.gu A i).natAbs ≤ 1000000000000000 := by
 unfold chk at h
 by_cases h1 : Ns.chk U H = 0
 ·rw [if_pos h1] at h
  by_cases h2 : A.length = U.length
  ·rw [if_pos h2] at h
   by_cases h3 : ∀ a ∈ A, inr a
   ·refine ⟨Ns.chk_good h1, h2, fun i hi => ?_⟩
    have h4 : i < A.length := by omega
    have := h3 A[i] (List.getElem_mem h4)
    rw [Ns.gu_at (List.getElem?_eq_getElem h4)]
    unfold inr at this; omega
   ·rw [if_neg h3] at h; cases h
  ·rw [if_neg h2] at h; cases h
 ·rw [if_neg h1] at h; exact absurd h h1
theorem chk_of {U : List Int} {H : List (List Int)} {A : List Int} (h : Ns.Good U H) (hl : A.length = U.length) (ha : ∀ i, i < U.length → (Ns.gu A i).natAbs ≤ 1000000000000000) : chk U H A = 0 :=
 chk_ok h.good hl fun a hm => by
  obtain ⟨i, hi⟩ := List.getElem?_of_mem hm
  have := ha i (by have := (List.getElem?_eq_some_iff.1 hi).1; omega)
  rw [Ns.gu_at hi] at this
  unfold inr; omega
def Px (U : List Int) (H : List (List Int)) (A : List Int) (f : Nat → Rat) : Prop := Ns.Pr U.length (Ns.gu U) (Ns.gh H) (Ns.gu A) f ∧ ∀ i, i < U.length → Rt.Fit (f i)
end Sv
set_option maxHeartbeats 4000000 in
theorem scheck_any (us hs as_ : Value) (U : List Int) (H : List (List Int)) (A : List Int) (w : World) (hR : RdN w us hs U H) (hA : RdI w as_ A) (r : Int) (hr : Hid (r = Sv.chk U H A)) :
    Calls Tryz.prog 51 #[.agg #[us, hs], as_] w fun e w' => e = .returned (.int .i64 r) ∧ Below w.heap.size w w' := by
 have HM := Mem.start w
 have HA := Lib.hid hA
 obtain ⟨Au, cu, rfl⟩ := hR.u.form
 obtain ⟨Aa, ca, rfl⟩ := hA.form
 obtain ⟨c, hc⟩ : ∃ c, Hid (c = Ns.chk U H) := ⟨_, Lib.hid rfl⟩
 have C := fun w' hB => ncheck_any _ _ U H w' (hR.below hB) c hc
 have n0 := la_n0 (.slice Au U.length cu) hs
 have n2 := la_nest (.slice Au U.length cu) hs
 clear hR hA
 by_cases h0 : c = 0
 case neg =>
  obtain rfl : r = c := by rw [hr.out, Sv.chk_nest (by rw [← hc.out]; exact h0), ← hc.out]
  clear hr hc
  go_enter Tryz.func51, Tryz.ntmps51
  go_wp2_with (first | (go_at_call 36; ((with_reducible refine (C _ HM.low).mono ?_); rintro e9 w2 ⟨rfl, hL⟩; replace HM := HM.call hL; clear hL)) | (first | ((with_reducible refine g_ld ?_); refine a_ld HM ?_) | ((with_reducible refine g_bx ?_); refine a_bx HM ?_; clear HM; intro bk w1 HM)))
  go_ret
  exact ⟨rfl, HM.low⟩
 case pos =>
 subst h0
 by_cases hl : A.length = U.length
 case neg =>
  obtain rfl : r = 350 := by rw [hr.out]; exact Sv.chk_len hc.out.symm hl
  have hl1 : ¬ (A.length : Int) = U.length := by omega
  clear hr hc
  go_enter Tryz.func51, Tryz.ntmps51
  go_wp2_with (first | (go_at_call 36; ((with_reducible refine (C _ HM.low).mono ?_); rintro e9 w2 ⟨rfl, hL⟩; replace HM := HM.call hL; clear hL)) | (first | ((with_reducible refine g_ld ?_); refine a_ld HM ?_) | ((with_reducible refine g_bx ?_); refine a_bx HM ?_; clear HM; intro bk w1 HM)))
  go_ret
  exact ⟨rfl, HM.low⟩
 case pos =>
 have hl1 : (A.length : Int) = U.length := by omega
 have hn8 := (Ns.chk_good hc.out.symm).sh.1
 go_enter Tryz.func51, Tryz.ntmps51
 go_wp2_with (first | (go_at_call 36; ((with_reducible refine (C _ HM.low).mono ?_); rintro e9 w2 ⟨rfl, hL⟩; replace HM := HM.call hL; clear hL)) | (first | ((with_reducible refine g_ld ?_); refine a_ld HM ?_) | ((with_reducible refine g_bx ?_); refine a_bx HM ?_; clear HM; intro bk w1 HM)))
 go_loopw [4, 21] (fun rv iv wr => ∃ i : Nat, rv = .int .i64 0 ∧ iv = .int .i64 (i : Nat) ∧ i ≤ U.length ∧ Hid (∀ a ∈ A.take i, Sv.inr a) ∧ Mem w [] [] wr) (fun _ iv _ => U.length - (intOf iv).toNat)
 case atStart => exact ⟨0, rfl, rfl, by omega, Lib.hid (by simp), HM.pick⟩
 case round =>
  clear HM
  obtain ⟨i, rfl, rfl, hi, HQ, HM⟩ := hrel
  by_cases hlt : i < U.length
  ·have hlt1 : (i : Int) < U.length := by omega
   obtain ⟨a, ha⟩ : ∃ a, A[i]? = some a := ⟨_, List.getElem?_eq_getElem (by omega)⟩
   obtain ⟨b6, off6, cs6, rfl, HB6, ka⟩ := HA.out.at_ ha
   by_cases h1 : a < -1000000000000000
   ·obtain rfl : r = 350 := by rw [hr.out]; exact Sv.chk_bad hc.out.symm hl (List.mem_of_getElem? ha) (fun h => by unfold Sv.inr at h; omega)
    clear hr hc ha
    go_wp2_with (first | ((with_reducible refine g_ld ?_); refine a_ld HM ?_) | ((with_reducible refine g_bx ?_); refine a_bx HM ?_; clear HM; intro bk w1 HM))
    go_ret
    exact ⟨rfl, HM.low⟩
   by_cases h2 : 1000000000000000 < a
   ·obtain rfl : r = 350 := by rw [hr.out]; exact Sv.chk_bad hc.out.symm hl (List.mem_of_getElem? ha) (fun h => by unfold Sv.inr at h; omega)
    clear hr hc ha
    go_wp2_with (first | ((with_reducible refine g_ld ?_); refine a_ld HM ?_) | ((with_reducible refine g_bx ?_); refine a_bx HM ?_; clear HM; intro bk w1 HM))
    go_ret
    exact ⟨rfl, HM.low⟩
   have HQ2 : Hid (∀ a ∈ A.take (i + 1), Sv.inr a) := Lib.hid (by
    intro x hx
    rw [List.take_add_one, ha] at hx
    rcases List.mem_append.1 hx with hx | hx
    ·exact HQ.out x hx
    ·simp at hx; subst hx; unfold Sv.inr; omega)
   clear ha
   go_wp2_with (first | ((with_reducible refine g_ld ?_); refine a_ld HM ?_) | ((with_reducible refine g_bx ?_); refine a_bx HM ?_; clear HM; intro bk w1 HM))
   go_roundw
   case rel => exact ⟨i + 1, rfl, by go_num, by omega, HQ2, HM⟩
   case measure => simp [intOf]; omega
  ·obtain rfl : r = 0 := by rw [hr.out]; exact Sv.chk_ok hc.out.symm hl (by have := HQ.out; rwa [List.take_of_length_le (by omega)] at this)
   obtain rfl : i = U.length := by omega
   go_wp2_with (first | ((with_reducible refine g_ld ?_); refine a_ld HM ?_) | ((with_reducible refine g_bx ?_); refine a_bx HM ?_; clear HM; intro bk w1 HM))
   go_ret
   exact ⟨rfl, HM.low⟩
set_option maxHeartbeats 4000000 in
theorem ssolve_any (us hs as_ : Value) (U : List Int) (H : List (List Int)) (A : List Int) (w : World) (hR : RdN w us hs U H) (hA : RdI w as_ A) (r : Int) (hr : Hid (r = Sv.err U H A)) :
    Calls Tryz.prog 26 #[.agg #[us, hs], as_] w fun e w' => ∃ s, e = .returned (.tuple #[s, .int .i64 r]) ∧ Below w.heap.size w w' ∧ Hid ((r ≠ 0 ∧ s = .slice none 0 0) ∨ (r = 0 ∧ ∃ f, Sv.Px U H A f ∧ RdS 66 w' s (qrows U.length f))) := by
 have HM := Mem.start w
 obtain ⟨c, hc⟩ : ∃ c, Hid (c = Sv.chk U H A) := ⟨_, Lib.hid rfl⟩
 have C := fun w' hB => scheck_any us hs as_ U H A w' (hR.below hB) (hA.below hB) c hc
 have n2 := la_nest us hs
 by_cases h0 : c = 0
 case neg =>
  obtain rfl : r = c := by rw [hr.out]; unfold Sv.err; rw [if_neg (by rw [← hc.out]; exact h0), ← hc.out]
  clear hr hc hR hA
  go_enter Tryz.func26, Tryz.ntmps26
  go_wp2_with (first | (go_at_call 51; ((with_reducible refine (C _ HM.low).mono ?_); rintro e9 w2 ⟨rfl, hL⟩; replace HM := HM.call hL; clear hL)) | (first | ((with_reducible refine g_ld ?_); refine a_ld HM ?_) | ((with_reducible refine g_bx ?_); refine a_bx HM ?_; clear HM; intro bk w1 HM)))
  go_ret2
  exact ⟨_, rfl, HM.low, Lib.hid (.inl ⟨h0, rfl⟩)⟩
 case pos =>
 subst h0
 obtain ⟨hG, hAl, hb⟩ := Sv.chk_spec hc.out.symm
 have P := fun w' hB => prices_any us hs as_ U H A w' (hR.below hB) hG (hA.below hB) hAl hb
 have HRE : Hid ((Ns.Circ U.length (Ns.gu U) (Ns.gh H) → r = 351) ∧ (¬ Ns.Circ U.length (Ns.gu U) (Ns.gh H) → r = 0)) := Lib.hid (by
  have h := hr.out
  unfold Sv.err at h
  rw [if_pos hc.out.symm] at h
  exact ⟨fun hp => by rwa [if_pos hp] at h, fun hp => by rwa [if_neg hp] at h⟩)
 clear hr hc hR hA hG hAl hb
 go_enter Tryz.func26, Tryz.ntmps26
 go_upto_region 4 with (first | (go_at_call 51; ((with_reducible refine (C _ HM.low).mono ?_); rintro e9 w2 ⟨rfl, hL⟩; replace HM := HM.call hL; clear hL)) | (first | ((with_reducible refine g_ld ?_); refine a_ld HM ?_) | ((with_reducible refine g_bx ?_); refine a_bx HM ?_; clear HM; intro bk w1 HM)))
 go_wp2_with (first | ((with_reducible refine g_ld ?_); refine a_ld HM ?_) | ((with_reducible refine g_bx ?_); refine a_bx HM ?_; clear HM; intro bk w1 HM))
 refine (P _ HM.low).mono ?_
 rintro e9 w2 ⟨hL, h | h⟩
 ·obtain ⟨hc, rfl⟩ := h
  replace HM := HM.call hL
  have hr2 : r = 351 := HRE.out.1 hc
  have HR2 := Lib.hid hr2
  clear hr2 HRE hL P C
  go_wp2_with (first | ((with_reducible refine g_ld ?_); refine a_ld HM ?_) | ((with_reducible refine g_bx ?_); refine a_bx HM ?_; clear HM; intro bk w1 HM))
  go_ret2
  exact ⟨_, by rw [HR2.out]; rfl, HM.low, Lib.hid (.inl ⟨by rw [HR2.out]; decide, rfl⟩)⟩
 ·obtain ⟨hc, s, f, rfl, HS, HF⟩ := h
  replace HM := HM.call hL
  have hr2 : r = 0 := HRE.out.2 hc
  have HR2 := Lib.hid hr2
  clear hr2 HRE hL P C
  go_wp2_with (first | ((with_reducible refine g_ld ?_); refine a_ld HM ?_) | ((with_reducible refine g_bx ?_); refine a_bx HM ?_; clear HM; intro bk w1 HM))
  go_ret2
  exact ⟨_, by rw [HR2.out]; rfl, HM.low, Lib.hid (.inr ⟨HR2.out, f, HF.out, HS.out⟩)⟩
end Go.Proofs.YtckhdiljihhdmaaGreat
