/- Walks. -/
import Derived.Test.YtiekmabiecalbaaGreatDoorPr31
namespace Go.Proofs.YtiekmabiecalbaaGreatDoor
set_option maxHeartbeats 16000000
open Go.RowKit
set_option maxRecDepth 8000
set_option linter.unusedSimpArgs false
set_option linter.unusedVariables false
section
theorem z9_87 {P : Prop} (h : P := by
 have h9 := hy
 conv at h9 => lhs; rw [← Rat.num_divInt_den y]
 rwa [Rat.divInt_eq_divInt_iff (Rt.den_ne y) Zd] at h9) : P := h
theorem z9_88 {P : Prop} (h : P := by
 have e0 : ((0 : Int) : Rat) ≤ ((q : Int) : Rat) := Rat.intCast_le_intCast.2 h0
 have e1 : ((0 : Int) : Rat) = 0 := rfl
 rw [e3]
 grind) : P := h
theorem z9_89 {P : Prop} (h : P := by
 rcases Int.lt_or_le 0 k with h | h
 ·exact h
 ·have := Int.mul_nonpos_of_nonneg_of_nonpos (Int.le_of_lt hd) h; omega) : P := h
theorem z9_90 {P : Prop} (h : P := by
 rw [Rat.divInt_eq_divInt_iff Zo Zd, ← hk, Int.mul_assoc, Int.mul_comm k d]) : P := h
theorem z9_91 {P : Prop} (h : P := by
 simp only [List.mem_cons, List.not_mem_nil, or_false] at hv
 omega) : P := h
theorem z9_92 {P : Prop} (h : P := by
 rintro e9 w2 ⟨s, c1, rfl, hs, hc1, hb1, hg⟩
 replace HM := HM.put (c' := c1) Zg hb1 hg
 clear hg hb1
 replace HC := Zi hc1
 clear hc1
 go_wp2_with fail
 go_ret
 obtain ⟨hT, hg⟩ := HM.done Zl HC.out H0.out hle0
 exact ⟨s, rfl, hs, hT, hg⟩) : P := h
end
section
theorem Tx.txt_small {N k : Nat} (h : N < 10 ^ k) (hk : 0 < k) : (Tx.txt false N).size ≤ k := by
 unfold Tx.txt
 by_cases h0 : N = 0
 ·rw [if_pos h0, Tx.str_len]; exact hk
 ·rw [if_neg h0, if_neg Bool.false_ne_true, Tx.str_len, List.length_reverse]
  exact Tx.dig_len h
theorem Ac.pct_of {q : Int} (h0 : 0 ≤ q) (h1 : q ≤ 100000000) : Ac.Pct (some (Rat.divInt q 100000000)) := by
 have e : Rat.divInt q 100000000 * ((100 : Int) : Rat) = Rat.divInt q 1000000 := by
  rw [Rat.divInt_eq_div, Rat.divInt_eq_div]
  have e1 : ((100 : Int) : Rat) = 100 := rfl
  have e2 : ((1000000 : Int) : Rat) = 1000000 := rfl
  have e3 : ((100000000 : Int) : Rat) = 100000000 := rfl
  rw [e1, e2, e3]
  grind
 show Rt.Fit _ ∧ _ ∧ Ac.Txt _
 rw [e]
 obtain ⟨y, hy⟩ : ∃ y, y = Rat.divInt q 1000000 := ⟨_, rfl⟩
 have hp : Ac.p10 6 = 1000000 := by decide
 have hy2 : y.num * 1000000 = q * y.den := by
  exact z9_87
 have hd := Ac.den_pos y
 rw [← hy]
 have e28 : Bg.p2 28 = 268435456 := by unfold Bg.p2; rfl
 refine ⟨?_, ?_, ?_⟩
 ·rw [hy]
  exact (Rt.Bd.divInt (i := 28) (j := 28) Zd Zo (by rw [e28]; decide)).fit
 ·rw [Rat.divInt_eq_div]
  have e3 : ((100000000 : Int) : Rat) = 100000000 := rfl
  exact z9_88
 ·unfold Ac.Txt
  have hre : Ac.re y 6 = 0 := by
   unfold Ac.re
   rw [hp, hy2]
   exact Int.mul_emod_left _ _
  have hlo : Ac.lo y 6 = q := by
   unfold Ac.lo
   rw [hp, hy2]
   exact Int.mul_ediv_cancel _ Zo
  rw [hre, hlo]
  exact ⟨rfl, Nat.le_trans (Tx.txt_small (k := 9) Zo Zd) Zd⟩
def Ac.Pr (x : Rat) : Prop := ∃ q : Int, 0 ≤ q ∧ q ≤ 100000000 ∧ x = Rat.divInt q 100000000
theorem Ac.pr_of {n d k : Int} (h0 : 0 ≤ n) (h1 : n ≤ d) (hd : 0 < d) (hk : d * k = 100000000) : Ac.Pr (Rat.divInt n d) := by
 have k0 : 0 < k := by
  exact z9_89
 refine ⟨n * k, Int.mul_nonneg h0 (Int.le_of_lt k0), ?_, ?_⟩
 ·rw [← hk]; exact Int.mul_le_mul_of_nonneg_right h1 (Int.le_of_lt k0)
 ·exact z9_90
theorem Ac.pr_ok {x : Rat} (h : Ac.Pr x) : Rt.Bd x 28 28 ∧ Ac.Pct (some x) ∧ x ≤ ((1 : Int) : Rat) := by
 obtain ⟨q, h0, h1, rfl⟩ := h
 have e28 : Bg.p2 28 = 268435456 := by unfold Bg.p2; rfl
 refine ⟨Rt.Bd.divInt Zd Zo (by rw [e28]; decide), Ac.pct_of h0 h1, ?_⟩
 rw [Rat.divInt_eq_div]
 have e3 : ((100000000 : Int) : Rat) = 100000000 := rfl
 have e0 : ((q : Int) : Rat) ≤ ((100000000 : Int) : Rat) := Rat.intCast_le_intCast.2 h1
 have e1 : ((1 : Int) : Rat) = 1 := rfl
 rw [e3] at e0 ⊢
 rw [e1]
 grind
def PercPost (W : World) (tb m : Nat) (w : World) (e : Ending) (w' : World) : Prop :=
 ∃ x : Rat, e = .returned (.agg (Rt.qA x)) ∧ Ac.Pr x ∧ Tp W tb (m + 1000) w' ∧ w.grownBy w' (some tb)
theorem percent_any (W : World) (tb m : Nat) (w : World) (hT : Tp W tb m w) (hm : m ≤ 900000000) :
    Calls Tryz.prog 20 #[.pointer (some ⟨tb, 0, none⟩)] w (PercPost W tb m w) := by
 obtain ⟨cs, hb, hc, h0, hle0⟩ := hT
 have HM := Mem.start1 w hb
 have HC := Zi hc
 have H0 := Zi h0
 have hz0 := za_rat
 have hle : ∀ b ∈ [tb], W.heap.size ≤ b := by simpa using hle0
 clear hb hc h0
 go_enter Tryz.func20, Tryz.ntmps20
 go_wp2_with (first | ((with_reducible refine g_st ?_); refine a_st HM ?_; clear HM; intro w1 HM) | ((with_reducible refine g_al ?_); refine a_al HM ?_; clear HM; intro bk w1 HM))
 (refine (pick_new (tb := tb) (W := W) HM Zl HC.out H0.out (by first | exact hle | simpa using hle) [1, 4, 10, 20, 100, 200, 1000, 10000, 100000000] _ Zo Zs Zs).mono ?_; rintro e9 w2 ⟨v1, c1, rfl, hv, hc1, hb1, hg⟩; replace HM := HM.put (c' := c1) Zg hb1 hg; clear hg hb1; replace HC := Zi hc1; clear hc1)
 have hd : ∃ d k : Int, v1 = d ∧ 1 ≤ d ∧ d ≤ 100000000 ∧ d * k = 100000000 := by
  simp only [List.mem_cons, List.not_mem_nil, or_false] at hv
  rcases hv with rfl | rfl | rfl | rfl | rfl | rfl | rfl | rfl | rfl
  ·exact ⟨1, 100000000, rfl, by decide, by decide, by decide⟩
  ·exact ⟨4, 25000000, rfl, by decide, by decide, by decide⟩
  ·exact ⟨10, 10000000, rfl, by decide, by decide, by decide⟩
  ·exact ⟨20, 5000000, rfl, by decide, by decide, by decide⟩
  ·exact ⟨100, 1000000, rfl, by decide, by decide, by decide⟩
  ·exact ⟨200, 500000, rfl, by decide, by decide, by decide⟩
  ·exact ⟨1000, 100000, rfl, by decide, by decide, by decide⟩
  ·exact ⟨10000, 10000, rfl, by decide, by decide, by decide⟩
  ·exact ⟨100000000, 1, rfl, by decide, by decide, by decide⟩
 obtain ⟨d, k, rfl, hd1, hd2, hk⟩ := hd
 have HK := Zi hk
 clear hv hk
 go_wp2_with fail
 (refine (chance_any W tb _ 3 4 _ (HM.tp Zl HC.out H0.out hle) Zo Zo Zo).mono ?_; rintro e9 w2 ⟨b, rfl, ⟨c1, hb1, hc1, -, -⟩, hg⟩; replace HM := HM.put (c' := c1) Zg hb1 (Only.of_grown hg); clear hg hb1; replace HC := Zi hc1; clear hc1)
 cases b with
 | true =>
  clear HK hd1 hd2
  go_wp2_with fail
  (refine (pick_new (tb := tb) (W := W) HM Zl HC.out H0.out (by first | exact hle | simpa using hle) [50, 100, 200, 1000] _ Zo Zs Zs).mono ?_; rintro e9 w2 ⟨v1, c1, rfl, hv, hc1, hb1, hg⟩; replace HM := HM.put (c' := c1) Zg hb1 hg; clear hg hb1; replace HC := Zi hc1; clear hc1)
  have hd : ∃ d k e : Int, v1 = d ∧ 50 ≤ d ∧ d ≤ 1000 ∧ d * k = 100000000 ∧ Hid (e = d / 10) ∧ 5 ≤ e ∧ e ≤ 100 ∧ e ≤ d := by
   simp only [List.mem_cons, List.not_mem_nil, or_false] at hv
   rcases hv with rfl | rfl | rfl | rfl
   ·exact ⟨50, 2000000, 5, rfl, by decide, by decide, by decide, Zi Zd, by decide, by decide, by decide⟩
   ·exact ⟨100, 1000000, 10, rfl, by decide, by decide, by decide, Zi Zd, by decide, by decide, by decide⟩
   ·exact ⟨200, 500000, 20, rfl, by decide, by decide, by decide, Zi Zd, by decide, by decide, by decide⟩
   ·exact ⟨1000, 100000, 100, rfl, by decide, by decide, by decide, Zi Zd, by decide, by decide, by decide⟩
  obtain ⟨d, k, e, rfl, hd1, hd2, hk, he, he1, he2, he3⟩ := hd
  have HK := Zi hk
  clear hv hk
  go_wp2_with fail
  rw [← he.out]
  (refine (next_any W tb _ _ _ (HM.tp Zl HC.out H0.out hle) Zo Zo Zo).mono ?_; rintro e9 w2 ⟨n, rfl, n0, n1, ⟨c1, hb1, hc1, -, -⟩, hg⟩; replace HM := HM.put (c' := c1) Zg hb1 (Only.of_grown hg); clear hg hb1; replace HC := Zi hc1; clear hc1)
  have hp := Ac.pr_of (n := n) n0 Zo Zo HK.out
  have OF := fun w => mkof_q n v1 _ Zo Zo Zo Zo Zo (Zi rfl) w
  have sx := sa_q (Rat.divInt n v1) (c := Bg.rZ 0 0) (rZ_size 0 0)
  have lx := la_q (Rat.divInt n v1)
  go_wp2_with (first | (go_at_call 19; (with_reducible refine Zc HM (OF _) ?_; clear HM; intro w2 HM)) | (first | ((with_reducible refine g_st ?_); refine a_st HM ?_; clear HM; intro w1 HM) | ((with_reducible refine g_al ?_); refine a_al HM ?_; clear HM; intro bk w1 HM)))
  refine bodyPost_ret (r_c rfl rfl (HM.get Zl) lx) rfl ?_
  obtain ⟨hT, hg⟩ := HM.done Zl HC.out H0.out hle0
  exact ⟨_, rfl, hp, hT.mono Zo, hg⟩
 | false =>
  go_wp2_with fail
  (refine (next_any W tb _ _ _ (HM.tp Zl HC.out H0.out hle) Zo Zo Zo).mono ?_; rintro e9 w2 ⟨n, rfl, n0, n1, ⟨c1, hb1, hc1, -, -⟩, hg⟩; replace HM := HM.put (c' := c1) Zg hb1 (Only.of_grown hg); clear hg hb1; replace HC := Zi hc1; clear hc1)
  have hp := Ac.pr_of (n := n) n0 Zo Zo HK.out
  have OF := fun w => mkof_q n v1 _ Zo Zo Zo Zo Zo (Zi rfl) w
  have sx := sa_q (Rat.divInt n v1) (c := Bg.rZ 0 0) (rZ_size 0 0)
  have lx := la_q (Rat.divInt n v1)
  go_wp2_with (first | (go_at_call 19; (with_reducible refine Zc HM (OF _) ?_; clear HM; intro w2 HM)) | (first | ((with_reducible refine g_st ?_); refine a_st HM ?_; clear HM; intro w1 HM) | ((with_reducible refine g_al ?_); refine a_al HM ?_; clear HM; intro bk w1 HM)))
  refine bodyPost_ret (r_c rfl rfl (HM.get Zl) lx) rfl ?_
  obtain ⟨hT, hg⟩ := HM.done Zl HC.out H0.out hle0
  exact ⟨_, rfl, hp, hT.mono Zo, hg⟩
def PickRPost (W : World) (tb m : Nat) (l : List (Array Value)) (w : World) (e : Ending) (w' : World) : Prop :=
 ∃ c : Array Value, e = .returned (.agg c) ∧ c ∈ l ∧ Tp W tb (m + 1) w' ∧ w.grownBy w' (some tb)
theorem pickr_any (W : World) (tb m b : Nat) (l : List (Array Value)) (n9 : Nat) (w : World) (hT : Tp W tb m w) (hm : m ≤ 900000000) (hB : Blk w b (rowsOf l)) (hne : b ≠ tb) (hn : l.length = n9) (hd : 0 < n9) (hd2 : n9 ≤ 1000) (hs : ∀ c ∈ l, c.size = 66) (h1 : ∀ c ∈ l, c.all (·.oneCell') = true) :
    Calls Tryz.prog 18 #[.pointer (some ⟨tb, 0, none⟩), .slice (some ⟨b, 0, none⟩) n9 n9] w (PickRPost W tb m l w) := by
 obtain ⟨cs, hb, hc, h0, hle0⟩ := hT
 have HM := Mem.start1 w hb
 have HC := Zi hc
 have H0 := Zi h0
 have hz0 := za_rat
 have hle : ∀ b ∈ [tb], W.heap.size ≤ b := by simpa using hle0
 have HB := Zi hB
 have HS := Zi hs
 have H1 := Zi h1
 have HN := Zi hn
 have hnb : b ∉ [tb] := by simpa using hne
 have hn0 : ((n9 : Int) == 0) = false := Zb Zo
 clear hb hc h0 hB hs h1 hn
 go_enter Tryz.func18, Tryz.ntmps18
 go_wp2_with (first | ((with_reducible refine g_ld ?_); refine a_ld HM ?_) | ((with_reducible refine g_st ?_); refine a_st HM ?_; clear HM; intro w1 HM) | ((with_reducible refine g_al ?_); refine a_al HM ?_; clear HM; intro bk w1 HM))
 (refine (next_any W tb _ _ _ (HM.tp Zl HC.out H0.out hle) Zo Zo Zo).mono ?_; rintro e9 w2 ⟨v, rfl, v0, v1, ⟨c1, hb1, hc1, -, -⟩, hg⟩; replace HM := HM.put (c' := c1) Zg hb1 (Only.of_grown hg); clear hg hb1; replace HC := Zi hc1; clear hc1)
 obtain ⟨k, rfl⟩ : ∃ k : Nat, v = k := ⟨v.toNat, by omega⟩
 have hk : k < l.length := by have := HN.out; omega
 obtain ⟨c, hcx⟩ : ∃ c, l[k]? = some c := ⟨l[k], List.getElem?_eq_getElem hk⟩
 have hmem := List.mem_of_getElem? hcx
 have HMEM := Zi hmem
 have hsz := HS.out c hmem
 have lc := la_row (T := 35) Zk sT_rat HS.out hcx
 have sc := sa_c hsz (H1.out c hmem) (rZ_size 0 0)
 have kc := la_c hsz
 clear hcx hmem hk
 go_wp2_with (first | ((with_reducible refine g_ld ?_); refine a_ld HM ?_ (hb := RdB.ro HB hnb)) | (first | ((with_reducible refine g_ld ?_); refine a_ld HM ?_) | ((with_reducible refine g_st ?_); refine a_st HM ?_; clear HM; intro w1 HM) | ((with_reducible refine g_al ?_); refine a_al HM ?_; clear HM; intro bk w1 HM)))
 refine bodyPost_ret (r_c rfl rfl (HM.get Zl) kc) rfl ?_
 obtain ⟨hT, hg⟩ := HM.done Zl HC.out H0.out hle0
 exact ⟨c, rfl, HMEM.out, hT.mono Zo, hg⟩
open Jb
namespace Jb
open Classical in
theorem price_q {q : Int} (h0 : 0 ≤ q) (h1 : q ≤ 1000000000000) : price (rr (Rat.divInt q 1000000)) = true := by
 obtain ⟨y, hy⟩ : ∃ y, y = Rat.divInt q 1000000 := ⟨_, rfl⟩
 have hp : Ac.p10 6 = 1000000 := by decide
 have hy2 : y.num * 1000000 = q * y.den := by
  exact z9_87
 have hd := Ac.den_pos y
 have e40 : Bg.p2 41 = 2199023255552 := by unfold Bg.p2; rfl
 have hF : Rt.Fit y := by rw [hy]; exact (Rt.Bd.divInt (i := 41) (j := 41) Zd Zo (by rw [e40]; decide)).fit
 rw [← hy]
 unfold price
 refine Zt ⟨y, ⟨hF, rr_c hF⟩, ?_, ?_, ?_⟩
 ·unfold Ac.Txt
  have hre : Ac.re y 6 = 0 := by
   unfold Ac.re
   rw [hp, hy2]
   exact Int.mul_emod_left _ _
  have hlo : Ac.lo y 6 = q := by
   unfold Ac.lo
   rw [hp, hy2]
   exact Int.mul_ediv_cancel _ Zo
  rw [hre, hlo]
  exact ⟨rfl, Nat.le_trans (Tx.txt_small (k := 13) Zo Zd) Zd⟩
 ·rw [hy, Rat.divInt_eq_div]
  have e3 : ((1000000 : Int) : Rat) = 1000000 := rfl
  exact z9_88
 ·rw [hy, Rat.divInt_eq_div]
  have e3 : ((1000000 : Int) : Rat) = 1000000 := rfl
  have e4 : ((1000000000 : Int) : Rat) = 1000000000 := rfl
  have e0 : ((q : Int) : Rat) ≤ ((1000000000000 : Int) : Rat) := Rat.intCast_le_intCast.2 h1
  have e1 : ((1000000000000 : Int) : Rat) = 1000000000000 := rfl
  rw [e3, e4]
  grind
theorem price_r {n d k : Int} (h0 : 0 ≤ n) (h1 : n ≤ 1000000) (hd : 0 < d) (hk : d * k = 1000000) : price (rr (Rat.divInt n d)) = true := by
 have k0 : 0 < k := by
  exact z9_89
 have e : Rat.divInt n d = Rat.divInt (n * k) 1000000 := by
  exact z9_90
 rw [e]
 have hk1 : k ≤ 1000000 := by
  have := Int.mul_le_mul_of_nonneg_right (show 1 ≤ d by omega) (Int.le_of_lt k0)
  omega
 refine price_q (Int.mul_nonneg h0 (Int.le_of_lt k0)) ?_
 have h2 : n * k ≤ 1000000 * k := Int.mul_le_mul_of_nonneg_right h1 (Int.le_of_lt k0)
 omega
theorem rr_no {n d : Int} (h0 : 0 < n) (hd : 0 < d) (h1 : n ≤ 1000000000) (hd1 : d ≤ 1000000) : Rr.b (rr (Rat.divInt n d)) rat0 = false := by
 obtain ⟨y, hy⟩ : ∃ y, y = Rat.divInt n d := ⟨_, rfl⟩
 have e40 : Bg.p2 41 = 2199023255552 := by unfold Bg.p2; rfl
 have hF : Rt.Fit y := by rw [hy]; exact (Rt.Bd.divInt (i := 41) (j := 41) Zo Zo Zo).fit
 have hn : y.num ≠ 0 := by
  intro e
  have h9 := hy
  conv at h9 => lhs; rw [← Rat.num_divInt_den y]
  rw [Rat.divInt_eq_divInt_iff (Rt.den_ne y) Zo, e, Int.zero_mul] at h9
  have hd2 := Ac.den_pos y
  have := Int.mul_pos h0 hd2
  omega
 rw [← hy]
 unfold rr
 rw [dif_pos ⟨lt480_lim hF.1, lt480_lim hF.2⟩]
 unfold Rr.b rat0
 refine Bool.eq_false_iff.2 (fun h => ?_)
 simp only [Bool.and_eq_true, decide_eq_true_eq] at h
 have h9 : y.num.natAbs = 0 := h.1.2.1
 omega
end Jb
def Tq.MP (x : Rat) : Prop := Rt.Bd x 50 20 ∧ 0 < x ∧ Jb.price (rr x) = true ∧ Rr.b (rr x) Jb.rat0 = false
theorem Tq.mp_of {n d k : Int} (h0 : 1 ≤ n) (h1 : n ≤ 200000) (d0 : 1 ≤ d) (d1 : d ≤ 1000000) (hk : d * k = 1000000) : Tq.MP (Rat.divInt n d) := by
 have e20 : Bg.p2 20 = 1048576 := by unfold Bg.p2; rfl
 have e50 : Bg.p2 50 = 1125899906842624 := by unfold Bg.p2; rfl
 refine ⟨Rt.Bd.divInt Zo Zo Zo, ?_, Jb.price_r (k := k) Zo Zo Zo hk, Jb.rr_no Zo Zo Zo d1⟩
 rw [Rat.divInt_eq_div]
 have e1 : ((0 : Int) : Rat) < ((n : Int) : Rat) := Rat.intCast_lt_intCast.2 Zo
 have e2 : ((0 : Int) : Rat) < ((d : Int) : Rat) := Rat.intCast_lt_intCast.2 Zo
 have e3 : ((0 : Int) : Rat) = 0 := rfl
 rw [e3] at e1 e2
 rw [Rat.div_def]
 exact Rat.mul_pos e1 (Rat.inv_pos.2 e2)
def MPrPost (W : World) (tb m : Nat) (w : World) (e : Ending) (w' : World) : Prop :=
 ∃ x : Rat, e = .returned (.agg (Rt.qA x)) ∧ Tq.MP x ∧ Tp W tb (m + 3) w' ∧ w.grownBy w' (some tb)
theorem mprice_any (W : World) (tb m : Nat) (w : World) (hT : Tp W tb m w) (hm : m ≤ 900000000) :
    Calls Tryz.prog 12 #[.pointer (some ⟨tb, 0, none⟩)] w (MPrPost W tb m w) := by
 obtain ⟨cs, hb, hc, h0, hle0⟩ := hT
 have HM := Mem.start1 w hb
 have HC := Zi hc
 have H0 := Zi h0
 have hz0 := za_rat
 have hle : ∀ b ∈ [tb], W.heap.size ≤ b := by simpa using hle0
 clear hb hc h0
 go_enter Tryz.func12, Tryz.ntmps12
 go_wp2_with (first | ((with_reducible refine g_st ?_); refine a_st HM ?_; clear HM; intro w1 HM) | ((with_reducible refine g_al ?_); refine a_al HM ?_; clear HM; intro bk w1 HM))
 (refine (pick_new (tb := tb) (W := W) HM Zl HC.out H0.out (by first | exact hle | simpa using hle) [9, 2000, 200000] _ Zo Zs Zs).mono ?_; rintro e9 w2 ⟨v1, c1, rfl, hv, hc1, hb1, hg⟩; replace HM := HM.put (c' := c1) Zg hb1 hg; clear hg hb1; replace HC := Zi hc1; clear hc1)
 have hd : 1 ≤ v1 ∧ v1 ≤ 200000 := by
  exact z9_91
 clear hv
 go_wp2_with fail
 (refine (next_any W tb _ _ _ (HM.tp Zl HC.out H0.out hle) Zo Zo Zo).mono ?_; rintro e9 w2 ⟨n, rfl, n0, n1, ⟨c1, hb1, hc1, -, -⟩, hg⟩; replace HM := HM.put (c' := c1) Zg hb1 (Only.of_grown hg); clear hg hb1; replace HC := Zi hc1; clear hc1)
 go_wp2_with fail
 refine (pick_new (tb := tb) (W := W) HM Zl HC.out H0.out (by first | exact hle | simpa using hle) [1, 2, 4, 10, 100, 1000, 1000000] _ Zo Zs Zs).mono ?_
 rintro e9 w2 ⟨v2, c1, rfl, hv, hc1, hb1, hg⟩
 replace HM := HM.put (c' := c1) Zg hb1 hg
 clear hg hb1
 replace HC := Zi hc1
 clear hc1
 have hd2 : ∃ k : Int, 1 ≤ v2 ∧ v2 ≤ 1000000 ∧ v2 * k = 1000000 := by
  simp only [List.mem_cons, List.not_mem_nil, or_false] at hv
  rcases hv with rfl | rfl | rfl | rfl | rfl | rfl | rfl
  ·exact ⟨1000000, by decide, by decide, by decide⟩
  ·exact ⟨500000, by decide, by decide, by decide⟩
  ·exact ⟨250000, by decide, by decide, by decide⟩
  ·exact ⟨100000, by decide, by decide, by decide⟩
  ·exact ⟨10000, by decide, by decide, by decide⟩
  ·exact ⟨1000, by decide, by decide, by decide⟩
  ·exact ⟨1, by decide, by decide, by decide⟩
 obtain ⟨k, k1, k2, hk⟩ := hd2
 have HX := Zi (Tq.mp_of (n := 1 + n) Zo Zo k1 k2 hk)
 clear hv hk
 have OF := fun w => mkof_q (1 + n) v2 _ Zo Zo Zo Zo Zo (Zi rfl) w
 have sx := sa_q (Rat.divInt (1 + n) v2) (c := Bg.rZ 0 0) (rZ_size 0 0)
 have lx := la_q (Rat.divInt (1 + n) v2)
 go_wp2_with (first | (go_at_call 19; (with_reducible refine Zc HM (OF _) ?_; clear HM; intro w2 HM)) | (first | ((with_reducible refine g_st ?_); refine a_st HM ?_; clear HM; intro w1 HM) | ((with_reducible refine g_al ?_); refine a_al HM ?_; clear HM; intro bk w1 HM)))
 refine bodyPost_ret (r_c rfl rfl (HM.get Zl) lx) rfl ?_
 obtain ⟨hT, hg⟩ := HM.done Zl HC.out H0.out hle0
 exact ⟨_, rfl, HX.out, hT.mono Zo, hg⟩
def Tq.papers : List ByteArray := [{ data := #[65, 67, 77, 69] }, { data := #[66, 79, 78, 68] }, { data := #[71, 79, 76, 68] }, { data := #[88, 49] }, { data := #[69, 85, 82, 85, 83, 68] }, { data := #[85, 83, 68, 71, 66, 80] }]
def Tq.codes : List ByteArray := [{ data := #[85, 83, 68] }, { data := #[85, 83, 68] }, { data := #[69, 85, 82] }, { data := #[71, 66, 80] }]
theorem Tq.paper_ok {s : ByteArray} (h : s ∈ Tq.papers) : Jb.paper s = true := by
 revert s
 decide +kernel
theorem Tq.code_ok {s : ByteArray} (h : s ∈ Tq.codes) : Jb.code s = true := by
 revert s
 decide +kernel
theorem mpaper_any (W : World) (tb m : Nat) (w : World) (hT : Tp W tb m w) (hm : m ≤ 900000000) :
    Calls Tryz.prog 22 #[.pointer (some ⟨tb, 0, none⟩)] w (OnePost W tb m Tq.papers w) := by
 obtain ⟨cs, hb, hc, h0, hle0⟩ := hT
 have HM := Mem.start1 w hb
 have HC := Zi hc
 have H0 := Zi h0
 have hle : ∀ b ∈ [tb], W.heap.size ≤ b := by simpa using hle0
 clear hb hc h0
 go_enter Tryz.func22, Tryz.ntmps22
 go_wp2_with fail
 refine (one_new (tb := tb) (W := W) HM Zl HC.out H0.out (by first | exact hle | simpa using hle) Tq.papers _ Zo Zd Zd).mono ?_
 exact z9_92
theorem mcode_any (W : World) (tb m : Nat) (w : World) (hT : Tp W tb m w) (hm : m ≤ 900000000) :
    Calls Tryz.prog 24 #[.pointer (some ⟨tb, 0, none⟩)] w (OnePost W tb m Tq.codes w) := by
 obtain ⟨cs, hb, hc, h0, hle0⟩ := hT
 have HM := Mem.start1 w hb
 have HC := Zi hc
 have H0 := Zi h0
 have hle : ∀ b ∈ [tb], W.heap.size ≤ b := by simpa using hle0
 clear hb hc h0
 go_enter Tryz.func24, Tryz.ntmps24
 go_wp2_with fail
 refine (one_new (tb := tb) (W := W) HM Zl HC.out H0.out (by first | exact hle | simpa using hle) Tq.codes _ Zo Zd Zd).mono ?_
 exact z9_92
def Tq.srcs : List ByteArray := [{ data := #[97] }, { data := #[98] }, { data := #[99] }, { data := #[100, 52] }]
theorem msrc_any (w : World) : Calls Tryz.prog 21 #[] w fun e w' => ∃ b, e = .returned (.slice (some ⟨b, 0, none⟩) 4 4) ∧ Mem w [] [(b, rowsOf (V1 (Tq.V Tq.srcs)))] w' := by
 go_enter Tryz.func21, Tryz.ntmps21
 go_wp2_with fail
 go_ret
 exact ⟨_, rfl, (Mem.start w).new (rowsOf (V1 (Tq.V Tq.srcs))) _⟩
end
end Go.Proofs.YtiekmabiecalbaaGreatDoor
