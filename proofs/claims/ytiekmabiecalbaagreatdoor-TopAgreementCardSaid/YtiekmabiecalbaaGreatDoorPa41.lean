/- Walks. -/
import Derived.Test.YtiekmabiecalbaaGreatDoorPa36
namespace Go.Proofs.YtiekmabiecalbaaGreatDoor
set_option maxHeartbeats 16000000
open Go.RowKit
set_option maxRecDepth 8000
set_option linter.unusedSimpArgs false
set_option linter.unusedVariables false
section
theorem z9_91 {P : Prop} (h : P := by
 have h9 := hy
 conv at h9 => lhs; rw [← Rat.num_divInt_den y]
 rwa [Rat.divInt_eq_divInt_iff (Rt.den_ne y) Zd] at h9) : P := h
theorem z9_92 {P : Prop} (h : P := by
 have e0 : ((0 : Int) : Rat) ≤ ((q : Int) : Rat) := Rat.intCast_le_intCast.2 h0
 have e1 : ((0 : Int) : Rat) = 0 := rfl
 rw [e3]
 grind) : P := h
theorem z9_93 {P : Prop} (h : P := by
 rcases Int.lt_or_le 0 k with h | h
 ·exact h
 ·have := Int.mul_nonpos_of_nonneg_of_nonpos (Int.le_of_lt hd) h; omega) : P := h
theorem z9_94 {P : Prop} (h : P := by
 rw [Rat.divInt_eq_divInt_iff Zo Zd, ← hk, Int.mul_assoc, Int.mul_comm k d]) : P := h
end
section
theorem Tx.txt_small {N k : Nat} (h : N < 10 ^ k) (hk : 0 < k) : (Tx.txt false N).size ≤ k := by
 unfold Tx.txt
 by_cases h0 : N = 0
 ·rw [if_pos h0, Tx.str_len]; exact hk
 ·rw [if_neg h0, if_neg Bool.false_ne_true, Tx.str_len, List.length_reverse]
  exact Tx.dig_len h
theorem Ac.pct_of {q : Int} (h0 : 0 ≤ q) (h1 : q ≤ 100000000) : Ac.Pct (some (Rat.divInt q 100000000)) := by
 have e : Rat.divInt q 100000000 * ((100 : Int) : Rat) = Rat.divInt q 1000000 := by
  rw [Rat.divInt_eq_div, Rat.divInt_eq_div]
  have e1 : ((100 : Int) : Rat) = 100 := rfl
  have e2 : ((1000000 : Int) : Rat) = 1000000 := rfl
  have e3 : ((100000000 : Int) : Rat) = 100000000 := rfl
  rw [e1, e2, e3]
  grind
 show Rt.Fit _ ∧ _ ∧ Ac.Txt _
 rw [e]
 obtain ⟨y, hy⟩ : ∃ y, y = Rat.divInt q 1000000 := ⟨_, rfl⟩
 have hp : Ac.p10 6 = 1000000 := by decide
 have hy2 : y.num * 1000000 = q * y.den := by
  exact z9_91
 have hd := Ac.den_pos y
 rw [← hy]
 have e28 : Bg.p2 28 = 268435456 := by unfold Bg.p2; rfl
 refine ⟨?_, ?_, ?_⟩
 ·rw [hy]
  exact (Rt.Bd.divInt (i := 28) (j := 28) Zd Zo (by rw [e28]; decide)).fit
 ·rw [Rat.divInt_eq_div]
  have e3 : ((100000000 : Int) : Rat) = 100000000 := rfl
  exact z9_92
 ·unfold Ac.Txt
  have hre : Ac.re y 6 = 0 := by
   unfold Ac.re
   rw [hp, hy2]
   exact Int.mul_emod_left _ _
  have hlo : Ac.lo y 6 = q := by
   unfold Ac.lo
   rw [hp, hy2]
   exact Int.mul_ediv_cancel _ Zo
  rw [hre, hlo]
  exact ⟨rfl, Nat.le_trans (Tx.txt_small (k := 9) Zo Zd) Zd⟩
def Ac.Pr (x : Rat) : Prop := ∃ q : Int, 0 ≤ q ∧ q ≤ 100000000 ∧ x = Rat.divInt q 100000000
theorem Ac.pr_of {n d k : Int} (h0 : 0 ≤ n) (h1 : n ≤ d) (hd : 0 < d) (hk : d * k = 100000000) : Ac.Pr (Rat.divInt n d) := by
 have k0 : 0 < k := by
  exact z9_93
 refine ⟨n * k, Int.mul_nonneg h0 (Int.le_of_lt k0), ?_, ?_⟩
 ·rw [← hk]; exact Int.mul_le_mul_of_nonneg_right h1 (Int.le_of_lt k0)
 ·exact z9_94
theorem Ac.pr_ok {x : Rat} (h : Ac.Pr x) : Rt.Bd x 28 28 ∧ Ac.Pct (some x) ∧ x ≤ ((1 : Int) : Rat) := by
 obtain ⟨q, h0, h1, rfl⟩ := h
 have e28 : Bg.p2 28 = 268435456 := by unfold Bg.p2; rfl
 refine ⟨Rt.Bd.divInt Zd Zo (by rw [e28]; decide), Ac.pct_of h0 h1, ?_⟩
 rw [Rat.divInt_eq_div]
 have e3 : ((100000000 : Int) : Rat) = 100000000 := rfl
 have e0 : ((q : Int) : Rat) ≤ ((100000000 : Int) : Rat) := Rat.intCast_le_intCast.2 h1
 have e1 : ((1 : Int) : Rat) = 1 := rfl
 rw [e3] at e0 ⊢
 rw [e1]
 grind
def PercPost (W : World) (tb m : Nat) (w : World) (e : Ending) (w' : World) : Prop :=
 ∃ x : Rat, e = .returned (.agg (Rt.qA x)) ∧ Ac.Pr x ∧ Tp W tb (m + 1000) w' ∧ w.grownBy w' (some tb)
theorem percent_any (W : World) (tb m : Nat) (w : World) (hT : Tp W tb m w) (hm : m ≤ 900000000) :
    Calls Tryz.prog 20 #[.pointer (some ⟨tb, 0, none⟩)] w (PercPost W tb m w) := by
 obtain ⟨cs, hb, hc, h0, hle0⟩ := hT
 have HM := Mem.start1 w hb
 have HC := Zi hc
 have H0 := Zi h0
 have hz0 := za_rat
 have hle : ∀ b ∈ [tb], W.heap.size ≤ b := by simpa using hle0
 clear hb hc h0
 go_enter Tryz.func20, Tryz.ntmps20
 go_wp2_with (first | ((with_reducible refine g_st ?_); refine a_st HM ?_; clear HM; intro w1 HM) | ((with_reducible refine g_al ?_); refine a_al HM ?_; clear HM; intro bk w1 HM))
 (refine (pick_new (tb := tb) (W := W) HM Zl HC.out H0.out (by first | exact hle | simpa using hle) [1, 4, 10, 20, 100, 200, 1000, 10000, 100000000] _ Zo Zs Zs).mono ?_; rintro e9 w2 ⟨v1, c1, rfl, hv, hc1, hb1, hg⟩; replace HM := HM.put (c' := c1) Zg hb1 hg; clear hg hb1; replace HC := Zi hc1; clear hc1)
 have hd : ∃ d k : Int, v1 = d ∧ 1 ≤ d ∧ d ≤ 100000000 ∧ d * k = 100000000 := by
  simp only [List.mem_cons, List.not_mem_nil, or_false] at hv
  rcases hv with rfl | rfl | rfl | rfl | rfl | rfl | rfl | rfl | rfl
  ·exact ⟨1, 100000000, rfl, by decide, by decide, by decide⟩
  ·exact ⟨4, 25000000, rfl, by decide, by decide, by decide⟩
  ·exact ⟨10, 10000000, rfl, by decide, by decide, by decide⟩
  ·exact ⟨20, 5000000, rfl, by decide, by decide, by decide⟩
  ·exact ⟨100, 1000000, rfl, by decide, by decide, by decide⟩
  ·exact ⟨200, 500000, rfl, by decide, by decide, by decide⟩
  ·exact ⟨1000, 100000, rfl, by decide, by decide, by decide⟩
  ·exact ⟨10000, 10000, rfl, by decide, by decide, by decide⟩
  ·exact ⟨100000000, 1, rfl, by decide, by decide, by decide⟩
 obtain ⟨d, k, rfl, hd1, hd2, hk⟩ := hd
 have HK := Zi hk
 clear hv hk
 go_wp2_with fail
 (refine (chance_any W tb _ 3 4 _ (HM.tp Zl HC.out H0.out hle) Zo Zo Zo).mono ?_; rintro e9 w2 ⟨b, rfl, ⟨c1, hb1, hc1, -, -⟩, hg⟩; replace HM := HM.put (c' := c1) Zg hb1 (Only.of_grown hg); clear hg hb1; replace HC := Zi hc1; clear hc1)
 cases b with
 | true =>
  clear HK hd1 hd2
  go_wp2_with fail
  (refine (pick_new (tb := tb) (W := W) HM Zl HC.out H0.out (by first | exact hle | simpa using hle) [50, 100, 200, 1000] _ Zo Zs Zs).mono ?_; rintro e9 w2 ⟨v1, c1, rfl, hv, hc1, hb1, hg⟩; replace HM := HM.put (c' := c1) Zg hb1 hg; clear hg hb1; replace HC := Zi hc1; clear hc1)
  have hd : ∃ d k e : Int, v1 = d ∧ 50 ≤ d ∧ d ≤ 1000 ∧ d * k = 100000000 ∧ Hid (e = d / 10) ∧ 5 ≤ e ∧ e ≤ 100 ∧ e ≤ d := by
   simp only [List.mem_cons, List.not_mem_nil, or_false] at hv
   rcases hv with rfl | rfl | rfl | rfl
   ·exact ⟨50, 2000000, 5, rfl, by decide, by decide, by decide, Zi Zd, by decide, by decide, by decide⟩
   ·exact ⟨100, 1000000, 10, rfl, by decide, by decide, by decide, Zi Zd, by decide, by decide, by decide⟩
   ·exact ⟨200, 500000, 20, rfl, by decide, by decide, by decide, Zi Zd, by decide, by decide, by decide⟩
   ·exact ⟨1000, 100000, 100, rfl, by decide, by decide, by decide, Zi Zd, by decide, by decide, by decide⟩
  obtain ⟨d, k, e, rfl, hd1, hd2, hk, he, he1, he2, he3⟩ := hd
  have HK := Zi hk
  clear hv hk
  go_wp2_with fail
  rw [← he.out]
  (refine (next_any W tb _ _ _ (HM.tp Zl HC.out H0.out hle) Zo Zo Zo).mono ?_; rintro e9 w2 ⟨n, rfl, n0, n1, ⟨c1, hb1, hc1, -, -⟩, hg⟩; replace HM := HM.put (c' := c1) Zg hb1 (Only.of_grown hg); clear hg hb1; replace HC := Zi hc1; clear hc1)
  have hp := Ac.pr_of (n := n) n0 Zo Zo HK.out
  have OF := fun w => mkof_q n v1 _ Zo Zo Zo Zo Zo (Zi rfl) w
  have sx := sa_q (Rat.divInt n v1) (c := Bg.rZ 0 0) (rZ_size 0 0)
  have lx := la_q (Rat.divInt n v1)
  go_wp2_with (first | (go_at_call 19; (with_reducible refine Zc HM (OF _) ?_; clear HM; intro w2 HM)) | (first | ((with_reducible refine g_st ?_); refine a_st HM ?_; clear HM; intro w1 HM) | ((with_reducible refine g_al ?_); refine a_al HM ?_; clear HM; intro bk w1 HM)))
  refine bodyPost_ret (r_c rfl rfl (HM.get Zl) lx) rfl ?_
  obtain ⟨hT, hg⟩ := HM.done Zl HC.out H0.out hle0
  exact ⟨_, rfl, hp, hT.mono Zo, hg⟩
 | false =>
  go_wp2_with fail
  (refine (next_any W tb _ _ _ (HM.tp Zl HC.out H0.out hle) Zo Zo Zo).mono ?_; rintro e9 w2 ⟨n, rfl, n0, n1, ⟨c1, hb1, hc1, -, -⟩, hg⟩; replace HM := HM.put (c' := c1) Zg hb1 (Only.of_grown hg); clear hg hb1; replace HC := Zi hc1; clear hc1)
  have hp := Ac.pr_of (n := n) n0 Zo Zo HK.out
  have OF := fun w => mkof_q n v1 _ Zo Zo Zo Zo Zo (Zi rfl) w
  have sx := sa_q (Rat.divInt n v1) (c := Bg.rZ 0 0) (rZ_size 0 0)
  have lx := la_q (Rat.divInt n v1)
  go_wp2_with (first | (go_at_call 19; (with_reducible refine Zc HM (OF _) ?_; clear HM; intro w2 HM)) | (first | ((with_reducible refine g_st ?_); refine a_st HM ?_; clear HM; intro w1 HM) | ((with_reducible refine g_al ?_); refine a_al HM ?_; clear HM; intro bk w1 HM)))
  refine bodyPost_ret (r_c rfl rfl (HM.get Zl) lx) rfl ?_
  obtain ⟨hT, hg⟩ := HM.done Zl HC.out H0.out hle0
  exact ⟨_, rfl, hp, hT.mono Zo, hg⟩
def PickRPost (W : World) (tb m : Nat) (l : List (Array Value)) (w : World) (e : Ending) (w' : World) : Prop :=
 ∃ c : Array Value, e = .returned (.agg c) ∧ c ∈ l ∧ Tp W tb (m + 1) w' ∧ w.grownBy w' (some tb)
theorem pickr_any (W : World) (tb m b : Nat) (l : List (Array Value)) (n9 : Nat) (w : World) (hT : Tp W tb m w) (hm : m ≤ 900000000) (hB : Blk w b (rowsOf l)) (hne : b ≠ tb) (hn : l.length = n9) (hd : 0 < n9) (hd2 : n9 ≤ 1000) (hs : ∀ c ∈ l, c.size = 66) (h1 : ∀ c ∈ l, c.all (·.oneCell') = true) :
    Calls Tryz.prog 18 #[.pointer (some ⟨tb, 0, none⟩), .slice (some ⟨b, 0, none⟩) n9 n9] w (PickRPost W tb m l w) := by
 obtain ⟨cs, hb, hc, h0, hle0⟩ := hT
 have HM := Mem.start1 w hb
 have HC := Zi hc
 have H0 := Zi h0
 have hz0 := za_rat
 have hle : ∀ b ∈ [tb], W.heap.size ≤ b := by simpa using hle0
 have HB := Zi hB
 have HS := Zi hs
 have H1 := Zi h1
 have HN := Zi hn
 have hnb : b ∉ [tb] := by simpa using hne
 have hn0 : ((n9 : Int) == 0) = false := Zb Zo
 clear hb hc h0 hB hs h1 hn
 go_enter Tryz.func18, Tryz.ntmps18
 go_wp2_with (first | ((with_reducible refine g_ld ?_); refine a_ld HM ?_) | ((with_reducible refine g_st ?_); refine a_st HM ?_; clear HM; intro w1 HM) | ((with_reducible refine g_al ?_); refine a_al HM ?_; clear HM; intro bk w1 HM))
 (refine (next_any W tb _ _ _ (HM.tp Zl HC.out H0.out hle) Zo Zo Zo).mono ?_; rintro e9 w2 ⟨v, rfl, v0, v1, ⟨c1, hb1, hc1, -, -⟩, hg⟩; replace HM := HM.put (c' := c1) Zg hb1 (Only.of_grown hg); clear hg hb1; replace HC := Zi hc1; clear hc1)
 obtain ⟨k, rfl⟩ : ∃ k : Nat, v = k := ⟨v.toNat, by omega⟩
 have hk : k < l.length := by have := HN.out; omega
 obtain ⟨c, hcx⟩ : ∃ c, l[k]? = some c := ⟨l[k], List.getElem?_eq_getElem hk⟩
 have hmem := List.mem_of_getElem? hcx
 have HMEM := Zi hmem
 have hsz := HS.out c hmem
 have lc := la_row (T := 35) Zk sT_rat HS.out hcx
 have sc := sa_c hsz (H1.out c hmem) (rZ_size 0 0)
 have kc := la_c hsz
 clear hcx hmem hk
 go_wp2_with (first | ((with_reducible refine g_ld ?_); refine a_ld HM ?_ (hb := RdB.ro HB hnb)) | (first | ((with_reducible refine g_ld ?_); refine a_ld HM ?_) | ((with_reducible refine g_st ?_); refine a_st HM ?_; clear HM; intro w1 HM) | ((with_reducible refine g_al ?_); refine a_al HM ?_; clear HM; intro bk w1 HM)))
 refine bodyPost_ret (r_c rfl rfl (HM.get Zl) kc) rfl ?_
 obtain ⟨hT, hg⟩ := HM.done Zl HC.out H0.out hle0
 exact ⟨c, rfl, HMEM.out, hT.mono Zo, hg⟩
open Jb
namespace Jb
open Classical in
theorem price_q {q : Int} (h0 : 0 ≤ q) (h1 : q ≤ 1000000000000) : price (rr (Rat.divInt q 1000000)) = true := by
 obtain ⟨y, hy⟩ : ∃ y, y = Rat.divInt q 1000000 := ⟨_, rfl⟩
 have hp : Ac.p10 6 = 1000000 := by decide
 have hy2 : y.num * 1000000 = q * y.den := by
  exact z9_91
 have hd := Ac.den_pos y
 have e40 : Bg.p2 41 = 2199023255552 := by unfold Bg.p2; rfl
 have hF : Rt.Fit y := by rw [hy]; exact (Rt.Bd.divInt (i := 41) (j := 41) Zd Zo (by rw [e40]; decide)).fit
 rw [← hy]
 unfold price
 refine Zt ⟨y, ⟨hF, rr_c hF⟩, ?_, ?_, ?_⟩
 ·unfold Ac.Txt
  have hre : Ac.re y 6 = 0 := by
   unfold Ac.re
   rw [hp, hy2]
   exact Int.mul_emod_left _ _
  have hlo : Ac.lo y 6 = q := by
   unfold Ac.lo
   rw [hp, hy2]
   exact Int.mul_ediv_cancel _ Zo
  rw [hre, hlo]
  exact ⟨rfl, Nat.le_trans (Tx.txt_small (k := 13) Zo Zd) Zd⟩
 ·rw [hy, Rat.divInt_eq_div]
  have e3 : ((1000000 : Int) : Rat) = 1000000 := rfl
  exact z9_92
 ·rw [hy, Rat.divInt_eq_div]
  have e3 : ((1000000 : Int) : Rat) = 1000000 := rfl
  have e4 : ((1000000000 : Int) : Rat) = 1000000000 := rfl
  have e0 : ((q : Int) : Rat) ≤ ((1000000000000 : Int) : Rat) := Rat.intCast_le_intCast.2 h1
  have e1 : ((1000000000000 : Int) : Rat) = 1000000000000 := rfl
  rw [e3, e4]
  grind
theorem price_r {n d k : Int} (h0 : 0 ≤ n) (h1 : n ≤ 1000000) (hd : 0 < d) (hk : d * k = 1000000) : price (rr (Rat.divInt n d)) = true := by
 have k0 : 0 < k := by
  exact z9_93
 have e : Rat.divInt n d = Rat.divInt (n * k) 1000000 := by
  exact z9_94
 rw [e]
 have hk1 : k ≤ 1000000 := by
  have := Int.mul_le_mul_of_nonneg_right (show 1 ≤ d by omega) (Int.le_of_lt k0)
  omega
 refine price_q (Int.mul_nonneg h0 (Int.le_of_lt k0)) ?_
 have h2 : n * k ≤ 1000000 * k := Int.mul_le_mul_of_nonneg_right h1 (Int.le_of_lt k0)
 omega
theorem rr_no {n d : Int} (h0 : 0 < n) (hd : 0 < d) (h1 : n ≤ 1000000000) (hd1 : d ≤ 1000000) : Rr.b (rr (Rat.divInt n d)) rat0 = false := by
 obtain ⟨y, hy⟩ : ∃ y, y = Rat.divInt n d := ⟨_, rfl⟩
 have e40 : Bg.p2 41 = 2199023255552 := by unfold Bg.p2; rfl
 have hF : Rt.Fit y := by rw [hy]; exact (Rt.Bd.divInt (i := 41) (j := 41) Zo Zo Zo).fit
 have hn : y.num ≠ 0 := by
  intro e
  have h9 := hy
  conv at h9 => lhs; rw [← Rat.num_divInt_den y]
  rw [Rat.divInt_eq_divInt_iff (Rt.den_ne y) Zo, e, Int.zero_mul] at h9
  have hd2 := Ac.den_pos y
  have := Int.mul_pos h0 hd2
  omega
 rw [← hy]
 unfold rr
 rw [dif_pos ⟨lt480_lim hF.1, lt480_lim hF.2⟩]
 unfold Rr.b rat0
 refine Bool.eq_false_iff.2 (fun h => ?_)
 simp only [Bool.and_eq_true, decide_eq_true_eq] at h
 have h9 : y.num.natAbs = 0 := h.1.2.1
 omega
end Jb
def Tq.MP (x : Rat) : Prop := Rt.Bd x 50 20 ∧ 0 < x ∧ Jb.price (rr x) = true ∧ Rr.b (rr x) Jb.rat0 = false
theorem Tq.mp_of {n d k : Int} (h0 : 1 ≤ n) (h1 : n ≤ 200000) (d0 : 1 ≤ d) (d1 : d ≤ 1000000) (hk : d * k = 1000000) : Tq.MP (Rat.divInt n d) := by
 have e20 : Bg.p2 20 = 1048576 := by unfold Bg.p2; rfl
 have e50 : Bg.p2 50 = 1125899906842624 := by unfold Bg.p2; rfl
 refine ⟨Rt.Bd.divInt Zo Zo Zo, ?_, Jb.price_r (k := k) Zo Zo Zo hk, Jb.rr_no Zo Zo Zo d1⟩
 rw [Rat.divInt_eq_div]
 have e1 : ((0 : Int) : Rat) < ((n : Int) : Rat) := Rat.intCast_lt_intCast.2 Zo
 have e2 : ((0 : Int) : Rat) < ((d : Int) : Rat) := Rat.intCast_lt_intCast.2 Zo
 have e3 : ((0 : Int) : Rat) = 0 := rfl
 rw [e3] at e1 e2
 rw [Rat.div_def]
 exact Rat.mul_pos e1 (Rat.inv_pos.2 e2)
def MPrPost (W : World) (tb m : Nat) (w : World) (e : Ending) (w' : World) : Prop :=
 ∃ x : Rat, e = .returned (.agg (Rt.qA x)) ∧ Tq.MP x ∧ Tp W tb (m + 3) w' ∧ w.grownBy w' (some tb)
theorem mprice_any (W : World) (tb m : Nat) (w : World) (hT : Tp W tb m w) (hm : m ≤ 900000000) :
    Calls Tryz.prog 12 #[.pointer (some ⟨tb, 0, none⟩)] w (MPrPost W tb m w) := by
 obtain ⟨cs, hb, hc, h0, hle0⟩ := hT
 have HM := Mem.start1 w hb
 have HC := Zi hc
 have H0 := Zi h0
 have hz0 := za_rat
 have hle : ∀ b ∈ [tb], W.heap.size ≤ b := by simpa using hle0
 clear hb hc h0
 go_enter Tryz.func12, Tryz.ntmps12
 go_wp2_with (first | ((with_reducible refine g_st ?_); refine a_st HM ?_; clear HM; intro w1 HM) | ((with_reducible refine g_al ?_); refine a_al HM ?_; clear HM; intro bk w1 HM))
 (refine (pick_new (tb := tb) (W := W) HM Zl HC.out H0.out (by first | exact hle | simpa using hle) [9, 2000, 200000] _ Zo Zs Zs).mono ?_; rintro e9 w2 ⟨v1, c1, rfl, hv, hc1, hb1, hg⟩; replace HM := HM.put (c' := c1) Zg hb1 hg; clear hg hb1; replace HC := Zi hc1; clear hc1)
 have hd : 1 ≤ v1 ∧ v1 ≤ 200000 := by
  simp only [List.mem_cons, List.not_mem_nil, or_false] at hv
  omega
 clear hv
 go_wp2_with fail
 (refine (next_any W tb _ _ _ (HM.tp Zl HC.out H0.out hle) Zo Zo Zo).mono ?_; rintro e9 w2 ⟨n, rfl, n0, n1, ⟨c1, hb1, hc1, -, -⟩, hg⟩; replace HM := HM.put (c' := c1) Zg hb1 (Only.of_grown hg); clear hg hb1; replace HC := Zi hc1; clear hc1)
 go_wp2_with fail
 refine (pick_new (tb := tb) (W := W) HM Zl HC.out H0.out (by first | exact hle | simpa using hle) [1, 2, 4, 10, 100, 1000, 1000000] _ Zo Zs Zs).mono ?_
 rintro e9 w2 ⟨v2, c1, rfl, hv, hc1, hb1, hg⟩
 replace HM := HM.put (c' := c1) Zg hb1 hg
 clear hg hb1
 replace HC := Zi hc1
 clear hc1
 have hd2 : ∃ k : Int, 1 ≤ v2 ∧ v2 ≤ 1000000 ∧ v2 * k = 1000000 := by
  simp only [List.mem_cons, List.not_mem_nil, or_false] at hv
  rcases hv with rfl | rfl | rfl | rfl | rfl | rfl | rfl
  ·exact ⟨1000000, by decide, by decide, by decide⟩
  ·exact ⟨500000, by decide, by decide, by decide⟩
  ·exact ⟨250000, by decide, by decide, by decide⟩
  ·exact ⟨100000, by decide, by decide, by decide⟩
  ·exact ⟨10000, by decide, by decide, by decide⟩
  ·exact ⟨1000, by decide, by decide, by decide⟩
  ·exact ⟨1, by decide, by decide, by decide⟩
 obtain ⟨k, k1, k2, hk⟩ := hd2
 have HX := Zi (Tq.mp_of (n := 1 + n) Zo Zo k1 k2 hk)
 clear hv hk
 have OF := fun w => mkof_q (1 + n) v2 _ Zo Zo Zo Zo Zo (Zi rfl) w
 have sx := sa_q (Rat.divInt (1 + n) v2) (c := Bg.rZ 0 0) (rZ_size 0 0)
 have lx := la_q (Rat.divInt (1 + n) v2)
 go_wp2_with (first | (go_at_call 19; (with_reducible refine Zc HM (OF _) ?_; clear HM; intro w2 HM)) | (first | ((with_reducible refine g_st ?_); refine a_st HM ?_; clear HM; intro w1 HM) | ((with_reducible refine g_al ?_); refine a_al HM ?_; clear HM; intro bk w1 HM)))
 refine bodyPost_ret (r_c rfl rfl (HM.get Zl) lx) rfl ?_
 obtain ⟨hT, hg⟩ := HM.done Zl HC.out H0.out hle0
 exact ⟨_, rfl, HX.out, hT.mono Zo, hg⟩
def Tq.papers : List ByteArray := [{ data := #[65, 67, 77, 69] }, { data := #[66, 79, 78, 68] }, { data := #[71, 79, 76, 68] }, { data := #[88, 49] }, { data := #[69, 85, 82, 85, 83, 68] }, { data := #[85, 83, 68, 71, 66, 80] }]
def Tq.codes : List ByteArray := [{ data := #[85, 83, 68] }, { data := #[85, 83, 68] }, { data := #[69, 85, 82] }, { data := #[71, 66, 80] }]
theorem Tq.paper_ok {s : ByteArray} (h : s ∈ Tq.papers) : Jb.paper s = true := by
 revert s
 decide +kernel
theorem Tq.code_ok {s : ByteArray} (h : s ∈ Tq.codes) : Jb.code s = true := by
 revert s
 decide +kernel
def Tq.srcs : List ByteArray := [{ data := #[97] }, { data := #[98] }, { data := #[99] }, { data := #[100, 52] }]
theorem msrc_any (w : World) : Calls Tryz.prog 21 #[] w fun e w' => ∃ b, e = .returned (.slice (some ⟨b, 0, none⟩) 4 4) ∧ Mem w [] [(b, rowsOf (V1 (Tq.V Tq.srcs)))] w' := by
 go_enter Tryz.func21, Tryz.ntmps21
 go_wp2_with fail
 go_ret
 exact ⟨_, rfl, (Mem.start w).new (rowsOf (V1 (Tq.V Tq.srcs))) _⟩
end
section
open Jb
theorem Tq.ne {w0 w : World} {X : List Nat} {b b' : Nat} {c : Array Value} {L : List (Nat × Array Value)} (h : Mem w0 X ((b, c) :: L) w) (hl : b' ∈ L.map (·.1)) : b ≠ b' := fun e => by
 subst e
 exact (List.nodup_cons.1 h.nod).1 hl
theorem msrc_at (w : World) : Calls Tryz.prog 21 #[] w fun e w' => ∃ b off cs, e = .returned (.slice (some ⟨b, off, none⟩) 4 4) ∧ Hid (∀ (k : Nat) (s : ByteArray), Tq.srcs[k]? = some s → LA 9 cs (off + k) (.string s)) ∧ Mem w [] [(b, cs)] w' := by
 refine (msrc_any w).mono ?_
 rintro e w' ⟨b, rfl, HM⟩
 refine ⟨b, 0, _, rfl, Zi (fun k s hs => ?_), HM⟩
 have hv := Tq.V_at hs
 have h9 := rows_at (n := 1) (l := V1 (Tq.V Tq.srcs)) (k := k) (j := 0) (c := #[.string s]) (by intro c hc; obtain ⟨v, _, rfl⟩ := List.mem_map.1 hc; rfl) (by unfold V1; rw [List.getElem?_map, hv]; rfl) Zd
 refine LA.one Zk ?_
 rw [Nat.zero_add]
 rw [Nat.one_mul, Nat.add_zero] at h9
 exact h9
structure Tq.MQ (day known : Int) (q : JQ) : Prop where
 src : q.src ∈ Tq.srcs
 ins : q.ins ∈ Tq.papers
 cur : q.cur ∈ Tq.codes
 day0 : max 0 (day - 5) ≤ q.day
 day1 : q.day ≤ max 0 day
 kn : q.kn = known
 pr : q.vd = false → ∃ x, q.prc = rr x ∧ Tq.MP x
 no : q.vd = true → q.prc = Rr.zero
def Tq.q0 (s i : ByteArray) (d : Int) (x : Rat) (k : Int) : JQ := ⟨s, i, { data := #[85, 83, 68] }, d, rr x, k, false⟩
theorem Tq.q0_bld (s i : ByteArray) (d : Int) (x : Rat) (k : Int) (h : Tq.MP x) (w : World) : (Instr.build 40 #[(0, .string s), (1, .string i), (2, .string { data := #[85, 83, 68] }), (3, .int .i64 d), (4, .agg (Rt.qA x)), (5, .int .i64 k)]).run Tryz.prog w = .ok (.agg (Tq.q0 s i d x k).c) w :=
 JQ.bld (parts := #[(0, .string s), (1, .string i), (2, .string { data := #[85, 83, 68] }), (3, .int .i64 d), (4, .agg (Rt.qA x)), (5, .int .i64 k)]) (r := Tq.q0 s i d x k) (by simp [Value.cells, qA_size]) (by rw [JQ.rows]; show _ = rowsOf [_, _, _, _, (rr x).c, _, _]; rw [rr_c h.1.fit]; rfl) w
end
section
open Jb
section
variable {ops : Array Oper} {rest : List Oper} {a : Act} {w w0 : World} {X : List Nat} {L : List (Nat × Array Value)} {Q : Exit → Act → World → Prop} {d : Option Tmp} {ty t tx e : TypeId} {n by_ : Nat} {ps : String} {af : Array Edge} {g : Option (Nat × Bool)} {x y : Operand}
theorem g_bs4 {x0 x1 x2 x3 : Operand} (h : OpG ops Q rest a w { dst := d, op := .buildSlice t 4 #[(0, x0), (1, x1), (2, x2), (3, x3)], type := ty, pos := ps, after := af, guard := g }) : wpList Tryz.prog ops Q ({ dst := d, op := .buildSlice t 4 #[(0, x0), (1, x1), (2, x2), (3, x3)], type := ty, pos := ps, after := af, guard := g } :: rest) a w := h
theorem a_bs4 {x0 x1 x2 x3 : Operand} {v0 v1 v2 v3 : Value} {c0 c1 c2 c3 : Array Value} {a2 : Nat → Act} (HM : Mem w0 X L w) (h : ∀ b w', Mem w0 X ((b, rowsOf [c0, c1, c2, c3]) :: L) w' → wpList Tryz.prog ops Q rest (a2 b) w') (hT : elemB t e n by_ = true := by with_reducible assumption) (hw : WantT ops { dst := d, op := .buildSlice t 4 #[(0, x0), (1, x1), (2, x2), (3, x3)], type := ty, pos := ps, after := af, guard := g } a := by first | exact Or.inl rfl | exact Or.inr ⟨_, _, _, rfl, rfl, rfl⟩) (h0 : a.eval x0 = v0 := by (conv => lhs; whnf) <;> rfl) (k0 : v0.cells = c0 := by (conv => lhs; whnf) <;> rfl) (z0 : c0.size = n := by (first | assumption | rfl)) (h1 : a.eval x1 = v1 := by (conv => lhs; whnf) <;> rfl) (k1 : v1.cells = c1 := by (conv => lhs; whnf) <;> rfl) (z1 : c1.size = n := by (first | assumption | rfl)) (h2 : a.eval x2 = v2 := by (conv => lhs; whnf) <;> rfl) (k2 : v2.cells = c2 := by (conv => lhs; whnf) <;> rfl) (z2 : c2.size = n := by (first | assumption | rfl)) (h3 : a.eval x3 = v3 := by (conv => lhs; whnf) <;> rfl) (k3 : v3.cells = c3 := by (conv => lhs; whnf) <;> rfl) (z3 : c3.size = n := by (first | assumption | rfl)) (hn : 4 * n ≤ 16777216 := by decide) (ha : ∀ b, a.put d (.slice (some ⟨b, 0, none⟩) 4 4) = a2 b := by intro b; ((try simp only [Act.put, Za, Zx, Zy]) <;> rfl)) : OpG ops Q rest a w { dst := d, op := .buildSlice t 4 #[(0, x0), (1, x1), (2, x2), (3, x3)], type := ty, pos := ps, after := af, guard := g } := by
 obtain ⟨i, z, hE⟩ := elemT hT
 refine wpList_step fun K9 hK => ?_
 rw [if_pos hw.wanted]
 have hr := run_bs hE [v0, v1, v2, v3] (by simp [k0, z0, k1, z1, k2, z2, k3, z3]) hn (parts := #[(0, v0), (1, v1), (2, v2), (3, v3)]) rfl w
 unfold Oper.wp
 simp [execOp, List.map_cons, List.map_nil, h0, h1, h2, h3, k0, k1, k2, k3] at hr ⊢
 exact z9_14
theorem g_bs5 {x0 x1 x2 x3 x4 : Operand} (h : OpG ops Q rest a w { dst := d, op := .buildSlice t 5 #[(0, x0), (1, x1), (2, x2), (3, x3), (4, x4)], type := ty, pos := ps, after := af, guard := g }) : wpList Tryz.prog ops Q ({ dst := d, op := .buildSlice t 5 #[(0, x0), (1, x1), (2, x2), (3, x3), (4, x4)], type := ty, pos := ps, after := af, guard := g } :: rest) a w := h
theorem a_bs5 {x0 x1 x2 x3 x4 : Operand} {v0 v1 v2 v3 v4 : Value} {c0 c1 c2 c3 c4 : Array Value} {a2 : Nat → Act} (HM : Mem w0 X L w) (h : ∀ b w', Mem w0 X ((b, rowsOf [c0, c1, c2, c3, c4]) :: L) w' → wpList Tryz.prog ops Q rest (a2 b) w') (hT : elemB t e n by_ = true := by with_reducible assumption) (hw : WantT ops { dst := d, op := .buildSlice t 5 #[(0, x0), (1, x1), (2, x2), (3, x3), (4, x4)], type := ty, pos := ps, after := af, guard := g } a := by first | exact Or.inl rfl | exact Or.inr ⟨_, _, _, rfl, rfl, rfl⟩) (h0 : a.eval x0 = v0 := by (conv => lhs; whnf) <;> rfl) (k0 : v0.cells = c0 := by (conv => lhs; whnf) <;> rfl) (z0 : c0.size = n := by (first | assumption | rfl)) (h1 : a.eval x1 = v1 := by (conv => lhs; whnf) <;> rfl) (k1 : v1.cells = c1 := by (conv => lhs; whnf) <;> rfl) (z1 : c1.size = n := by (first | assumption | rfl)) (h2 : a.eval x2 = v2 := by (conv => lhs; whnf) <;> rfl) (k2 : v2.cells = c2 := by (conv => lhs; whnf) <;> rfl) (z2 : c2.size = n := by (first | assumption | rfl)) (h3 : a.eval x3 = v3 := by (conv => lhs; whnf) <;> rfl) (k3 : v3.cells = c3 := by (conv => lhs; whnf) <;> rfl) (z3 : c3.size = n := by (first | assumption | rfl)) (h4 : a.eval x4 = v4 := by (conv => lhs; whnf) <;> rfl) (k4 : v4.cells = c4 := by (conv => lhs; whnf) <;> rfl) (z4 : c4.size = n := by (first | assumption | rfl)) (hn : 5 * n ≤ 16777216 := by decide) (ha : ∀ b, a.put d (.slice (some ⟨b, 0, none⟩) 5 5) = a2 b := by intro b; ((try simp only [Act.put, Za, Zx, Zy]) <;> rfl)) : OpG ops Q rest a w { dst := d, op := .buildSlice t 5 #[(0, x0), (1, x1), (2, x2), (3, x3), (4, x4)], type := ty, pos := ps, after := af, guard := g } := by
 obtain ⟨i, z, hE⟩ := elemT hT
 refine wpList_step fun K9 hK => ?_
 rw [if_pos hw.wanted]
 have hr := run_bs hE [v0, v1, v2, v3, v4] (by simp [k0, z0, k1, z1, k2, z2, k3, z3, k4, z4]) hn (parts := #[(0, v0), (1, v1), (2, v2), (3, v3), (4, v4)]) rfl w
 unfold Oper.wp
 simp [execOp, List.map_cons, List.map_nil, h0, h1, h2, h3, h4, k0, k1, k2, k3, k4] at hr ⊢
 exact z9_14
end
theorem v_rem4 {T : TypeId} {x y : Operand} {a i k : Nat} (ha : a < 4) (hi : i < 5) (hk : k = (a + i) % 4) :
    ∀ w, (do eqGuard .rem T x y (.int .i64 ((a : Int) + (i : Int))) (.int .i64 4); binOp .rem T (.int .i64 ((a : Int) + (i : Int))) (.int .i64 4) : Sem Value).run Tryz.prog w = .ok (.int .i64 (k : Nat)) w := by
 have h : ((a : Int) + (i : Int)).tmod 4 = (k : Nat) := by
  rw [Int.tmod_eq_emod_of_nonneg Zo]; omega
 intro w
 go_simp
 first | done | exact h | (rw [h])
def Tq.rot (a i : Nat) : List ByteArray := (List.range i).map fun j => Tq.srcs.getD ((a + j) % 4) { data := #[] }
theorem Tq.rot_len (a i : Nat) : (Tq.rot a i).length = i := by unfold Tq.rot; rw [List.length_map, List.length_range]
theorem Tq.rot_snoc {a i : Nat} {s : ByteArray} (h : Tq.srcs[(a + i) % 4]? = some s) : Tq.rot a (i + 1) = Tq.rot a i ++ [s] := by
 unfold Tq.rot
 rw [List.range_succ, List.map_append, List.map_singleton, List.getD_eq_getElem?_getD, h]; rfl
theorem Tq.rot_nd : ∀ a, a < 4 → ∀ i, i < 5 → (Tq.rot a i).Nodup := by decide +kernel
theorem Tq.rot_all : ∀ a, a < 4 → ∀ i, i < 5 → ((Tq.rot a i).all fun s => Tq.srcs.any fun t => decide (t = s)) = true := by decide +kernel
theorem Tq.rot_mem {a i : Nat} (ha : a < 4) (hi : i < 5) : ∀ s ∈ Tq.rot a i, s ∈ Tq.srcs := fun s hs => by
 obtain ⟨t, ht, e⟩ := List.any_eq_true.1 (List.all_eq_true.1 (Tq.rot_all a ha i hi) s hs)
 rw [← of_decide_eq_true e]; exact ht
structure Tq.MPo (p : WP) (ss : List ByteArray) (tol : Rat) : Prop where
 nd : ss.Nodup
 mem : ∀ s ∈ ss, s ∈ Tq.srcs
 n0 : 1 ≤ ss.length
 n1 : ss.length ≤ 4
 tl : p.tol = rr tol
 pr : Ac.Pr tol
 st : 0 ≤ p.stale ∧ p.stale ≤ 30
theorem Tq.src_name : ∀ s ∈ Tq.srcs, Nm.usableB s = true := by decide +kernel
theorem Tq.MPo.pol {p : WP} {ss : List ByteArray} {tol : Rat} (h : Tq.MPo p ss tol) {w : World} (hr : RdS 1 w p.src.v (V1 (Tq.V ss))) : Tq.Pol p ss tol w := by
 have hp := Ac.pr_ok h.pr
 exact ⟨hr, h.nd, fun s hs => Tq.src_name s (h.mem s hs), h.n0, Nat.le_trans h.n1 Zd, h.tl, hp.1, hp.2.1, hp.2.2, h.st.1, h.st.2⟩
theorem sl_of {n : Nat} {s : Value} {l : List (Array Value)} {B : List (Nat × Array Value)} (h : SlAt n s l B) : ∃ S : Sl, s = S.v := by
 obtain ⟨A, cap, e, _⟩ := h.val
 exact ⟨⟨A, l.length, cap⟩, e⟩
theorem WP.put (x : Rat) (h : Rt.Fit x) (st : Int) (w : World) : (Instr.build 37 #[(1, .agg (Rt.qA x)), (2, .int .i64 st)]).run Tryz.prog w = .ok (.agg (WP.c ⟨⟨none, 0, 0⟩, rr x, st⟩)) w :=
 WP.bld (parts := #[(1, .agg (Rt.qA x)), (2, .int .i64 st)]) (r := ⟨⟨none, 0, 0⟩, rr x, st⟩) (by simp [Value.cells, qA_size]) (by rw [WP.rows]; show _ = rowsOf [_, (rr x).c, _]; rw [rr_c h]; rfl) w
theorem mpolicy_any (W : World) (tb m : Nat) (w : World) (hT : Tp W tb m w) (hm : m ≤ 700000000) :
    Calls Tryz.prog 7 #[.pointer (some ⟨tb, 0, none⟩)] w fun e w' => ∃ (p : WP) (ss : List ByteArray) (tol : Rat) (B : List (Nat × Array Value)) (c : Array Value), e = .returned (.agg p.c) ∧ Hid (Tq.MPo p ss tol) ∧ Hid (SlAt 1 p.src.v (V1 (Tq.V ss)) B) ∧ Hid (TapeC W (m + 1020) c) ∧ Mem w [tb] ((tb, c) :: B) w' := by
 obtain ⟨c0, hbl, hc0, hb, hle0⟩ := hT
 have HM := Mem.start1 w hbl
 have HC := Zi hc0
 have H0 := Zi hb
 have hle : ∀ b ∈ [tb], W.heap.size ≤ b := by simpa using hle0
 have zp := WP.za
 have elr : elemB 86 35 66 264 = true := by kernel_rfl
 have els : elemB 29 9 1 16 = true := by kernel_rfl
 have O1 := fun w => mkof_q 0 1 _ Zd Zd Zd Zd Zd (Zi rfl) w
 have O2 := fun w => mkof_q 3 100 _ Zd Zd Zd Zd Zd (Zi rfl) w
 have O3 := fun w => mkof_q 1 2 _ Zd Zd Zd Zd Zd (Zi rfl) w
 have p1 := Ac.pr_of (n := 0) (d := 1) (k := 100000000) Zd Zd Zd Zd
 have p2 := Ac.pr_of (n := 3) (d := 100) (k := 1000000) Zd Zd Zd Zd
 have p3 := Ac.pr_of (n := 1) (d := 2) (k := 50000000) Zd Zd Zd Zd
 generalize Rat.divInt 0 1 = x1 at *
 generalize Rat.divInt 3 100 = x2 at *
 generalize Rat.divInt 1 2 = x3 at *
 have z1 := qA_size x1
 have z2 := qA_size x2
 have z3 := qA_size x3
 clear hbl hc0 hb
 go_enter Tryz.func7, Tryz.ntmps7
 go_wp2_with (first | (go_at_call 19; (with_reducible refine Zc HM (O1 _) ?_; clear HM; intro w2 HM)) | (go_at_call 19; (with_reducible refine Zc HM (O2 _) ?_; clear HM; intro w2 HM)) | (go_at_call 19; (with_reducible refine Zc HM (O3 _) ?_; clear HM; intro w2 HM)) | (first | ((with_reducible refine g_ld ?_); refine a_ld HM ?_) | ((with_reducible refine g_st ?_); refine a_st HM ?_; clear HM; intro w1 HM) | ((with_reducible refine g_al ?_); refine a_al HM ?_; clear HM; intro bk w1 HM) | ((with_reducible refine g_bld ?_); refine a_bld ?_)))
 refine (percent_any W tb _ _ (HM.tp Zl HC.out H0.out hle) Zo).mono ?_
 rintro e9 w2 ⟨x4, rfl, p4, ⟨c1, hb1, hc1, -, -⟩, hg9⟩
 replace HM := HM.put (c' := c1) Zg hb1 (Only.of_grown hg9)
 clear hg9 hb1 O1 O2 O3
 replace HC := Zi hc1
 clear hc1
 have z4 := qA_size x4
 obtain ⟨b2, rfl⟩ := HM.nm0
 go_wp2_with (first | ((with_reducible refine g_bs4 ?_); refine a_bs4 (c0 := Rt.qA x1) (c1 := Rt.qA x2) (c2 := Rt.qA x3) (c3 := Rt.qA x4) HM ?_; clear HM; intro b9 w1 HM) | (first | ((with_reducible refine g_ld ?_); refine a_ld HM ?_) | ((with_reducible refine g_st ?_); refine a_st HM ?_; clear HM; intro w1 HM) | ((with_reducible refine g_al ?_); refine a_al HM ?_; clear HM; intro bk w1 HM) | ((with_reducible refine g_bld ?_); refine a_bld ?_)))
 have hne := Tq.ne HM (b' := tb) Zs
 refine (pickr_any W tb _ b9 [Rt.qA x1, Rt.qA x2, Rt.qA x3, Rt.qA x4] 4 _ (HM.tp Zl HC.out H0.out hle) Zo (HM.get Zl) hne rfl Zd Zd (fun c hc => by simp only [List.mem_cons, List.not_mem_nil, or_false] at hc; rcases hc with rfl | rfl | rfl | rfl <;> assumption) (fun c hc => by simp only [List.mem_cons, List.not_mem_nil, or_false] at hc; rcases hc with rfl | rfl | rfl | rfl <;> exact qA_one _)).mono ?_
 rintro e9 w2 ⟨cx, rfl, hcx, ⟨c2, hb1, hc1, -, -⟩, hg9⟩
 replace HM := HM.put (c' := c2) Zg hb1 (Only.of_grown hg9)
 clear hg9 hb1 hne
 replace HC := Zi hc1
 clear hc1
 obtain ⟨x, rfl, hx⟩ : ∃ x, cx = Rt.qA x ∧ Ac.Pr x := by
  simp only [List.mem_cons, List.not_mem_nil, or_false] at hcx
  rcases hcx with rfl | rfl | rfl | rfl
  ·exact ⟨_, rfl, p1⟩
  ·exact ⟨_, rfl, p2⟩
  ·exact ⟨_, rfl, p3⟩
  ·exact ⟨_, rfl, p4⟩
 clear hcx p1 p2 p3 p4 z1 z2 z3 z4
 replace HM := HM.tail
 have HX := Zi hx
 clear hx
 have e5 : elemB 22 3 1 8 = true := by kernel_rfl
 go_wp2_with (first | ((with_reducible refine g_ld ?_); refine a_ld HM ?_) | ((with_reducible refine g_st ?_); refine a_st HM ?_; clear HM; intro w1 HM) | ((with_reducible refine g_al ?_); refine a_al HM ?_; clear HM; intro bk w1 HM) | ((with_reducible refine g_bld ?_); refine a_bld ?_))
 (refine (pick_new (tb := tb) (W := W) HM Zl HC.out H0.out (by first | exact hle | simpa using hle) [0, 1, 2, 5, 30] _ Zo Zs Zs).mono ?_; rintro e9 w2 ⟨v1, c1, rfl, hv, hc1, hb1, hg⟩; replace HM := HM.put (c' := c1) Zg hb1 hg; clear hg hb1; replace HC := Zi hc1; clear hc1)
 have hst : 0 ≤ v1 ∧ v1 ≤ 30 := by
  simp only [List.mem_cons, List.not_mem_nil, or_false] at hv
  omega
 clear hv
 obtain ⟨st, rfl⟩ : ∃ st, st = v1 := ⟨_, rfl⟩
 have HB := WP.put x (Ac.pr_ok HX.out).1.fit st
 have sp := (WP.mk ⟨none, 0, 0⟩ (rr x) st).sa (z := WP.zero.c) (WP.size _)
 go_wp2_with (first | ((with_reducible refine g_bld ?_); refine a_rbl (v := .agg (WP.c ⟨⟨none, 0, 0⟩, rr x, st⟩)) ?_ (hy := h_bg2 rfl Zw Zw (by with_reducible exact (HB)))) | (go_at_call 21; refine (msrc_at _).mono ?_; rintro e9 w9 ⟨bS, off, cv, rfl, HL, hB9⟩; replace HM := HM.join hB9; clear hB9; simp only [List.cons_append, List.nil_append] at HM) | (first | ((with_reducible refine g_ld ?_); refine a_ld HM ?_) | ((with_reducible refine g_st ?_); refine a_st HM ?_; clear HM; intro w1 HM) | ((with_reducible refine g_al ?_); refine a_al HM ?_; clear HM; intro bk w1 HM) | ((with_reducible refine g_bld ?_); refine a_bld ?_)))
 (refine (next_any W tb _ _ _ (HM.tp Zl HC.out H0.out hle) Zo Zo Zo).mono ?_; rintro e9 w2 ⟨v, rfl, v0, v1, ⟨c1, hb1, hc1, -, -⟩, hg⟩; replace HM := HM.put (c' := c1) Zg hb1 (Only.of_grown hg); clear hg hb1; replace HC := Zi hc1; clear hc1)
 obtain ⟨at0, rfl⟩ : ∃ k : Nat, v = k := ⟨v.toNat, by omega⟩
 obtain ⟨b3, rfl⟩ := HM.nm1
 clear HB sp
 go_wp2_with (first | ((with_reducible refine g_ld ?_); refine a_ld HM ?_) | ((with_reducible refine g_st ?_); refine a_st HM ?_; clear HM; intro w1 HM) | ((with_reducible refine g_al ?_); refine a_al HM ?_; clear HM; intro bk w1 HM) | ((with_reducible refine g_bld ?_); refine a_bld ?_))
 go_loopw [6] (fun iv wr => ∃ (i : Nat) (S : Sl) (B : List (Nat × Array Value)) (c : Array Value), iv = .int .i64 (i : Nat) ∧ i ≤ 4 ∧ Hid (SlAt 1 S.v (V1 (Tq.V (Tq.rot at0 i))) B) ∧ Hid (TapeC W (m + 1003 + i) c) ∧ Mem w [tb] ((b3, WP.c ⟨S, rr x, st⟩) :: (bS, cv) :: (b2, WP.zero.c) :: (tb, c) :: B) wr) (fun iv _ => 4 - (intOf iv).toNat)
 case atStart => exact ⟨0, ⟨none, 0, 0⟩, [], _, rfl, by omega, Zi .nil, HC, HM.pick⟩
 case round =>
  clear HM HC
  obtain ⟨i, S, B, c, rfl, hi, HS, HC, HM⟩ := hrel
  go_wp2_with (first | ((with_reducible refine g_ld ?_); refine a_ld HM ?_) | ((with_reducible refine g_st ?_); refine a_st HM ?_; clear HM; intro w1 HM) | ((with_reducible refine g_al ?_); refine a_al HM ?_; clear HM; intro bk w1 HM) | ((with_reducible refine g_bld ?_); refine a_bld ?_))
  (refine (next_any W tb _ _ _ (HM.tp Zl HC.out H0.out hle) Zo Zo Zo).mono ?_; rintro e9 w2 ⟨u, rfl, u0, u1, ⟨c1, hb1, hc1, -, -⟩, hg⟩; replace HM := HM.put (c' := c1) Zg hb1 (Only.of_grown hg); clear hg hb1; replace HC := Zi hc1; clear hc1)
  by_cases hlt : (i : Int) < 1 + u
  ·obtain ⟨k, hk⟩ : ∃ k, k = (at0 + i) % 4 := ⟨_, rfl⟩
   obtain ⟨s, hs⟩ : ∃ s, Tq.srcs[k]? = some s := ⟨_, List.getElem?_eq_getElem (show k < Tq.srcs.length by show k < 4; omega)⟩
   have ls := HL.out k s hs
   have HRS := Zi (Tq.rot_snoc (a := at0) (i := i) (hk ▸ hs))
   have HK := Zi hk
   have ha4 : at0 < 4 := by omega
   have hi5 : i < 5 := by omega
   have hk4 : (k : Int) < 4 := by omega
   have l1 : LA 29 (WP.c ⟨S, rr x, st⟩) 0 (Sl.v S) := (WP.f_src _).la
   clear hk hs
   go_upto_region 7 with (first | ((with_reducible refine g_ld ?_); refine a_ld HM ?_) | ((with_reducible refine g_st ?_); refine a_st HM ?_; clear HM; intro w1 HM) | ((with_reducible refine g_al ?_); refine a_al HM ?_; clear HM; intro bk w1 HM) | ((with_reducible refine g_bld ?_); refine a_bld ?_))
   refine start_M2 [12] HM ((Sub.keep (Sub.keep (Sub.keep Sub.nil)))) Zk (fun w0x H9 => ?_)
   replace HM := H9; clear H9
   refine k_fa 0 (heldE HM) ?_
   refine k_ld 1 [10, 11, 12] (heldE HM) ?_
   refine k_mv 2 (heldE HM) ?_
   refine k_mv 3 (heldE HM) ?_
   refine k_mv 4 (heldE HM) ?_
   refine k_add 5 (heldE HM) ?_
   refine t_pure (i := 6) (v := .int .i64 (k : Nat)) rfl rfl Zk (fun _ _ _ h => h) (heldE HM) Zv ?_ ?_; (focus (exact h_bin rfl Zw Zw (v_rem4 ha4 hi5 HK.out))); ((try simp only [Za]); (try simp only [Zx]); (try simp only [Zy]))
   refine k_ia 7 (heldE HM) ?_
   refine k_ld 8 [9, 10, 11, 12] (heldE HM) ?_
   refine j_one 9 fun K9 hK9 => ?_
   refine j_bs1 (c0 := #[.string s]) HM ?_ (hT := els); clear HM; intro b9 w1 HM
   refine hK9 _ _ (heldE HM) ?_; clear hK9 K9; ((try simp only [Za]); (try simp only [Zx]); (try simp only [Zy]))
   refine j_one 10 fun K9 hK9 => ?_
   refine j_app (m := [#[.string s]]) (F := fun X => (b3, WP.c ⟨S, rr x, st⟩) :: (bS, cv) :: (b2, WP.zero.c) :: (tb, c1) :: X) HM HS.out ((SlAt.made1 b9 rfl).rd HM Zs) ?_ (by simp [Value.oneCell']) (hT := els) (hTx := els) (hlen := by rw [Tq.V_len, Tq.rot_len]; simp; omega); clear HM; intro s9 B9 w9 HSS HM; obtain ⟨S9, rfl⟩ := sl_of HSS; have s12 : SA 29 (WP.c ⟨S, rr x, st⟩) 0 (Sl.v S9) (WP.c ⟨S9, rr x, st⟩) := WP.s_src _ S9
   refine hK9 _ _ (heldE HM) ?_; clear hK9 K9; ((try simp only [Za]); (try simp only [Zx]); (try simp only [Zy]))
   refine k_fa 11 (heldE HM) ?_
   refine j_one 12 fun K9 hK9 => ?_
   refine j_st HM ?_; clear HM; intro w1 HM
   refine hK9 _ _ heldN ?_; clear hK9 K9
   refine wpAnyL_done Zk ?_ _
   (go_wp2_with fail; go_roundw; (case rel => exact ⟨i + 1, S9, B9, c1, by go_num, by omega, Zi (by rw [HRS.out]; simpa [Tq.V, V1] using HSS), Zi (HC.out.mono Zo), HM⟩); (case measure => simp [intOf]; omega))
  ·have lp := (WP.mk S (rr x) st).la
   have sp := (WP.mk S (rr x) st).sa (z := WP.zero.c) (WP.size _)
   go_wp2_with (first | ((with_reducible refine g_ld ?_); refine a_ld HM ?_) | ((with_reducible refine g_st ?_); refine a_st HM ?_; clear HM; intro w1 HM) | ((with_reducible refine g_al ?_); refine a_al HM ?_; clear HM; intro bk w1 HM) | ((with_reducible refine g_bld ?_); refine a_bld ?_))
   refine bodyPost_ret (r_c rfl rfl (HM.get Zl) lp) rfl ?_
   exact ⟨⟨S, rr x, st⟩, Tq.rot at0 i, x, B, c1, rfl, Zi ⟨Tq.rot_nd at0 Zo i Zo, Tq.rot_mem Zo Zo, by rw [Tq.rot_len]; omega, by rw [Tq.rot_len]; omega, rfl, HX.out, hst⟩, HS, Zi (HC.out.mono Zo), HM.pick⟩
end
end Go.Proofs.YtiekmabiecalbaaGreatDoor
