/- Made prices. -/
import Derived.Test.YteamjgifohamgaaGreatScn
namespace Go.Proofs.YteamjgifohamgaaGreat
set_option maxRecDepth 8000
open Go.RowKit
/-- A price that the scene makes. -/
def Sc.Price (x : Rat) : Prop := ∃ n d : Int, 1 ≤ n ∧ n ≤ 30000 ∧ 1 ≤ d ∧ d ≤ 1000000 ∧ x = Rat.divInt n d
theorem Sc.divInt_pos {n d : Int} (h1 : 1 ≤ n) (h2 : 1 ≤ d) : 0 < Rat.divInt n d := by
  rw [Rat.divInt_eq_div]
  have h3 : (0 : Rat) < (n : Rat) := Rat.intCast_pos.2 (by omega)
  have h4 : (0 : Rat) < (d : Rat) := Rat.intCast_pos.2 (by omega)
  rw [Rat.div_def]; exact Rat.mul_pos h3 (Rat.inv_pos.2 h4)
theorem Sc.Price.pos {x : Rat} (h : Sc.Price x) : 0 < x := by
  obtain ⟨n, d, h1, _, h2, _, rfl⟩ := h
  exact Sc.divInt_pos h1 h2
theorem Sc.Price.bd {x : Rat} (h : Sc.Price x) : Rt.Bd x 15 20 := by
  obtain ⟨n, d, h1, h2, h3, h4, rfl⟩ := h
  exact .divInt (by omega) (Bg.p2_small 15 32768 (by unfold Bg.p2; rfl) (by omega)) (Bg.p2_small 20 1048576 (by unfold Bg.p2; rfl) (by omega))
theorem Sc.k_bd {k : Int} (h1 : 900 ≤ k) (h2 : k ≤ 1100) : Rt.Bd (Rat.divInt k 1000) 11 10 :=
  .divInt (by omega) (Bg.p2_small 11 2048 (by unfold Bg.p2; rfl) (by omega)) (Bg.p2_small 10 1024 (by unfold Bg.p2; rfl) (by omega))
/-- A difference that has a size, and not the size 0. -/
def Mt.Good (d : Mt.D) : Prop := ∃ s, Mt.size d.ow d.oi = (some s, 0) ∧ 0 < s
theorem Rt.abs_pos {x : Rat} (h : x ≠ 0) : 0 < Rt.abs x := by
  rw [Mt.abs_eq]
  split <;> grind
theorem Mt.good_of {x k : Rat} {d : Mt.D} (hx : Sc.Price x) (hk : Rt.Bd k 11 10) (h0 : 0 < k) (hne : x ≠ x * k) (hw : d.ow = some x) (hi : d.oi = some (x * k)) : Mt.Good d := by
  have hp := hx.pos
  have hpy : 0 < x * k := Rat.mul_pos hp h0
  have b1 := hx.bd.sub (hx.bd.mul hk)
  have h1 : ¬ x * k = 0 := by grind
  have b2 := b1.quo (hx.bd.mul hk) h1
  have hs : ¬ (x - x * k) / (x * k) = 0 := by
    intro h
    have : x - x * k = 0 := by
      have h3 := Rat.div_mul_cancel (a := x - x * k) h1
      rw [h, Rat.zero_mul] at h3
      exact h3.symm
    exact hne (by grind)
  refine ⟨Rt.abs ((x - x * k) / (x * k)), ?_, Rt.abs_pos hs⟩
  rw [hw, hi]
  unfold Mt.size
  simp only [if_neg h1]
  rw [if_pos b1.fit, if_pos b2.fit]
theorem Mt.mat_good {t : Rat} {L : List Mt.D} (hg : ∀ d ∈ L, Mt.Good d) (h0 : 0 ≤ t) (h1 : t ≤ 1) : Mt.mat (some t) L = (Mt.kept t L, 0) := by
  unfold Mt.mat
  simp only []
  rw [if_pos ⟨h0, h1⟩, Mt.find_no (fun d hd => by
    obtain ⟨s, hs, _⟩ := hg d hd
    unfold Mt.bad
    rw [hs]; rfl)]
theorem Mt.keep_good {t s : Rat} {d : Mt.D} (h : Mt.size d.ow d.oi = (some s, 0)) : Mt.keep t d = decide (t < s) := by unfold Mt.keep; rw [h]
theorem Mt.kept_kept {a b : Rat} (hab : a ≤ b) {L : List Mt.D} (hg : ∀ d ∈ L, Mt.Good d) : Mt.kept b (Mt.kept a L) = Mt.kept b L := by
  unfold Mt.kept
  rw [List.filter_filter]
  apply List.filter_congr
  intro d hd
  obtain ⟨s, hs, _⟩ := hg d hd
  rw [Mt.keep_good hs, Mt.keep_good hs]
  by_cases h : b < s
  · rw [decide_eq_true h, decide_eq_true (show a < s by grind)]; rfl
  · rw [decide_eq_false h]; rfl
theorem Mt.kept_zero {L : List Mt.D} (hg : ∀ d ∈ L, Mt.Good d) : Mt.kept 0 L = L := by
  unfold Mt.kept
  rw [List.filter_eq_self]
  intro d hd
  obtain ⟨s, hs, h⟩ := hg d hd
  rw [Mt.keep_good hs, decide_eq_true h]
theorem Mt.good_kept {a : Rat} {L : List Mt.D} (hg : ∀ d ∈ L, Mt.Good d) : ∀ d ∈ Mt.kept a L, Mt.Good d := fun d hd => hg d (List.mem_filter.1 hd).1
theorem Mt.kept_le (a : Rat) (L : List Mt.D) : (Mt.kept a L).length ≤ L.length := List.length_filter_le _ _
def PricePost (W : World) (tb m : Nat) (w : World) (e : Ending) (w' : World) : Prop :=
  ∃ x : Rat, e = .returned (.agg (Rt.qA x)) ∧ Sc.Price x ∧ Tp W tb (m + 4) w' ∧ w.grownBy w' (some tb)
theorem sratio_p {n d : Int} (h1 : 1 ≤ n) (h2 : n ≤ 30000) (h3 : 1 ≤ d) (h4 : d ≤ 1000000) (w : World) :
    Calls Tryz.prog 11 #[.int .i64 n, .int .i64 d] w fun r w' => (∃ x, Sc.Price x ∧ r = .returned (.agg (Rt.qA x))) ∧ Below w.heap.size w w' :=
  (sratio_any n d _ (by omega) (by omega) (by omega) (by omega) (Lib.hid rfl) w).mono fun r w' h => ⟨⟨_, ⟨n, d, h1, h2, h3, h4, rfl⟩, h.1⟩, h.2⟩
theorem sprice_any (W : World) (tb m : Nat) (w : World) (hT : Tp W tb m w) (hm : m ≤ 900000000) :
    Calls Tryz.prog 6 #[.pointer (some ⟨tb, 0, none⟩)] w (PricePost W tb m w) := by
  obtain ⟨cs, hb, hc, h0, hle0⟩ := hT
  have HM := Mem.start1 w hb
  have HC := Lib.hid hc
  have H0 := Lib.hid h0
  have hz0 := za_rat
  have hle : ∀ b ∈ [tb], W.heap.size ≤ b := by simpa using hle0
  clear hb hc h0
  go_enter Tryz.func6, Tryz.ntmps6
  go_wp2_with (first | fail | (first | ((with_reducible refine g_ld ?_); refine a_ld HM ?_) | ((with_reducible refine g_st ?_); refine a_st HM ?_; clear HM; intro w1 HM) | ((with_reducible refine g_al ?_); refine a_al HM ?_; clear HM; intro bk w1 HM) | ((with_reducible refine g_bx ?_); refine a_bx HM ?_; clear HM; intro bk w1 HM) | ((with_reducible refine g_bld ?_); refine a_bld ?_)))
  (refine (snext_any W tb _ _ _ (HM.tp (by ((repeat (first | exact Look.here | refine Look.there ?_)); done)) HC.out H0.out hle) (by omega) (by omega) (by omega)).mono ?_; rintro e9 w2 ⟨v, rfl, hv0, hv1, ⟨c1, hb1, hc1, -, -⟩, hg⟩; replace HM := HM.put (c' := c1) (by (repeat (first | exact At.here | apply At.there))) hb1 (Only.of_grown hg); clear hg hb1; replace HC := Lib.hid hc1; clear hc1)
  by_cases h0v : v = 0
  · subst h0v
    go_wp2_with (first | fail | (first | ((with_reducible refine g_ld ?_); refine a_ld HM ?_) | ((with_reducible refine g_st ?_); refine a_st HM ?_; clear HM; intro w1 HM) | ((with_reducible refine g_al ?_); refine a_al HM ?_; clear HM; intro bk w1 HM) | ((with_reducible refine g_bx ?_); refine a_bx HM ?_; clear HM; intro bk w1 HM) | ((with_reducible refine g_bld ?_); refine a_bld ?_)))
    (refine (snext_any W tb _ _ _ (HM.tp (by ((repeat (first | exact Look.here | refine Look.there ?_)); done)) HC.out H0.out hle) (by omega) (by omega) (by omega)).mono ?_; rintro e9 w2 ⟨v1, rfl, hv2, hv3, ⟨c1, hb1, hc1, -, -⟩, hg⟩; replace HM := HM.put (c' := c1) (by (repeat (first | exact At.here | apply At.there))) hb1 (Only.of_grown hg); clear hg hb1; replace HC := Lib.hid hc1; clear hc1)
    go_wp2_with (first | fail | (first | ((with_reducible refine g_ld ?_); refine a_ld HM ?_) | ((with_reducible refine g_st ?_); refine a_st HM ?_; clear HM; intro w1 HM) | ((with_reducible refine g_al ?_); refine a_al HM ?_; clear HM; intro bk w1 HM) | ((with_reducible refine g_bx ?_); refine a_bx HM ?_; clear HM; intro bk w1 HM) | ((with_reducible refine g_bld ?_); refine a_bld ?_)))
    (refine (snext_any W tb _ _ _ (HM.tp (by ((repeat (first | exact Look.here | refine Look.there ?_)); done)) HC.out H0.out hle) (by omega) (by omega) (by omega)).mono ?_; rintro e9 w2 ⟨v2, rfl, hv4, hv5, ⟨c1, hb1, hc1, -, -⟩, hg⟩; replace HM := HM.put (c' := c1) (by (repeat (first | exact At.here | apply At.there))) hb1 (Only.of_grown hg); clear hg hb1; replace HC := Lib.hid hc1; clear hc1)
    go_wp2_with (first | (go_at_call 11; (refine (sratio_p (n := 1 + v1) (d := 1 + v2) (by omega) (by omega) (by omega) (by omega) _).mono ?_); rintro e9 w2 ⟨⟨x, hx, rfl⟩, hL⟩; replace HM := HM.call hL; clear hL; have s1 := sa_q x (rZ_size 0 0)) | (first | ((with_reducible refine g_ld ?_); refine a_ld HM ?_) | ((with_reducible refine g_st ?_); refine a_st HM ?_; clear HM; intro w1 HM) | ((with_reducible refine g_al ?_); refine a_al HM ?_; clear HM; intro bk w1 HM) | ((with_reducible refine g_bx ?_); refine a_bx HM ?_; clear HM; intro bk w1 HM) | ((with_reducible refine g_bld ?_); refine a_bld ?_)))
    refine bodyPost_ret (r_c rfl rfl (HM.get (by ((repeat (first | exact Look.here | refine Look.there ?_)); done))) (la_q x)) rfl ?_
    obtain ⟨hT, hg⟩ := HM.done (by ((repeat (first | exact Look.here | refine Look.there ?_)); done)) HC.out H0.out hle0
    exact ⟨x, rfl, hx, hT.mono (by omega), hg⟩
  · have h0b : (v == 0) = false := by simpa using h0v
    by_cases h1v : v = 1
    · subst h1v
      go_wp2_with (first | fail | (first | ((with_reducible refine g_ld ?_); refine a_ld HM ?_) | ((with_reducible refine g_st ?_); refine a_st HM ?_; clear HM; intro w1 HM) | ((with_reducible refine g_al ?_); refine a_al HM ?_; clear HM; intro bk w1 HM) | ((with_reducible refine g_bx ?_); refine a_bx HM ?_; clear HM; intro bk w1 HM) | ((with_reducible refine g_bld ?_); refine a_bld ?_)))
      (refine (snext_any W tb _ _ _ (HM.tp (by ((repeat (first | exact Look.here | refine Look.there ?_)); done)) HC.out H0.out hle) (by omega) (by omega) (by omega)).mono ?_; rintro e9 w2 ⟨v1, rfl, hv2, hv3, ⟨c1, hb1, hc1, -, -⟩, hg⟩; replace HM := HM.put (c' := c1) (by (repeat (first | exact At.here | apply At.there))) hb1 (Only.of_grown hg); clear hg hb1; replace HC := Lib.hid hc1; clear hc1)
      go_wp2_with fail
      (refine (spick_new (tb := tb) (W := W) HM (by ((repeat (first | exact Look.here | refine Look.there ?_)); done)) HC.out H0.out (by first | exact hle | simpa using hle) [1, 10, 1000, 1000000] _ (by omega) (by simp) (by simp)).mono ?_; rintro e9 w2 ⟨v1, c1, rfl, hv, hc1, hb1, hg⟩; replace HM := HM.put (c' := c1) (by (repeat (first | exact At.here | apply At.there))) hb1 hg; clear hg hb1; replace HC := Lib.hid hc1; clear hc1)
      have hd : 1 ≤ v1 ∧ v1 ≤ 1000000 := by
        simp only [List.mem_cons, List.not_mem_nil, or_false] at hv
        rcases hv with rfl | rfl | rfl | rfl <;> omega
      obtain ⟨hd1, hd2⟩ := hd
      clear hv
      go_wp2_with (first | (go_at_call 11; (refine (sratio_p (by omega) (by omega) hd1 hd2 _).mono ?_); rintro e9 w2 ⟨⟨x, hx, rfl⟩, hL⟩; replace HM := HM.call hL; clear hL; have s1 := sa_q x (rZ_size 0 0)) | (first | ((with_reducible refine g_ld ?_); refine a_ld HM ?_) | ((with_reducible refine g_st ?_); refine a_st HM ?_; clear HM; intro w1 HM) | ((with_reducible refine g_al ?_); refine a_al HM ?_; clear HM; intro bk w1 HM) | ((with_reducible refine g_bx ?_); refine a_bx HM ?_; clear HM; intro bk w1 HM) | ((with_reducible refine g_bld ?_); refine a_bld ?_)))
      refine bodyPost_ret (r_c rfl rfl (HM.get (by ((repeat (first | exact Look.here | refine Look.there ?_)); done))) (la_q x)) rfl ?_
      obtain ⟨hT, hg⟩ := HM.done (by ((repeat (first | exact Look.here | refine Look.there ?_)); done)) HC.out H0.out hle0
      exact ⟨x, rfl, hx, hT.mono (by omega), hg⟩
    · have h1b : (v == 1) = false := by simpa using h1v
      go_wp2_with (first | fail | (first | ((with_reducible refine g_ld ?_); refine a_ld HM ?_) | ((with_reducible refine g_st ?_); refine a_st HM ?_; clear HM; intro w1 HM) | ((with_reducible refine g_al ?_); refine a_al HM ?_; clear HM; intro bk w1 HM) | ((with_reducible refine g_bx ?_); refine a_bx HM ?_; clear HM; intro bk w1 HM) | ((with_reducible refine g_bld ?_); refine a_bld ?_)))
      (refine (snext_any W tb _ _ _ (HM.tp (by ((repeat (first | exact Look.here | refine Look.there ?_)); done)) HC.out H0.out hle) (by omega) (by omega) (by omega)).mono ?_; rintro e9 w2 ⟨v1, rfl, hv2, hv3, ⟨c1, hb1, hc1, -, -⟩, hg⟩; replace HM := HM.put (c' := c1) (by (repeat (first | exact At.here | apply At.there))) hb1 (Only.of_grown hg); clear hg hb1; replace HC := Lib.hid hc1; clear hc1)
      go_wp2_with (first | (go_at_call 11; (refine (sratio_p (n := 1 + v1) (d := 100) (by omega) (by omega) (by omega) (by omega) _).mono ?_); rintro e9 w2 ⟨⟨x, hx, rfl⟩, hL⟩; replace HM := HM.call hL; clear hL; have s1 := sa_q x (rZ_size 0 0)) | (first | ((with_reducible refine g_ld ?_); refine a_ld HM ?_) | ((with_reducible refine g_st ?_); refine a_st HM ?_; clear HM; intro w1 HM) | ((with_reducible refine g_al ?_); refine a_al HM ?_; clear HM; intro bk w1 HM) | ((with_reducible refine g_bx ?_); refine a_bx HM ?_; clear HM; intro bk w1 HM) | ((with_reducible refine g_bld ?_); refine a_bld ?_)))
      refine bodyPost_ret (r_c rfl rfl (HM.get (by ((repeat (first | exact Look.here | refine Look.there ?_)); done))) (la_q x)) rfl ?_
      obtain ⟨hT, hg⟩ := HM.done (by ((repeat (first | exact Look.here | refine Look.there ?_)); done)) HC.out H0.out hle0
      exact ⟨x, rfl, hx, hT.mono (by omega), hg⟩
end Go.Proofs.YteamjgifohamgaaGreat
