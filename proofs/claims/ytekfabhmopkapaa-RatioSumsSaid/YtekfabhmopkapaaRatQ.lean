/- Ratios, in plain words: what is valid, what Make returns. -/
import Derived.Test.YtekfabhmopkapaaRatC
namespace Go.Proofs.Ytekfabhmopkapaa
set_option maxRecDepth 8000
open Go.RowKit
theorem Rt.ok_parts {s t : Bool} {M N : Nat} (h : Rt.ok s M t N = true) : t = false ∧ N ≠ 0 ∧ Bg.bl M ≤ 480 ∧ Bg.bl N ≤ 480 ∧ (s = true → M ≠ 0) ∧ Nat.gcd M N = 1 := by
  unfold Rt.ok Rt.short at h
  simp only [Bool.and_eq_true, decide_eq_true_eq] at h
  obtain ⟨⟨h1, h2⟩, h3, h4, h5, h6⟩ := h
  have h7 := Int.sign_eq_one_iff_pos.1 (show (Bg.toZ t N).sign = 1 by rcases sign_v (Bg.toZ t N) with h | h | h <;> omega)
  have ht : t = false ∧ N ≠ 0 := by
    cases t
    · exact ⟨rfl, by simp [Bg.toZ] at h7; omega⟩
    · simp [Bg.toZ] at h7; omega
  refine ⟨ht.1, ht.2, h1, h2, ?_, by omega⟩
  intro hs
  subst hs
  simpa using h3
theorem Rt.ok_z {s t : Bool} {M N : Nat} (h : Rt.ok s M t N = true) : Bg.ratA s M t N = Bg.rZ (Bg.toZ s M) (Bg.toZ t N) ∧ Rt.okz (Bg.toZ s M) (Bg.toZ t N) = true := by
  obtain ⟨ht, hN, h1, h2, h3, h4⟩ := Rt.ok_parts h
  have e1 : decide (Bg.toZ s M < 0) = s := by
    cases s
    · simp [Bg.toZ]
    · have := h3 rfl; simp [Bg.toZ]; omega
  have e2 : decide (Bg.toZ t N < 0) = t := by rw [ht]; simp [Bg.toZ]
  constructor
  · rw [rZ_ratA, e1, e2, Bg.toZ_abs, Bg.toZ_abs]
  · unfold Rt.okz; rw [e1, e2, Bg.toZ_abs, Bg.toZ_abs]; exact h
theorem p2_480 {N : Nat} (hN : N < Bg.lim) (h : Bg.bl N ≤ 480) : N < Bg.p2 480 := Nat.lt_of_lt_of_le (Bg.bl_bounds hN).1 (Bg.p2_mono h)
/-- The bounds of a valid ratio. -/
structure Rt.Good (p q : Int) : Prop where
  bp : p.natAbs < Bg.p2 480
  bq : q.natAbs < Bg.p2 480
  pos : 0 < q
  one : Nat.gcd p.natAbs q.natAbs = 1
theorem Rt.good {p q : Int} (hp : p.natAbs < Bg.lim) (hq : q.natAbs < Bg.lim) (h : Rt.okz p q = true) : Rt.Good p q := by
  unfold Rt.okz at h
  obtain ⟨ht, hN, h1, h2, h3, h4⟩ := Rt.ok_parts h
  refine ⟨p2_480 hp h1, p2_480 hq h2, ?_, h4⟩
  have : ¬ q < 0 := by simpa using ht
  omega
theorem Rt.Good.lp {p q : Int} (h : Rt.Good p q) : p.natAbs < Bg.lim := Nat.lt_of_lt_of_le h.bp (by have := Bg.p2_mono (show 480 ≤ 1024 by decide); rwa [Bg.p2_lim] at this)
theorem Rt.Good.lq {p q : Int} (h : Rt.Good p q) : q.natAbs < Bg.lim := Nat.lt_of_lt_of_le h.bq (by have := Bg.p2_mono (show 480 ≤ 1024 by decide); rwa [Bg.p2_lim] at this)
theorem mul_480 {a b : Int} (ha : a.natAbs < Bg.p2 480) (hb : b.natAbs < Bg.p2 480) : (a * b).natAbs < Bg.p2 960 := by
  rw [Int.natAbs_mul, show 960 = 480 + 480 from rfl, Bg.p2_add]
  exact Nat.mul_lt_mul'' ha hb
theorem lim_960 {a : Int} (h : a.natAbs < Bg.p2 960) : a.natAbs < Bg.lim := Nat.lt_of_lt_of_le h (by have := Bg.p2_mono (show 960 ≤ 1024 by decide); rwa [Bg.p2_lim] at this)
theorem lim_961 {a b : Int} (ha : a.natAbs < Bg.p2 960) (hb : b.natAbs < Bg.p2 960) : (a + b).natAbs < Bg.lim := by
  have h := Bg.p2_mono (show 961 ≤ 1024 by decide)
  rw [Bg.p2_lim, Bg.p2_succ] at h
  omega
theorem Rt.okz_of {n d : Int} (h1 : Rt.short n.natAbs d.natAbs = true) (h2 : 0 < d) (h3 : Nat.gcd n.natAbs d.natAbs = 1) : Rt.okz n d = true := by
  unfold Rt.okz Rt.ok
  have e1 : decide (d < 0) = false := by simp; omega
  have e2 : Bg.toZ false d.natAbs = d := by simp [Bg.toZ]; omega
  rw [h1, e1, e2, h3, Int.sign_eq_one_of_pos h2]
  by_cases hn : n < 0
  · have : n.natAbs ≠ 0 := by omega
    simp [hn, this]
  · simp [hn]
theorem Rt.mk_ok {p q n d e : Int} (h : (n, d, e) = Rt.mk p q) (he : e = 0) : Rt.okz n d = true ∧ p * d = q * n ∧ 0 < d := by
  subst he
  by_cases h0 : q = 0
  · unfold Rt.mk at h; rw [if_pos h0] at h; simp at h
  · obtain ⟨G, x1, x2, f, hS⟩ := Rt.mkSt h0 h
    cases hf : f with
    | false => have := hS.no hf; omega
    | true =>
      obtain ⟨rfl, rfl, _⟩ := hS.yes hf
      have hg : 0 < (Nat.gcd p.natAbs q.natAbs : Int) := by have := Rt.sg_pos (p := p) h0; omega
      have hone : Nat.gcd (p / (Nat.gcd p.natAbs q.natAbs : Nat)).natAbs (q / (Nat.gcd p.natAbs q.natAbs : Nat)).natAbs = 1 := Int.gcd_ediv_gcd_ediv_gcd_of_ne_zero_right h0
      have dp : ((Nat.gcd p.natAbs q.natAbs : Nat) : Int) * (p / (Nat.gcd p.natAbs q.natAbs : Nat)) = p := Int.mul_ediv_cancel' (Int.ofNat_dvd_left.2 (Nat.gcd_dvd_left _ _))
      have dq : ((Nat.gcd p.natAbs q.natAbs : Nat) : Int) * (q / (Nat.gcd p.natAbs q.natAbs : Nat)) = q := Int.mul_ediv_cancel' (Int.ofNat_dvd_left.2 (Nat.gcd_dvd_right _ _))
      have hsg := hS.eg
      have h1 := hS.e1
      have h2 := hS.e2
      have hsh : Rt.short n.natAbs d.natAbs = true := by rw [← hS.ef, hf]
      unfold Rt.sg at hsg
      generalize ((Nat.gcd p.natAbs q.natAbs : Nat) : Int) = g at *
      obtain ⟨y1, hy1⟩ : ∃ y, y = p / g := ⟨_, rfl⟩
      obtain ⟨y2, hy2⟩ : ∃ y, y = q / g := ⟨_, rfl⟩
      rw [← hy1] at dp hone
      rw [← hy2] at dq hone
      rcases Int.lt_or_gt_of_ne h0 with hq | hq
      · rw [if_pos hq] at hsg
        rw [hsg, Int.ediv_neg, ← hy1] at h1
        rw [hsg, Int.ediv_neg, ← hy2] at h2
        have h5 : y2 < 0 := by
          rcases Int.lt_or_le y2 0 with h5 | h5
          · exact h5
          · have := Int.mul_nonneg (Int.le_of_lt hg) h5; omega
        refine ⟨Rt.okz_of hsh (by omega) (by rw [h1, h2, Int.natAbs_neg, Int.natAbs_neg]; exact hone), ?_, by omega⟩
        rw [h1, h2, ← dp, ← dq]
        grind
      · rw [if_neg (by omega)] at hsg
        rw [hsg, ← hy1] at h1
        rw [hsg, ← hy2] at h2
        have h5 : 0 < y2 := by
          rcases Int.lt_or_le 0 y2 with h5 | h5
          · exact h5
          · have := Int.mul_nonneg (Int.le_of_lt hg) (show 0 ≤ -y2 by omega)
            rw [Int.mul_neg] at this; omega
        refine ⟨Rt.okz_of hsh (by omega) (by rw [h1, h2]; exact hone), ?_, by omega⟩
        rw [h1, h2, ← dp, ← dq]
        grind
/-- The result of one of the four operations. -/
def Rt.bin (k : Bool) (x y : Int) : Int × Int × Int := if k then Rt.mk x y else (0, 0, 20)
theorem Rt.bin_mk {x y n d e : Int} {k : Bool} (h : (n, d, e) = Rt.bin k x y) (hk : k = true) : (n, d, e) = Rt.mk x y := by rw [h, hk]; rfl
theorem Rt.bin_no {x y n d e : Int} {k : Bool} (h : (n, d, e) = Rt.bin k x y) (hk : k = false) : n = 0 ∧ d = 0 ∧ e = 20 := by
  rw [hk] at h; unfold Rt.bin at h; simpa using h
theorem Rt.mk_lt {p q n d e : Int} (hp : p.natAbs < Bg.lim) (hq : q.natAbs < Bg.lim) (h : (n, d, e) = Rt.mk p q) : n.natAbs < Bg.lim ∧ d.natAbs < Bg.lim := by
  have l0 : ((0 : Int)).natAbs < Bg.lim := Bg.ppos 32
  unfold Rt.mk at h
  split at h
  · simp at h; obtain ⟨rfl, rfl, _⟩ := h; exact ⟨l0, l0⟩
  · split at h
    · simp at h; obtain ⟨rfl, rfl, _⟩ := h; exact ⟨ediv_lt hp, ediv_lt hq⟩
    · simp at h; obtain ⟨rfl, rfl, _⟩ := h; exact ⟨l0, l0⟩
/-- Small numbers without a common divisor, with a denominator above 0, are as they are. -/
theorem Rt.mk_id {p q : Int} (hp : p.natAbs < Bg.p2 480) (hq : q.natAbs < Bg.p2 480) (h0 : 0 < q) (h1 : Nat.gcd p.natAbs q.natAbs = 1) : Rt.mk p q = (p, q, 0) := by
  have lim : Bg.p2 480 ≤ Bg.lim := by have := Bg.p2_mono (show 480 ≤ 1024 by decide); rwa [Bg.p2_lim] at this
  unfold Rt.mk
  have hs : Rt.sg p q = 1 := by unfold Rt.sg; rw [if_neg (by omega), h1]; rfl
  rw [if_neg (by omega), hs, Int.ediv_one, Int.ediv_one, if_pos]
  unfold Rt.short
  rw [decide_eq_true (Bg.bl_le (by omega) hp), decide_eq_true (Bg.bl_le (by omega) hq)]
  rfl
end Go.Proofs.Ytekfabhmopkapaa
