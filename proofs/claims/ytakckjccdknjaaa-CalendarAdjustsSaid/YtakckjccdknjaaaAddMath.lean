/- Business days add up: plain mathematics, no program in sight. -/
import Derived.Test.YtakckjccdknjaaaCalMath
namespace Go.Proofs.Ytakckjccdknjaaa
namespace Cl
open Dt Nm
theorem cnt_plus (O : Int → Bool) : ∀ (m n : Nat) (d : Int), cnt O (m + n) d = cnt O m d + cnt O n (d + m)
  | 0, n, d => by simp [cnt]
  | m + 1, n, d => by
    have h := cnt_plus O m n (d + 1)
    rw [show m + 1 + n = (m + n) + 1 from by omega, cnt, h, cnt, show d + 1 + (m : Int) = d + ((m + 1 : Nat) : Int) from by omega]
    omega
theorem cnt_le (O : Int → Bool) {m n : Nat} (d : Int) (h : m ≤ n) : cnt O m d ≤ cnt O n d := by
  obtain ⟨k, rfl⟩ : ∃ k, n = m + k := ⟨n - m, by omega⟩
  have := cnt_plus O m k d
  have := (cnt_bd O k (d + m)).1
  omega
theorem cnt_mono (f g : Int → Bool) : ∀ (n : Nat) (d : Int), (∀ x, d ≤ x → x < d + n → f x = true → g x = true) → cnt f n d ≤ cnt g n d
  | 0, d, _ => by simp [cnt]
  | n + 1, d, h => by
    have ih := cnt_mono f g n (d + 1) (fun x h1 h2 => h x (by omega) (by omega))
    have h0 := h d (by omega) (by omega)
    unfold cnt
    by_cases e : f d = true
    · rw [if_pos e, if_pos (h0 e)]; omega
    · rw [if_neg e]; split <;> omega
theorem cnt_or (f g : Int → Bool) : ∀ (n : Nat) (d : Int), cnt (fun x => f x || g x) n d ≤ cnt f n d + cnt g n d
  | 0, d => by simp [cnt]
  | n + 1, d => by
    have ih := cnt_or f g n (d + 1)
    unfold cnt
    cases f d <;> cases g d <;> simp <;> omega
theorem cnt_one (y : Int) : ∀ (n : Nat) (d : Int), cnt (fun x => decide (x = y)) n d ≤ 1 ∧ (y < d → cnt (fun x => decide (x = y)) n d = 0)
  | 0, d => by simp [cnt]
  | n + 1, d => by
    have ih := cnt_one y n (d + 1)
    unfold cnt
    by_cases e : d = y
    · have := ih.2 (by omega)
      simp only [e, decide_true, if_pos]
      rw [e] at this
      constructor
      · omega
      · intro h; omega
    · simp only [e, decide_false]
      constructor
      · simp; exact ih.1
      · intro h; have := ih.2 (by omega); simp; exact this
theorem has_cons (y : Int) (t : List Int) (x : Int) : has (y :: t) x = (decide (x = y) || has t x) := by
  unfold has
  rw [List.contains_cons]
  congr 1
theorem cnt_has : ∀ (hs : List Int) (n : Nat) (d : Int), cnt (has hs) n d ≤ hs.length
  | [], n, d => by
    have : cnt (has []) n d = 0 := by
      induction n generalizing d with
      | zero => rfl
      | succ n ih => simp [cnt, has] at ih ⊢; exact ih (d + 1)
    simp [this]
  | y :: t, n, d => by
    have h1 := cnt_or (fun x => decide (x = y)) (has t) n d
    have h2 := (cnt_one y n d).1
    have h3 := cnt_has t n d
    have h4 := cnt_mono (has (y :: t)) (fun x => decide (x = y) || has t x) n d (fun x _ _ h => by rw [← has_cons]; exact h)
    simp only [List.length_cons]; omega
theorem cnt_week (e : Int) (d : Int) : cnt (fun x => decide ((x + e) % 7 = 0)) 7 d = 1 := by
  simp only [cnt, decide_eq_true_eq]
  repeat' (split)
  all_goals omega
theorem cnt_weeks (e : Int) : ∀ (m : Nat) (d : Int), cnt (fun x => decide ((x + e) % 7 = 0)) (7 * m) d = m
  | 0, d => by simp [cnt]
  | m + 1, d => by
    rw [show 7 * (m + 1) = 7 + 7 * m from by omega, cnt_plus, cnt_week, cnt_weeks e m]; omega
theorem some_open {k : Nat → Bool} (h : allK k = false) : ∃ i, i < 7 ∧ k i = false := by
  by_cases h0 : k 0 = false
  · exact ⟨0, by omega, h0⟩
  by_cases h1 : k 1 = false
  · exact ⟨1, by omega, h1⟩
  by_cases h2 : k 2 = false
  · exact ⟨2, by omega, h2⟩
  by_cases h3 : k 3 = false
  · exact ⟨3, by omega, h3⟩
  by_cases h4 : k 4 = false
  · exact ⟨4, by omega, h4⟩
  by_cases h5 : k 5 = false
  · exact ⟨5, by omega, h5⟩
  refine ⟨6, by omega, ?_⟩
  simp only [Bool.not_eq_false] at h0 h1 h2 h3 h4 h5
  simpa [allK, h0, h1, h2, h3, h4, h5] using h
/-- In a window of 7 (c + 20) days there are c open ones. -/
theorem open_many {k : Nat → Bool} {hs : List Int} (hk : allK k = false) (hl : hs.length ≤ 20) (c : Nat) (d : Int) (h0 : 0 ≤ d) (h1 : d + 7 * (c + 20 : Nat) ≤ 73049) : (c : Int) ≤ cnt (opn k hs) (7 * (c + 20)) d := by
  obtain ⟨i, hi, hki⟩ := some_open hk
  have a := cnt_weeks (5 - (i : Int)) (c + 20) d
  have b := cnt_mono (fun x => decide ((x + (5 - (i : Int))) % 7 = 0)) (fun x => opn k hs x || has hs x) (7 * (c + 20)) d (fun x x0 x1 hx => by
    have hx' : (x + (5 - (i : Int))) % 7 = 0 := by simpa using hx
    have e : ((x + 5) % 7).toNat = i := by omega
    have hd : isDay x = true := by unfold isDay; simp; omega
    rw [opn_mid hd, e, hki]
    cases has hs x <;> rfl)
  have c1 := cnt_or (opn k hs) (has hs) (7 * (c + 20)) d
  have c2 := cnt_has hs (7 * (c + 20)) d
  omega
/-! ### the c-th open day is there -/
theorem nth_there (O : Int → Bool) : ∀ (n : Nat) (d c : Int), 1 ≤ c → c ≤ cnt O n d → ∃ x, nth O n d c = some x ∧ d ≤ x ∧ x < d + n ∧ O x = true
  | 0, d, c, h1, h2 => by simp [cnt] at h2; omega
  | n + 1, d, c, h1, h2 => by
    unfold cnt at h2
    unfold nth
    by_cases e : O d = true
    · rw [if_pos e] at h2
      rw [if_pos e]
      by_cases e1 : c ≤ 1
      · rw [if_pos e1]; exact ⟨d, rfl, by omega, by omega, e⟩
      · rw [if_neg e1]
        obtain ⟨x, hx, h3, h4, h5⟩ := nth_there O n (d + 1) (c - 1) (by omega) (by omega)
        exact ⟨x, hx, by omega, by omega, h5⟩
    · rw [if_neg e] at h2
      rw [if_neg e]
      obtain ⟨x, hx, h3, h4, h5⟩ := nth_there O n (d + 1) c h1 (by omega)
      exact ⟨x, hx, by omega, by omega, h5⟩
theorem nth_more (O : Int → Bool) (m : Nat) : ∀ (n : Nat) (d c : Int) (x : Int), nth O n d c = some x → nth O (n + m) d c = some x
  | 0, d, c, x, h => by simp [nth] at h
  | n + 1, d, c, x, h => by
    rw [show n + 1 + m = (n + m) + 1 from by omega]
    unfold nth at h ⊢
    by_cases e : O d = true
    · rw [if_pos e] at h ⊢
      by_cases e1 : c ≤ 1
      · rw [if_pos e1] at h ⊢; exact h
      · rw [if_neg e1] at h ⊢; exact nth_more O m n _ _ x h
    · rw [if_neg e] at h ⊢; exact nth_more O m n _ _ x h
theorem nthU_there {k : Nat → Bool} {hs : List Int} (hk : allK k = false) (hl : hs.length ≤ 20) (c : Nat) (d : Int) (h0 : 0 ≤ d) (hc : 1 ≤ c) (h1 : d + 7 * (c + 20 : Nat) ≤ 73049) : ∃ x, nthU (opn k hs) d c = some x ∧ d ≤ x ∧ x < d + 7 * (c + 20 : Nat) ∧ opn k hs x = true := by
  obtain ⟨x, hx, h2, h3, h4⟩ := nth_there (opn k hs) (7 * (c + 20)) d c (by omega) (open_many hk hl c d h0 h1)
  refine ⟨x, ?_, h2, by omega, h4⟩
  unfold nthU
  obtain ⟨m, hm⟩ : ∃ m, (73049 - d).toNat = 7 * (c + 20) + m := ⟨(73049 - d).toNat - 7 * (c + 20), by omega⟩
  rw [hm]
  exact nth_more _ _ _ _ _ _ hx
/-- The last n days up to d, counted. -/
theorem nthD_there (O : Int → Bool) : ∀ (n : Nat) (d c : Int), 1 ≤ c → c ≤ cnt O n (d - n + 1) → ∃ x, nthD O n d c = some x ∧ x ≤ d ∧ d - n < x ∧ O x = true
  | 0, d, c, h1, h2 => by simp [cnt] at h2; omega
  | n + 1, d, c, h1, h2 => by
    rw [cnt_succ, show d - ((n + 1 : Nat) : Int) + 1 = d - n from by omega, show d - (n : Int) + n = d from by omega] at h2
    have hw : d - (n : Int) = (d - 1) - n + 1 := by omega
    unfold nthD
    by_cases e : O d = true
    · rw [if_pos e] at h2
      rw [if_pos e]
      by_cases e1 : c ≤ 1
      · rw [if_pos e1]; exact ⟨d, rfl, by omega, by omega, e⟩
      · rw [if_neg e1]
        obtain ⟨x, hx, h3, h4, h5⟩ := nthD_there O n (d - 1) (c - 1) (by omega) (by rw [← hw]; omega)
        exact ⟨x, hx, by omega, by omega, h5⟩
    · rw [if_neg e] at h2
      rw [if_neg e]
      obtain ⟨x, hx, h3, h4, h5⟩ := nthD_there O n (d - 1) c h1 (by rw [← hw]; omega)
      exact ⟨x, hx, by omega, by omega, h5⟩
theorem nthD_more (O : Int → Bool) (m : Nat) : ∀ (n : Nat) (d c : Int) (x : Int), nthD O n d c = some x → nthD O (n + m) d c = some x
  | 0, d, c, x, h => by simp [nthD] at h
  | n + 1, d, c, x, h => by
    rw [show n + 1 + m = (n + m) + 1 from by omega]
    unfold nthD at h ⊢
    by_cases e : O d = true
    · rw [if_pos e] at h ⊢
      by_cases e1 : c ≤ 1
      · rw [if_pos e1] at h ⊢; exact h
      · rw [if_neg e1] at h ⊢; exact nthD_more O m n _ _ x h
    · rw [if_neg e] at h ⊢; exact nthD_more O m n _ _ x h
theorem nthL_there {k : Nat → Bool} {hs : List Int} (hk : allK k = false) (hl : hs.length ≤ 20) (c : Nat) (d : Int) (h0 : 7 * (c + 20 : Nat) ≤ d + 1) (hc : 1 ≤ c) (h1 : d ≤ 73048) : ∃ x, nthL (opn k hs) d c = some x ∧ x ≤ d ∧ d - 7 * (c + 20 : Nat) < x ∧ opn k hs x = true := by
  have ho := open_many hk hl c (d - (7 * (c + 20) : Nat) + 1) (by omega) (by omega)
  obtain ⟨x, hx, h2, h3, h4⟩ := nthD_there (opn k hs) (7 * (c + 20)) d c (by omega) ho
  refine ⟨x, ?_, h2, by omega, h4⟩
  unfold nthL
  obtain ⟨m, hm⟩ : ∃ m, (d + 1).toNat = 7 * (c + 20) + m := ⟨(d + 1).toNat - 7 * (c + 20), by omega⟩
  rw [hm]
  exact nthD_more _ _ _ _ _ _ hx
/-! ### adding up -/
theorem stp_add (O : Int → Bool) : ∀ (a b : Nat) (d : Int), stp O (a + b) d = (stp O a d).bind (stp O b)
  | 0, b, d => by simp [stp]
  | a + 1, b, d => by
    rw [show a + 1 + b = (a + b) + 1 from by omega]
    unfold stp
    cases up O (d + 1) with
    | none => rfl
    | some x => exact stp_add O a b x
theorem stpD_add (O : Int → Bool) : ∀ (a b : Nat) (d : Int), stpD O (a + b) d = (stpD O a d).bind (stpD O b)
  | 0, b, d => by simp [stpD]
  | a + 1, b, d => by
    rw [show a + 1 + b = (a + b) + 1 from by omega]
    unfold stpD
    cases dn O (d - 1) with
    | none => rfl
    | some x => exact stpD_add O a b x
/-- Between a day and the next open one there is none. -/
theorem up_gap {O : Int → Bool} : ∀ (n : Nat) {d y : Int}, (y - d).toNat = n → up O d = some y → ∀ z, d ≤ z → z < y → O z = false
  | 0, d, y, hn, h, z, hz, hzy => by omega
  | n + 1, d, y, hn, h, z, hz, hzy => by
    have hr := up_range h
    have hd : d ≤ 73048 := by omega
    cases ho : O d
    · by_cases e : z = d
      · subst e; exact ho
      · exact up_gap n (d := d + 1) (y := y) (by omega) (by rw [← up_no hd ho]; exact h) z (by omega) hzy
    · rw [up_yes hd ho] at h
      injection h with h; omega
theorem dn_gap {O : Int → Bool} : ∀ (n : Nat) {d y : Int}, (d - y).toNat = n → dn O d = some y → ∀ z, z ≤ d → y < z → O z = false
  | 0, d, y, hn, h, z, hz, hzy => by omega
  | n + 1, d, y, hn, h, z, hz, hzy => by
    have hr := dn_range h
    have hd : 0 ≤ d := by omega
    cases ho : O d
    · by_cases e : z = d
      · subst e; exact ho
      · exact dn_gap n (d := d - 1) (y := y) (by omega) (by rw [← dn_no hd ho]; exact h) z (by omega) hzy
    · rw [dn_yes hd ho] at h
      injection h with h; omega
theorem dn_of_gap {O : Int → Bool} (s : Int) (h0 : 0 ≤ s) (hs : O s = true) : ∀ (n : Nat) (d : Int), (d - s).toNat = n → s ≤ d → (∀ z, s < z → z ≤ d → O z = false) → dn O d = some s
  | 0, d, hn, hd, _ => by
    obtain rfl : d = s := by omega
    exact dn_yes h0 hs
  | n + 1, d, hn, hd, hg => by
    rw [dn_no (by omega) (hg d (by omega) (by omega))]
    exact dn_of_gap s h0 hs n (d - 1) (by omega) (by omega) (fun z a b => hg z a (by omega))
theorem up_of_gap {O : Int → Bool} (s : Int) (h0 : s ≤ 73048) (hs : O s = true) : ∀ (n : Nat) (d : Int), (s - d).toNat = n → d ≤ s → (∀ z, d ≤ z → z < s → O z = false) → up O d = some s
  | 0, d, hn, hd, _ => by
    obtain rfl : d = s := by omega
    exact up_yes h0 hs
  | n + 1, d, hn, hd, hg => by
    rw [up_no (by omega) (hg d (by omega) (by omega))]
    exact up_of_gap s h0 hs n (d + 1) (by omega) (by omega) (fun z a b => hg z (by omega) b)
theorem cnt_none (O : Int → Bool) : ∀ (n : Nat) (d : Int), (∀ z, d ≤ z → z < d + n → O z = false) → cnt O n d = 0
  | 0, _, _ => rfl
  | n + 1, d, h => by
    unfold cnt
    rw [cnt_none O n (d + 1) (fun z a b => h z (by omega) (by omega)), h d (by omega) (by omega)]; simp
/-- c steps up from an open day: going back leads back, and c open days lie between. -/
theorem stp_back {O : Int → Bool} : ∀ (c : Nat) {s x : Int}, 0 ≤ s → s ≤ 73048 → O s = true → stp O c s = some x → stpD O c x = some s ∧ s ≤ x ∧ x ≤ 73048 ∧ O x = true ∧ cnt O (x - s).toNat s = c
  | 0, s, x, h0, h1, hs, h => by
    simp only [stp, Option.some.injEq] at h
    subst h
    exact ⟨rfl, by omega, h1, hs, by simp [cnt]⟩
  | c + 1, s, x, h0, h1, hs, h => by
    unfold stp at h
    cases hu : up O (s + 1) with
    | none => rw [hu] at h; cases h
    | some y =>
      rw [hu] at h
      have hy := up_range hu
      obtain ⟨i1, i2, i3, i4, i5⟩ := stp_back c (by omega) hy.2.1 hy.2.2 h
      have hg := up_gap _ rfl hu
      have hb : dn O (y - 1) = some s := dn_of_gap s h0 hs _ (y - 1) rfl (by omega) (fun z a b => hg z (by omega) (by omega))
      refine ⟨?_, by omega, i3, i4, ?_⟩
      · rw [stpD_add O c 1 x, i1]
        simp [stpD, hb]
      · have e1 : cnt O (y - 1 - s).toNat (s + 1) = 0 := cnt_none O _ _ (fun z a b => hg z a (by omega))
        have e2 : cnt O 1 s = 1 := by simp [cnt, hs]
        rw [show (x - s).toNat = 1 + ((y - 1 - s).toNat + (x - y).toNat) from by omega, cnt_plus, cnt_plus, e2, show s + ((1 : Nat) : Int) = s + 1 from rfl, e1, show s + 1 + ((y - 1 - s).toNat : Int) = y from by omega, i5]
        omega
theorem stpD_back {O : Int → Bool} : ∀ (c : Nat) {s x : Int}, 0 ≤ s → s ≤ 73048 → O s = true → stpD O c s = some x → stp O c x = some s ∧ x ≤ s ∧ 0 ≤ x ∧ O x = true ∧ cnt O (s - x).toNat x = c
  | 0, s, x, h0, h1, hs, h => by
    simp only [stpD, Option.some.injEq] at h
    subst h
    exact ⟨rfl, by omega, h0, hs, by simp [cnt]⟩
  | c + 1, s, x, h0, h1, hs, h => by
    unfold stpD at h
    cases hu : dn O (s - 1) with
    | none => rw [hu] at h; cases h
    | some y =>
      rw [hu] at h
      have hy := dn_range hu
      obtain ⟨i1, i2, i3, i4, i5⟩ := stpD_back c hy.2.1 (by omega) hy.2.2 h
      have hg := dn_gap _ rfl hu
      have hb : up O (y + 1) = some s := up_of_gap s h1 hs _ (y + 1) rfl (by omega) (fun z a b => hg z (by omega) (by omega))
      refine ⟨?_, by omega, i3, i4, ?_⟩
      · rw [stp_add O c 1 x, i1]
        simp [stp, hb]
      · have e1 : cnt O (s - 1 - y).toNat (y + 1) = 0 := cnt_none O _ _ (fun z a b => hg z (by omega) (by omega))
        have e2 : cnt O 1 y = 1 := by simp [cnt, hy.2.2]
        rw [show (s - x).toNat = (y - x).toNat + (1 + (s - 1 - y).toNat) from by omega, cnt_plus, cnt_plus, i5, show x + ((y - x).toNat : Int) = y from by omega, e2, show y + ((1 : Nat) : Int) = y + 1 from rfl, e1]
        omega
/-! ### what the law asks -/
/-- An addition that ends: near the middle of the range every one does. -/
theorem addO_there {k : Nat → Bool} {hs : List Int} (hk : allK k = false) (hl : hs.length ≤ 20) {d n : Int} (h0 : 1000 ≤ d) (h1 : d ≤ 70000) (n0 : n ≠ 0) (n1 : -24 ≤ n) (n2 : n ≤ 24) :
    ∃ x, addO k hs d n = some x ∧ d - 350 ≤ x ∧ x ≤ d + 350 ∧ opn k hs x = true ∧ (0 < n → d < x) ∧ (n < 0 → x < d) := by
  by_cases hn : 0 < n
  · obtain ⟨x, hx, a, b, c⟩ := nthU_there hk hl n.toNat (d + 1) (by omega) (by omega) (by omega)
    refine ⟨x, ?_, by omega, by omega, c, by omega, by omega⟩
    rw [addO_pos hn, ← hx]; congr 1; omega
  · obtain ⟨x, hx, a, b, c⟩ := nthL_there hk hl (-n).toNat (d - 1) (by omega) (by omega) (by omega)
    refine ⟨x, ?_, by omega, by omega, c, by omega, by omega⟩
    rw [addO_neg (by omega), ← hx]; congr 1; omega
theorem addO_zero {k : Nat → Bool} {hs : List Int} (hk : allK k = false) (hl : hs.length ≤ 20) {d : Int} (h0 : 1000 ≤ d) (h1 : d ≤ 70000) :
    ∃ x, addO k hs d 0 = some x ∧ d ≤ x ∧ x ≤ d + 350 ∧ opn k hs x = true := by
  obtain ⟨x, hx, a, b, c⟩ := nthU_there hk hl 1 d (by omega) (by omega) (by omega)
  refine ⟨x, ?_, by omega, by omega, c⟩
  unfold addO
  rw [if_pos rfl, ← hx]
  exact (nthU_one _ _).symm
theorem addO_split {k : Nat → Bool} {hs : List Int} {d m n x : Int} (hs' : (0 < m ∧ 0 < n) ∨ (m < 0 ∧ n < 0)) (h : addO k hs d m = some x) : addO k hs d (m + n) = addO k hs x n := by
  unfold addO at h ⊢
  rcases hs' with ⟨a, b⟩ | ⟨a, b⟩
  · rw [if_neg (by omega), if_pos a] at h
    rw [if_neg (by omega), if_pos (by omega), if_neg (by omega), if_pos b, show (m + n).toNat = m.toNat + n.toNat from by omega, stp_add, h]; rfl
  · rw [if_neg (by omega), if_neg (by omega)] at h
    rw [if_neg (by omega), if_neg (by omega), if_neg (by omega), if_neg (by omega), show (-(m + n)).toNat = (-m).toNat + (-n).toNat from by omega, stpD_add, h]; rfl
theorem addO_back {k : Nat → Bool} {hs : List Int} {d m x : Int} (h0 : 0 ≤ d) (h1 : d ≤ 73048) (hd : opn k hs d = true) (hm : m ≠ 0) (h : addO k hs d m = some x) :
    addO k hs x (-m) = some d ∧ cnt (opn k hs) (max d x - min d x).toNat (min d x) = max m (-m) := by
  unfold addO at h ⊢
  by_cases a : 0 < m
  · rw [if_neg (by omega), if_pos a] at h
    obtain ⟨i1, i2, i3, i4, i5⟩ := stp_back _ h0 h1 hd h
    rw [if_neg (by omega), if_neg (by omega), show (- -m).toNat = m.toNat from by omega]
    refine ⟨i1, ?_⟩
    rw [show max d x = x from by omega, show min d x = d from by omega, i5]; omega
  · rw [if_neg (by omega), if_neg (by omega)] at h
    obtain ⟨i1, i2, i3, i4, i5⟩ := stpD_back _ h0 h1 hd h
    rw [if_neg (by omega), if_pos (by omega)]
    refine ⟨i1, ?_⟩
    rw [show max d x = d from by omega, show min d x = x from by omega, i5]; omega
end Cl
end Go.Proofs.Ytakckjccdknjaaa
