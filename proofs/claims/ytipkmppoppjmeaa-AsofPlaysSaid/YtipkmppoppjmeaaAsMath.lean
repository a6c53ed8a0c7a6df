/- Plain: which records count. No program in sight. -/
import Init.Omega
import Init.Grind
namespace Go.Proofs.Ytipkmppoppjmeaa
set_option maxRecDepth 8000
namespace As
/-- A mark. -/
structure Mk where
  key : ByteArray
  kn : Int
  vd : Bool
def okFrom : Int → List Mk → Bool
  | _, [] => true
  | last, m :: r => !(decide (m.key.size = 0) || decide (64 < m.key.size) || decide (m.kn ≤ last) || decide (2147483647 < m.kn)) && okFrom m.kn r
/-- Marks are valid. -/
def ok (M : List Mk) : Bool := decide (M.length ≤ 4096) && okFrom 0 M
def err (M : List Mk) : Int := if ok M then 0 else 130
/-- The last of the first n records of a key that is known at k. -/
def last (M : List Mk) (k : Int) (s : ByteArray) : Nat → Option Nat
  | 0 => none
  | n + 1 => match M[n]? with
    | some m => if m.kn ≤ k ∧ m.key = s then some n else last M k s n
    | none => last M k s n
/-- Of the first n records: the one that counts. -/
def cnt (M : List Mk) (k : Int) (n : Nat) (s : ByteArray) : Option Nat :=
  match last M k s n with
  | some i => if M[i]?.map Mk.vd = some true then none else some i
  | none => none
def enc : Option Nat → Int
  | some i => (i : Int)
  | none => -1
theorem enc_inj {a b : Option Nat} (h : enc a = enc b) : a = b := by
  cases a <;> cases b <;> simp [enc] at h ⊢ <;> omega
def visB (M : List Mk) (k : Int) (i : Nat) : Bool :=
  match M[i]? with
  | some m => !m.vd && (decide (m.kn ≤ k) && decide (enc (last M k m.key M.length) = (i : Int)))
  | none => false
/-- The records that count at k. -/
def vis (M : List Mk) (k : Int) : List Nat := (List.range M.length).filter (visB M k)
theorem okFrom_get : ∀ (M : List Mk) (last : Int), okFrom last M = true → ∀ (i : Nat) (m : Mk), M[i]? = some m → m.key.size ≠ 0 ∧ m.key.size ≤ 64 ∧ last < m.kn ∧ m.kn ≤ 2147483647
  | [], _, _, i, m, h => by simp at h
  | a :: r, last, h, i, m, hm => by
    rw [okFrom] at h
    simp only [Bool.and_eq_true, Bool.not_eq_true', Bool.or_eq_false_iff, decide_eq_false_iff_not] at h
    obtain ⟨⟨⟨⟨h1, h2⟩, h3⟩, h4⟩, h5⟩ := h
    cases i with
    | zero =>
      obtain rfl : a = m := by simpa using hm
      exact ⟨h1, by omega, by omega, by omega⟩
    | succ i =>
      obtain ⟨a1, a2, a3, a4⟩ := okFrom_get r a.kn h5 i m (by simpa using hm)
      exact ⟨a1, a2, by omega, a4⟩
theorem okFrom_lt : ∀ (M : List Mk) (last : Int), okFrom last M = true → ∀ (i j : Nat) (m n : Mk), i < j → M[i]? = some m → M[j]? = some n → m.kn < n.kn
  | [], _, _, i, j, m, n, _, h, _ => by simp at h
  | a :: r, last, h, i, j, m, n, hij, hm, hn => by
    rw [okFrom] at h
    have h5 := ((Bool.and_eq_true _ _).mp h).2
    cases j with
    | zero => omega
    | succ j =>
      cases i with
      | zero =>
        obtain rfl : a = m := by simpa using hm
        exact (okFrom_get r a.kn h5 j n (by simpa using hn)).2.2.1
      | succ i => exact okFrom_lt r a.kn h5 i j m n (by omega) (by simpa using hm) (by simpa using hn)
theorem ok_get {M : List Mk} (h : ok M = true) {i : Nat} {m : Mk} (hm : M[i]? = some m) : m.key.size ≠ 0 ∧ m.key.size ≤ 64 ∧ 0 < m.kn ∧ m.kn ≤ 2147483647 :=
  okFrom_get M 0 ((Bool.and_eq_true _ _).mp h).2 i m hm
theorem ok_lt {M : List Mk} (h : ok M = true) {i j : Nat} {m n : Mk} (hij : i < j) (hm : M[i]? = some m) (hn : M[j]? = some n) : m.kn < n.kn :=
  okFrom_lt M 0 ((Bool.and_eq_true _ _).mp h).2 i j m n hij hm hn
theorem ok_len {M : List Mk} (h : ok M = true) : M.length ≤ 4096 := by
  have := ((Bool.and_eq_true _ _).mp h).1
  simpa using this
/-- Record i is one of the key that is known at k. -/
def Hit (M : List Mk) (k : Int) (s : ByteArray) (i : Nat) : Prop := ∃ m, M[i]? = some m ∧ m.kn ≤ k ∧ m.key = s
theorem last_some {M : List Mk} {k : Int} {s : ByteArray} : ∀ {n i : Nat}, last M k s n = some i → i < n ∧ Hit M k s i ∧ ∀ j, i < j → j < n → ¬ Hit M k s j
  | 0, i, h => by simp [last] at h
  | n + 1, i, h => by
    rw [last] at h
    cases hm : M[n]? with
    | none =>
      rw [hm] at h
      obtain ⟨a, b, c⟩ := last_some h
      refine ⟨by omega, b, fun j h1 h2 => ?_⟩
      by_cases e : j = n
      · subst e; rintro ⟨m, h3, _⟩; rw [hm] at h3; cases h3
      · exact c j h1 (by omega)
    | some m =>
      rw [hm] at h
      by_cases hc : m.kn ≤ k ∧ m.key = s
      · simp only [if_pos hc] at h
        injection h with h
        subst h
        exact ⟨by omega, ⟨m, hm, hc.1, hc.2⟩, fun j h1 h2 => by omega⟩
      · simp only [if_neg hc] at h
        obtain ⟨a, b, c⟩ := last_some h
        refine ⟨by omega, b, fun j h1 h2 => ?_⟩
        by_cases e : j = n
        · subst e; rintro ⟨m', h3, h4⟩; rw [hm] at h3; injection h3 with h3; subst h3; exact hc h4
        · exact c j h1 (by omega)
theorem last_none {M : List Mk} {k : Int} {s : ByteArray} : ∀ {n : Nat}, last M k s n = none → ∀ j, j < n → ¬ Hit M k s j
  | 0, _, j, hj => by omega
  | n + 1, h, j, hj => by
    rw [last] at h
    cases hm : M[n]? with
    | none =>
      rw [hm] at h
      by_cases e : j = n
      · subst e; rintro ⟨m, h3, _⟩; rw [hm] at h3; cases h3
      · exact last_none h j (by omega)
    | some m =>
      rw [hm] at h
      by_cases hc : m.kn ≤ k ∧ m.key = s
      · simp only [if_pos hc] at h; cases h
      · simp only [if_neg hc] at h
        by_cases e : j = n
        · subst e; rintro ⟨m', h3, h4⟩; rw [hm] at h3; injection h3 with h3; subst h3; exact hc h4
        · exact last_none h j (by omega)
theorem last_iff {M : List Mk} {k : Int} {s : ByteArray} {n i : Nat} : last M k s n = some i ↔ i < n ∧ Hit M k s i ∧ ∀ j, i < j → j < n → ¬ Hit M k s j := by
  refine ⟨last_some, fun ⟨h1, h2, h3⟩ => ?_⟩
  cases h : last M k s n with
  | none => exact absurd h2 (last_none h i h1)
  | some j =>
    obtain ⟨a, b, c⟩ := last_some h
    rcases Nat.lt_trichotomy i j with e | e | e
    · exact absurd b (h3 j e a)
    · rw [e]
    · exact absurd h2 (c i e h1)
/-- Records that are not known at k change nothing. -/
theorem last_stop {M : List Mk} {k : Int} {s : ByteArray} {n : Nat} (h : ∀ j m, n ≤ j → M[j]? = some m → k < m.kn) : ∀ {e : Nat}, n ≤ e → last M k s e = last M k s n := by
  intro e he
  induction e with
  | zero => obtain rfl : n = 0 := by omega
            rfl
  | succ e ih =>
    by_cases hn : n = e + 1
    · rw [hn]
    · rw [last]
      cases hm : M[e]? with
      | none => simp only []; exact ih (by omega)
      | some m =>
        have := h e m (by omega) hm
        simp only []
        rw [if_neg (by omega)]
        exact ih (by omega)
theorem cnt_stop {M : List Mk} {k : Int} {n : Nat} (h : ∀ j m, n ≤ j → M[j]? = some m → k < m.kn) {e : Nat} (he : n ≤ e) (s : ByteArray) : cnt M k e s = cnt M k n s := by
  unfold cnt; rw [last_stop h he]
theorem cnt_zero (M : List Mk) (k : Int) (s : ByteArray) : cnt M k 0 s = none := rfl
theorem cnt_step {M : List Mk} {k : Int} {n : Nat} {m : Mk} (hm : M[n]? = some m) (hk : m.kn ≤ k) (s : ByteArray) : cnt M k (n + 1) s = if m.key = s then (if m.vd then none else some n) else cnt M k n s := by
  unfold cnt
  rw [last, hm]
  simp only []
  by_cases e : m.key = s
  · rw [if_pos ⟨hk, e⟩, if_pos e]
    simp only [hm, Option.map_some]
    cases m.vd <;> simp
  · rw [if_neg (fun h => e h.2), if_neg e]
theorem cnt_some {M : List Mk} {k : Int} {n : Nat} {s : ByteArray} {i : Nat} (h : cnt M k n s = some i) : last M k s n = some i ∧ ∃ m, M[i]? = some m ∧ m.kn ≤ k ∧ m.key = s ∧ m.vd = false := by
  unfold cnt at h
  cases hl : last M k s n with
  | none => rw [hl] at h; cases h
  | some j =>
    rw [hl] at h
    simp only [] at h
    obtain ⟨_, ⟨m, hm, h1, h2⟩, _⟩ := last_some hl
    rw [hm] at h
    by_cases e : m.vd = true
    · simp [e] at h
    · simp [e] at h
      subst h
      exact ⟨rfl, m, hm, h1, h2, by simpa using e⟩
theorem cnt_of {M : List Mk} {k : Int} {n : Nat} {s : ByteArray} {i : Nat} {m : Mk} (h : last M k s n = some i) (hm : M[i]? = some m) (hv : m.vd = false) : cnt M k n s = some i := by
  unfold cnt; rw [h]; simp [hm, hv]
theorem cnt_inj {M : List Mk} {k : Int} {n : Nat} {s t : ByteArray} {i : Nat} (h : cnt M k n s = some i) (h2 : cnt M k n t = some i) : s = t := by
  obtain ⟨_, m, hm, _, e, _⟩ := cnt_some h
  obtain ⟨_, m2, hm2, _, e2, _⟩ := cnt_some h2
  rw [hm] at hm2
  injection hm2 with hm2
  rw [← e, ← e2, hm2]
theorem mem_vis {M : List Mk} {k : Int} {i : Nat} : i ∈ vis M k ↔ ∃ s, cnt M k M.length s = some i := by
  unfold vis
  rw [List.mem_filter, List.mem_range]
  constructor
  · rintro ⟨hi, hv⟩
    unfold visB at hv
    rw [List.getElem?_eq_getElem hi] at hv
    simp only [Bool.and_eq_true, Bool.not_eq_true', decide_eq_true_eq] at hv
    have : last M k M[i].key M.length = some i := enc_inj hv.2.2
    exact ⟨M[i].key, cnt_of this (List.getElem?_eq_getElem hi) hv.1⟩
  · rintro ⟨s, hs⟩
    obtain ⟨h1, m, hm, h2, h3, h4⟩ := cnt_some hs
    have hi := (last_some h1).1
    refine ⟨hi, ?_⟩
    unfold visB
    rw [hm]
    simp only [Bool.and_eq_true, Bool.not_eq_true', decide_eq_true_eq]
    refine ⟨h4, h2, ?_⟩
    rw [h3, h1]; rfl
theorem vis_sorted (M : List Mk) (k : Int) : (vis M k).Pairwise (· < ·) := List.Pairwise.filter _ List.pairwise_lt_range
/-- Lists of distinct numbers, sorted: one list. -/
theorem sort_ints {l v : List Int} (hn : l.Nodup) (hv : v.Pairwise (· < ·)) (hm : ∀ x, x ∈ l ↔ x ∈ v) : l.mergeSort (fun x y => decide (x ≤ y)) = v := by
  have hvn : v.Nodup := hv.imp (fun h => by omega)
  have hp : l.Perm v := (List.perm_ext_iff_of_nodup hn hvn).2 hm
  have tr : ∀ a b c : Int, decide (a ≤ b) = true → decide (b ≤ c) = true → decide (a ≤ c) = true := fun a b c h1 h2 => by simp at *; omega
  have to : ∀ a b : Int, (decide (a ≤ b) || decide (b ≤ a)) = true := fun a b => by simp; omega
  refine List.Perm.eq_of_pairwise (le := fun a b => decide (a ≤ b) = true) (fun a b _ _ h1 h2 => by simp at h1 h2; omega) (List.pairwise_mergeSort tr to l) (hv.imp (fun h => by simp; omega)) ((List.mergeSort_perm l _).trans hp)
theorem lt_irrefl (a : List UInt8) : ¬ a < a := List.lt_irrefl a
theorem sort_texts {l v : List (List UInt8)} (hn : l.Nodup) (hv : v.Pairwise (· < ·)) (hm : ∀ x, x ∈ l ↔ x ∈ v) : l.mergeSort (fun x y => decide (x ≤ y)) = v := by
  have hvn : v.Nodup := hv.imp (fun {a b} h e => by subst e; exact lt_irrefl _ h)
  have hp : l.Perm v := (List.perm_ext_iff_of_nodup hn hvn).2 hm
  have tr : ∀ a b c : List UInt8, decide (a ≤ b) = true → decide (b ≤ c) = true → decide (a ≤ c) = true := fun a b c h1 h2 => by simp only [decide_eq_true_eq] at *; exact List.le_trans h1 h2
  have to : ∀ a b : List UInt8, (decide (a ≤ b) || decide (b ≤ a)) = true := fun a b => by simp only [Bool.or_eq_true, decide_eq_true_eq]; exact List.le_total a b
  refine List.Perm.eq_of_pairwise (le := fun a b => decide (a ≤ b) = true) (fun a b _ _ h1 h2 => ?_) (List.pairwise_mergeSort tr to l) (hv.imp (fun {a b} h => ?_)) ((List.mergeSort_perm l _).trans hp)
  · simp only [decide_eq_true_eq] at h1 h2
    exact List.le_antisymm h1 h2
  · simp only [decide_eq_true_eq]
    rcases List.le_total a b with h1 | h1
    · exact h1
    · exact absurd h h1
/-- A text into a sorted list, if it is not there. -/
def ins : List (List UInt8) → List UInt8 → List (List UInt8)
  | [], s => [s]
  | x :: l, s => if x < s then x :: ins l s else if x = s then x :: l else s :: x :: l
theorem lt_trans' {a b c : List UInt8} (h : a < b) (h2 : b < c) : a < c := List.lt_trans h h2
theorem lt_of_not {a b : List UInt8} (h : ¬ a < b) (h2 : a ≠ b) : b < a := by
  rcases List.le_total a b with h1 | h1
  · exact absurd (List.le_antisymm h1 h) h2
  · by_cases e : b < a
    · exact e
    · exact absurd (List.le_antisymm e h1) h2
theorem mem_ins : ∀ {l : List (List UInt8)} {s x : List UInt8}, x ∈ ins l s ↔ x ∈ l ∨ x = s
  | [], s, x => by simp [ins]
  | y :: l, s, x => by
    rw [ins]
    split
    · rw [List.mem_cons, mem_ins, List.mem_cons, or_assoc]
    · split
      · rename_i h; subst h; rw [List.mem_cons]; constructor
        · rintro (h | h)
          · exact .inl (.inl h)
          · exact .inl (.inr h)
        · rintro ((h | h) | h)
          · exact .inl h
          · exact .inr h
          · exact .inl h
      · rw [List.mem_cons]; exact Or.comm
theorem ins_sorted : ∀ {l : List (List UInt8)} {s : List UInt8}, l.Pairwise (· < ·) → (ins l s).Pairwise (· < ·)
  | [], s, _ => by simp [ins]
  | y :: l, s, h => by
    rw [List.pairwise_cons] at h
    rw [ins]
    split
    · rename_i hy
      rw [List.pairwise_cons]
      refine ⟨fun x hx => ?_, ins_sorted h.2⟩
      rcases mem_ins.1 hx with hx | hx
      · exact h.1 x hx
      · rw [hx]; exact hy
    · split
      · exact List.pairwise_cons.2 h
      · rename_i h1 h2
        have h3 := lt_of_not h1 h2
        refine List.pairwise_cons.2 ⟨fun x hx => ?_, List.pairwise_cons.2 h⟩
        rcases List.mem_cons.1 hx with rfl | hx
        · exact h3
        · exact lt_trans' h3 (h.1 x hx)
theorem ins_split : ∀ (i : Nat) (l : List (List UInt8)) (s : List UInt8), (∀ x ∈ l.take i, x < s) → ins l s = l.take i ++ ins (l.drop i) s
  | 0, l, s, _ => by simp
  | i + 1, [], s, _ => by simp
  | i + 1, x :: l, s, h => by
    rw [List.take_succ_cons, List.drop_succ_cons, ins, if_pos (h x (by simp)), List.cons_append, ins_split i l s (fun y hy => h y (by simp [hy]))]
/-- The keys whose record that counts changes, of the first n records. -/
def chg (M : List Mk) (a b : Int) : Nat → List (List UInt8)
  | 0 => []
  | n + 1 => match M[n]? with
    | some m => if enc (cnt M a M.length m.key) = enc (cnt M b M.length m.key) then chg M a b n else ins (chg M a b n) m.key.data.toList
    | none => chg M a b n
theorem chg_sorted (M : List Mk) (a b : Int) : ∀ n, (chg M a b n).Pairwise (· < ·)
  | 0 => List.Pairwise.nil
  | n + 1 => by
    rw [chg]
    split
    · split
      · exact chg_sorted M a b n
      · exact ins_sorted (chg_sorted M a b n)
    · exact chg_sorted M a b n
theorem key_inj {s t : ByteArray} (h : s.data.toList = t.data.toList) : s = t := ByteArray.ext (Array.ext' h)
theorem mem_chg {M : List Mk} {a b : Int} : ∀ {n : Nat} {s : ByteArray}, s.data.toList ∈ chg M a b n ↔ ∃ i m, i < n ∧ M[i]? = some m ∧ m.key = s ∧ cnt M a M.length s ≠ cnt M b M.length s
  | 0, s => by simp [chg]
  | n + 1, s => by
    rw [chg]
    have ih := mem_chg (M := M) (a := a) (b := b) (n := n) (s := s)
    cases hm : M[n]? with
    | none =>
      simp only []
      rw [ih]
      constructor
      · rintro ⟨i, m, h1, h2⟩; exact ⟨i, m, by omega, h2⟩
      · rintro ⟨i, m, h1, h2, h3⟩
        refine ⟨i, m, ?_, h2, h3⟩
        by_cases e : i = n
        · subst e; rw [hm] at h2; cases h2
        · omega
    | some m0 =>
      simp only []
      split
      · rename_i he
        rw [ih]
        constructor
        · rintro ⟨i, m, h1, h2⟩; exact ⟨i, m, by omega, h2⟩
        · rintro ⟨i, m, h1, h2, h3, h4⟩
          refine ⟨i, m, ?_, h2, h3, h4⟩
          by_cases e : i = n
          · subst e
            rw [hm] at h2; injection h2 with h2; subst h2 h3
            exact absurd (enc_inj he) h4
          · omega
      · rename_i he
        rw [mem_ins, ih]
        constructor
        · rintro (⟨i, m, h1, h2⟩ | h)
          · exact ⟨i, m, by omega, h2⟩
          · have e := key_inj h
            subst e
            exact ⟨n, m0, by omega, hm, rfl, fun h => he (by rw [h])⟩
        · rintro ⟨i, m, h1, h2, h3, h4⟩
          by_cases e : i = n
          · subst e
            rw [hm] at h2; injection h2 with h2; subst h2 h3
            exact .inr rfl
          · exact .inl ⟨i, m, by omega, h2, h3, h4⟩
/-- A key whose record changes is a record's key. -/
theorem chg_all {M : List Mk} {a b : Int} {s : ByteArray} : s.data.toList ∈ chg M a b M.length ↔ cnt M a M.length s ≠ cnt M b M.length s := by
  rw [mem_chg]
  constructor
  · rintro ⟨_, _, _, _, _, h⟩; exact h
  · intro h
    have : (∃ i, cnt M a M.length s = some i) ∨ ∃ i, cnt M b M.length s = some i := by
      cases h1 : cnt M a M.length s with
      | some i => exact .inl ⟨i, rfl⟩
      | none =>
        cases h2 : cnt M b M.length s with
        | some i => exact .inr ⟨i, rfl⟩
        | none => rw [h1, h2] at h; exact absurd rfl h
    rcases this with ⟨i, hi⟩ | ⟨i, hi⟩
    all_goals
      obtain ⟨h1, m, hm, _, h3, _⟩ := cnt_some hi
      exact ⟨i, m, (last_some h1).1, hm, h3, h⟩
end As
end Go.Proofs.Ytipkmppoppjmeaa
