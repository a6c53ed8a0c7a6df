/- Business days in plain mathematics: no program in sight. -/
import Derived.Test.YtaokneooejbfkaaDateMath
import Derived.Test.YtaokneooejbfkaaNameMath
namespace Go.Proofs.Ytaokneooejbfkaa
set_option maxRecDepth 8000
namespace Cl
open Dt Nm
def asc (last : Int) : List Int → Bool
  | [] => true
  | h :: t => decide (last < h) && isDay h && asc h t
def allK (k : Nat → Bool) : Bool := k 0 && k 1 && k 2 && k 3 && k 4 && k 5 && k 6
def validC (s : ByteArray) (k : Nat → Bool) (hs : List Int) : Bool := usableB s && !(allK k) && decide (hs.length ≤ 2000) && asc (-1) hs
def chk (s : ByteArray) (k : Nat → Bool) (hs : List Int) : Int := if validC s k hs = true then 0 else 80
theorem chk_u {s : ByteArray} {k : Nat → Bool} {hs : List Int} (h : usableB s = false) : chk s k hs = 80 := by simp [chk, validC, h]
theorem chk_k {s : ByteArray} {k : Nat → Bool} {hs : List Int} (h : allK k = true) : chk s k hs = 80 := by simp [chk, validC, h]
theorem chk_l {s : ByteArray} {k : Nat → Bool} {hs : List Int} (h : 2000 < hs.length) : chk s k hs = 80 := by
  have : ¬ hs.length ≤ 2000 := by omega
  simp [chk, validC, this]
theorem chk_asc {s : ByteArray} {k : Nat → Bool} {hs : List Int} (h1 : usableB s = true) (h2 : allK k = false) (h3 : hs.length ≤ 2000) : chk s k hs = if asc (-1) hs = true then 0 else 80 := by
  simp [chk, validC, h1, h2, h3]
theorem asc_drop (last : Int) (hs : List Int) (j : Nat) (h : j < hs.length) : asc last (hs.drop j) = (decide (last < hs.getD j 0) && isDay (hs.getD j 0) && asc (hs.getD j 0) (hs.drop (j + 1))) := by
  rw [List.drop_eq_getElem_cons h]
  simp [asc, List.getD, List.getElem?_eq_getElem h]
/-- Is a day open? (of the weekend k and the holidays f) -/
def opnF (k : Nat → Bool) (f : Int → Bool) (d : Int) : Bool := isDay d && !(k ((d + 5) % 7).toNat) && !(f d)
def has (hs : List Int) (x : Int) : Bool := hs.contains x
def opn (k : Nat → Bool) (hs : List Int) : Int → Bool := opnF k (has hs)
theorem opnF_low {k : Nat → Bool} {f : Int → Bool} {d : Int} (h : d < 0) : opnF k f d = false := by
  have : isDay d = false := by unfold isDay; simp; omega
  simp [opnF, this]
theorem opnF_high {k : Nat → Bool} {f : Int → Bool} {d : Int} (h : 73048 < d) : opnF k f d = false := by
  have : isDay d = false := by unfold isDay; simp; omega
  simp [opnF, this]
theorem opnF_mid {k : Nat → Bool} {f : Int → Bool} {d : Int} (h : 0 ≤ d) (h2 : d ≤ 73048) : opnF k f d = (!(k ((d + 5) % 7).toNat) && !(f d)) := by
  have : isDay d = true := by unfold isDay; simp; omega
  simp [opnF, this]
/-- The first open day from d on, of n days. -/
def fst (O : Int → Bool) : Nat → Int → Option Int
  | 0, _ => none
  | n + 1, d => if O d = true then some d else fst O n (d + 1)
/-- The first open day from d on downwards, of n days. -/
def fstD (O : Int → Bool) : Nat → Int → Option Int
  | 0, _ => none
  | n + 1, d => if O d = true then some d else fstD O n (d - 1)
/-- The c-th open day from d on, of n days. -/
def nth (O : Int → Bool) : Nat → Int → Int → Option Int
  | 0, _, _ => none
  | n + 1, d, c => if O d = true then (if c ≤ 1 then some d else nth O n (d + 1) (c - 1)) else nth O n (d + 1) c
def nthD (O : Int → Bool) : Nat → Int → Int → Option Int
  | 0, _, _ => none
  | n + 1, d, c => if O d = true then (if c ≤ 1 then some d else nthD O n (d - 1) (c - 1)) else nthD O n (d - 1) c
/-- How many of n days from d on are open. -/
def cnt (O : Int → Bool) : Nat → Int → Int
  | 0, _ => 0
  | n + 1, d => (if O d = true then 1 else 0) + cnt O n (d + 1)
/-- The first open day from d on, up to the last day that there is. -/
def up (O : Int → Bool) (d : Int) : Option Int := fst O (73049 - d).toNat d
/-- The last open day up to d. -/
def dn (O : Int → Bool) (d : Int) : Option Int := fstD O (d + 1).toNat d
theorem fst_range (O : Int → Bool) : ∀ (n : Nat) (d x : Int), fst O n d = some x → d ≤ x ∧ x < d + n ∧ O x = true
  | 0, d, x, h => by simp [fst] at h
  | n + 1, d, x, h => by
    unfold fst at h
    split at h
    · rename_i ho
      injection h with h; subst h; exact ⟨by omega, by omega, ho⟩
    · have := fst_range O n (d + 1) x h
      exact ⟨by omega, by omega, this.2.2⟩
theorem fstD_range (O : Int → Bool) : ∀ (n : Nat) (d x : Int), fstD O n d = some x → x ≤ d ∧ d - n < x ∧ O x = true
  | 0, d, x, h => by simp [fstD] at h
  | n + 1, d, x, h => by
    unfold fstD at h
    split at h
    · rename_i ho
      injection h with h; subst h; exact ⟨by omega, by omega, ho⟩
    · have := fstD_range O n (d - 1) x h
      exact ⟨by omega, by omega, this.2.2⟩
theorem up_end (O : Int → Bool) {d : Int} (h : 73048 < d) : up O d = none := by
  unfold up; rw [show (73049 - d).toNat = 0 from by omega]; rfl
theorem up_range {O : Int → Bool} {d x : Int} (h : up O d = some x) : d ≤ x ∧ x ≤ 73048 ∧ O x = true := by
  have := fst_range O _ d x h
  by_cases e : d ≤ 73049
  · exact ⟨this.1, by omega, this.2.2⟩
  · rw [up_end O (by omega)] at h; cases h
theorem dn_range {O : Int → Bool} {d x : Int} (h : dn O d = some x) : x ≤ d ∧ 0 ≤ x ∧ O x = true := by
  have := fstD_range O _ d x h
  by_cases e : 0 ≤ d
  · exact ⟨this.1, by omega, this.2.2⟩
  · have z : (d + 1).toNat = 0 := by omega
    unfold dn at h; rw [z] at h; simp [fstD] at h
/-- c steps to the next open day. -/
def stp (O : Int → Bool) : Nat → Int → Option Int
  | 0, d => some d
  | c + 1, d => match up O (d + 1) with
    | none => none
    | some x => stp O c x
def stpD (O : Int → Bool) : Nat → Int → Option Int
  | 0, d => some d
  | c + 1, d => match dn O (d - 1) with
    | none => none
    | some x => stpD O c x
theorem stp_none {O : Int → Bool} {c : Int} {d : Int} (h : 0 < c) (hu : up O (d + 1) = none) : stp O c.toNat d = none := by
  rw [show c.toNat = (c - 1).toNat + 1 from by omega]; simp [stp, hu]
theorem stp_some {O : Int → Bool} {c : Int} {d x : Int} (h : 0 < c) (hu : up O (d + 1) = some x) : stp O c.toNat d = stp O (c - 1).toNat x := by
  rw [show c.toNat = (c - 1).toNat + 1 from by omega]; simp [stp, hu]
theorem stpD_none {O : Int → Bool} {c : Int} {d : Int} (h : 0 < c) (hu : dn O (d - 1) = none) : stpD O c.toNat d = none := by
  rw [show c.toNat = (c - 1).toNat + 1 from by omega]; simp [stpD, hu]
theorem stpD_some {O : Int → Bool} {c : Int} {d x : Int} (h : 0 < c) (hu : dn O (d - 1) = some x) : stpD O c.toNat d = stpD O (c - 1).toNat x := by
  rw [show c.toNat = (c - 1).toNat + 1 from by omega]; simp [stpD, hu]
theorem up_yes {O : Int → Bool} {d : Int} (h : d ≤ 73048) (ho : O d = true) : up O d = some d := by
  unfold up; rw [show (73049 - d).toNat = (73049 - (d + 1)).toNat + 1 from by omega]; simp [fst, ho]
theorem up_no {O : Int → Bool} {d : Int} (h : d ≤ 73048) (ho : O d = false) : up O d = up O (d + 1) := by
  unfold up; rw [show (73049 - d).toNat = (73049 - (d + 1)).toNat + 1 from by omega]; simp [fst, ho]
theorem dn_end (O : Int → Bool) {d : Int} (h : d < 0) : dn O d = none := by
  unfold dn; rw [show (d + 1).toNat = 0 from by omega]; rfl
theorem dn_yes {O : Int → Bool} {d : Int} (h : 0 ≤ d) (ho : O d = true) : dn O d = some d := by
  unfold dn; rw [show (d + 1).toNat = (d - 1 + 1).toNat + 1 from by omega]; simp [fstD, ho]
theorem dn_no {O : Int → Bool} {d : Int} (h : 0 ≤ d) (ho : O d = false) : dn O d = dn O (d - 1) := by
  unfold dn; rw [show (d + 1).toNat = (d - 1 + 1).toNat + 1 from by omega]; simp [fstD, ho]
/-- The c-th open day from d on. -/
def nthU (O : Int → Bool) (d c : Int) : Option Int := nth O (73049 - d).toNat d c
def nthL (O : Int → Bool) (d c : Int) : Option Int := nthD O (d + 1).toNat d c
theorem nthU_end (O : Int → Bool) {d : Int} (c : Int) (h : 73048 < d) : nthU O d c = none := by
  unfold nthU; rw [show (73049 - d).toNat = 0 from by omega]; rfl
theorem nthU_no {O : Int → Bool} {d c : Int} (h : d ≤ 73048) (ho : O d = false) : nthU O d c = nthU O (d + 1) c := by
  unfold nthU; rw [show (73049 - d).toNat = (73049 - (d + 1)).toNat + 1 from by omega]; simp [nth, ho]
theorem nthU_hit {O : Int → Bool} {d c : Int} (h : d ≤ 73048) (ho : O d = true) (hc : c ≤ 1) : nthU O d c = some d := by
  unfold nthU; rw [show (73049 - d).toNat = (73049 - (d + 1)).toNat + 1 from by omega]; simp [nth, ho, hc]
theorem nthU_go {O : Int → Bool} {d c : Int} (h : d ≤ 73048) (ho : O d = true) (hc : 1 < c) : nthU O d c = nthU O (d + 1) (c - 1) := by
  have hc' : ¬ c ≤ 1 := by omega
  unfold nthU; rw [show (73049 - d).toNat = (73049 - (d + 1)).toNat + 1 from by omega]; simp [nth, ho, hc']
theorem nthL_end (O : Int → Bool) {d : Int} (c : Int) (h : d < 0) : nthL O d c = none := by
  unfold nthL; rw [show (d + 1).toNat = 0 from by omega]; rfl
theorem nthL_no {O : Int → Bool} {d c : Int} (h : 0 ≤ d) (ho : O d = false) : nthL O d c = nthL O (d - 1) c := by
  unfold nthL; rw [show (d + 1).toNat = (d - 1 + 1).toNat + 1 from by omega]; simp [nthD, ho]
theorem nthL_hit {O : Int → Bool} {d c : Int} (h : 0 ≤ d) (ho : O d = true) (hc : c ≤ 1) : nthL O d c = some d := by
  unfold nthL; rw [show (d + 1).toNat = (d - 1 + 1).toNat + 1 from by omega]; simp [nthD, ho, hc]
theorem nthL_go {O : Int → Bool} {d c : Int} (h : 0 ≤ d) (ho : O d = true) (hc : 1 < c) : nthL O d c = nthL O (d - 1) (c - 1) := by
  have hc' : ¬ c ≤ 1 := by omega
  unfold nthL; rw [show (d + 1).toNat = (d - 1 + 1).toNat + 1 from by omega]; simp [nthD, ho, hc']
theorem nthU_up (O : Int → Bool) (c : Int) : ∀ (n : Nat) (d : Int), (73049 - d).toNat = n → nthU O d c = match up O d with
    | none => none
    | some x => if c ≤ 1 then some x else nthU O (x + 1) (c - 1) := by
  intro n
  induction n with
  | zero => intro d h; rw [nthU_end O c (by omega), up_end O (by omega)]
  | succ n ih =>
    intro d h
    have hd : d ≤ 73048 := by omega
    cases ho : O d
    · rw [nthU_no hd ho, up_no hd ho]; exact ih (d + 1) (by omega)
    · rw [up_yes hd ho]
      by_cases hc : c ≤ 1
      · rw [nthU_hit hd ho hc]; simp [hc]
      · rw [nthU_go hd ho (by omega)]; simp [hc]
theorem nthL_dn (O : Int → Bool) (c : Int) : ∀ (n : Nat) (d : Int), (d + 1).toNat = n → nthL O d c = match dn O d with
    | none => none
    | some x => if c ≤ 1 then some x else nthL O (x - 1) (c - 1) := by
  intro n
  induction n with
  | zero => intro d h; rw [nthL_end O c (by omega), dn_end O (by omega)]
  | succ n ih =>
    intro d h
    have hd : 0 ≤ d := by omega
    cases ho : O d
    · rw [nthL_no hd ho, dn_no hd ho]; exact ih (d - 1) (by omega)
    · rw [dn_yes hd ho]
      by_cases hc : c ≤ 1
      · rw [nthL_hit hd ho hc]; simp [hc]
      · rw [nthL_go hd ho (by omega)]; simp [hc]
theorem stp_nth (O : Int → Bool) : ∀ (c : Nat) (d : Int), stp O (c + 1) d = nthU O (d + 1) ((c : Int) + 1)
  | 0, d => by
    rw [nthU_up O _ _ (d + 1) rfl]
    simp only [stp]
    cases up O (d + 1) <;> simp
  | c + 1, d => by
    rw [nthU_up O _ _ (d + 1) rfl]
    unfold stp
    cases up O (d + 1) with
    | none => rfl
    | some x =>
      have := stp_nth O c x
      have e : ¬ ((c + 1 : Nat) : Int) + 1 ≤ 1 := by omega
      simp only [this, if_neg e]
      congr 1; omega
theorem stpD_nth (O : Int → Bool) : ∀ (c : Nat) (d : Int), stpD O (c + 1) d = nthL O (d - 1) ((c : Int) + 1)
  | 0, d => by
    rw [nthL_dn O _ _ (d - 1) rfl]
    simp only [stpD]
    cases dn O (d - 1) <;> simp
  | c + 1, d => by
    rw [nthL_dn O _ _ (d - 1) rfl]
    unfold stpD
    cases dn O (d - 1) with
    | none => rfl
    | some x =>
      have := stpD_nth O c x
      have e : ¬ ((c + 1 : Nat) : Int) + 1 ≤ 1 := by omega
      simp only [this, if_neg e]
      congr 1; omega
theorem nthU_one (O : Int → Bool) (d : Int) : nthU O d 1 = up O d := by
  rw [nthU_up O _ _ d rfl]; cases up O d <;> simp
theorem nthL_one (O : Int → Bool) (d : Int) : nthL O d 1 = dn O d := by
  rw [nthL_dn O _ _ d rfl]; cases dn O d <;> simp
theorem cnt_succ (O : Int → Bool) : ∀ (n : Nat) (d : Int), cnt O (n + 1) d = cnt O n d + (if O (d + n) = true then 1 else 0)
  | 0, d => by simp [cnt]
  | n + 1, d => by
    have h := cnt_succ O n (d + 1)
    rw [cnt, h, cnt, show d + 1 + (n : Int) = d + ((n + 1 : Nat) : Int) from by omega]; omega
theorem cnt_bd (O : Int → Bool) : ∀ (n : Nat) (d : Int), 0 ≤ cnt O n d ∧ cnt O n d ≤ n
  | 0, d => by simp [cnt]
  | n + 1, d => by have := cnt_bd O n (d + 1); unfold cnt; split <;> omega

/-! ### what the functions of the layer return -/
def preE (s : ByteArray) (k : Nat → Bool) (hs : List Int) (d : Int) : Int := if validC s k hs = false then 80 else if isDay d = false then 50 else 0
def bizB (s : ByteArray) (k : Nat → Bool) (hs : List Int) (d : Int) : Bool := validC s k hs && isDay d && opn k hs d
def addO (k : Nat → Bool) (hs : List Int) (d n : Int) : Option Int :=
  if n = 0 then up (opn k hs) d else if 0 < n then stp (opn k hs) n.toNat d else stpD (opn k hs) (-n).toNat d
def addV (s : ByteArray) (k : Nat → Bool) (hs : List Int) (d n : Int) : Int := if preE s k hs d = 0 then (addO k hs d n).getD 0 else 0
def addE (s : ByteArray) (k : Nat → Bool) (hs : List Int) (d n : Int) : Int := if preE s k hs d = 0 then (if (addO k hs d n).isSome = true then 0 else 81) else preE s k hs d
def cntE (s : ByteArray) (k : Nat → Bool) (hs : List Int) (a b : Int) : Int := if validC s k hs = false then 80 else if (isDay a && isDay b) = false then 50 else if b < a then 61 else 0
def cntV (s : ByteArray) (k : Nat → Bool) (hs : List Int) (a b : Int) : Int := if cntE s k hs a b = 0 then cnt (opn k hs) (b - a).toNat a else 0
/-- The last day of a day's month, and the day of the month. -/
noncomputable def mEnd (n : Int) : Int := n + dim (civ n).1 (civ n).2.1 - (civ n).2.2
noncomputable def mDay (n : Int) : Int := (civ n).2.2
noncomputable def adjO (k : Nat → Bool) (hs : List Int) (d v : Int) : Option Int :=
  if v = 1 then up (opn k hs) d
  else if v = 3 then (if (up (opn k hs) d).isSome = true ∧ (up (opn k hs) d).getD 0 ≤ mEnd d then up (opn k hs) d else dn (opn k hs) d)
  else if v = 4 then (if (dn (opn k hs) d).isSome = true ∧ d - mDay d < (dn (opn k hs) d).getD 0 then dn (opn k hs) d else up (opn k hs) d)
  else dn (opn k hs) d
def errO (q : Option Int) : Int := if q.isSome = true then 0 else 81
def adjP (s : ByteArray) (k : Nat → Bool) (hs : List Int) (d v : Int) : Int := if preE s k hs d = 0 then (if 1 ≤ v ∧ v ≤ 4 then 0 else 82) else preE s k hs d
noncomputable def adjV (s : ByteArray) (k : Nat → Bool) (hs : List Int) (d v : Int) : Int := if adjP s k hs d v = 0 then (adjO k hs d v).getD 0 else 0
noncomputable def adjE (s : ByteArray) (k : Nat → Bool) (hs : List Int) (d v : Int) : Int := if adjP s k hs d v = 0 then errO (adjO k hs d v) else adjP s k hs d v
/-- Is one of the first i weekdays no weekend? -/
def opB (k : Nat → Bool) : Nat → Bool
  | 0 => false
  | i + 1 => opB k i || !k i
theorem opB_seven (k : Nat → Bool) : opB k 7 = !allK k := by
  simp only [opB, allK]
  cases k 0 <;> cases k 1 <;> cases k 2 <;> cases k 3 <;> cases k 4 <;> cases k 5 <;> cases k 6 <;> rfl
def lastOf (hs : List Int) (j : Nat) : Int := if j = 0 then -1 else hs.getD (j - 1) 0
theorem lastOf_succ (hs : List Int) (j : Nat) : lastOf hs (j + 1) = hs.getD j 0 := by simp [lastOf]
theorem asc_head : ∀ (hs : List Int) (last : Int), asc last hs = true → ∀ j, j < hs.length → last < hs.getD j 0
  | [], _, _, j, h => by simp at h
  | x :: t, last, h, j, hj => by
    unfold asc at h
    simp only [Bool.and_eq_true, decide_eq_true_eq] at h
    cases j with
    | zero => simpa using h.1.1
    | succ j =>
      have := asc_head t x h.2 j (by simpa using hj)
      simp only [List.getD_cons_succ]
      omega
theorem asc_lt : ∀ (hs : List Int) (last : Int), asc last hs = true → ∀ i j, i < j → j < hs.length → hs.getD i 0 < hs.getD j 0
  | [], _, _, i, j, _, h => by simp at h
  | x :: t, last, h, i, j, hij, hj => by
    unfold asc at h
    simp only [Bool.and_eq_true, decide_eq_true_eq] at h
    cases j with
    | zero => omega
    | succ j =>
      cases i with
      | zero => have := asc_head t x h.2 j (by simpa using hj); simpa using this
      | succ i => have := asc_lt t x h.2 i j (by omega) (by simpa using hj); simpa using this
theorem has_at {hs : List Int} {j : Nat} {d : Int} (hj : j < hs.length) (h : hs.getD j 0 = d) : has hs d = true := by
  unfold has
  rw [List.contains_iff_mem, ← h]
  simp only [List.getD, List.getElem?_eq_getElem hj, Option.getD_some]
  exact List.getElem_mem hj
theorem has_ex {hs : List Int} {d : Int} (h : has hs d = true) : ∃ j, j < hs.length ∧ hs.getD j 0 = d := by
  unfold has at h
  rw [List.contains_iff_mem, List.mem_iff_getElem] at h
  obtain ⟨j, hj, e⟩ := h
  exact ⟨j, hj, by simp [List.getD, List.getElem?_eq_getElem hj, e]⟩
theorem search_end {hs : List Int} {d : Int} {l : Nat} (h1 : ∀ j, j < l → hs.getD j 0 < d) (h2 : ∀ j, l < j → j < hs.length → d < hs.getD j 0) (hl : l < hs.length) : has hs d = decide (hs.getD l 0 = d) := by
  by_cases e : hs.getD l 0 = d
  · rw [has_at hl e, decide_eq_true e]
  · cases hh : has hs d
    · rw [decide_eq_false e]
    · obtain ⟨j, hj, ej⟩ := has_ex hh
      exfalso
      rcases Nat.lt_trichotomy j l with h | h | h
      · have := h1 j h; omega
      · subst h; exact e ej
      · have := h2 j h hj; omega
theorem search_out {hs : List Int} {d : Int} (h1 : ∀ j, j < hs.length → hs.getD j 0 < d) : has hs d = false := by
  cases hh : has hs d
  · rfl
  · obtain ⟨j, hj, ej⟩ := has_ex hh
    have := h1 j hj; omega
theorem opn_mid {k : Nat → Bool} {hs : List Int} {d : Int} (h : isDay d = true) : opn k hs d = (!(k ((d + 5) % 7).toNat) && !(has hs d)) := by
  simp [opn, opnF, h]
theorem addO_neg {k : Nat → Bool} {hs : List Int} {d n : Int} (h : n < 0) : addO k hs d n = nthL (opn k hs) (d - 1) (-n) := by
  unfold addO
  rw [if_neg (by omega), if_neg (by omega)]
  have := stpD_nth (opn k hs) ((-n).toNat - 1) d
  rw [show (-n).toNat - 1 + 1 = (-n).toNat from by omega] at this
  rw [this]; congr 1; omega
theorem addO_pos {k : Nat → Bool} {hs : List Int} {d n : Int} (h : 0 < n) : addO k hs d n = nthU (opn k hs) (d + 1) n := by
  unfold addO
  rw [if_neg (by omega), if_pos h]
  have := stp_nth (opn k hs) (n.toNat - 1) d
  rw [show n.toNat - 1 + 1 = n.toNat from by omega] at this
  rw [this]; congr 1; omega
theorem addO_zero_yes {k : Nat → Bool} {hs : List Int} {d : Int} (h : d ≤ 73048) (ho : opn k hs d = true) : addO k hs d 0 = some d := by
  unfold addO; rw [if_pos rfl, up_yes h ho]
theorem addO_zero_no {k : Nat → Bool} {hs : List Int} {d : Int} (h : d ≤ 73048) (ho : opn k hs d = false) : addO k hs d 0 = nthU (opn k hs) (d + 1) 1 := by
  unfold addO; rw [if_pos rfl, up_no h ho, nthU_one]
/-- The number of the month of a day. -/
noncomputable def mNo (n : Int) : Int := 12 * (civ n).1 + (civ n).2.1
theorem same_month {n a : Int} (hn : isDay n = true) (ha : isDay a = true) : mNo a = mNo n ↔ (n - mDay n < a ∧ a ≤ mEnd n) := by
  have cn := civ_spec hn
  have ca := civ_spec ha
  unfold mNo mDay mEnd
  constructor
  · intro h
    obtain ⟨h1, h2, h3, h4, h5, h6, h7⟩ := cn
    obtain ⟨g1, g2, g3, g4, g5, g6, g7⟩ := ca
    have ey : (civ a).1 = (civ n).1 := by omega
    have em : (civ a).2.1 = (civ n).2.1 := by omega
    rw [ey, em] at g6 g7
    omega
  · intro h
    obtain ⟨h1, h2, h3, h4, h5, h6, h7⟩ := cn
    have hc : isCiv a (civ n).1 (civ n).2.1 (a - n + (civ n).2.2) := ⟨h1, h2, h3, h4, by omega, by omega, by omega⟩
    rw [civ_of hc]
theorem month_up {n a : Int} (hn : isDay n = true) (ha : isDay a = true) (h : n < a) : mNo a = mNo n ↔ a ≤ mEnd n := by
  rw [same_month hn ha]
  obtain ⟨h1, h2, h3, h4, h5, h6, h7⟩ := civ_spec hn
  unfold mDay; omega
theorem month_dn {n a : Int} (hn : isDay n = true) (ha : isDay a = true) (h : a < n) : mNo a = mNo n ↔ n - mDay n < a := by
  rw [same_month hn ha]
  obtain ⟨h1, h2, h3, h4, h5, h6, h7⟩ := civ_spec hn
  unfold mEnd; omega
theorem adjO_open {k : Nat → Bool} {hs : List Int} {d v : Int} (hd : isDay d = true) (ho : opn k hs d = true) : adjO k hs d v = some d := by
  have h0 : 0 ≤ d ∧ d ≤ 73048 := by unfold isDay at hd; simpa using hd
  obtain ⟨h1, h2, h3, h4, h5, h6, h7⟩ := civ_spec hd
  have e1 : d ≤ mEnd d := by unfold mEnd; omega
  have e2 : d - mDay d < d := by unfold mDay; omega
  unfold adjO
  rw [up_yes h0.2 ho, dn_yes h0.1 ho]
  simp [e1, e2]
theorem adjO_shut {k : Nat → Bool} {hs : List Int} {d v : Int} (hd : isDay d = true) (ho : opn k hs d = false) :
    adjO k hs d v = if v = 1 then addO k hs d 1 else if v = 3 then (if (addO k hs d 1).isSome = true ∧ mNo ((addO k hs d 1).getD 0) = mNo d then addO k hs d 1 else addO k hs d (-1))
      else if v = 4 then (if (addO k hs d (-1)).isSome = true ∧ mNo ((addO k hs d (-1)).getD 0) = mNo d then addO k hs d (-1) else addO k hs d 1) else addO k hs d (-1) := by
  have h0 : 0 ≤ d ∧ d ≤ 73048 := by unfold isDay at hd; simpa using hd
  have eU : up (opn k hs) d = addO k hs d 1 := by rw [addO_pos (by omega), nthU_one, up_no h0.2 ho]
  have eL : dn (opn k hs) d = addO k hs d (-1) := by rw [addO_neg (by omega), show -(-1 : Int) = 1 from rfl, nthL_one, dn_no h0.1 ho]
  have rU : ∀ a, addO k hs d 1 = some a → d < a ∧ isDay a = true := by
    intro a h
    rw [addO_pos (by omega), nthU_one] at h
    have := up_range h
    exact ⟨by omega, by unfold isDay; simp; omega⟩
  have rL : ∀ a, addO k hs d (-1) = some a → a < d ∧ isDay a = true := by
    intro a h
    rw [addO_neg (by omega), show -(-1 : Int) = 1 from rfl, nthL_one] at h
    have := dn_range h
    exact ⟨by omega, by unfold isDay; simp; omega⟩
  unfold adjO
  rw [eU, eL]
  congr 1
  congr 1
  · cases h : addO k hs d 1 with
    | none => simp
    | some a =>
      obtain ⟨h1, h2⟩ := rU a h
      simp [month_up hd h2 h1]
  · congr 1
    cases h : addO k hs d (-1) with
    | none => simp
    | some a =>
      obtain ⟨h1, h2⟩ := rL a h
      simp [month_dn hd h2 h1]
end Cl
end Go.Proofs.Ytaokneooejbfkaa
