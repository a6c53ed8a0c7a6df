/- Walks. -/
import Init.Omega
import Init.Grind
namespace Go.Proofs.YtiekmabiecalbaaGreatDoor
set_option maxHeartbeats 16000000
set_option maxRecDepth 8000
section
namespace As
structure Mk where
 key : ByteArray
 kn : Int
 vd : Bool
def okFrom : Int → List Mk → Bool
 | _, [] => true
 | last, m :: r => !(decide (m.key.size = 0) || decide (64 < m.key.size) || decide (m.kn ≤ last) || decide (2147483647 < m.kn)) && okFrom m.kn r
def ok (M : List Mk) : Bool := decide (M.length ≤ 4096) && okFrom 0 M
def err (M : List Mk) : Int := if ok M then 0 else 130
def last (M : List Mk) (k : Int) (s : ByteArray) : Nat → Option Nat
 | 0 => none
 | n + 1 => match M[n]? with
  | some m => if m.kn ≤ k ∧ m.key = s then some n else last M k s n
  | none => last M k s n
def cnt (M : List Mk) (k : Int) (n : Nat) (s : ByteArray) : Option Nat :=
 match last M k s n with
 | some i => if M[i]?.map Mk.vd = some true then none else some i
 | none => none
def enc : Option Nat → Int
 | some i => (i : Int)
 | none => -1
theorem enc_inj {a b : Option Nat} (h : enc a = enc b) : a = b := by
 cases a <;> cases b <;> simp [enc] at h ⊢ <;> omega
def visB (M : List Mk) (k : Int) (i : Nat) : Bool :=
 match M[i]? with
 | some m => !m.vd && (decide (m.kn ≤ k) && decide (enc (last M k m.key M.length) = (i : Int)))
 | none => false
def vis (M : List Mk) (k : Int) : List Nat := (List.range M.length).filter (visB M k)
theorem okFrom_get : ∀ (M : List Mk) (last : Int), okFrom last M = true → ∀ (i : Nat) (m : Mk), M[i]? = some m → m.key.size ≠ 0 ∧ m.key.size ≤ 64 ∧ last < m.kn ∧ m.kn ≤ 2147483647
 | [], _, _, i, m, h => by simp at h
 | a :: r, last, h, i, m, hm => by
  rw [okFrom] at h
  simp only [Bool.and_eq_true, Bool.not_eq_true', Bool.or_eq_false_iff, decide_eq_false_iff_not] at h
  obtain ⟨⟨⟨⟨h1, h2⟩, h3⟩, h4⟩, h5⟩ := h
  cases i with
  | zero =>
   obtain rfl : a = m := by simpa using hm
   exact ⟨h1, by omega, by omega, by omega⟩
  | succ i =>
   obtain ⟨a1, a2, a3, a4⟩ := okFrom_get r a.kn h5 i m (by simpa using hm)
   exact ⟨a1, a2, by omega, a4⟩
theorem okFrom_lt : ∀ (M : List Mk) (last : Int), okFrom last M = true → ∀ (i j : Nat) (m n : Mk), i < j → M[i]? = some m → M[j]? = some n → m.kn < n.kn
 | [], _, _, i, j, m, n, _, h, _ => by simp at h
 | a :: r, last, h, i, j, m, n, hij, hm, hn => by
  rw [okFrom] at h
  have h5 := ((Bool.and_eq_true _ _).mp h).2
  cases j with
  | zero => omega
  | succ j =>
   cases i with
   | zero =>
    obtain rfl : a = m := by simpa using hm
    exact (okFrom_get r a.kn h5 j n (by simpa using hn)).2.2.1
   | succ i => exact okFrom_lt r a.kn h5 i j m n (by omega) (by simpa using hm) (by simpa using hn)
theorem ok_get {M : List Mk} (h : ok M = true) {i : Nat} {m : Mk} (hm : M[i]? = some m) : m.key.size ≠ 0 ∧ m.key.size ≤ 64 ∧ 0 < m.kn ∧ m.kn ≤ 2147483647 :=
 okFrom_get M 0 ((Bool.and_eq_true _ _).mp h).2 i m hm
theorem ok_lt {M : List Mk} (h : ok M = true) {i j : Nat} {m n : Mk} (hij : i < j) (hm : M[i]? = some m) (hn : M[j]? = some n) : m.kn < n.kn :=
 okFrom_lt M 0 ((Bool.and_eq_true _ _).mp h).2 i j m n hij hm hn
theorem ok_len {M : List Mk} (h : ok M = true) : M.length ≤ 4096 := by
 have := ((Bool.and_eq_true _ _).mp h).1
 simpa using this
def Hit (M : List Mk) (k : Int) (s : ByteArray) (i : Nat) : Prop := ∃ m, M[i]? = some m ∧ m.kn ≤ k ∧ m.key = s
theorem last_some {M : List Mk} {k : Int} {s : ByteArray} : ∀ {n i : Nat}, last M k s n = some i → i < n ∧ Hit M k s i ∧ ∀ j, i < j → j < n → ¬ Hit M k s j
 | 0, i, h => by simp [last] at h
 | n + 1, i, h => by
  rw [last] at h
  cases hm : M[n]? with
  | none =>
   rw [hm] at h
   obtain ⟨a, b, c⟩ := last_some h
   refine ⟨by omega, b, fun j h1 h2 => ?_⟩
   by_cases e : j = n
   ·subst e; rintro ⟨m, h3, _⟩; rw [hm] at h3; cases h3
   ·exact c j h1 (by omega)
  | some m =>
   rw [hm] at h
   by_cases hc : m.kn ≤ k ∧ m.key = s
   ·simp only [if_pos hc] at h
    injection h with h
    subst h
    exact ⟨by omega, ⟨m, hm, hc.1, hc.2⟩, fun j h1 h2 => by omega⟩
   ·simp only [if_neg hc] at h
    obtain ⟨a, b, c⟩ := last_some h
    refine ⟨by omega, b, fun j h1 h2 => ?_⟩
    by_cases e : j = n
    ·subst e; rintro ⟨m', h3, h4⟩; rw [hm] at h3; injection h3 with h3; subst h3; exact hc h4
    ·exact c j h1 (by omega)
theorem last_stop {M : List Mk} {k : Int} {s : ByteArray} {n : Nat} (h : ∀ j m, n ≤ j → M[j]? = some m → k < m.kn) : ∀ {e : Nat}, n ≤ e → last M k s e = last M k s n := by
 intro e he
 induction e with
 | zero => obtain rfl : n = 0 := by omega
           rfl
 | succ e ih =>
  by_cases hn : n = e + 1
  ·rw [hn]
  ·rw [last]
   cases hm : M[e]? with
   | none => simp only []; exact ih (by omega)
   | some m =>
    have := h e m (by omega) hm
    simp only []
    rw [if_neg (by omega)]
    exact ih (by omega)
theorem cnt_stop {M : List Mk} {k : Int} {n : Nat} (h : ∀ j m, n ≤ j → M[j]? = some m → k < m.kn) {e : Nat} (he : n ≤ e) (s : ByteArray) : cnt M k e s = cnt M k n s := by
 unfold cnt; rw [last_stop h he]
theorem cnt_zero (M : List Mk) (k : Int) (s : ByteArray) : cnt M k 0 s = none := rfl
theorem cnt_step {M : List Mk} {k : Int} {n : Nat} {m : Mk} (hm : M[n]? = some m) (hk : m.kn ≤ k) (s : ByteArray) : cnt M k (n + 1) s = if m.key = s then (if m.vd then none else some n) else cnt M k n s := by
 unfold cnt
 rw [last, hm]
 simp only []
 by_cases e : m.key = s
 ·rw [if_pos ⟨hk, e⟩, if_pos e]
  simp only [hm, Option.map_some]
  cases m.vd <;> simp
 ·rw [if_neg (fun h => e h.2), if_neg e]
theorem cnt_some {M : List Mk} {k : Int} {n : Nat} {s : ByteArray} {i : Nat} (h : cnt M k n s = some i) : last M k s n = some i ∧ ∃ m, M[i]? = some m ∧ m.kn ≤ k ∧ m.key = s ∧ m.vd = false := by
 unfold cnt at h
 cases hl : last M k s n with
 | none => rw [hl] at h; cases h
 | some j =>
  rw [hl] at h
  simp only [] at h
  obtain ⟨_, ⟨m, hm, h1, h2⟩, _⟩ := last_some hl
  rw [hm] at h
  by_cases e : m.vd = true
  ·simp [e] at h
  ·simp [e] at h
   subst h
   exact ⟨rfl, m, hm, h1, h2, by simpa using e⟩
theorem cnt_of {M : List Mk} {k : Int} {n : Nat} {s : ByteArray} {i : Nat} {m : Mk} (h : last M k s n = some i) (hm : M[i]? = some m) (hv : m.vd = false) : cnt M k n s = some i := by
 unfold cnt; rw [h]; simp [hm, hv]
theorem cnt_inj {M : List Mk} {k : Int} {n : Nat} {s t : ByteArray} {i : Nat} (h : cnt M k n s = some i) (h2 : cnt M k n t = some i) : s = t := by
 obtain ⟨_, m, hm, _, e, _⟩ := cnt_some h
 obtain ⟨_, m2, hm2, _, e2, _⟩ := cnt_some h2
 rw [hm] at hm2
 injection hm2 with hm2
 rw [← e, ← e2, hm2]
theorem mem_vis {M : List Mk} {k : Int} {i : Nat} : i ∈ vis M k ↔ ∃ s, cnt M k M.length s = some i := by
 unfold vis
 rw [List.mem_filter, List.mem_range]
 constructor
 ·rintro ⟨hi, hv⟩
  unfold visB at hv
  rw [List.getElem?_eq_getElem hi] at hv
  simp only [Bool.and_eq_true, Bool.not_eq_true', decide_eq_true_eq] at hv
  have : last M k M[i].key M.length = some i := enc_inj hv.2.2
  exact ⟨M[i].key, cnt_of this (List.getElem?_eq_getElem hi) hv.1⟩
 ·rintro ⟨s, hs⟩
  obtain ⟨h1, m, hm, h2, h3, h4⟩ := cnt_some hs
  have hi := (last_some h1).1
  refine ⟨hi, ?_⟩
  unfold visB
  rw [hm]
  simp only [Bool.and_eq_true, Bool.not_eq_true', decide_eq_true_eq]
  refine ⟨h4, h2, ?_⟩
  rw [h3, h1]; rfl
theorem vis_sorted (M : List Mk) (k : Int) : (vis M k).Pairwise (· < ·) := List.Pairwise.filter _ List.pairwise_lt_range
theorem sort_ints {l v : List Int} (hn : l.Nodup) (hv : v.Pairwise (· < ·)) (hm : ∀ x, x ∈ l ↔ x ∈ v) : l.mergeSort (fun x y => decide (x ≤ y)) = v := by
 have hvn : v.Nodup := hv.imp (fun h => by omega)
 have hp : l.Perm v := (List.perm_ext_iff_of_nodup hn hvn).2 hm
 have tr : ∀ a b c : Int, decide (a ≤ b) = true → decide (b ≤ c) = true → decide (a ≤ c) = true := fun a b c h1 h2 => by simp at *; omega
 have to : ∀ a b : Int, (decide (a ≤ b) || decide (b ≤ a)) = true := fun a b => by simp; omega
 refine List.Perm.eq_of_pairwise (le := fun a b => decide (a ≤ b) = true) (fun a b _ _ h1 h2 => by simp at h1 h2; omega) (List.pairwise_mergeSort tr to l) (hv.imp (fun h => by simp; omega)) ((List.mergeSort_perm l _).trans hp)
def ins : List (List UInt8) → List UInt8 → List (List UInt8)
 | [], s => [s]
 | x :: l, s => if x < s then x :: ins l s else if x = s then x :: l else s :: x :: l
def chg (M : List Mk) (a b : Int) : Nat → List (List UInt8)
 | 0 => []
 | n + 1 => match M[n]? with
  | some m => if enc (cnt M a M.length m.key) = enc (cnt M b M.length m.key) then chg M a b n else ins (chg M a b n) m.key.data.toList
  | none => chg M a b n
theorem key_inj {s t : ByteArray} (h : s.data.toList = t.data.toList) : s = t := ByteArray.ext (Array.ext' h)
end As
end
end Go.Proofs.YtiekmabiecalbaaGreatDoor
