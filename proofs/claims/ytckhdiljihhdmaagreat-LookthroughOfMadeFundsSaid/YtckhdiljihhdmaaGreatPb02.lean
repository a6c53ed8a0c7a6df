/- Walks, and plain facts for them. -/
import Derived.Test.YtckhdiljihhdmaaGreatPb01
namespace Go.Proofs.YtckhdiljihhdmaaGreat
set_option maxRecDepth 8000
namespace Lk
abbrev lt (a b : List UInt8) : Bool := Op.bytesLess a b
theorem u8_tri {a b : UInt8} (h : ¬ a < b) (h2 : ¬ b < a) : a = b := by
 apply UInt8.toNat_inj.1
 rw [UInt8.lt_iff_toNat_lt] at h h2
 omega
theorem lt_irrefl : ∀ a : List UInt8, lt a a = false
 | [] => rfl
 | a :: x => by
  show (decide (a < a) || (a == a && lt x x)) = false
  rw [lt_irrefl x, decide_eq_false (UInt8.lt_irrefl a)]; simp
theorem lt_tri : ∀ {a b : List UInt8}, lt b a = false → a ≠ b → lt a b = true
 | [], [], _, h => absurd rfl h
 | [], _ :: _, _, _ => rfl
 | _ :: _, [], h, _ => by cases h
 | a :: x, b :: y, h, hn => by
  have h1 : (decide (b < a) || (b == a && lt y x)) = false := h
  show (decide (a < b) || (a == b && lt x y)) = true
  rw [Bool.or_eq_false_iff] at h1
  by_cases hab : a < b
  ·rw [decide_eq_true hab]; rfl
  ·have e : a = b := u8_tri hab (of_decide_eq_false h1.1)
   subst e
   have h2 := h1.2
   rw [beq_self_eq_true, Bool.true_and] at h2
   have := lt_tri h2 (fun e => hn (by rw [e]))
   rw [beq_self_eq_true, this]; simp
theorem lt_asymm : ∀ {a b : List UInt8}, lt a b = true → lt b a = false
 | a, [], h => by cases a <;> cases h
 | [], _ :: _, _ => rfl
 | a :: x, b :: y, h => by
  have h1 : (decide (a < b) || (a == b && lt x y)) = true := h
  show (decide (b < a) || (b == a && lt y x)) = false
  rw [Bool.or_eq_true] at h1
  rcases h1 with h1 | h1
  ·have h2 := of_decide_eq_true h1
   have h3 : ¬ b < a := by rw [UInt8.lt_iff_toNat_lt] at h2 ⊢; omega
   have h4 : (b == a) = false := beq_eq_false_iff_ne.2 (fun e => by subst e; exact h3 h2)
   rw [decide_eq_false h3, h4]; rfl
  ·rw [Bool.and_eq_true] at h1
   have e : a = b := by simpa using h1.1
   subst e
   rw [decide_eq_false (UInt8.lt_irrefl a), lt_asymm h1.2]; simp
def capB (c : UInt8) : Bool := decide (65 ≤ (c.toNat : Int) ∧ (c.toNat : Int) ≤ 90)
def digB (c : UInt8) : Bool := decide (48 ≤ (c.toNat : Int) ∧ (c.toNat : Int) ≤ 57)
def paper (s : ByteArray) : Bool := decide (0 < s.size) && decide (s.size ≤ 12) && decide (∀ k, (h : k < s.size) → capB s[k] = true ∨ (k ≠ 0 ∧ digB s[k] = true))
theorem paper_no0 {s : ByteArray} (h : s.size = 0) : paper s = false := by simp [paper, h]
theorem paper_no12 {s : ByteArray} (h : 12 < s.size) : paper s = false := by
 unfold paper; rw [decide_eq_false (p := s.size ≤ 12) (by omega)]; simp
theorem paper_noat {s : ByteArray} {k : Nat} (hk : k < s.size) (h : capB s[k] = false) (h2 : k = 0 ∨ digB s[k] = false) : paper s = false := by
 unfold paper
 rw [decide_eq_false (p := ∀ k, (h : k < s.size) → capB s[k] = true ∨ (k ≠ 0 ∧ digB s[k] = true)) (fun g => ?_)]
 ·simp
 ·rcases g k hk with g | ⟨g1, g2⟩
  ·rw [h] at g; cases g
  ·rcases h2 with h2 | h2
   ·exact g1 h2
   ·rw [h2] at g2; cases g2
theorem paper_yes {s : ByteArray} (h0 : 0 < s.size) (h1 : s.size ≤ 12) (h : ∀ k, (h : k < s.size) → capB s[k] = true ∨ (k ≠ 0 ∧ digB s[k] = true)) : paper s = true := by
 unfold paper; rw [decide_eq_true h0, decide_eq_true h1, decide_eq_true h]; rfl
theorem paper_size {s : ByteArray} (h : paper s = true) : 0 < s.size ∧ s.size ≤ 12 := by
 unfold paper at h
 simp only [Bool.and_eq_true, decide_eq_true_eq] at h
 exact ⟨h.1.1, h.1.2⟩
structure H where
 nm : ByteArray
 q : Int
def H.c (h : H) : Array Value := #[.string h.nm, .int .i64 h.q]
def inr (q : Int) : Bool := decide (1 ≤ q ∧ q ≤ 1000000000000000)
def vfrom (last : List UInt8) : List H → Bool
 | [] => true
 | h :: t => paper h.nm && lt last h.nm.toList && inr h.q && vfrom h.nm.toList t
def val (l : List H) : Bool := decide (l.length ≤ 64) && vfrom [] l
def lastOf (l : List H) (i : Nat) : List UInt8 := if i = 0 then [] else ((l[i - 1]?).map (·.nm.toList)).getD []
theorem lastOf_succ {l : List H} {i : Nat} {h : H} (hh : l[i]? = some h) : lastOf l (i + 1) = h.nm.toList := by simp [lastOf, hh]
theorem vfrom_drop {l : List H} {i : Nat} {h : H} (hh : l[i]? = some h) : vfrom (lastOf l i) (l.drop i) = (paper h.nm && lt (lastOf l i) h.nm.toList && inr h.q && vfrom (lastOf l (i + 1)) (l.drop (i + 1))) := by
 have hl := (List.getElem?_eq_some_iff.1 hh).1
 have e := (List.getElem?_eq_some_iff.1 hh).2
 rw [List.drop_eq_getElem_cons hl, e, vfrom, lastOf_succ hh]
theorem val_long {l : List H} (h : 64 < l.length) : val l = false := by unfold val; rw [decide_eq_false (by omega)]; rfl
theorem val_short {l : List H} (h : l.length ≤ 64) : val l = vfrom (lastOf l 0) (l.drop 0) := by unfold val; rw [decide_eq_true h]; rfl
theorem lt_nil {s : List UInt8} (h : s ≠ []) : lt [] s = true := by
 cases s with
 | nil => exact absurd rfl h
 | cons a s => rfl
theorem paper_ne {s : ByteArray} (h : paper s = true) : s.toList ≠ [] := by
 obtain ⟨h0, _⟩ := paper_size h
 intro e
 have h1 : s.toList.length = s.size := by rw [ByteArray.toList_eq]; rfl
 rw [e] at h1
 simp at h1
 omega
end Lk
end Go.Proofs.YtckhdiljihhdmaaGreat
