/- Which texts are usable names: plain mathematics, no program in sight. -/
namespace Go.Proofs.Ytaokneooejbfkaa
set_option maxRecDepth 8000
namespace Nm
def okB (c : UInt8) : Bool := decide (97 ≤ (c.toNat : Int) ∧ (c.toNat : Int) ≤ 122) || decide (48 ≤ (c.toNat : Int) ∧ (c.toNat : Int) ≤ 57)
def usableB (s : ByteArray) : Bool := decide (0 < s.size) && decide (s.size ≤ 16) && decide (∀ h : 0 < s.size, 97 ≤ (s[0].toNat : Int) ∧ (s[0].toNat : Int) ≤ 122) && decide (∀ k, (h : k < s.size) → okB s[k] = true)
theorem usable_no0 {s : ByteArray} (h : s.size = 0) : usableB s = false := by simp [usableB, h]
theorem usable_no16 {s : ByteArray} (h : 16 < s.size) : usableB s = false := by
  unfold usableB; rw [decide_eq_false (p := s.size ≤ 16) (by omega)]; simp
theorem usable_nofirst {s : ByteArray} (h0 : 0 < s.size) (h : ¬ (97 ≤ (s[0].toNat : Int) ∧ (s[0].toNat : Int) ≤ 122)) : usableB s = false := by
  unfold usableB; rw [decide_eq_false (p := ∀ h : 0 < s.size, 97 ≤ (s[0].toNat : Int) ∧ (s[0].toNat : Int) ≤ 122) (fun g => h (g h0))]; simp
theorem usable_noat {s : ByteArray} {k : Nat} (hk : k < s.size) (h : okB s[k] = false) : usableB s = false := by
  unfold usableB; rw [decide_eq_false (p := ∀ k, (h : k < s.size) → okB s[k] = true) (fun g => by rw [g k hk] at h; cases h)]; simp
theorem usable_yes {s : ByteArray} (h0 : 0 < s.size) (h1 : s.size ≤ 16) (h2 : 97 ≤ (s[0].toNat : Int) ∧ (s[0].toNat : Int) ≤ 122) (h3 : ∀ k, (h : k < s.size) → okB s[k] = true) : usableB s = true := by
  unfold usableB
  rw [decide_eq_true h0, decide_eq_true h1, decide_eq_true (p := ∀ h : 0 < s.size, 97 ≤ (s[0].toNat : Int) ∧ (s[0].toNat : Int) ≤ 122) (fun _ => h2), decide_eq_true (p := ∀ k, (h : k < s.size) → okB s[k] = true) h3]
  rfl
theorem okB_cases (c : UInt8) : (okB c = false ∧ ((c.toNat : Int) < 48 ∨ 122 < (c.toNat : Int) ∨ (57 < (c.toNat : Int) ∧ (c.toNat : Int) < 97))) ∨ (okB c = true ∧ ((97 ≤ (c.toNat : Int) ∧ (c.toNat : Int) ≤ 122) ∨ (48 ≤ (c.toNat : Int) ∧ (c.toNat : Int) ≤ 57))) := by
  unfold okB
  by_cases h : (97 ≤ (c.toNat : Int) ∧ (c.toNat : Int) ≤ 122) ∨ (48 ≤ (c.toNat : Int) ∧ (c.toNat : Int) ≤ 57)
  · right; refine ⟨?_, h⟩
    rcases h with h | h <;> simp [h]
  · left
    refine ⟨?_, by omega⟩
    rw [decide_eq_false (by omega), decide_eq_false (by omega)]; rfl
end Nm
end Go.Proofs.Ytaokneooejbfkaa
