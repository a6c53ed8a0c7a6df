/- Plain: the holidays and the weekend of several calendars. -/
import Derived.Test.YtaokneooejbfkaaJoA
namespace Go.Proofs.Ytaokneooejbfkaa
set_option maxRecDepth 8000
namespace Jo
theorem asc_pw : ∀ (hs : List Int) (last : Int), Cl.asc last hs = true → hs.Pairwise (· < ·) ∧ ∀ h ∈ hs, last < h
  | [], _, _ => ⟨.nil, by simp⟩
  | x :: t, last, h => by
    unfold Cl.asc at h
    simp only [Bool.and_eq_true, decide_eq_true_eq] at h
    obtain ⟨h1, h2⟩ := asc_pw t x h.2
    refine ⟨List.pairwise_cons.2 ⟨h2, h1⟩, fun y hy => ?_⟩
    rcases List.mem_cons.1 hy with rfl | hy
    · exact h.1.1
    · have := h2 y hy; omega
theorem valid_pw {s : ByteArray} {k : Nat → Bool} {hs : List Int} (h : Cl.validC s k hs = true) : hs.Pairwise (· < ·) ∧ hs.length ≤ 2000 := by
  unfold Cl.validC at h
  simp only [Bool.and_eq_true, decide_eq_true_eq] at h
  exact ⟨(asc_pw _ _ h.2).1, h.1.2⟩
/-- Strictly ascending lists with the same elements are one list. -/
theorem uniq : ∀ {a b : List Int}, a.Pairwise (· < ·) → b.Pairwise (· < ·) → (∀ x, x ∈ a ↔ x ∈ b) → a = b
  | [], [], _, _, _ => rfl
  | [], y :: b, _, _, h => absurd ((h y).2 List.mem_cons_self) (by simp)
  | x :: a, [], _, _, h => absurd ((h x).1 List.mem_cons_self) (by simp)
  | x :: a, y :: b, ha, hb, h => by
    obtain ⟨ha1, ha2⟩ := List.pairwise_cons.1 ha
    obtain ⟨hb1, hb2⟩ := List.pairwise_cons.1 hb
    have e : x = y := by
      rcases List.mem_cons.1 ((h x).1 List.mem_cons_self) with e | h1
      · exact e
      · rcases List.mem_cons.1 ((h y).2 List.mem_cons_self) with e | h2
        · exact e.symm
        · have := hb1 x h1; have := ha1 y h2; omega
    subst e
    have : a = b := uniq ha2 hb2 fun z => by
      constructor
      · intro hz
        rcases List.mem_cons.1 ((h z).1 (List.mem_cons_of_mem _ hz)) with e | h1
        · have := ha1 z hz; omega
        · exact h1
      · intro hz
        rcases List.mem_cons.1 ((h z).2 (List.mem_cons_of_mem _ hz)) with e | h1
        · have := hb1 z hz; omega
        · exact h1
    rw [this]
/-- A number put into a strictly ascending list. -/
def ins (x : Int) : List Int → List Int
  | [] => [x]
  | y :: r => if x < y then x :: y :: r else if x = y then y :: r else y :: ins x r
theorem mem_ins {x z : Int} : ∀ {l : List Int}, z ∈ ins x l ↔ z = x ∨ z ∈ l
  | [] => by simp [ins]
  | y :: r => by
    unfold ins
    split
    · simp
    · split
      · rename_i h1 h2; subst h2; simp
      · rw [List.mem_cons, mem_ins, List.mem_cons]
        constructor
        · rintro (h | h | h) <;> simp [h]
        · rintro (h | h | h) <;> simp [h]
theorem pw_ins {x : Int} : ∀ {l : List Int}, l.Pairwise (· < ·) → (ins x l).Pairwise (· < ·)
  | [], _ => by simp [ins]
  | y :: r, h => by
    obtain ⟨h1, h2⟩ := List.pairwise_cons.1 h
    unfold ins
    split
    · rename_i hx
      refine List.pairwise_cons.2 ⟨fun z hz => ?_, h⟩
      rcases List.mem_cons.1 hz with rfl | hz
      · exact hx
      · have := h1 z hz; omega
    · split
      · exact h
      · refine List.pairwise_cons.2 ⟨fun z hz => ?_, pw_ins h2⟩
        rcases mem_ins.1 hz with rfl | hz
        · omega
        · exact h1 z hz
def srt (l : List Int) : List Int := l.foldr ins []
theorem mem_srt {z : Int} : ∀ {l : List Int}, z ∈ srt l ↔ z ∈ l
  | [] => Iff.rfl
  | x :: l => by
    show z ∈ ins x (srt l) ↔ _
    rw [mem_ins, mem_srt, List.mem_cons]
theorem pw_srt : ∀ {l : List Int}, (srt l).Pairwise (· < ·)
  | [] => .nil
  | x :: l => pw_ins (x := x) (pw_srt (l := l))
theorem sort_srt {acc l : List Int} (hn : acc.Nodup) (h : ∀ x, x ∈ acc ↔ x ∈ l) : acc.mergeSort (fun x y => decide (x ≤ y)) = srt l := by
  have hp := List.mergeSort_perm acc (fun x y => decide (x ≤ y))
  have hs := List.pairwise_mergeSort (le := fun x y : Int => decide (x ≤ y)) (fun a b c h1 h2 => by simp at h1 h2 ⊢; omega) (fun a b => by simp; omega) acc
  refine uniq ?_ pw_srt fun x => by rw [hp.mem_iff, h, mem_srt]
  have hn2 : (acc.mergeSort (fun x y => decide (x ≤ y))).Pairwise (· ≠ ·) := hp.nodup_iff.2 hn
  exact (hs.and hn2).imp fun {a b} ⟨h1, h2⟩ => by simp at h1; omega
/-- All holidays of a list of calendars. -/
def hols (l : List C) : List Int := l.flatMap (·.hs)
def week (l : List C) (j : Nat) : Bool := l.any fun x => x.k j
theorem hols_add (l : List C) (x : C) : hols (l ++ [x]) = hols l ++ x.hs := by simp [hols]
theorem week_add (l : List C) (x : C) (j : Nat) : week (l ++ [x]) j = (week l j || x.k j) := by simp [week]
theorem hols_len {l : List C} (h : ∀ x ∈ l, x.hs.length ≤ 2000) : (hols l).length ≤ l.length * 2000 := by
  induction l with
  | nil => simp [hols]
  | cons x l ih =>
    have h1 := ih fun y hy => h y (List.mem_cons_of_mem _ hy)
    have h2 := h x List.mem_cons_self
    have e : hols (x :: l) = x.hs ++ hols l := rfl
    rw [e, List.length_append, List.length_cons]
    omega
def okC (x : C) : Bool := Cl.validC x.s x.k x.hs
/-- The calendar that is joined, and the error. -/
def bad (l : List C) : Bool := decide (l.length = 0) || decide (8 < l.length) || !(l.all okC)
def err (name : ByteArray) (l : List C) : Int := if bad l = true then 80 else Cl.chk name (week l) (srt (hols l))
def out (name : ByteArray) (l : List C) : ByteArray × (Nat → Bool) × List Int := if err name l = 0 then (name, week l, srt (hols l)) else ({ data := #[] }, zk, [])
theorem srt_len {acc l : List Int} (hn : acc.Nodup) (h : ∀ x, x ∈ acc ↔ x ∈ l) : (srt l).length = acc.length := by
  rw [← sort_srt hn h]; simp
theorem nodup_len {acc l : List Int} (hn : acc.Nodup) (h : ∀ x ∈ acc, x ∈ l) : acc.length ≤ l.length := by
  induction acc generalizing l with
  | nil => simp
  | cons x acc ih =>
    obtain ⟨h1, h2⟩ := List.nodup_cons.1 hn
    have hx := h x List.mem_cons_self
    have := ih (l := l.erase x) h2 fun y hy => (List.mem_erase_of_ne (fun e : y = x => h1 (e ▸ hy))).2 (h y (List.mem_cons_of_mem _ hy))
    rw [List.length_erase_of_mem hx] at this
    have := List.length_pos_of_mem hx
    simp only [List.length_cons]
    omega
end Jo
end Go.Proofs.Ytaokneooejbfkaa
