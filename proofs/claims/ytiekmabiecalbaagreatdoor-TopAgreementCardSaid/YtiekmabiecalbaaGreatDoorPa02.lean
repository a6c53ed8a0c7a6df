/- Walks. -/

namespace Go.Proofs.YtiekmabiecalbaaGreatDoor
set_option maxHeartbeats 16000000
set_option maxRecDepth 8000
section
namespace Nm
def okB (c : UInt8) : Bool := decide (97 ≤ (c.toNat : Int) ∧ (c.toNat : Int) ≤ 122) || decide (48 ≤ (c.toNat : Int) ∧ (c.toNat : Int) ≤ 57)
def usableB (s : ByteArray) : Bool := decide (0 < s.size) && decide (s.size ≤ 16) && decide (∀ h : 0 < s.size, 97 ≤ (s[0].toNat : Int) ∧ (s[0].toNat : Int) ≤ 122) && decide (∀ k, (h : k < s.size) → okB s[k] = true)
theorem usable_no0 {s : ByteArray} (h : s.size = 0) : usableB s = false := by simp [usableB, h]
theorem usable_no16 {s : ByteArray} (h : 16 < s.size) : usableB s = false := by
 unfold usableB; rw [decide_eq_false (p := s.size ≤ 16) (by omega)]; simp
theorem usable_nofirst {s : ByteArray} (h0 : 0 < s.size) (h : ¬ (97 ≤ (s[0].toNat : Int) ∧ (s[0].toNat : Int) ≤ 122)) : usableB s = false := by
 unfold usableB; rw [decide_eq_false (p := ∀ h : 0 < s.size, 97 ≤ (s[0].toNat : Int) ∧ (s[0].toNat : Int) ≤ 122) (fun g => h (g h0))]; simp
theorem usable_noat {s : ByteArray} {k : Nat} (hk : k < s.size) (h : okB s[k] = false) : usableB s = false := by
 unfold usableB; rw [decide_eq_false (p := ∀ k, (h : k < s.size) → okB s[k] = true) (fun g => by rw [g k hk] at h; cases h)]; simp
theorem usable_yes {s : ByteArray} (h0 : 0 < s.size) (h1 : s.size ≤ 16) (h2 : 97 ≤ (s[0].toNat : Int) ∧ (s[0].toNat : Int) ≤ 122) (h3 : ∀ k, (h : k < s.size) → okB s[k] = true) : usableB s = true := by
 unfold usableB
 rw [decide_eq_true h0, decide_eq_true h1, decide_eq_true (p := ∀ h : 0 < s.size, 97 ≤ (s[0].toNat : Int) ∧ (s[0].toNat : Int) ≤ 122) (fun _ => h2), decide_eq_true (p := ∀ k, (h : k < s.size) → okB s[k] = true) h3]
 rfl
theorem okB_cases (c : UInt8) : (okB c = false ∧ ((c.toNat : Int) < 48 ∨ 122 < (c.toNat : Int) ∨ (57 < (c.toNat : Int) ∧ (c.toNat : Int) < 97))) ∨ (okB c = true ∧ ((97 ≤ (c.toNat : Int) ∧ (c.toNat : Int) ≤ 122) ∨ (48 ≤ (c.toNat : Int) ∧ (c.toNat : Int) ≤ 57))) := by
 unfold okB
 by_cases h : (97 ≤ (c.toNat : Int) ∧ (c.toNat : Int) ≤ 122) ∨ (48 ≤ (c.toNat : Int) ∧ (c.toNat : Int) ≤ 57)
 ·right; refine ⟨?_, h⟩
  rcases h with h | h <;> simp [h]
 ·left
  refine ⟨?_, by omega⟩
  rw [decide_eq_false (by omega), decide_eq_false (by omega)]; rfl
end Nm
end
section
namespace Tx
def val (l : List Nat) : Nat := l.foldl (fun n c => 10 * n + c) 0
theorem foldl_val (l : List Nat) : ∀ n, l.foldl (fun n c => 10 * n + c) n = n * 10 ^ l.length + val l := by
 induction l with
 | nil => intro n; simp [val]
 | cons c l ih =>
  intro n
  have h1 := ih (10 * n + c)
  have h2 := ih c
  rw [List.foldl_cons, h1, List.length_cons, Nat.pow_succ]
  show _ = _ + (c :: l).foldl _ 0
  rw [List.foldl_cons, show 10 * 0 + c = c from by omega, h2]
  rw [Nat.add_mul]
  have : 10 * n * 10 ^ l.length = n * (10 ^ l.length * 10) := by rw [Nat.mul_comm 10 n, Nat.mul_assoc, Nat.mul_comm 10]
  omega
theorem val_cons (c : Nat) (l : List Nat) : val (c :: l) = c * 10 ^ l.length + val l := by
 unfold val
 rw [List.foldl_cons, show 10 * 0 + c = c from by omega]
 exact foldl_val l c
theorem val_snoc (l : List Nat) (c : Nat) : val (l ++ [c]) = 10 * val l + c := by
 unfold val; rw [List.foldl_append]; rfl
theorem val_lt (l : List Nat) (h : ∀ c ∈ l, c < 10) : val l < 10 ^ l.length := by
 induction l with
 | nil => simp [val]
 | cons c l ih =>
  have h1 := ih (fun d hd => h d (List.mem_cons_of_mem _ hd))
  have h2 := h c List.mem_cons_self
  rw [val_cons, List.length_cons, Nat.pow_succ]
  have : c * 10 ^ l.length ≤ 9 * 10 ^ l.length := Nat.mul_le_mul_right _ (by omega)
  omega
theorem val_app (l m : List Nat) : val (l ++ m) = val l * 10 ^ m.length + val m := by
 unfold val; rw [List.foldl_append]; exact foldl_val m _
def dig (n : Nat) : List Nat := if h : n = 0 then [] else n % 10 :: dig (n / 10)
termination_by n
decreasing_by omega
theorem dig_zero : dig 0 = [] := by unfold dig; simp
theorem dig_pos {n : Nat} (h : n ≠ 0) : dig n = n % 10 :: dig (n / 10) := by rw [dig]; simp [h]
theorem dig_lt (n : Nat) : ∀ c ∈ dig n, c < 10 := by
 induction n using Nat.strongRecOn with
 | _ n ih =>
  by_cases h : n = 0
  ·rw [h, dig_zero]; simp
  ·rw [dig_pos h]
   intro c hc
   rcases List.mem_cons.1 hc with rfl | hc
   ·omega
   ·exact ih (n / 10) (by omega) c hc
theorem val_dig (n : Nat) : val (dig n).reverse = n := by
 induction n using Nat.strongRecOn with
 | _ n ih =>
  by_cases h : n = 0
  ·rw [h, dig_zero]; rfl
  ·rw [dig_pos h, List.reverse_cons, val_snoc, ih (n / 10) (by omega)]
   omega
theorem dig_head {n : Nat} (h : n ≠ 0) : ∃ c l, (dig n).reverse = c :: l ∧ c ≠ 0 := by
 induction n using Nat.strongRecOn with
 | _ n ih =>
  rw [dig_pos h, List.reverse_cons]
  by_cases h2 : n / 10 = 0
  ·rw [h2, dig_zero]
   exact ⟨n % 10, [], rfl, by omega⟩
  ·obtain ⟨c, l, e, hc⟩ := ih (n / 10) (by omega) h2
   exact ⟨c, l ++ [n % 10], by rw [e]; rfl, hc⟩
theorem dig_len {n k : Nat} (h : n < 10 ^ k) : (dig n).length ≤ k := by
 induction k generalizing n with
 | zero =>
  have : n = 0 := by simpa using h
  rw [this, dig_zero]; simp
 | succ k ih =>
  by_cases h0 : n = 0
  ·rw [h0, dig_zero]; simp
  ·rw [dig_pos h0, List.length_cons]
   have := ih (n := n / 10) (by rw [Nat.pow_succ] at h; omega)
   omega
end Tx
end
section
namespace Tx
structure FmSt (N m rest i : Nat) (l : List Nat) : Prop where
 eq : dig N = l ++ dig (m * 10 ^ (9 - i) + rest)
 le : i ≤ 9
 lt : rest < 10 ^ (9 - i)
theorem FmSt.start {N m : Nat} {l : List Nat} (h : dig N = l ++ dig m) : FmSt N (m / 1000000000) (m % 1000000000) 0 l :=
 ⟨by rw [h]; congr 2; show m = m / 1000000000 * 1000000000 + m % 1000000000; omega, by omega, by show m % 1000000000 < 1000000000; omega⟩
theorem FmSt.step {N m rest i : Nat} {l : List Nat} (h : FmSt N m rest i l) (hi : i < 9) (h0 : 0 < rest ∨ m ≠ 0) : FmSt N m (rest / 10) (i + 1) (l ++ [rest % 10]) := by
 obtain ⟨h1, h2, h3⟩ := h
 have e : 9 - i = (9 - (i + 1)) + 1 := by omega
 rw [e, Nat.pow_succ] at h1 h3
 obtain ⟨p, hp⟩ : ∃ p, p = 10 ^ (9 - (i + 1)) := ⟨_, rfl⟩
 rw [← hp] at h1 h3
 have hm : m * (p * 10) = (m * p) * 10 := by rw [Nat.mul_assoc]
 rw [hm] at h1
 have hne : m * p * 10 + rest ≠ 0 := by
  rcases h0 with h0 | h0
  ·omega
  ·have := Nat.mul_pos (Nat.pos_of_ne_zero h0) (show 0 < p by omega)
   omega
 refine ⟨?_, by omega, by rw [← hp]; omega⟩
 rw [← hp, h1, dig_pos hne, show (m * p * 10 + rest) % 10 = rest % 10 from by omega, show (m * p * 10 + rest) / 10 = m * p + rest / 10 from by omega]
 simp
theorem FmSt.done {N m rest i : Nat} {l : List Nat} (h : FmSt N m rest i l) (he : i = 9 ∨ (rest = 0 ∧ m = 0)) : dig N = l ++ dig m := by
 obtain ⟨h1, h2, h3⟩ := h
 rcases he with rfl | ⟨rfl, rfl⟩
 ·have : rest = 0 := by simpa using h3
  subst this
  simpa using h1
 ·simpa using h1
end Tx
end
section
namespace Dt
def leapB (y : Int) : Bool := decide (y % 4 = 0 ∧ (y % 100 ≠ 0 ∨ y % 400 = 0))
def ylen (y : Int) : Int := if leapB y = true then 366 else 365
def dim (y m : Int) : Int := if m = 2 then ylen y - 337 else if m = 4 ∨ m = 6 ∨ m = 9 ∨ m = 11 then 30 else 31
def dby (y : Int) : Int := 365 * (y - 2000) + (y - 2000 + 3) / 4 - (if 2100 < y then 1 else 0)
def lp (y : Int) : Int := if leapB y = true then 1 else 0
def cum (y m : Int) : Int :=
 if m ≤ 1 then 0 else if m = 2 then 31 else if m = 3 then 59 + lp y else if m = 4 then 90 + lp y else if m = 5 then 120 + lp y else if m = 6 then 151 + lp y
 else if m = 7 then 181 + lp y else if m = 8 then 212 + lp y else if m = 9 then 243 + lp y else if m = 10 then 273 + lp y else if m = 11 then 304 + lp y else if m = 12 then 334 + lp y else 365 + lp y
def isDay (n : Int) : Bool := decide (0 ≤ n ∧ n ≤ 73048)
theorem ylen_eq (y : Int) : ylen y = 365 + lp y := by unfold ylen lp; split <;> rfl
theorem lp_01 (y : Int) : 0 ≤ lp y ∧ lp y ≤ 1 := by unfold lp; split <;> omega
theorem ylen_bd (y : Int) : 365 ≤ ylen y ∧ ylen y ≤ 366 := by have := lp_01 y; rw [ylen_eq]; omega
theorem dim_bd (y m : Int) : 28 ≤ dim y m ∧ dim y m ≤ 31 := by
 have := ylen_bd y; unfold dim; split
 ·omega
 ·split <;> omega
theorem dby_succ (y : Int) (h : 2000 ≤ y) (h2 : y ≤ 2199) : dby (y + 1) = dby y + ylen y := by
 unfold dby ylen leapB
 by_cases a : y % 4 = 0 <;> by_cases b : y % 100 = 0 <;> by_cases c : y % 400 = 0 <;> simp only [a, b, c] <;> simp <;> split <;> split <;> omega
theorem dby_last : dby 2200 = 73049 := by decide
theorem cum_succ (y m : Int) (h : 1 ≤ m) (h2 : m ≤ 12) : cum y (m + 1) = cum y m + dim y m := by
 have : m = 1 ∨ m = 2 ∨ m = 3 ∨ m = 4 ∨ m = 5 ∨ m = 6 ∨ m = 7 ∨ m = 8 ∨ m = 9 ∨ m = 10 ∨ m = 11 ∨ m = 12 := by omega
 have e := ylen_eq y
 rcases this with h | h | h | h | h | h | h | h | h | h | h | h <;> subst h <;> simp [cum, dim] <;> omega
theorem cum_end (y : Int) : cum y 13 = ylen y := by rw [ylen_eq]; simp [cum]
theorem cum_bd (y m : Int) : 0 ≤ cum y m ∧ cum y m ≤ 366 := by
 have := lp_01 y
 unfold cum
 repeat' (split <;> try omega)
theorem dby_bd (y : Int) (h : 2000 ≤ y) (h2 : y ≤ 2200) : 0 ≤ dby y ∧ dby y ≤ 73049 := by unfold dby; split <;> omega
theorem dby_mono (a b : Int) (h : a ≤ b) : dby a ≤ dby b := by unfold dby; split <;> split <;> omega
theorem cum_step (y m : Int) : cum y m ≤ cum y (m + 1) := by
 by_cases h : 1 ≤ m
 ·by_cases h2 : m ≤ 12
  ·rw [cum_succ y m h h2]; have := dim_bd y m; omega
  ·have e : ∀ k : Int, 13 ≤ k → cum y k = 365 + lp y := by
     intro k hk
     unfold cum
     rw [if_neg (by omega), if_neg (by omega), if_neg (by omega), if_neg (by omega), if_neg (by omega), if_neg (by omega), if_neg (by omega), if_neg (by omega), if_neg (by omega), if_neg (by omega), if_neg (by omega), if_neg (by omega)]
   rw [e m (by omega), e (m + 1) (by omega)]; exact Int.le_refl _
 ·unfold cum
  rw [if_pos (by omega), if_pos (by omega)]; exact Int.le_refl _
theorem cum_mono_nat (y a : Int) : ∀ k : Nat, cum y a ≤ cum y (a + k)
 | 0 => by simp
 | k + 1 => by
  have h1 := cum_mono_nat y a k
  have h2 := cum_step y (a + k)
  have e : a + ((k + 1 : Nat) : Int) = a + (k : Int) + 1 := by omega
  rw [e]; exact Int.le_trans h1 h2
theorem cum_mono (y a b : Int) (h : a ≤ b) : cum y a ≤ cum y b := by
 have h1 := cum_mono_nat y a (b - a).toNat
 rw [show a + ((b - a).toNat : Int) = b from by omega] at h1
 exact h1
def isCiv (n y m d : Int) : Prop := 2000 ≤ y ∧ y ≤ 2199 ∧ 1 ≤ m ∧ m ≤ 12 ∧ 1 ≤ d ∧ d ≤ dim y m ∧ n = dby y + cum y m + d - 1
theorem cum_dim (y m : Int) (h : 1 ≤ m) (h2 : m ≤ 12) : cum y m + dim y m ≤ ylen y := by
 rw [← cum_succ y m h h2, ← cum_end]; exact cum_mono _ _ _ (by omega)
theorem civ_year {n y m d : Int} (h : isCiv n y m d) : dby y ≤ n ∧ n < dby (y + 1) := by
 obtain ⟨h1, h2, h3, h4, h5, h6, h7⟩ := h
 have := cum_dim y m h3 h4; have := dby_succ y h1 h2; have := cum_bd y m
 omega
theorem civ_unique {n y m d y' m' d' : Int} (h : isCiv n y m d) (h' : isCiv n y' m' d') : y = y' ∧ m = m' ∧ d = d' := by
 have a := civ_year h
 have b := civ_year h'
 have e : y = y' := by
  by_cases h1 : y + 1 ≤ y'
  ·have := dby_mono _ _ h1; omega
  ·by_cases h2 : y' + 1 ≤ y
   ·have := dby_mono _ _ h2; omega
   ·omega
 subst e
 obtain ⟨h1, h2, h3, h4, h5, h6, h7⟩ := h
 obtain ⟨g1, g2, g3, g4, g5, g6, g7⟩ := h'
 have c1 := cum_succ y m h3 h4
 have c2 := cum_succ y m' g3 g4
 have e : m = m' := by
  by_cases h1 : m + 1 ≤ m'
  ·have := cum_mono y _ _ h1; omega
  ·by_cases h2 : m' + 1 ≤ m
   ·have := cum_mono y _ _ h2; omega
   ·omega
 subst e
 exact ⟨rfl, rfl, by omega⟩
open Classical in
noncomputable def civ (n : Int) : Int × Int × Int := Classical.epsilon (fun p => isCiv n p.1 p.2.1 p.2.2)
theorem civ_of {n y m d : Int} (h : isCiv n y m d) : civ n = (y, m, d) := by
 have s : isCiv n (civ n).1 (civ n).2.1 (civ n).2.2 := @Classical.epsilon_spec _ (fun p : Int × Int × Int => isCiv n p.1 p.2.1 p.2.2) ⟨(y, m, d), h⟩
 obtain ⟨a, b, c⟩ := civ_unique s h
 exact Prod.ext a (Prod.ext b c)
end Dt
end
end Go.Proofs.YtiekmabiecalbaaGreatDoor
