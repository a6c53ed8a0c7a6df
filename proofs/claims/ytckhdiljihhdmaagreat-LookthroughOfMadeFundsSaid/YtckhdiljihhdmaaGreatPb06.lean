/- Walks, and plain facts for them. -/
import Derived.KernelRfl
namespace Go.Proofs.YtckhdiljihhdmaaGreat
set_option maxRecDepth 8000
namespace Mx
abbrev Mat := Nat → Nat → Rat
def sm : Nat → (Nat → Rat) → Rat
 | 0, _ => 0
 | n + 1, f => sm n f + f n
theorem sm_congr {n : Nat} {f g : Nat → Rat} (h : ∀ i, i < n → f i = g i) : sm n f = sm n g := by
 induction n with
 | zero => rfl
 | succ n ih => rw [sm, sm, ih (fun i hi => h i (by omega)), h n (by omega)]
theorem sm_zero {n : Nat} {f : Nat → Rat} (h : ∀ i, i < n → f i = 0) : sm n f = 0 := by
 induction n with
 | zero => rfl
 | succ n ih => rw [sm, ih (fun i hi => h i (by omega)), h n (by omega)]; grind
theorem sm_add {n : Nat} {f g : Nat → Rat} : sm n (fun i => f i + g i) = sm n f + sm n g := by
 induction n with
 | zero => simp only [sm]; grind
 | succ n ih => simp only [sm, ih]; grind
theorem sm_mul {n : Nat} {f : Nat → Rat} (t : Rat) : sm n (fun i => t * f i) = t * sm n f := by
 induction n with
 | zero => simp only [sm]; grind
 | succ n ih => simp only [sm, ih]; grind
theorem sm_one {n k : Nat} {f : Nat → Rat} (hk : k < n) (h : ∀ i, i < n → i ≠ k → f i = 0) : sm n f = f k := by
 induction n with
 | zero => omega
 | succ n ih =>
  rw [sm]
  by_cases e : k = n
  ·subst e
   rw [sm_zero (fun i hi => h i (by omega) (by omega))]; grind
  ·rw [ih (by omega) (fun i hi => h i (by omega)), h n (by omega) (by omega)]; grind
theorem sm_two {n k l : Nat} {f : Nat → Rat} (hk : k < l) (hl : l < n) (h : ∀ i, i < n → i ≠ k → i ≠ l → f i = 0) : sm n f = f k + f l := by
 induction n with
 | zero => omega
 | succ n ih =>
  rw [sm]
  by_cases e : l = n
  ·subst e
   rw [sm_one hk (fun i hi hne => h i (by omega) hne (by omega))]
  ·rw [ih (by omega) (fun i hi => h i (by omega)), h n (by omega) (by omega) (by omega)]; grind
def sg (i : Nat) : Rat := if i % 2 = 0 then 1 else -1
theorem sg_succ (i : Nat) : sg (i + 1) = -sg i := by
 unfold sg
 rcases Nat.mod_two_eq_zero_or_one i with h | h
 ·rw [if_neg (by omega), if_pos h]
 ·rw [if_pos (by omega), if_neg (by omega)]; grind
def sk (i r : Nat) : Nat := if r < i then r else r + 1
theorem sk_lt {i r n : Nat} (hr : r < n) : sk i r < n + 1 := by unfold sk; split <;> omega
theorem sk_ne {i r : Nat} : sk i r ≠ i := by unfold sk; split <;> omega
def det : Nat → Mat → Rat
 | 0, _ => 1
 | n + 1, A => sm (n + 1) fun i => sg i * A i 0 * det n (fun r c => A (sk i r) (c + 1))
theorem det_congr {n : Nat} {A B : Mat} (h : ∀ r c, r < n → c < n → A r c = B r c) : det n A = det n B := by
 induction n generalizing A B with
 | zero => rfl
 | succ n ih =>
  rw [det, det]
  refine sm_congr fun i hi => ?_
  rw [h i 0 hi (by omega), ih (fun r c hr hc => h _ _ (sk_lt hr) (by omega))]
theorem sk_of {i k : Nat} (h : k ≠ i) : ∃ k', sk i k' = k ∧ ∀ r, r ≠ k' → sk i r ≠ k := by
 by_cases hk : k < i
 ·refine ⟨k, by unfold sk; rw [if_pos hk], fun r hr => ?_⟩
  unfold sk; split <;> omega
 ·refine ⟨k - 1, by unfold sk; rw [if_neg (by omega)]; omega, fun r hr => ?_⟩
  unfold sk; split <;> omega
theorem det_add {n k : Nat} {A B C : Mat} {t : Rat} (hk : k < n) (h : ∀ c, A k c = B k c + t * C k c) (hB : ∀ r c, r ≠ k → B r c = A r c) (hC : ∀ r c, r ≠ k → C r c = A r c) : det n A = det n B + t * det n C := by
 induction n generalizing A B C k with
 | zero => omega
 | succ n ih =>
  rw [det, det, det, ← sm_mul, ← sm_add]
  refine sm_congr fun i hi => ?_
  by_cases e : i = k
  ·subst e
   have e1 : det n (fun r c => B (sk i r) (c + 1)) = det n (fun r c => A (sk i r) (c + 1)) := det_congr fun r c _ _ => hB _ _ sk_ne
   have e2 : det n (fun r c => C (sk i r) (c + 1)) = det n (fun r c => A (sk i r) (c + 1)) := det_congr fun r c _ _ => hC _ _ sk_ne
   rw [e1, e2, h]; grind
  ·obtain ⟨k', h1, h2⟩ := sk_of (i := i) (k := k) (fun h => e h.symm)
   have hk' : k' < n := by unfold sk at h1; split at h1 <;> omega
   have := ih (A := fun r c => A (sk i r) (c + 1)) (B := fun r c => B (sk i r) (c + 1)) (C := fun r c => C (sk i r) (c + 1)) (k := k') hk' (fun c => by show A (sk i k') _ = B (sk i k') _ + t * C (sk i k') _; rw [h1]; exact h _) (fun r c hr => hB _ _ (h2 r hr)) (fun r c hr => hC _ _ (h2 r hr))
   rw [this, hB i 0 e, hC i 0 e]; grind
theorem det_zero_row {n k : Nat} {A : Mat} (hk : k < n) (h : ∀ c, A k c = 0) : det n A = 0 := by
 have := det_add (A := A) (B := A) (C := A) (t := -1) hk (fun c => by rw [h]; grind) (fun _ _ _ => rfl) (fun _ _ _ => rfl)
 grind
theorem det_zero_in {n k : Nat} {A : Mat} (hk : k < n) (h : ∀ c, c < n → A k c = 0) : det n A = 0 := by
 have e : det n A = det n fun r c => if c < n then A r c else 0 := det_congr fun r c _ hc => by rw [if_pos hc]
 rw [e]
 exact det_zero_row hk fun c => by
  by_cases hc : c < n
  ·rw [if_pos hc, h c hc]
  ·rw [if_neg hc]
theorem det_near {n k : Nat} {A : Mat} (hk : k + 1 < n) (h : ∀ c, A k c = A (k + 1) c) : det n A = 0 := by
 induction n generalizing A k with
 | zero => omega
 | succ n ih =>
  rw [det, sm_two (k := k) (l := k + 1) (by omega) hk]
  ·have e : det n (fun r c => A (sk k r) (c + 1)) = det n (fun r c => A (sk (k + 1) r) (c + 1)) := by
     refine det_congr fun r c _ _ => ?_
     by_cases hr : r = k
     ·subst hr
      have e1 : sk r r = r + 1 := by unfold sk; rw [if_neg (by omega)]
      have e2 : sk (r + 1) r = r := by unfold sk; rw [if_pos (by omega)]
      rw [e1, e2, h]
     ·have e1 : sk k r = sk (k + 1) r := by unfold sk; split <;> split <;> omega
      rw [e1]
   rw [e, h 0, sg_succ]; grind
  ·intro i hi h1 h2
   have : det n (fun r c => A (sk i r) (c + 1)) = 0 := by
    by_cases hlt : i < k
    ·obtain ⟨k, rfl⟩ : ∃ j, k = j + 1 := ⟨k - 1, by omega⟩
     refine ih (k := k) (by omega) fun c => ?_
     have e1 : sk i k = k + 1 := by unfold sk; rw [if_neg (by omega)]
     have e2 : sk i (k + 1) = k + 1 + 1 := by unfold sk; rw [if_neg (by omega)]
     rw [e1, e2]; exact h _
    ·refine ih (k := k) (by omega) fun c => ?_
     have e1 : sk i k = k := by unfold sk; rw [if_pos (by omega)]
     have e2 : sk i (k + 1) = k + 1 := by unfold sk; rw [if_pos (by omega)]
     rw [e1, e2]; exact h _
   rw [this]; grind
def up (A : Mat) (k : Nat) (v : Nat → Rat) : Mat := fun r => if r = k then v else A r
theorem up_eq {A : Mat} {k : Nat} {v : Nat → Rat} : up A k v k = v := by unfold up; rw [if_pos rfl]
theorem up_ne {A : Mat} {k r : Nat} {v : Nat → Rat} (h : r ≠ k) : up A k v r = A r := by unfold up; rw [if_neg h]
def sw (i k r : Nat) : Nat := if r = i then k else if r = k then i else r
theorem det_swap1 {n k : Nat} {A : Mat} (hk : k + 1 < n) : det n (fun r => A (sw k (k + 1) r)) = -det n A := by
 have key : ∀ x y : Nat → Rat, det n (up (up A k x) (k + 1) y) = -det n (up (up A k y) (k + 1) x) := by
  intro x y
  have z : ∀ v : Nat → Rat, det n (up (up A k v) (k + 1) v) = 0 := fun v => det_near hk fun c => by rw [up_ne (by omega), up_eq, up_eq]
  have a1 : ∀ u v w : Nat → Rat, det n (up (up A k fun c => u c + v c) (k + 1) w) = det n (up (up A k u) (k + 1) w) + 1 * det n (up (up A k v) (k + 1) w) := fun u v w =>
   det_add (k := k) (by omega) (fun c => by rw [up_ne (by omega), up_eq, up_ne (by omega), up_eq, up_ne (by omega), up_eq]; grind)
    (fun r c hr => by by_cases e : r = k + 1 <;> simp [up, e, hr]) (fun r c hr => by by_cases e : r = k + 1 <;> simp [up, e, hr])
  have a2 : ∀ u v w : Nat → Rat, det n (up (up A k w) (k + 1) fun c => u c + v c) = det n (up (up A k w) (k + 1) u) + 1 * det n (up (up A k w) (k + 1) v) := fun u v w =>
   det_add (k := k + 1) hk (fun c => by rw [up_eq, up_eq, up_eq]; grind) (fun r c hr => by rw [up_ne hr, up_ne hr]) (fun r c hr => by rw [up_ne hr, up_ne hr])
  have h := z fun c => x c + y c
  rw [a1, a2, a2, z x, z y] at h
  grind
 have h := key (A (k + 1)) (A k)
 have e1 : up (up A k (A (k + 1))) (k + 1) (A k) = fun r => A (sw k (k + 1) r) := by
  funext r; unfold up sw
  by_cases h1 : r = k + 1
  ·subst h1; rw [if_pos rfl, if_neg (by omega), if_pos rfl]
  ·rw [if_neg h1]
   by_cases h2 : r = k
   ·subst h2; rw [if_pos rfl, if_pos rfl]
   ·rw [if_neg h2, if_neg h2, if_neg h1]
 have e2 : up (up A k (A k)) (k + 1) (A (k + 1)) = A := by
  funext r; unfold up
  by_cases h1 : r = k + 1
  ·subst h1; rw [if_pos rfl]
  ·rw [if_neg h1]
   by_cases h2 : r = k
   ·subst h2; rw [if_pos rfl]
   ·rw [if_neg h2]
 rw [e1, e2] at h
 exact h
theorem det_swap_lt {n i : Nat} (m : Nat) : ∀ {A : Mat}, i + m + 1 < n → det n (fun r => A (sw i (i + m + 1) r)) = -det n A := by
 induction m with
 | zero => intro A h; exact det_swap1 h
 | succ m ih =>
  intro A h
  have h1 := ih (A := fun r => A (sw (i + m + 1) (i + m + 1 + 1) r)) (by omega)
  have h2 := det_swap1 (n := n) (k := i + m + 1) (A := A) (by omega)
  have h3 := det_swap1 (n := n) (k := i + m + 1) (A := fun r => A (sw (i + m + 1) (i + m + 1 + 1) (sw i (i + m + 1) r))) (by omega)
  have e : (fun r => A (sw i (i + (m + 1) + 1) r)) = fun r => A (sw (i + m + 1) (i + m + 1 + 1) (sw i (i + m + 1) (sw (i + m + 1) (i + m + 1 + 1) r))) := by
   funext r
   congr 1
   unfold sw
   repeat' split
   all_goals omega
  rw [e, h3, h1, h2]; grind
theorem det_swap {n i k : Nat} {A : Mat} (hik : i ≠ k) (hi : i < n) (hk : k < n) : det n (fun r => A (sw i k r)) = -det n A := by
 by_cases h : i < k
 ·have := det_swap_lt (n := n) (i := i) (k - i - 1) (A := A) (by omega)
  rwa [show i + (k - i - 1) + 1 = k by omega] at this
 ·have := det_swap_lt (n := n) (i := k) (i - k - 1) (A := A) (by omega)
  rw [show k + (i - k - 1) + 1 = i by omega] at this
  rw [← this]
  congr 1
  funext r
  congr 1
  unfold sw
  repeat' split
  all_goals omega
theorem det_equal {n i k : Nat} {A : Mat} (hik : i ≠ k) (hi : i < n) (hk : k < n) (h : ∀ c, A i c = A k c) : det n A = 0 := by
 have h1 := det_swap (A := A) hik hi hk
 have e : (fun r => A (sw i k r)) = A := by
  funext r c
  unfold sw
  by_cases h1 : r = i
  ·subst h1; rw [if_pos rfl]; exact (h c).symm
  ·rw [if_neg h1]
   by_cases h2 : r = k
   ·subst h2; rw [if_pos rfl]; exact h c
   ·rw [if_neg h2]
 rw [e] at h1
 grind
theorem det_row {n i k : Nat} {A : Mat} (t : Rat) (hik : i ≠ k) (hi : i < n) (hk : k < n) : det n (up A i fun c => A i c + t * A k c) = det n A := by
 have h := det_add (n := n) (k := i) (A := up A i fun c => A i c + t * A k c) (B := A) (C := up A i (A k)) (t := t) hi (fun c => by rw [up_eq, up_eq]) (fun r c hr => by rw [up_ne hr]) (fun r c hr => by rw [up_ne hr, up_ne hr])
 have z : det n (up A i (A k)) = 0 := det_equal hik hi hk fun c => by rw [up_eq, up_ne (fun h => hik h.symm)]
 rw [h, z]; grind
def pr : Nat → (Nat → Rat) → Rat
 | 0, _ => 1
 | n + 1, f => pr n f * f n
theorem pr_congr {n : Nat} {f g : Nat → Rat} (h : ∀ i, i < n → f i = g i) : pr n f = pr n g := by
 induction n with
 | zero => rfl
 | succ n ih => rw [pr, pr, ih (fun i hi => h i (by omega)), h n (by omega)]
theorem pr_head (n : Nat) (f : Nat → Rat) : pr (n + 1) f = f 0 * pr n fun i => f (i + 1) := by
 induction n with
 | zero => simp only [pr]; grind
 | succ n ih => rw [pr, ih, pr]; grind
theorem pr_ne {n : Nat} {f : Nat → Rat} (h : ∀ i, i < n → f i ≠ 0) : pr n f ≠ 0 := by
 induction n with
 | zero => simp only [pr]; grind
 | succ n ih =>
  rw [pr]
  have h1 := ih (fun i hi => h i (by omega))
  have h2 := h n (by omega)
  intro h3
  rcases Rat.mul_eq_zero.1 h3 with h4 | h4
  ·exact h1 h4
  ·exact h2 h4
theorem det_head {n : Nat} {A : Mat} (h : ∀ r, 0 < r → r < n + 1 → A r 0 = 0) : det (n + 1) A = A 0 0 * det n fun r c => A (r + 1) (c + 1) := by
 rw [det, sm_one (k := 0) (by omega) (fun i hi hne => by rw [h i (by omega) hi]; grind)]
 have e : (fun r c => A (sk 0 r) (c + 1)) = fun r c => A (r + 1) (c + 1) := by
  funext r c
  unfold sk
  rw [if_neg (by omega)]
 rw [e]
 unfold sg
 rw [if_pos rfl]; grind
theorem det_diag {n : Nat} {d : Nat → Rat} {A : Mat} (h : ∀ r c, r < n → c < n → A r c = if r = c then d c else 0) : det n A = pr n d := by
 induction n generalizing A d with
 | zero => rfl
 | succ n ih =>
  rw [det_head (fun r hr hlt => by rw [h r 0 hlt (by omega), if_neg (by omega)]), h 0 0 (by omega) (by omega), if_pos rfl, pr_head, ih (d := fun i => d (i + 1)) (fun r c hr hc => by
   rw [h _ _ (by omega) (by omega)]
   by_cases e : r = c
   ·rw [if_pos (by omega), if_pos e]
   ·rw [if_neg (by omega), if_neg e])]
theorem det_col {n i : Nat} {d v : Nat → Rat} {A : Mat} (hi : i < n) (h : ∀ r c, r < n → c < n → c ≠ i → A r c = if r = c then d c else 0) (hv : ∀ r, r < n → A r i = v r) : det n A = pr n fun l => if l = i then v i else d l := by
 induction n generalizing A d v i with
 | zero => omega
 | succ n ih =>
  by_cases e : i = 0
  ·subst e
   rw [det, sm_one (k := 0) (by omega) (fun j hj hne => by
    have : det n (fun r c => A (sk j r) (c + 1)) = 0 := det_zero_in (k := 0) (by omega) (fun c hc => by
     have e1 : sk j 0 = 0 := by unfold sk; rw [if_pos (by omega)]
     rw [e1, h 0 (c + 1) (by omega) (by omega) (by omega), if_neg (by omega)])
    rw [this]; grind)]
   have e : det n (fun r c => A (sk 0 r) (c + 1)) = pr n fun l => d (l + 1) := det_diag (fun r c hr hc => by
    have e1 : sk 0 r = r + 1 := by unfold sk; rw [if_neg (by omega)]
    rw [e1, h _ _ (by omega) (by omega) (by omega)]
    by_cases e : r = c
    ·rw [if_pos (by omega), if_pos e]
    ·rw [if_neg (by omega), if_neg e])
   rw [e, hv 0 (by omega), pr_head, if_pos rfl]
   have e2 : (pr n fun i => if i + 1 = 0 then v 0 else d (i + 1)) = pr n fun l => d (l + 1) := pr_congr fun l _ => by rw [if_neg (by omega)]
   rw [e2]
   unfold sg
   rw [if_pos rfl]; grind
  ·rw [det_head (fun r hr hlt => by rw [h r 0 hlt (by omega) (fun h => e h.symm), if_neg (by omega)]), h 0 0 (by omega) (by omega) (fun h => e h.symm), if_pos rfl, pr_head, if_neg (fun h => e h.symm)]
   congr 1
   obtain ⟨i, rfl⟩ : ∃ j, i = j + 1 := ⟨i - 1, by omega⟩
   rw [ih (i := i) (d := fun l => d (l + 1)) (v := fun l => v (l + 1)) (by omega) (fun r c hr hc hne => by
    rw [h _ _ (by omega) (by omega) (by omega)]
    by_cases e : r = c
    ·rw [if_pos (by omega), if_pos e]
    ·rw [if_neg (by omega), if_neg e]) (fun r hr => hv _ (by omega))]
   refine pr_congr fun l _ => ?_
   by_cases e : l = i
   ·rw [if_pos e, if_pos (by omega)]
   ·rw [if_neg e, if_neg (by omega)]
theorem det_stop {n k : Nat} {d : Nat → Rat} {A : Mat} (hk : k < n) (h : ∀ r c, r < n → c < k → A r c = if r = c then d c else 0) (hz : ∀ r, k ≤ r → r < n → A r k = 0) : det n A = 0 := by
 induction n generalizing A d k with
 | zero => omega
 | succ n ih =>
  cases k with
  | zero =>
   rw [det]
   exact sm_zero fun i hi => by rw [hz i (by omega) hi]; grind
  | succ k =>
   rw [det_head (fun r hr hlt => by rw [h r 0 hlt (by omega), if_neg (by omega)]), ih (k := k) (d := fun i => d (i + 1)) (by omega) (fun r c hr hc => by
    rw [h _ _ (by omega) (by omega)]
    by_cases e : r = c
    ·rw [if_pos (by omega), if_pos e]
    ·rw [if_neg (by omega), if_neg e]) (fun r h1 h2 => hz _ (by omega) (by omega))]
   grind
def Wh (x : Rat) : Prop := ∃ z : Int, x = z
theorem Wh.add {x y : Rat} (hx : Wh x) (hy : Wh y) : Wh (x + y) := by
 obtain ⟨a, rfl⟩ := hx; obtain ⟨b, rfl⟩ := hy; exact ⟨a + b, by rw [Rat.intCast_add]⟩
theorem Wh.mul {x y : Rat} (hx : Wh x) (hy : Wh y) : Wh (x * y) := by
 obtain ⟨a, rfl⟩ := hx; obtain ⟨b, rfl⟩ := hy; exact ⟨a * b, by rw [Rat.intCast_mul]⟩
theorem Wh.sg (i : Nat) : Wh (sg i) := by
 unfold Mx.sg; split
 ·exact ⟨1, rfl⟩
 ·exact ⟨-1, rfl⟩
theorem Wh.sm {n : Nat} {f : Nat → Rat} (h : ∀ i, i < n → Wh (f i)) : Wh (sm n f) := by
 induction n with
 | zero => exact ⟨0, rfl⟩
 | succ n ih => exact (ih fun i hi => h i (by omega)).add (h n (by omega))
theorem Wh.det {n : Nat} {A : Mat} (h : ∀ r c, r < n → c < n → Wh (A r c)) : Wh (det n A) := by
 induction n generalizing A with
 | zero => exact ⟨1, rfl⟩
 | succ n ih => exact Wh.sm fun i hi => ((Wh.sg i).mul (h i 0 hi (by omega))).mul (ih fun r c hr hc => h _ _ (sk_lt hr) (by omega))
def Le (x b : Rat) : Prop := -b ≤ x ∧ x ≤ b
theorem Le.add {x y a b : Rat} (hx : Le x a) (hy : Le y b) : Le (x + y) (a + b) := by
 obtain ⟨h1, h2⟩ := hx; obtain ⟨h3, h4⟩ := hy; exact ⟨by grind, by grind⟩
theorem Le.pos {x a : Rat} (h : Le x a) : 0 ≤ a := by obtain ⟨h1, h2⟩ := h; grind
theorem Le.mul {x y a b : Rat} (hx : Le x a) (hy : Le y b) : Le (x * y) (a * b) := by
 have pa := hx.pos
 have pb := hy.pos
 obtain ⟨h1, h2⟩ := hx
 obtain ⟨h3, h4⟩ := hy
 have e1 : 0 ≤ (a - x) * (b + y) := Rat.mul_nonneg (by grind) (by grind)
 have e2 : 0 ≤ (a + x) * (b - y) := Rat.mul_nonneg (by grind) (by grind)
 have e3 : 0 ≤ (a - x) * (b - y) := Rat.mul_nonneg (by grind) (by grind)
 have e4 : 0 ≤ (a + x) * (b + y) := Rat.mul_nonneg (by grind) (by grind)
 exact ⟨by grind, by grind⟩
theorem Le.sm {n : Nat} {f : Nat → Rat} {b : Rat} (h : ∀ i, i < n → Le (f i) b) : Le (sm n f) (n * b) := by
 induction n with
 | zero => exact ⟨by simp only [Mx.sm]; grind, by simp only [Mx.sm]; grind⟩
 | succ n ih =>
  have h1 := (ih fun i hi => h i (by omega)).add (h n (by omega))
  have e : ((n + 1 : Nat) : Rat) * b = n * b + b := by rw [Rat.natCast_add]; grind
  rw [e]; exact h1
def bd (b : Rat) : Nat → Rat
 | 0 => 1
 | n + 1 => ((n + 1 : Nat) : Rat) * (b * bd b n)
theorem Le.det {n : Nat} {A : Mat} {b : Rat} (h : ∀ r c, r < n → c < n → Le (A r c) b) : Le (det n A) (bd b n) := by
 induction n generalizing A with
 | zero => exact ⟨by simp only [Mx.det, bd]; grind, by simp only [Mx.det, bd]; grind⟩
 | succ n ih =>
  refine Le.sm fun i hi => ?_
  have h1 : Le (Mx.sg i * A i 0) b := by
   obtain ⟨h1, h2⟩ := h i 0 hi (by omega)
   unfold Mx.sg
   split <;> exact ⟨by grind, by grind⟩
  exact h1.mul (ih fun r c hr hc => h _ _ (sk_lt hr) (by omega))
end Mx
namespace Mx
def Rq (n : Nat) (s : Rat) (A B : Mat) : Prop := ∀ f : Nat → Nat, det n (fun r c => B r (f c)) = s * det n (fun r c => A r (f c))
theorem Rq.refl {n : Nat} {A : Mat} : Rq n 1 A A := fun f => by grind
theorem Rq.trans {n : Nat} {A B C : Mat} {s t : Rat} (h : Rq n s A B) (k : Rq n t B C) : Rq n (t * s) A C := fun f => by rw [k f, h f]; grind
theorem Rq.congr {n : Nat} {A B C : Mat} {s : Rat} (h : Rq n s A B) (k : ∀ r, r < n → C r = B r) : Rq n s A C := fun f => by
 rw [← h f]; exact det_congr fun r c hr _ => by rw [k r hr]
theorem Rq.swap {n i k : Nat} {A : Mat} (hik : i ≠ k) (hi : i < n) (hk : k < n) : Rq n (-1) A (fun r => A (sw i k r)) := fun f => by
 have := det_swap (A := fun r c => A r (f c)) hik hi hk
 rw [this]; grind
theorem Rq.row {n i k : Nat} {A : Mat} (t : Rat) (hik : i ≠ k) (hi : i < n) (hk : k < n) : Rq n 1 A (up A i fun c => A i c + t * A k c) := fun f => by
 have := det_row (A := fun r c => A r (f c)) t hik hi hk
 have e : (fun r c => up A i (fun c => A i c + t * A k c) r (f c)) = up (fun r c => A r (f c)) i fun c => A i (f c) + t * A k (f c) := by
  funext r c; unfold up; split <;> rfl
 rw [e, this]; grind
def Sol (n m : Nat) (A : Mat) (x : Nat → Rat) : Prop := ∀ r, r < n → sm m (fun c => A r c * x c) = 0
theorem Sol.congr {n m : Nat} {A B : Mat} {x : Nat → Rat} (h : Sol n m A x) (k : ∀ r, r < n → B r = A r) : Sol n m B x := fun r hr => by rw [k r hr]; exact h r hr
theorem sw_lt {i k r n : Nat} (hi : i < n) (hk : k < n) (hr : r < n) : sw i k r < n := by unfold sw; split <;> (try split) <;> omega
theorem sw_sw (i k r : Nat) : sw i k (sw i k r) = r := by
 unfold sw; repeat' split
 all_goals omega
theorem Sol.swap {n m i k : Nat} {A : Mat} {x : Nat → Rat} (hi : i < n) (hk : k < n) (h : Sol n m (fun r => A (sw i k r)) x) : Sol n m A x := fun r hr => by
 have := h (sw i k r) (sw_lt hi hk hr)
 simp only [sw_sw] at this
 exact this
theorem Sol.row {n m i k : Nat} {A : Mat} {x : Nat → Rat} {t : Rat} (hik : i ≠ k) (hi : i < n) (hk : k < n) (h : Sol n m (up A i fun c => A i c + t * A k c) x) : Sol n m A x := fun r hr => by
 by_cases e : r = i
 ·subst e
  have h1 := h r hi
  have h2 := h k hk
  rw [up_eq] at h1
  rw [up_ne (fun h => hik h.symm)] at h2
  have h3 : sm m (fun c => (A r c + t * A k c) * x c) = sm m (fun c => A r c * x c) + t * sm m (fun c => A k c * x c) := by
   rw [← sm_mul, ← sm_add]
   exact sm_congr fun c _ => by grind
  rw [h3, h2] at h1
  grind
 ·have h1 := h r hr
  rwa [up_ne e] at h1
def el (k : Nat) (U : Mat) : Mat := fun i j => if i = k then U k j else U i j - U i k / U k k * U k j
theorem el_part {n m k : Nat} {U : Mat} (hk : k < n) (b : Nat) (hb : b ≤ n) : ∃ V : Mat, Rq n 1 U V ∧ (∀ x, Sol n m V x → Sol n m U x) ∧ ∀ r, V r = if r < b then el k U r else U r := by
 induction b with
 | zero => exact ⟨U, .refl, fun _ h => h, fun r => by rw [if_neg (by omega)]⟩
 | succ b ih =>
  obtain ⟨V, h1, h2, h3⟩ := ih (by omega)
  by_cases e : b = k
  ·subst e
   refine ⟨V, h1, h2, fun r => ?_⟩
   rw [h3]
   by_cases hr : r < b
   ·rw [if_pos hr, if_pos (by omega)]
   ·rw [if_neg hr]
    by_cases hb2 : r < b + 1
    ·rw [if_pos hb2]
     obtain rfl : r = b := by omega
     funext c; unfold el; rw [if_pos rfl]
    ·rw [if_neg hb2]
  ·have hVk : V k = U k := by
     rw [h3]
     split
     ·funext c; unfold el; rw [if_pos rfl]
     ·rfl
   have hVb : V b = U b := by rw [h3, if_neg (by omega)]
   refine ⟨up V b fun c => V b c + (-(U b k / U k k)) * V k c, ?_, fun x hx => h2 x (Sol.row e (by omega) hk hx), fun r => ?_⟩
   ·have := h1.trans (Rq.row (A := V) (-(U b k / U k k)) e (by omega) hk)
    rwa [show (1 : Rat) * 1 = 1 by grind] at this
   ·by_cases hr : r = b
    ·subst hr
     rw [up_eq, if_pos (by omega), hVb, hVk]
     funext c
     unfold el
     rw [if_neg e]; grind
    ·rw [up_ne hr, h3]
     by_cases h4 : r < b
     ·rw [if_pos h4, if_pos (by omega)]
     ·rw [if_neg h4, if_neg (by omega)]
theorem Rq.el {n k : Nat} {U : Mat} (hk : k < n) : Rq n 1 U (el k U) := by
 obtain ⟨V, h1, _, h3⟩ := el_part (m := 0) (U := U) hk n (Nat.le_refl _)
 exact h1.congr fun r hr => by rw [h3, if_pos hr]
theorem Sol.el {n m k : Nat} {U : Mat} {x : Nat → Rat} (hk : k < n) (h : Sol n m (el k U) x) : Sol n m U x := by
 obtain ⟨V, _, h2, h3⟩ := el_part (m := m) (U := U) hk n (Nat.le_refl _)
 exact h2 x (h.congr fun r hr => by rw [h3, if_pos hr])
structure St (n : Nat) (A : Mat) (k : Nat) (U : Mat) (d : Nat → Rat) (s : Rat) : Prop where
 rq : Rq n s A U
 sgn : s = 1 ∨ s = -1
 sol : ∀ m x, Sol n m U x → Sol n m A x
 dia : ∀ l, l < k → ∀ r, r < n → U r l = if r = l then d l else 0
 nz : ∀ l, l < k → d l ≠ 0
 uni : ∀ r, k ≤ r → r < n → ∃ q, ∀ r', r' < n → U r' q = if r' = r then 1 else 0
theorem St.start {n : Nat} {A : Mat} (d : Nat → Rat) (h : ∀ r, r < n → ∃ q, ∀ r', r' < n → A r' q = if r' = r then 1 else 0) : St n A 0 A d 1 :=
 ⟨.refl, .inl rfl, fun _ _ h => h, fun l hl => absurd hl (by omega), fun l hl => absurd hl (by omega), fun r _ hr => h r hr⟩
theorem St.swap {n k i : Nat} {A U : Mat} {d : Nat → Rat} {s : Rat} (h : St n A k U d s) (hi : k < i) (hin : i < n) : St n A k (fun r => U (sw i k r)) d (-s) := by
 have hk : k < n := by omega
 refine ⟨?_, ?_, fun m x hx => h.sol m x (Sol.swap hin hk hx), fun l hl r hr => ?_, h.nz, fun r hkr hr => ?_⟩
 ·have := h.rq.trans (Rq.swap (A := U) (i := i) (k := k) (by omega) hin hk)
  rwa [show (-1 : Rat) * s = -s by grind] at this
 ·rcases h.sgn with rfl | rfl
  ·exact .inr rfl
  ·exact .inl (by grind)
 ·show U (sw i k r) l = _
  rw [h.dia l hl _ (sw_lt hin hk hr)]
  unfold sw
  by_cases h1 : r = i
  ·rw [if_pos h1, if_neg (by omega), if_neg (by omega)]
  ·rw [if_neg h1]
   by_cases h2 : r = k
   ·rw [if_pos h2, if_neg (by omega), if_neg (by omega)]
   ·rw [if_neg h2]
 ·obtain ⟨q, hq⟩ := h.uni (sw i k r) (by unfold sw; split <;> (try split) <;> omega) (sw_lt hin hk hr)
  refine ⟨q, fun r' hr' => ?_⟩
  show U (sw i k r') q = _
  rw [hq _ (sw_lt hin hk hr')]
  by_cases e : r' = r
  ·rw [e, if_pos rfl, if_pos rfl]
  ·rw [if_neg e, if_neg (fun h => e (by rw [← sw_sw i k r', h, sw_sw]))]
theorem St.step {n k : Nat} {A U : Mat} {d : Nat → Rat} {s : Rat} (h : St n A k U d s) (hk : k < n) (h0 : U k k ≠ 0) : St n A (k + 1) (el k U) (fun l => if l = k then U k k else d l) s := by
 refine ⟨?_, h.sgn, fun m x hx => h.sol m x (Sol.el hk hx), fun l hl r hr => ?_, fun l hl => ?_, fun r hkr hr => ?_⟩
 ·have := h.rq.trans (Rq.el (U := U) hk)
  rwa [show (1 : Rat) * s = s by grind] at this
 ·unfold el
  by_cases e : l = k
  ·subst e
   rw [if_pos rfl]
   by_cases hr2 : r = l
   ·rw [if_pos hr2, if_pos hr2]
   ·rw [if_neg hr2, if_neg hr2, Rat.div_mul_cancel h0]; grind
  ·have hlk : l < k := by omega
   have hkl : U k l = 0 := by rw [h.dia l hlk k hk, if_neg (by omega)]
   rw [hkl, if_neg e]
   by_cases hr2 : r = k
   ·rw [if_pos hr2, if_neg (by omega)]
   ·rw [if_neg hr2, h.dia l hlk r hr]; grind
 ·by_cases e : l = k
  ·show (if l = k then U k k else d l) ≠ 0
   rw [if_pos e]; exact h0
  ·show (if l = k then U k k else d l) ≠ 0
   rw [if_neg e]; exact h.nz l (by omega)
 ·obtain ⟨q, hq⟩ := h.uni r (by omega) hr
  refine ⟨q, fun r' hr' => ?_⟩
  unfold el
  have hkq : U k q = 0 := by rw [hq k hk, if_neg (by omega)]
  by_cases e : r' = k
  ·rw [if_pos e, hkq, if_neg (by omega)]
  ·rw [if_neg e, hkq, hq r' hr']; grind
theorem pr_at {k i : Nat} {d : Nat → Rat} {v : Rat} (hi : i < k) (h0 : d i ≠ 0) : pr k (fun l => if l = i then v else d l) = pr k d / d i * v := by
 induction k with
 | zero => omega
 | succ k ih =>
  rw [pr, pr]
  by_cases e : k = i
  ·subst e
   rw [if_pos rfl, pr_congr (g := d) (fun l hl => by rw [if_neg (by omega)])]
   rw [Rat.div_def]
   have : d k * (d k)⁻¹ = 1 := Rat.mul_inv_cancel _ h0
   grind
  ·rw [if_neg e, ih (by omega)]
   rw [Rat.div_def, Rat.div_def]; grind
theorem pr_ones {n k : Nat} {d : Nat → Rat} (h : k ≤ n) : pr n (fun l => if l < k then d l else 1) = pr k d := by
 induction n with
 | zero => obtain rfl : k = 0 := by omega
           rfl
 | succ n ih =>
  by_cases e : k = n + 1
  ·subst e
   exact pr_congr fun l hl => by rw [if_pos hl]
  ·rw [pr, ih (by omega), if_neg (by omega)]; grind
def av (k : Nat) (d : Nat → Rat) (U : Mat) (i j : Nat) : Rat := if i < k then pr k d / d i * U i j else pr k d * U i j
theorem St.av_det {n k : Nat} {A U : Mat} {d : Nat → Rat} {s : Rat} (h : St n A k U d s) (hk : k ≤ n) {i : Nat} (hi : i < n) (j : Nat) : ∃ f : Nat → Nat, av k d U i j = s * det n (fun r c => A r (f c)) := by
 have hq : ∀ r, ∃ q, k ≤ r → r < n → ∀ r', r' < n → U r' q = if r' = r then 1 else 0 := fun r => by
  by_cases h1 : k ≤ r ∧ r < n
  ·obtain ⟨q, hq⟩ := h.uni r h1.1 h1.2
   exact ⟨q, fun _ _ => hq⟩
  ·exact ⟨0, fun h2 h3 => absurd ⟨h2, h3⟩ h1⟩
 refine ⟨fun c => if c = i then j else if c < k then c else (hq c).choose, ?_⟩
 rw [← h.rq, det_col (i := i) (d := fun l => if l < k then d l else 1) (v := fun r => U r j) hi (fun r c hr hc hne => ?_) (fun r hr => by rw [if_pos rfl])]
 ·unfold av
  by_cases hik : i < k
  ·rw [if_pos hik, pr_at (d := fun l => if l < k then d l else 1) hi (by rw [if_pos hik]; exact h.nz i hik), pr_ones hk, if_pos hik]
  ·rw [if_neg hik, pr_at (d := fun l => if l < k then d l else 1) hi (by rw [if_neg hik]; decide), pr_ones hk, if_neg hik]
   grind
 ·rw [if_neg hne]
  by_cases hck : c < k
  ·rw [if_pos hck, h.dia c hck r hr]
   simp only [if_pos hck]
  ·rw [if_neg hck, (hq c).choose_spec (by omega) hc r hr]
   simp only [if_neg hck]
theorem av_head {k j : Nat} {d : Nat → Rat} {U : Mat} : av k d U k j = pr k d * U k j := by unfold av; rw [if_neg (by omega)]
theorem pr_step {k : Nat} {d : Nat → Rat} {U : Mat} : pr (k + 1) (fun l => if l = k then U k k else d l) = av k d U k k := by
 rw [pr, if_pos rfl, av_head, pr_congr (g := d) (fun l hl => by rw [if_neg (by omega)])]
theorem av_same {k j : Nat} {d : Nat → Rat} {U : Mat} (h0 : U k k ≠ 0) : av (k + 1) (fun l => if l = k then U k k else d l) (el k U) k j = av k d U k j := by
 unfold av
 rw [if_pos (by omega), if_neg (by omega), pr_step, av_head]
 simp only [if_true]
 unfold el
 rw [if_pos rfl, Rat.div_def]
 have : U k k * (U k k)⁻¹ = 1 := Rat.mul_inv_cancel _ h0
 grind
theorem av_step {k i j : Nat} {d : Nat → Rat} {U : Mat} (hik : i ≠ k) (h0 : U k k ≠ 0) : av (k + 1) (fun l => if l = k then U k k else d l) (el k U) i j * pr k d = av k d U k k * av k d U i j - av k d U i k * av k d U k j := by
 have e1 : U i k / U k k * U k k = U i k := Rat.div_mul_cancel h0
 unfold av
 rw [pr_step]
 simp only [Nat.lt_irrefl, if_false]
 unfold el
 rw [av_head]
 by_cases h : i < k
 ·rw [if_pos (by omega), if_pos h, if_pos h, if_neg hik, if_neg (by omega : ¬ i = k)]
  rw [Rat.div_def, Rat.div_def] at *
  grind
 ·rw [if_neg (by omega), if_neg h, if_neg h, if_neg hik]
  rw [Rat.div_def] at *
  grind
end Mx
namespace Mx
theorem pr_det {n k : Nat} {A U : Mat} {d : Nat → Rat} {s : Rat} (h : St n A k U d s) (hk : k ≤ n) : ∃ f : Nat → Nat, pr k d = s * det n (fun r c => A r (f c)) := by
 have hq : ∀ r, ∃ q, k ≤ r → r < n → ∀ r', r' < n → U r' q = if r' = r then 1 else 0 := fun r => by
  by_cases h1 : k ≤ r ∧ r < n
  ·obtain ⟨q, hq⟩ := h.uni r h1.1 h1.2
   exact ⟨q, fun _ _ => hq⟩
  ·exact ⟨0, fun h2 h3 => absurd ⟨h2, h3⟩ h1⟩
 refine ⟨fun c => if c < k then c else (hq c).choose, ?_⟩
 rw [← h.rq, det_diag (d := fun l => if l < k then d l else 1) (fun r c hr hc => ?_), pr_ones hk]
 by_cases hck : c < k
 ·simp only [if_pos hck]
  exact h.dia c hck r hr
 ·rw [if_neg hck, (hq c).choose_spec (by omega) hc r hr, if_neg hck]
def Ent (A : Mat) (n : Nat) (b : Rat) : Prop := ∀ r c, r < n → Wh (A r c) ∧ Le (A r c) b
theorem Wh.neg {x : Rat} (h : Wh x) : Wh (-1 * x) := Wh.mul ⟨-1, rfl⟩ h
theorem sgn_wh {s x : Rat} (hs : s = 1 ∨ s = -1) (h : Wh x) : Wh (s * x) := by
 rcases hs with rfl | rfl
 ·exact Wh.mul ⟨1, rfl⟩ h
 ·exact h.neg
theorem sgn_le {s x b : Rat} (hs : s = 1 ∨ s = -1) (h : Le x b) : Le (s * x) b := by
 obtain ⟨h1, h2⟩ := h
 rcases hs with rfl | rfl <;> exact ⟨by grind, by grind⟩
theorem St.av_wh {n k : Nat} {A U : Mat} {d : Nat → Rat} {s b : Rat} (h : St n A k U d s) (hA : Ent A n b) (hk : k ≤ n) {i : Nat} (hi : i < n) (j : Nat) : Wh (av k d U i j) ∧ Le (av k d U i j) (bd b n) := by
 obtain ⟨f, e⟩ := h.av_det hk hi j
 rw [e]
 exact ⟨sgn_wh h.sgn (Wh.det fun r c hr _ => (hA r _ hr).1), sgn_le h.sgn (Le.det fun r c hr _ => (hA r _ hr).2)⟩
theorem St.pr_wh {n k : Nat} {A U : Mat} {d : Nat → Rat} {s b : Rat} (h : St n A k U d s) (hA : Ent A n b) (hk : k ≤ n) : Wh (pr k d) ∧ Le (pr k d) (bd b n) := by
 obtain ⟨f, e⟩ := pr_det h hk
 rw [e]
 exact ⟨sgn_wh h.sgn (Wh.det fun r c hr _ => (hA r _ hr).1), sgn_le h.sgn (Le.det fun r c hr _ => (hA r _ hr).2)⟩
def nx (Z : Nat → Nat → Int) (k : Nat) (last : Int) (i j : Nat) : Int := if i = k then Z k j else (Z k k * Z i j - Z i k * Z k j) / last
def msg (m : Bool) : Rat := if m = true then -1 else 1
theorem msg_not (m : Bool) : msg (!m) = -msg m := by
 cases m
 ·rfl
 ·show (1 : Rat) = - -1
  grind
def Gz (n w : Nat) (A : Mat) (k lo : Nat) (m : Bool) (Z : Nat → Nat → Int) (last : Int) : Prop :=
 ∃ U d, St n A k U d (msg m) ∧ (∀ i j, lo ≤ i → i < n → lo ≤ j → j < w → (Z i j : Rat) = av k d U i j) ∧ (last : Rat) = pr k d
theorem Gz.start {n w : Nat} {A : Mat} {Z : Nat → Nat → Int} (h : ∀ r, r < n → ∃ q, ∀ r', r' < n → A r' q = if r' = r then 1 else 0) (hZ : ∀ i j, i < n → j < w → (Z i j : Rat) = A i j) : Gz n w A 0 0 false Z 1 :=
 ⟨A, fun _ => 1, .start _ h, fun i j _ hi _ hj => by rw [hZ i j hi hj]; unfold av; rw [if_neg (by omega)]; simp only [pr]; grind, by simp only [pr]; rfl⟩
theorem Gz.congr {n w k lo : Nat} {A : Mat} {m : Bool} {Z Y : Nat → Nat → Int} {last : Int} (h : Gz n w A k lo m Z last) (e : ∀ i j, lo ≤ i → i < n → lo ≤ j → j < w → Y i j = Z i j) : Gz n w A k lo m Y last := by
 obtain ⟨U, d, h1, h2, h3⟩ := h
 exact ⟨U, d, h1, fun i j a b c e' => by rw [e i j a b c e']; exact h2 i j a b c e', h3⟩
theorem Gz.swap {n w k lo i : Nat} {A : Mat} {m : Bool} {Z : Nat → Nat → Int} {last : Int} (h : Gz n w A k lo m Z last) (hlo : lo ≤ k) (hi : k < i) (hin : i < n) : Gz n w A k lo (!m) (fun r => Z (sw i k r)) last := by
 obtain ⟨U, d, h1, h2, h3⟩ := h
 refine ⟨fun r => U (sw i k r), d, by rw [msg_not]; exact h1.swap hi hin, fun r j h4 h5 h6 h7 => ?_, h3⟩
 rw [h2 (sw i k r) j (by unfold sw; split <;> (try split) <;> omega) (sw_lt hin (by omega) h5) h6 h7]
 unfold av
 by_cases hr : r < k
 ·have e : sw i k r = r := by unfold sw; rw [if_neg (by omega), if_neg (by omega)]
  rw [e]
  simp only [if_pos hr, e]
 ·have e : ¬ sw i k r < k := by unfold sw; split <;> (try split) <;> omega
  rw [if_neg e, if_neg hr]
theorem Gz.last_ne {n w k lo : Nat} {A : Mat} {m : Bool} {Z : Nat → Nat → Int} {last : Int} (h : Gz n w A k lo m Z last) : last ≠ 0 := by
 obtain ⟨U, d, h1, h2, h3⟩ := h
 have h4 := pr_ne h1.nz
 intro e
 rw [e] at h3
 exact h4 h3.symm
theorem int_eq {a b : Int} (h : (a : Rat) = b) : a = b := Rat.intCast_inj.1 h
theorem Gz.div {n w k lo i j : Nat} {A : Mat} {b : Rat} {m : Bool} {Z : Nat → Nat → Int} {last : Int} (h : Gz n w A k lo m Z last) (hA : Ent A n b) (hlo : lo ≤ k) (hk : k < n) (hkw : k < w) (h0 : Z k k ≠ 0) (hi1 : lo ≤ i) (hi : i < n) (hik : i ≠ k) (hj1 : lo ≤ j) (hj : j < w) :
    nx Z k last i j * last = Z k k * Z i j - Z i k * Z k j := by
 have hl := h.last_ne
 obtain ⟨U, d, h1, h2, h3⟩ := h
 have hU : U k k ≠ 0 := fun e => by
  have := h2 k k hlo hk hlo hkw
  rw [av_head, e] at this
  refine h0 (int_eq ?_)
  rw [this]; simp
 obtain ⟨⟨z, hz⟩, _⟩ := (h1.step hk hU).av_wh hA (by omega) hi j
 have e := av_step (i := i) (j := j) hik hU (d := d)
 rw [hz, ← h3, ← h2 k k hlo hk hlo hkw, ← h2 i j hi1 hi hj1 hj, ← h2 i k hi1 hi hlo hkw, ← h2 k j hlo hk hj1 hj] at e
 have e2 : z * last = Z k k * Z i j - Z i k * Z k j := int_eq (by rw [Rat.intCast_mul, Rat.intCast_sub, Rat.intCast_mul, Rat.intCast_mul]; exact e)
 unfold nx
 rw [if_neg hik, ← e2, Int.mul_ediv_cancel _ hl]
theorem Gz.step {n w k lo lo' : Nat} {A : Mat} {b : Rat} {m : Bool} {Z Y : Nat → Nat → Int} {last : Int} (h : Gz n w A k lo m Z last) (hA : Ent A n b) (hlo : lo ≤ k) (hk : k < n) (hkw : k < w) (h0 : Z k k ≠ 0) (hl' : lo ≤ lo') (hY : ∀ i j, lo' ≤ i → i < n → lo' ≤ j → j < w → Y i j = nx Z k last i j) :
    Gz n w A (k + 1) lo' m Y (Z k k) := by
 have hl := h.last_ne
 have hd := fun i j hi1 hi hik hj1 hj => Gz.div (i := i) (j := j) h hA hlo hk hkw h0 hi1 hi hik hj1 hj
 obtain ⟨U, d, h1, h2, h3⟩ := h
 have hU : U k k ≠ 0 := fun e => by
  have := h2 k k hlo hk hlo hkw
  rw [av_head, e] at this
  refine h0 (int_eq ?_)
  rw [this]; simp
 refine ⟨el k U, fun l => if l = k then U k k else d l, h1.step hk hU, fun i j a1 a2 a3 a4 => ?_, ?_⟩
 ·rw [hY i j a1 a2 a3 a4]
  by_cases hik : i = k
  ·subst hik
   rw [av_same hU, ← h2 i j (by omega) hk (by omega) a4]
   unfold nx; rw [if_pos rfl]
  ·have e := av_step (i := i) (j := j) hik hU (d := d)
   rw [← h3, ← h2 k k hlo hk hlo hkw, ← h2 i j (by omega) a2 (by omega) a4, ← h2 i k (by omega) a2 hlo hkw, ← h2 k j hlo hk (by omega) a4] at e
   have e2 := hd i j (by omega) a2 hik (by omega) a4
   have e3 : (nx Z k last i j : Rat) * last = Z k k * Z i j - Z i k * Z k j := by
    rw [← Rat.intCast_mul, ← Rat.intCast_mul, ← Rat.intCast_mul, ← Rat.intCast_sub, e2]
   rw [← e] at e3
   have hl2 : (last : Rat) ≠ 0 := fun e => hl (int_eq (by rw [e]; rfl))
   have e4 : (nx Z k last i j : Rat) = nx Z k last i j * last * (last : Rat)⁻¹ := by
    rw [Rat.mul_assoc, Rat.mul_inv_cancel _ hl2, Rat.mul_one]
   rw [e4, e3, Rat.mul_assoc, Rat.mul_inv_cancel _ hl2, Rat.mul_one]
 ·rw [pr_step, ← h2 k k hlo hk hlo hkw]
def bdN (b : Nat) : Nat → Nat
 | 0 => 1
 | n + 1 => (n + 1) * (b * bdN b n)
theorem bd_nat (b n : Nat) : bd (b : Rat) n = (bdN b n : Nat) := by
 induction n with
 | zero => rfl
 | succ n ih => rw [bd, bdN, ih, Rat.natCast_mul, Rat.natCast_mul]
theorem Le.nat {z : Int} {b : Nat} (h : Le (z : Rat) (b : Nat)) : z.natAbs ≤ b := by
 obtain ⟨h1, h2⟩ := h
 have h3 : z ≤ (b : Int) := Rat.intCast_le_intCast.1 h2
 have h4 : -(b : Int) ≤ z := Rat.intCast_le_intCast.1 (by rw [Rat.intCast_neg]; exact h1)
 omega
def big : Nat := bdN 1000000000000000 8
theorem bd_big {n : Nat} (h : n ≤ 8) : bdN 1000000000000000 n ≤ big := by
 have : n = 0 ∨ n = 1 ∨ n = 2 ∨ n = 3 ∨ n = 4 ∨ n = 5 ∨ n = 6 ∨ n = 7 ∨ n = 8 := by omega
 rcases this with rfl | rfl | rfl | rfl | rfl | rfl | rfl | rfl | rfl <;> decide
theorem Gz.bound {n w k lo i j : Nat} {A : Mat} {m : Bool} {Z : Nat → Nat → Int} {last : Int} (h : Gz n w A k lo m Z last) (hA : Ent A n (1000000000000000 : Nat)) (hn : n ≤ 8) (hk : k ≤ n) (hi1 : lo ≤ i) (hi : i < n) (hj1 : lo ≤ j) (hj : j < w) : (Z i j).natAbs ≤ big := by
 obtain ⟨U, d, h1, h2, h3⟩ := h
 have := (h1.av_wh hA hk hi j).2
 rw [← h2 i j hi1 hi hj1 hj, bd_nat] at this
 exact Nat.le_trans this.nat (bd_big hn)
theorem Gz.bound_last {n w k lo : Nat} {A : Mat} {m : Bool} {Z : Nat → Nat → Int} {last : Int} (h : Gz n w A k lo m Z last) (hA : Ent A n (1000000000000000 : Nat)) (hn : n ≤ 8) (hk : k ≤ n) : last.natAbs ≤ big := by
 obtain ⟨U, d, h1, h2, h3⟩ := h
 have := (h1.pr_wh hA hk).2
 rw [← h3, bd_nat] at this
 exact Nat.le_trans this.nat (bd_big hn)
def Ns (n : Nat) (A : Mat) : Prop := ∀ x, Sol n n A x → ∀ i, i < n → x i = 0
theorem St.null {n k : Nat} {A U : Mat} {d : Nat → Rat} {s : Rat} (h : St n A k U d s) (hN : Ns n A) (hk : k < n) (hz : ∀ i, k ≤ i → i < n → U i k = 0) : False := by
 have := hN (fun c => if c = k then 1 else if c < k then -(U c k / d c) else 0) (h.sol n _ fun r hr => ?_) k hk
 ·rw [if_pos rfl] at this
  exact absurd this (by decide)
 ·by_cases hrk : r < k
  ·rw [sm_two (k := r) (l := k) hrk hk (fun c hc h1 h2 => ?_)]
   ·rw [if_neg (by omega), if_pos hrk, if_pos rfl, h.dia r hrk r hr, if_pos rfl]
    have : d r * (d r)⁻¹ = 1 := Rat.mul_inv_cancel _ (h.nz r hrk)
    rw [Rat.div_def]; grind
   ·rw [if_neg h2]
    by_cases hc2 : c < k
    ·rw [h.dia c hc2 r hr, if_neg (by omega)]; grind
    ·rw [if_neg hc2]; grind
  ·refine sm_zero fun c hc => ?_
   by_cases h2 : c = k
   ·subst h2; rw [hz r (by omega) hr]; grind
   ·rw [if_neg h2]
    by_cases hc2 : c < k
    ·rw [h.dia c hc2 r hr, if_neg (by omega)]; grind
    ·rw [if_neg hc2]; grind
theorem Gz.col0 {n w k lo : Nat} {A : Mat} {m : Bool} {Z : Nat → Nat → Int} {U : Mat} {d : Nat → Rat} (h1 : St n A k U d (msg m)) (h2 : ∀ i j, lo ≤ i → i < n → lo ≤ j → j < w → (Z i j : Rat) = av k d U i j) (hlo : lo ≤ k) (hkw : k < w) (hz : ∀ i, k ≤ i → i < n → Z i k = 0) : ∀ i, k ≤ i → i < n → U i k = 0 := by
 intro i h4 h5
 have h6 := h2 i k (by omega) h5 hlo hkw
 rw [hz i h4 h5] at h6
 unfold av at h6
 rw [if_neg (by omega)] at h6
 rcases Rat.mul_eq_zero.1 h6.symm with h7 | h7
 ·exact absurd h7 (pr_ne h1.nz)
 ·exact h7
theorem Gz.pivot {n w k lo : Nat} {A : Mat} {m : Bool} {Z : Nat → Nat → Int} {last : Int} (h : Gz n w A k lo m Z last) (hN : Ns n A) (hlo : lo ≤ k) (hk : k < n) (hkw : k < w) (hz : ∀ i, k ≤ i → i < n → Z i k = 0) : False := by
 obtain ⟨U, d, h1, h2, h3⟩ := h
 exact h1.null hN hk (Gz.col0 h1 h2 hlo hkw hz)
theorem msg_sq (m : Bool) : msg m * msg m = 1 := by
 cases m
 ·show (1 : Rat) * 1 = 1; grind
 ·show (-1 : Rat) * -1 = 1; grind
theorem Gz.det0 {n w k lo : Nat} {A : Mat} {m : Bool} {Z : Nat → Nat → Int} {last : Int} (h : Gz n w A k lo m Z last) (hlo : lo ≤ k) (hk : k < n) (hkw : k < w) (hz : ∀ i, k ≤ i → i < n → Z i k = 0) : det n A = 0 := by
 obtain ⟨U, d, h1, h2, h3⟩ := h
 have h4 : det n U = 0 := det_stop hk (d := d) (fun r c hr hc => by rw [h1.dia c hc r hr]) (Gz.col0 h1 h2 hlo hkw hz)
 have h5 := h1.rq fun c => c
 have e1 : (fun r c => U r c) = U := rfl
 have e2 : (fun r c => A r c) = A := rfl
 rw [e1, e2, h4] at h5
 have := msg_sq m
 calc det n A = msg m * msg m * det n A := by rw [this]; grind
  _ = 0 := by rw [Rat.mul_assoc, ← h5]; grind
theorem Gz.det {n w lo : Nat} {A : Mat} {m : Bool} {Z : Nat → Nat → Int} {last : Int} (h : Gz n w A n lo m Z last) : det n A = msg m * last := by
 obtain ⟨U, d, h1, h2, h3⟩ := h
 have h4 : Mx.det n U = pr n d := det_diag (fun r c hr hc => by rw [h1.dia c hc r hr])
 have h5 := h1.rq fun c => c
 have e1 : (fun r c => U r c) = U := rfl
 have e2 : (fun r c => A r c) = A := rfl
 rw [e1, e2, h4] at h5
 have := msg_sq m
 calc Mx.det n A = msg m * msg m * Mx.det n A := by rw [this]; grind
  _ = msg m * last := by rw [Rat.mul_assoc, ← h5, h3]
theorem Gz.diag {n w : Nat} {A : Mat} {m : Bool} {Z : Nat → Nat → Int} {last : Int} (h : Gz n w A n 0 m Z last) (hw : n ≤ w) {i : Nat} (hi : i < n) : Z i i = last := by
 obtain ⟨U, d, h1, h2, h3⟩ := h
 refine int_eq ?_
 rw [h2 i i (by omega) hi (by omega) (by omega), h3]
 unfold av
 rw [if_pos hi, h1.dia i hi i hi, if_pos rfl, Rat.div_mul_cancel (h1.nz i hi)]
def Solves (n : Nat) (A : Mat) (x : Nat → Rat) : Prop := ∀ r, r < n → sm n (fun c => A r c * x c) = A r n
theorem St.solves {n : Nat} {A U : Mat} {d : Nat → Rat} {s : Rat} (h : St n A n U d s) : Solves n A (fun i => U i n / d i) := by
 have := h.sol (n + 1) (fun c => if c = n then -1 else U c n / d c) (fun r hr => ?_)
 ·intro r hr
  have h2 := this r hr
  rw [sm, sm_congr (g := fun c => A r c * (U c n / d c)) (fun c hc => by simp only []; rw [if_neg (by omega)])] at h2
  simp only [if_true] at h2
  grind
 ·rw [sm, sm_one (k := r) hr (fun c hc hne => by rw [h.dia c hc r hr, if_neg (by omega)]; grind), h.dia r hr r hr, if_pos rfl]
  simp only [if_true]
  rw [if_neg (by omega)]
  have : d r * (d r)⁻¹ = 1 := Rat.mul_inv_cancel _ (h.nz r hr)
  rw [Rat.div_def]; grind
theorem Gz.solves {n : Nat} {A : Mat} {m : Bool} {Z : Nat → Nat → Int} {last : Int} (h : Gz n (n + 1) A n 0 m Z last) : Solves n A (fun i => (Z i n : Rat) / (last : Rat)) := by
 obtain ⟨U, d, h1, h2, h3⟩ := h
 have := h1.solves
 intro r hr
 rw [← this r hr]
 refine sm_congr fun c hc => ?_
 show A r c * ((Z c n : Rat) / last) = A r c * (U c n / d c)
 rw [h2 c n (by omega) hc (by omega) (by omega), h3]
 unfold av
 rw [if_pos hc]
 have e1 := pr_ne h1.nz
 have : pr n d * (pr n d)⁻¹ = 1 := Rat.mul_inv_cancel _ e1
 rw [Rat.div_def, Rat.div_def, Rat.div_def]
 grind
theorem Ns.uniq {n : Nat} {A : Mat} {x y : Nat → Rat} (hN : Ns n A) (hx : Solves n A x) (hy : Solves n A y) : ∀ i, i < n → x i = y i := by
 intro i hi
 have := hN (fun c => x c - y c) (fun r hr => by
  have e : sm n (fun c => A r c * (x c - y c)) = sm n (fun c => A r c * x c) + -1 * sm n (fun c => A r c * y c) := by
   rw [← sm_mul, ← sm_add]; exact sm_congr fun c _ => by grind
  rw [e, hx r hr, hy r hr]; grind) i hi
 grind
theorem Ns.full {n : Nat} {A : Mat} (hN : Ns n A) (h : ∀ r, r < n → ∃ q, ∀ r', r' < n → A r' q = if r' = r then 1 else 0) (k : Nat) (hk : k ≤ n) : ∃ U d s, St n A k U d s := by
 induction k with
 | zero => exact ⟨A, fun _ => 1, 1, .start _ h⟩
 | succ k ih =>
  obtain ⟨U, d, s, h1⟩ := ih (by omega)
  by_cases hU : U k k = 0
  ·by_cases hz : ∀ i, k ≤ i → i < n → U i k = 0
   ·exact (h1.null hN hk hz).elim
   ·obtain ⟨i, hi⟩ : ∃ i, ¬ (k ≤ i → i < n → U i k = 0) := Classical.not_forall.1 hz
    have hi1 : k ≤ i := Classical.byContradiction fun h => hi fun h' => absurd h' h
    have hi2 : i < n := Classical.byContradiction fun h => hi fun _ h' => absurd h' h
    have hi3 : U i k ≠ 0 := fun h => hi fun _ _ => h
    have hik : k < i := by
     rcases Nat.lt_or_ge k i with h | h
     ·exact h
     ·obtain rfl : i = k := by omega
      exact absurd hU hi3
    have h2 := h1.swap hik hi2
    have e : U (sw i k k) k = U i k := by
     have : sw i k k = i := by unfold sw; rw [if_neg (by omega), if_pos rfl]
     rw [this]
    exact ⟨_, _, _, h2.step hk (by show U (sw i k k) k ≠ 0; rw [e]; exact hi3)⟩
  ·exact ⟨_, _, _, h1.step hk hU⟩
def colA (A : Mat) (n i : Nat) : Mat := fun r c => A r (if c = i then n else c)
theorem cramer {n : Nat} {A : Mat} {x : Nat → Rat} (hN : Ns n A) (h : ∀ r, r < n → ∃ q, ∀ r', r' < n → A r' q = if r' = r then 1 else 0) (hx : Solves n A x) : Mx.det n A ≠ 0 ∧ ∀ i, i < n → Mx.det n (colA A n i) = x i * Mx.det n A := by
 obtain ⟨U, d, s, h1⟩ := hN.full h n (Nat.le_refl n)
 have hs : s * s = 1 := by rcases h1.sgn with rfl | rfl <;> grind
 have h4 : Mx.det n U = pr n d := det_diag (fun r c hr hc => by rw [h1.dia c hc r hr])
 have h5 := h1.rq fun c => c
 have e1 : (fun r c => U r c) = U := rfl
 have e2 : (fun r c => A r c) = A := rfl
 rw [e1, e2, h4] at h5
 have h6 := pr_ne h1.nz
 refine ⟨fun e => h6 (by rw [h5, e]; grind), fun i hi => ?_⟩
 have h7 := h1.rq fun c => if c = i then n else c
 rw [det_col (i := i) (d := d) (v := fun r => U r n) hi (fun r c hr hc hne => by
  rw [if_neg hne, h1.dia c hc r hr]) (fun r hr => by rw [if_pos rfl]), pr_at hi (h1.nz i hi)] at h7
 have h8 := hN.uniq hx h1.solves i hi
 have h9 : Mx.det n (colA A n i) = s * (pr n d / d i * U i n) := by
  rw [h7, ← Rat.mul_assoc, hs]; unfold colA; grind
 have h10 : Mx.det n A = s * pr n d := by rw [h5, ← Rat.mul_assoc, hs]; grind
 rw [h9, h10, h8, Rat.div_def, Rat.div_def]; grind
end Mx
namespace Ns
open Mx Classical
inductive Rc (n : Nat) (h : Nat → Nat → Int) : Nat → Nat → Prop
 | refl {i : Nat} : Rc n h i i
 | step {i j k : Nat} (hi : i < n) (hj : j < n) (hh : 0 < h i j) (hr : Rc n h j k) : Rc n h i k
theorem Rc.trans {n : Nat} {h : Nat → Nat → Int} {i j k : Nat} (a : Rc n h i j) (b : Rc n h j k) : Rc n h i k := by
 induction a with
 | refl => exact b
 | step hi hj hh _ ih => exact .step hi hj hh (ih b)
def Mu (n : Nat) (h : Nat → Nat → Int) (i j : Nat) : Prop := Rc n h i j ∧ Rc n h j i
theorem Mu.refl {n : Nat} {h : Nat → Nat → Int} {i : Nat} : Mu n h i i := ⟨.refl, .refl⟩
theorem Mu.symm {n : Nat} {h : Nat → Nat → Int} {i j : Nat} (a : Mu n h i j) : Mu n h j i := ⟨a.2, a.1⟩
theorem Mu.trans {n : Nat} {h : Nat → Nat → Int} {i j k : Nat} (a : Mu n h i j) (b : Mu n h j k) : Mu n h i k := ⟨a.1.trans b.1, b.2.trans a.2⟩
def zs : Nat → (Nat → Int) → Int
 | 0, _ => 0
 | n + 1, f => zs n f + f n
theorem zs_congr {n : Nat} {f g : Nat → Int} (h : ∀ i, i < n → f i = g i) : zs n f = zs n g := by
 induction n with
 | zero => rfl
 | succ n ih => rw [zs, zs, ih (fun i hi => h i (by omega)), h n (by omega)]
theorem zs_le {n : Nat} {f g : Nat → Int} (h : ∀ i, i < n → f i ≤ g i) : zs n f ≤ zs n g := by
 induction n with
 | zero => exact Int.le_refl _
 | succ n ih =>
  have := ih (fun i hi => h i (by omega))
  have := h n (by omega)
  rw [zs, zs]; omega
theorem zs_nonneg {n : Nat} {f : Nat → Int} (h : ∀ i, i < n → 0 ≤ f i) : 0 ≤ zs n f := by
 induction n with
 | zero => exact Int.le_refl _
 | succ n ih =>
  have := ih (fun i hi => h i (by omega))
  have := h n (by omega)
  rw [zs]; omega
theorem zs_term {n : Nat} {f : Nat → Int} (h : ∀ i, i < n → 0 ≤ f i) {k : Nat} (hk : k < n) : f k ≤ zs n f := by
 induction n with
 | zero => omega
 | succ n ih =>
  have h1 := zs_nonneg (n := n) fun i hi => h i (by omega)
  have h2 := h n (by omega)
  rw [zs]
  by_cases e : k = n
  ·subst e; omega
  ·have := ih (fun i hi => h i (by omega)) (by omega); omega
theorem zs_add {n : Nat} {f g : Nat → Int} : zs n (fun i => f i + g i) = zs n f + zs n g := by
 induction n with
 | zero => rfl
 | succ n ih => simp only [zs, ih]; omega
theorem zs_eq_zero {n : Nat} {f : Nat → Int} (h : ∀ i, i < n → 0 ≤ f i) (h0 : zs n f ≤ 0) : ∀ i, i < n → f i = 0 := fun i hi => by
 have := zs_term h hi
 have := h i hi
 omega
theorem zs_cast {n : Nat} {f : Nat → Int} : ((zs n f : Int) : Rat) = sm n fun i => (f i : Rat) := by
 induction n with
 | zero => rfl
 | succ n ih => rw [zs, sm, Rat.intCast_add, ih]
def Circ (n : Nat) (u : Nat → Int) (h : Nat → Nat → Int) : Prop :=
 ∃ j, j < n ∧ 0 < u j ∧ ∀ m, m < n → Mu n h j m → u m ≤ zs n fun i => if Mu n h j i then h i m else 0
structure Ok (n : Nat) (u : Nat → Int) (h : Nat → Nat → Int) : Prop where
 n8 : n ≤ 8
 u0 : ∀ i, i < n → 0 ≤ u i
 u1 : ∀ i, i < n → u i ≤ 1000000000000000
 h0 : ∀ i j, i < n → j < n → 0 ≤ h i j
 h1 : ∀ i j, i < n → j < n → h i j ≤ 1000000000000000
 held : ∀ j, j < n → zs n (fun i => h i j) ≤ u j
theorem Ok.le {n : Nat} {u : Nat → Int} {h : Nat → Nat → Int} (H : Ok n u h) {i j : Nat} (hi : i < n) (hj : j < n) : h i j ≤ u j :=
 Int.le_trans (zs_term (f := fun i => h i j) (fun i hi => H.h0 i j hi hj) hi) (H.held j hj)
noncomputable def cnt (p : Nat → Prop) : Nat → Nat
 | 0 => 0
 | n + 1 => cnt p n + if p n then 1 else 0
theorem cnt_le {p q : Nat → Prop} {n : Nat} (h : ∀ i, i < n → p i → q i) : cnt p n ≤ cnt q n := by
 induction n with
 | zero => exact Nat.le_refl _
 | succ n ih =>
  have h1 := ih (fun i hi => h i (by omega))
  rw [cnt, cnt]
  by_cases hp : p n
  ·rw [if_pos hp, if_pos (h n (by omega) hp)]; omega
  ·rw [if_neg hp]; omega
theorem cnt_lt {p q : Nat → Prop} {n k : Nat} (h : ∀ i, i < n → p i → q i) (hk : k < n) (hq : q k) (hp : ¬ p k) : cnt p n < cnt q n := by
 induction n with
 | zero => omega
 | succ n ih =>
  rw [cnt, cnt]
  by_cases e : k = n
  ·subst e
   have := cnt_le (fun i hi => h i (by omega)) (n := k) (p := p) (q := q)
   rw [if_neg hp, if_pos hq]; omega
  ·have h1 := ih (fun i hi => h i (by omega)) (by omega)
   by_cases hp2 : p n
   ·rw [if_pos hp2, if_pos (h n (by omega) hp2)]; omega
   ·rw [if_neg hp2]; omega
theorem cnt_bound {p : Nat → Prop} (n : Nat) : cnt p n ≤ n := by
 induction n with
 | zero => exact Nat.le_refl _
 | succ n ih => rw [cnt]; split <;> omega
theorem exists_max {p : Nat → Prop} (f : Nat → Nat) (B : Nat) (hB : ∀ i, p i → f i ≤ B) {i : Nat} (hi : p i) : ∃ j, p j ∧ ∀ k, p k → f k ≤ f j := by
 obtain ⟨m, hm⟩ : ∃ m, m = B - f i := ⟨_, rfl⟩
 induction m using Nat.strongRecOn generalizing i with
 | ind m ih =>
  by_cases h : ∀ k, p k → f k ≤ f i
  ·exact ⟨i, hi, h⟩
  ·obtain ⟨k, hk⟩ := not_forall.1 h
   have hk1 : p k := byContradiction fun h' => hk fun h2 => absurd h2 h'
   have hk2 : ¬ f k ≤ f i := fun h' => hk fun _ => h'
   have := hB k hk1
   exact ih (B - f k) (by omega) hk1 rfl
theorem exists_min {p : Nat → Prop} (f : Nat → Nat) {i : Nat} (hi : p i) : ∃ j, p j ∧ ∀ k, p k → f j ≤ f k := by
 obtain ⟨m, hm⟩ : ∃ m, m = f i := ⟨_, rfl⟩
 induction m using Nat.strongRecOn generalizing i with
 | ind m ih =>
  by_cases h : ∀ k, p k → f i ≤ f k
  ·exact ⟨i, hi, h⟩
  ·obtain ⟨k, hk⟩ := not_forall.1 h
   have hk1 : p k := byContradiction fun h' => hk fun h2 => absurd h2 h'
   have hk2 : ¬ f i ≤ f k := fun h' => hk fun _ => h'
   exact ih (f k) (by omega) hk1 rfl
def mat (u : Nat → Int) (h : Nat → Nat → Int) (i j : Nat) : Int := if u i = 0 then (if i = j then 1 else 0) else if i = j then u i - h i i else -h i j
def rhs (u a : Nat → Int) (i : Nat) : Int := if u i = 0 then 0 else a i
theorem sm_nonpos {n : Nat} {f : Nat → Rat} (h : ∀ i, i < n → f i ≤ 0) : sm n f ≤ 0 := by
 induction n with
 | zero => exact Rat.le_refl
 | succ n ih =>
  have h1 := ih (fun i hi => h i (by omega))
  have h2 := h n (by omega)
  rw [sm]; grind
theorem sm_nonneg {n : Nat} {f : Nat → Rat} (h : ∀ i, i < n → 0 ≤ f i) : 0 ≤ sm n f := by
 induction n with
 | zero => exact Rat.le_refl
 | succ n ih =>
  have h1 := ih (fun i hi => h i (by omega))
  have h2 := h n (by omega)
  rw [sm]; grind
theorem sm_all_zero {n : Nat} {f : Nat → Rat} (h : ∀ i, i < n → f i ≤ 0) (h0 : 0 ≤ sm n f) : ∀ i, i < n → f i = 0 := by
 induction n with
 | zero => intro i hi; omega
 | succ n ih =>
  have h1 := sm_nonpos (n := n) (fun i hi => h i (by omega))
  have h2 := h n (by omega)
  rw [sm] at h0
  intro i hi
  by_cases e : i = n
  ·subst e; grind
  ·exact ih (fun i hi => h i (by omega)) (by grind) i (by omega)
theorem sm_swap {n m : Nat} {f : Nat → Nat → Rat} : sm n (fun i => sm m (fun j => f i j)) = sm m (fun j => sm n (fun i => f i j)) := by
 induction n with
 | zero => simp only [sm]; exact (sm_zero fun _ _ => rfl).symm
 | succ n ih => simp only [sm, ih, sm_add]
theorem sm_mulr {n : Nat} {f : Nat → Rat} (t : Rat) : sm n (fun i => f i * t) = sm n f * t := by
 rw [Rat.mul_comm, ← sm_mul]
 exact sm_congr fun i _ => Rat.mul_comm _ _
theorem sm_diag {n k : Nat} (hk : k < n) (v : Rat) : sm n (fun i => if i = k then v else 0) = v := by
 rw [sm_one hk (fun i _ hne => by rw [if_neg hne]), if_pos rfl]
theorem nonneg {n : Nat} {u : Nat → Int} {h : Nat → Nat → Int} (H : Ok n u h) (hc : ¬ Circ n u h) {x : Nat → Rat} (hx : ∀ i, i < n → 0 ≤ sm n (fun j => (mat u h i j : Rat) * x j)) : ∀ i, i < n → 0 ≤ x i := by
 intro i0 hi0
 refine byContradiction fun hneg => hc ?_
 let N : Nat → Prop := fun i => i < n ∧ x i < 0
 have hN0 : N i0 := ⟨hi0, by grind⟩
 have hu : ∀ i, N i → 0 < u i := by
  intro i hi
  have := H.u0 i hi.1
  refine byContradiction fun h' => ?_
  have e : u i = 0 := by omega
  have h2 := hx i hi.1
  rw [sm_one hi.1 (fun j hj hne => by unfold mat; rw [if_pos e, if_neg (fun h => hne h.symm)]; simp)] at h2
  unfold mat at h2
  rw [if_pos e, if_pos rfl] at h2
  have := hi.2
  have e1 : ((1 : Int) : Rat) = 1 := rfl
  rw [e1] at h2
  grind
 -- the sum of the rows of N, column by column
 have hcol : ∀ j, j < n → sm n (fun i => if N i then (mat u h i j : Rat) else 0) = (((if N j then u j else 0) - zs n (fun i => if N i then h i j else 0) : Int) : Rat) := by
  intro j hj
  have e1 : sm n (fun i => if N i then (mat u h i j : Rat) else 0) = sm n (fun i => (if i = j then (if N j then (u j : Rat) else 0) else 0) + (-1) * (if N i then (h i j : Rat) else 0)) := by
   refine sm_congr fun i hi => ?_
   by_cases hNi : N i
   ·rw [if_pos hNi, if_pos hNi]
    unfold mat
    rw [if_neg (by have := hu i hNi; omega)]
    by_cases e : i = j
    ·subst e; rw [if_pos rfl, if_pos rfl, if_pos hNi, Rat.intCast_sub]; grind
    ·rw [if_neg e, if_neg e, Rat.intCast_neg]; grind
   ·rw [if_neg hNi, if_neg hNi]
    by_cases e : i = j
    ·subst e; rw [if_pos rfl, if_neg hNi]; grind
    ·rw [if_neg e]; grind
  rw [e1, sm_add, sm_mul, sm_diag hj, Rat.intCast_sub, zs_cast]
  have e2 : sm n (fun i => if N i then (h i j : Rat) else 0) = sm n (fun i => ((if N i then h i j else 0 : Int) : Rat)) := sm_congr fun i _ => by split <;> rfl
  rw [e2]
  by_cases hNj : N j
  ·rw [if_pos hNj, if_pos hNj]; grind
  ·rw [if_neg hNj, if_neg hNj]
   have e0 : ((0 : Int) : Rat) = 0 := rfl
   rw [e0]; grind
 have hle : ∀ j, j < n → zs n (fun i => if N i then h i j else 0) ≤ zs n (fun i => h i j) := fun j hj => zs_le fun i hi => by
  have := H.h0 i j hi hj
  split <;> omega
 have hge : ∀ j, j < n → 0 ≤ zs n (fun i => if N i then h i j else 0) := fun j hj => zs_nonneg fun i hi => by
  have := H.h0 i j hi hj
  split <;> omega
 have htot : 0 ≤ sm n (fun j => sm n (fun i => if N i then (mat u h i j : Rat) else 0) * x j) := by
  have e : sm n (fun j => sm n (fun i => if N i then (mat u h i j : Rat) else 0) * x j) = sm n (fun i => if N i then sm n (fun j => (mat u h i j : Rat) * x j) else 0) := by
   have e1 : ∀ j, sm n (fun i => if N i then (mat u h i j : Rat) else 0) * x j = sm n (fun i => (if N i then (mat u h i j : Rat) else 0) * x j) := fun j => (sm_mulr (x j)).symm
   rw [sm_congr (fun j _ => e1 j), ← sm_swap]
   refine sm_congr fun i hi => ?_
   by_cases hNi : N i
   ·rw [if_pos hNi]; exact sm_congr fun j _ => by rw [if_pos hNi]
   ·rw [if_neg hNi]; exact sm_zero fun j _ => by rw [if_neg hNi]; grind
  rw [e]
  exact sm_nonneg fun i hi => by
   by_cases hNi : N i
   ·rw [if_pos hNi]; exact hx i hi
   ·rw [if_neg hNi]; exact Rat.le_refl
 have hterm : ∀ j, j < n → sm n (fun i => if N i then (mat u h i j : Rat) else 0) * x j ≤ 0 := by
  intro j hj
  rw [hcol j hj]
  by_cases hNj : N j
  ·rw [if_pos hNj]
   have h1 : (0 : Int) ≤ u j - zs n (fun i => if N i then h i j else 0) := by have := hle j hj; have := H.held j hj; omega
   have h2 : (0 : Rat) ≤ ((u j - zs n (fun i => if N i then h i j else 0) : Int) : Rat) := Rat.intCast_nonneg.2 h1
   have h3 := hNj.2
   have h4 : 0 ≤ ((u j - zs n (fun i => if N i then h i j else 0) : Int) : Rat) * (-x j) := Rat.mul_nonneg h2 (by grind)
   grind
  ·rw [if_neg hNj]
   have h1 := hge j hj
   have h2 : (0 : Rat) ≤ ((zs n (fun i => if N i then h i j else 0) : Int) : Rat) := Rat.intCast_nonneg.2 h1
   have h3 : 0 ≤ x j := by
    by_cases h' : x j < 0
    ·exact absurd ⟨hj, h'⟩ hNj
    ·grind
   have h4 : 0 ≤ ((zs n (fun i => if N i then h i j else 0) : Int) : Rat) * x j := Rat.mul_nonneg h2 h3
   have e : ((0 - zs n (fun i => if N i then h i j else 0) : Int) : Rat) = -((zs n (fun i => if N i then h i j else 0) : Int) : Rat) := by rw [Rat.intCast_sub]; have e0 : ((0 : Int) : Rat) = 0 := rfl; rw [e0]; grind
   rw [e]; grind
 have hz := sm_all_zero hterm htot
 -- whoever is negative is held by the negative ones alone
 have hall : ∀ j, N j → u j = zs n (fun i => if N i then h i j else 0) := by
  intro j hj
  have h1 := hz j hj.1
  rw [hcol j hj.1, if_pos hj] at h1
  have h2 : x j ≠ 0 := by have := hj.2; grind
  rcases Rat.mul_eq_zero.1 h1 with h3 | h3
  ·have := int_eq (b := 0) (by rw [h3]; rfl)
   omega
  ·exact absurd h3 h2
 have hout : ∀ i j, N j → i < n → 0 < h i j → N i := by
  intro i j hj hi hh
  refine byContradiction fun hn => ?_
  have h1 := hall j hj
  have h2 := H.held j hj.1
  have h3 : zs n (fun i => h i j) = zs n (fun i => if N i then h i j else 0) + zs n (fun i => if N i then 0 else h i j) := by
   rw [← zs_add]; exact zs_congr fun i _ => by split <;> omega
  have h4 := zs_eq_zero (f := fun i => if N i then 0 else h i j) (n := n) (fun i hi => by have := H.h0 i j hi hj.1; show (0 : Int) ≤ if N i then 0 else h i j; split <;> omega) (by omega) i hi
  simp only [if_neg hn] at h4
  omega
 have hback : ∀ m j, Rc n h m j → N j → N m := by
  intro m j hr
  induction hr with
  | refl => exact fun h => h
  | step hi hj hh _ ih => exact fun hN => hout _ _ (ih hN) hi hh
 obtain ⟨j, hj, hmax⟩ := exists_max (p := N) (fun i => cnt (fun m => Rc n h i m) n) n (fun i _ => cnt_bound n) hN0
 refine ⟨j, hj.1, hu j hj, fun m hm hmu => ?_⟩
 have hNm := hback m j hmu.2 hj
 rw [hall m hNm]
 refine Int.le_of_eq (zs_congr fun i hi => ?_)
 by_cases hNi : N i
 ·rw [if_pos hNi]
  by_cases hji : Mu n h j i
  ·rw [if_pos hji]
  ·rw [if_neg hji]
   refine byContradiction fun hne => hji ?_
   have hpos : 0 < h i m := by have := H.h0 i m hi hm; omega
   have hij : Rc n h i j := .step hi hm hpos hmu.2
   refine ⟨byContradiction fun hn => ?_, hij⟩
   have h1 := cnt_lt (p := fun m => Rc n h j m) (q := fun m => Rc n h i m) (n := n) (k := i) (fun k _ hk => hij.trans hk) hi .refl hn
   have h2 := hmax i hNi
   omega
 ·rw [if_neg hNi]
  split
  ·rename_i hji
   exact absurd (hback i j hji.2 hj) hNi
  ·rfl
theorem sing {n : Nat} {u : Nat → Int} {h : Nat → Nat → Int} (H : Ok n u h) (hc : ¬ Circ n u h) {x : Nat → Rat} (hx : ∀ i, i < n → sm n (fun j => (mat u h i j : Rat) * x j) = 0) : ∀ i, i < n → x i = 0 := by
 intro i hi
 have h1 := nonneg H hc (fun i hi => by rw [hx i hi]; exact Rat.le_refl) i hi
 have h2 := nonneg H hc (x := fun i => -1 * x i) (fun i hi => by
  have e : sm n (fun j => (mat u h i j : Rat) * (-1 * x j)) = -1 * sm n (fun j => (mat u h i j : Rat) * x j) := by
   rw [← sm_mul]; exact sm_congr fun j _ => by grind
  rw [e, hx i hi]; grind) i hi
 grind
end Ns
namespace Ns
open Mx Classical
theorem ready {n : Nat} {h : Nat → Nat → Int} (L : Nat → Prop) {i0 : Nat} (hi0 : i0 < n) (hn : ¬ L i0) : ∃ i, i < n ∧ ¬ L i ∧ ∀ j, j < n → Rc n h i j → ¬ Rc n h j i → L j := by
 obtain ⟨i, hi, hmin⟩ := exists_min (p := fun i => i < n ∧ ¬ L i) (fun i => cnt (fun m => Rc n h i m) n) (i := i0) ⟨hi0, hn⟩
 refine ⟨i, hi.1, hi.2, fun j hj hr hr' => byContradiction fun hL => ?_⟩
 have h1 := hmin j ⟨hj, hL⟩
 have h2 := cnt_lt (p := fun m => Rc n h j m) (q := fun m => Rc n h i m) (n := n) (k := i) (fun k _ hk => hr.trans hk) hi.1 .refl hr'
 omega
def Pk (h : Nat → Nat → Int) : Nat → Nat → Nat → Prop
 | 0, i, j => i = j ∨ 0 < h i j
 | k + 1, i, j => Pk h k i j ∨ (Pk h k i k ∧ Pk h k k j)
theorem Pk.refl {h : Nat → Nat → Int} : ∀ {k i : Nat}, Pk h k i i
 | 0, _ => .inl rfl
 | _ + 1, _ => .inl Pk.refl
theorem Pk.col {h : Nat → Nat → Int} {k i : Nat} : Pk h (k + 1) i k ↔ Pk h k i k := ⟨fun a => a.elim id (·.1), .inl⟩
theorem Pk.row {h : Nat → Nat → Int} {k j : Nat} : Pk h (k + 1) k j ↔ Pk h k k j := ⟨fun a => a.elim id (·.2), .inl⟩
theorem Pk.base {h : Nat → Nat → Int} {k i j : Nat} (a : 0 < h i j) : Pk h k i j := by
 induction k with
 | zero => exact .inr a
 | succ k ih => exact .inl ih
theorem Pk.via {h : Nat → Nat → Int} : ∀ {k i m j : Nat}, m < k → Pk h k i m → Pk h k m j → Pk h k i j := by
 intro k
 induction k with
 | zero => intro i m j hm; omega
 | succ k ih =>
  intro i m j hm a b
  by_cases e : m = k
  ·subst e
   exact .inr ⟨Pk.col.1 a, Pk.row.1 b⟩
  ·have hmk : m < k := by omega
   rcases a with a | ⟨a1, a2⟩
   ·rcases b with b | ⟨b1, b2⟩
    ·exact .inl (ih hmk a b)
    ·exact .inr ⟨ih hmk a b1, b2⟩
   ·rcases b with b | ⟨b1, b2⟩
    ·exact .inr ⟨a1, ih hmk a2 b⟩
    ·exact .inr ⟨a1, b2⟩
theorem Pk.rc {n : Nat} {h : Nat → Nat → Int} : ∀ {k i j : Nat}, k ≤ n → i < n → j < n → Pk h k i j → Rc n h i j := by
 intro k
 induction k with
 | zero =>
  intro i j _ hi hj a
  rcases a with rfl | a
  ·exact .refl
  ·exact .step hi hj a .refl
 | succ k ih =>
  intro i j hk hi hj a
  rcases a with a | ⟨a, b⟩
  ·exact ih (by omega) hi hj a
  ·exact (ih (by omega) hi (by omega) a).trans (ih (by omega) (by omega) hj b)
theorem Pk.iff {n : Nat} {h : Nat → Nat → Int} {i j : Nat} (hi : i < n) (hj : j < n) : Pk h n i j ↔ Rc n h i j := by
 refine ⟨Pk.rc (Nat.le_refl n) hi hj, fun a => ?_⟩
 induction a with
 | refl => exact .refl
 | step _ h2 hh _ ih => exact Pk.via h2 (.base hh) (ih h2 hj)
noncomputable def cls (n : Nat) (h : Nat → Nat → Int) (i : Nat) : List Nat := (List.range n).filter fun j => decide (Mu n h i j)
theorem mem_cls {n : Nat} {h : Nat → Nat → Int} {i j : Nat} : j ∈ cls n h i ↔ j < n ∧ Mu n h i j := by
 unfold cls; simp
structure Pts (n : Nat) (h : Nat → Nat → Int) (P : List (List Nat)) : Prop where
 one : ∀ p ∈ P, ∃ i, i < n ∧ p = cls n h i
 all : ∀ j, j < n → ∃ p ∈ P, j ∈ p
 len : P.length ≤ 8
def whole (n : Nat) (u : Nat → Int) (h : Nat → Nat → Int) (p : List Nat) : Prop := ∀ m ∈ p, u m ≤ zs n fun i => if i ∈ p then h i m else 0
theorem circ_iff {n : Nat} {u : Nat → Int} {h : Nat → Nat → Int} {P : List (List Nat)} (H : Pts n h P) : Circ n u h ↔ ∃ p ∈ P, (∃ j ∈ p, 0 < u j) ∧ whole n u h p := by
 constructor
 ·rintro ⟨j, hj, hu, hw⟩
  obtain ⟨p, hp, hjp⟩ := H.all j hj
  obtain ⟨i, hi, rfl⟩ := H.one p hp
  have hij := (mem_cls.1 hjp).2
  refine ⟨_, hp, ⟨j, hjp, hu⟩, fun m hm => ?_⟩
  obtain ⟨hmn, him⟩ := mem_cls.1 hm
  refine Int.le_trans (hw m hmn (hij.symm.trans him)) (Int.le_of_eq (zs_congr fun k hk => ?_))
  by_cases e : Mu n h j k
  ·rw [if_pos e, if_pos (mem_cls.2 ⟨hk, hij.trans e⟩)]
  ·rw [if_neg e, if_neg (fun h' => e (hij.symm.trans (mem_cls.1 h').2))]
 ·rintro ⟨p, hp, ⟨j, hjp, hu⟩, hw⟩
  obtain ⟨i, hi, rfl⟩ := H.one p hp
  obtain ⟨hj, hij⟩ := mem_cls.1 hjp
  refine ⟨j, hj, hu, fun m hm hjm => ?_⟩
  refine Int.le_trans (hw m (mem_cls.2 ⟨hm, hij.trans hjm⟩)) (Int.le_of_eq (zs_congr fun k hk => ?_))
  by_cases e : Mu n h j k
  ·rw [if_pos e, if_pos (mem_cls.2 ⟨hk, hij.trans e⟩)]
  ·rw [if_neg e, if_neg (fun h' => e (hij.symm.trans (mem_cls.1 h').2))]
def ls (l : List Nat) (f : Nat → Int) : Int := (l.map f).sum
theorem ls_filter {n : Nat} {f : Nat → Int} {p : Nat → Bool} : ls ((List.range n).filter p) f = zs n fun i => if p i = true then f i else 0 := by
 induction n with
 | zero => rfl
 | succ n ih =>
  rw [zs, ← ih, List.range_succ, List.filter_append]
  unfold ls
  rw [List.map_append, List.sum_append]
  congr 1
  cases e : p n <;> simp [e]
theorem ls_cls {n : Nat} {h : Nat → Nat → Int} {i : Nat} {f : Nat → Int} : ls (cls n h i) f = zs n fun k => if k ∈ cls n h i then f k else 0 := by
 rw [cls, ls_filter]
 refine zs_congr fun k hk => ?_
 by_cases e : Mu n h i k
 ·rw [if_pos (by simpa using e), if_pos (by simp [hk, e])]
 ·rw [if_neg (by simpa using e), if_neg (by simp [e])]
theorem whole_ls {n : Nat} {u : Nat → Int} {h : Nat → Nat → Int} {i : Nat} : whole n u h (cls n h i) ↔ ∀ m ∈ cls n h i, u m ≤ ls (cls n h i) fun k => h k m := by
 unfold whole
 constructor
 ·intro a m hm; rw [ls_cls]; exact a m hm
 ·intro a m hm; rw [← ls_cls]; exact a m hm
theorem not_circ {n : Nat} {u : Nat → Int} {h : Nat → Nat → Int} (h0 : ∀ i j, i < n → j < n → 0 ≤ h i j) (hf : ∀ j, j < n → 0 < u j → zs n (fun i => h i j) < u j) : ¬ Circ n u h := by
 rintro ⟨j, hj, hu, hw⟩
 have h1 := hw j hj .refl
 have h2 : zs n (fun i => if Mu n h j i then h i j else 0) ≤ zs n fun i => h i j := zs_le fun i hi => by
  have := h0 i j hi hj
  split <;> omega
 have := hf j hj hu
 omega
def Pr (n : Nat) (u : Nat → Int) (h : Nat → Nat → Int) (a : Nat → Int) (x : Nat → Rat) : Prop := ∀ i, i < n → sm n (fun j => (mat u h i j : Rat) * x j) = (rhs u a i : Int)
theorem Pr.uniq {n : Nat} {u : Nat → Int} {h : Nat → Nat → Int} {a : Nat → Int} {x y : Nat → Rat} (H : Ok n u h) (hc : ¬ Circ n u h) (hx : Pr n u h a x) (hy : Pr n u h a y) : ∀ i, i < n → x i = y i := by
 intro i hi
 have := sing H hc (x := fun i => x i - y i) (fun i hi => by
  have e : sm n (fun j => (mat u h i j : Rat) * (x j - y j)) = sm n (fun j => (mat u h i j : Rat) * x j) + -1 * sm n (fun j => (mat u h i j : Rat) * y j) := by
   rw [← sm_mul, ← sm_add]; exact sm_congr fun j _ => by grind
  rw [e, hx i hi, hy i hi]; grind) i hi
 grind
def ext (n : Nat) (Z : Nat → Nat → Int) (r c : Nat) : Rat := if c ≤ n then (Z r c : Rat) else if c = n + 1 + r then 1 else 0
theorem ext_unit {n : Nat} {Z : Nat → Nat → Int} : ∀ r, r < n → ∃ q, ∀ r', r' < n → ext n Z r' q = if r' = r then 1 else 0 := fun r hr =>
 ⟨n + 1 + r, fun r' hr' => by
  unfold ext
  rw [if_neg (by omega)]
  by_cases e : r' = r
  ·rw [if_pos e, if_pos (by omega)]
  ·rw [if_neg e, if_neg (by omega)]⟩
theorem ext_ent {n : Nat} {Z : Nat → Nat → Int} {b : Nat} (hb : 1 ≤ b) (h : ∀ r c, r < n → c ≤ n → (Z r c).natAbs ≤ b) : Ent (ext n Z) n (b : Nat) := by
 intro r c hr
 have hle : ∀ z : Int, z.natAbs ≤ b → Wh (z : Rat) ∧ Le (z : Rat) (b : Nat) := fun z hz => by
  refine ⟨⟨z, rfl⟩, ?_, ?_⟩
  ·have : -(b : Int) ≤ z := by omega
   have := Rat.intCast_le_intCast.2 this
   rw [Rat.intCast_neg] at this
   exact this
  ·have : z ≤ (b : Int) := by omega
   exact Rat.intCast_le_intCast.2 this
 unfold ext
 by_cases h1 : c ≤ n
 ·rw [if_pos h1]; exact hle _ (h r c hr h1)
 ·rw [if_neg h1]
  by_cases h2 : c = n + 1 + r
  ·rw [if_pos h2]; exact hle 1 (by omega)
  ·rw [if_neg h2]; exact hle 0 (by omega)
end Ns
end Go.Proofs.YtckhdiljihhdmaaGreat
