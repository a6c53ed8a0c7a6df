/- Plain arithmetic of decimal digits: no program in sight. -/
namespace Go.Proofs.Ytnfojnlcclccbaa
set_option maxRecDepth 8000
namespace Tx
/-- The number of some decimal digits (the first is the highest). -/
def val (l : List Nat) : Nat := l.foldl (fun n c => 10 * n + c) 0
theorem foldl_val (l : List Nat) : ∀ n, l.foldl (fun n c => 10 * n + c) n = n * 10 ^ l.length + val l := by
  induction l with
  | nil => intro n; simp [val]
  | cons c l ih =>
    intro n
    have h1 := ih (10 * n + c)
    have h2 := ih c
    rw [List.foldl_cons, h1, List.length_cons, Nat.pow_succ]
    show _ = _ + (c :: l).foldl _ 0
    rw [List.foldl_cons, show 10 * 0 + c = c from by omega, h2]
    rw [Nat.add_mul]
    have : 10 * n * 10 ^ l.length = n * (10 ^ l.length * 10) := by rw [Nat.mul_comm 10 n, Nat.mul_assoc, Nat.mul_comm 10]
    omega
theorem val_cons (c : Nat) (l : List Nat) : val (c :: l) = c * 10 ^ l.length + val l := by
  unfold val
  rw [List.foldl_cons, show 10 * 0 + c = c from by omega]
  exact foldl_val l c
theorem val_snoc (l : List Nat) (c : Nat) : val (l ++ [c]) = 10 * val l + c := by
  unfold val; rw [List.foldl_append]; rfl
theorem val_lt (l : List Nat) (h : ∀ c ∈ l, c < 10) : val l < 10 ^ l.length := by
  induction l with
  | nil => simp [val]
  | cons c l ih =>
    have h1 := ih (fun d hd => h d (List.mem_cons_of_mem _ hd))
    have h2 := h c List.mem_cons_self
    rw [val_cons, List.length_cons, Nat.pow_succ]
    have : c * 10 ^ l.length ≤ 9 * 10 ^ l.length := Nat.mul_le_mul_right _ (by omega)
    omega
theorem val_app (l m : List Nat) : val (l ++ m) = val l * 10 ^ m.length + val m := by
  unfold val; rw [List.foldl_append]; exact foldl_val m _
theorem val_take_le (l : List Nat) (k : Nat) : val (l.take k) ≤ val l := by
  have h := val_app (l.take k) (l.drop k)
  rw [List.take_append_drop] at h
  rw [h]
  have : 1 ≤ 10 ^ (l.drop k).length := Nat.one_le_pow _ _ (by omega)
  exact Nat.le_trans (Nat.le_mul_of_pos_right _ this) (Nat.le_add_right _ _)
/-- The decimal digits of a number, the lowest first; none for 0. -/
def dig (n : Nat) : List Nat := if h : n = 0 then [] else n % 10 :: dig (n / 10)
termination_by n
decreasing_by omega
theorem dig_zero : dig 0 = [] := by unfold dig; simp
theorem dig_pos {n : Nat} (h : n ≠ 0) : dig n = n % 10 :: dig (n / 10) := by rw [dig]; simp [h]
theorem dig_lt (n : Nat) : ∀ c ∈ dig n, c < 10 := by
  induction n using Nat.strongRecOn with
  | _ n ih =>
    by_cases h : n = 0
    · rw [h, dig_zero]; simp
    · rw [dig_pos h]
      intro c hc
      rcases List.mem_cons.1 hc with rfl | hc
      · omega
      · exact ih (n / 10) (by omega) c hc
theorem val_dig (n : Nat) : val (dig n).reverse = n := by
  induction n using Nat.strongRecOn with
  | _ n ih =>
    by_cases h : n = 0
    · rw [h, dig_zero]; rfl
    · rw [dig_pos h, List.reverse_cons, val_snoc, ih (n / 10) (by omega)]
      omega
theorem dig_head {n : Nat} (h : n ≠ 0) : ∃ c l, (dig n).reverse = c :: l ∧ c ≠ 0 := by
  induction n using Nat.strongRecOn with
  | _ n ih =>
    rw [dig_pos h, List.reverse_cons]
    by_cases h2 : n / 10 = 0
    · rw [h2, dig_zero]
      exact ⟨n % 10, [], rfl, by omega⟩
    · obtain ⟨c, l, e, hc⟩ := ih (n / 10) (by omega) h2
      exact ⟨c, l ++ [n % 10], by rw [e]; rfl, hc⟩
theorem dig_len {n k : Nat} (h : n < 10 ^ k) : (dig n).length ≤ k := by
  induction k generalizing n with
  | zero =>
    have : n = 0 := by simpa using h
    rw [this, dig_zero]; simp
  | succ k ih =>
    by_cases h0 : n = 0
    · rw [h0, dig_zero]; simp
    · rw [dig_pos h0, List.length_cons]
      have := ih (n := n / 10) (by rw [Nat.pow_succ] at h; omega)
      omega
theorem dig_val_rev (r : List Nat) (h : ∀ c ∈ r, c < 10) (h0 : ∀ c, r.getLast? = some c → c ≠ 0) : dig (val r.reverse) = r := by
  induction r with
  | nil => show dig 0 = []; exact dig_zero
  | cons c r ih =>
    have hc := h c (by simp)
    rw [List.reverse_cons, val_snoc]
    cases r with
    | nil =>
      have hc0 := h0 c rfl
      have hv : val ([] : List Nat).reverse = 0 := rfl
      rw [hv]
      have hne : 10 * 0 + c ≠ 0 := by omega
      rw [dig_pos hne, show (10 * 0 + c) % 10 = c from by omega, show (10 * 0 + c) / 10 = 0 from by omega, dig_zero]
    | cons d r =>
      have e := ih (fun x hx => h x (List.mem_cons_of_mem _ hx)) (fun x hx => h0 x (by rw [List.getLast?_cons_cons]; exact hx))
      have hp : val (d :: r).reverse ≠ 0 := by
        intro hz; rw [hz, dig_zero] at e; exact absurd e (by simp)
      have hne : 10 * val (d :: r).reverse + c ≠ 0 := by omega
      rw [dig_pos hne, show (10 * val (d :: r).reverse + c) / 10 = val (d :: r).reverse from by omega,
        show (10 * val (d :: r).reverse + c) % 10 = c from by omega, e]
/-- Digits without a leading 0 are those of their number. -/
theorem dig_val (l : List Nat) (h : ∀ c ∈ l, c < 10) (h0 : ∀ c m, l = c :: m → c ≠ 0) : (dig (val l)).reverse = l := by
  have := dig_val_rev l.reverse (fun c hc => h c (List.mem_reverse.1 hc)) (fun c hc => by
    rw [List.getLast?_reverse] at hc
    cases l with
    | nil => cases hc
    | cons d m => exact h0 c m (by rw [List.head?_cons] at hc; injection hc with hc; rw [hc]))
  rw [List.reverse_reverse] at this
  rw [this, List.reverse_reverse]
end Tx
end Go.Proofs.Ytnfojnlcclccbaa
