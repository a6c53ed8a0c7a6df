/- The engine of big numbers, part A: limbs, magnitudes, the walks of bigint. -/
import Derived.Test.YtaokneooejbfkaaChecked
import Derived.WalkKit
import Derived.WalkLawsBesides
import Derived.Outline
import Derived.Lib.Hide
import Derived.Deep.QuietTactic
import Derived.BigQuiet
import Derived.IntWalk
import Derived.Deep.Draws
import Derived.Deep.DeepFit
import Derived.Deep.DeepMust
import Derived.Deep.DeepCutAuto
import Init.Data.Nat.Lemmas
import Init.Omega
import Init.Grind
import Derived.Deep.MidRow
import Derived.Deep.WholeRow
import Derived.ChangeKeysEq
import Derived.StillTailTactics
import Derived.Laws.BitsAllLaws
import Derived.Deep.RegionWith
import Derived.Deep.RegionHeld3
namespace Go.Proofs.Ytaokneooejbfkaa
set_option maxRecDepth 8000
open Go.RowKit

theorem ret_int {k : IntKind} {a b : Int} (h : a = b) : Ending.returned (.int k a) = .returned (.int k b) := by rw [h]
theorem ret_bool {a b : Bool} (h : a = b) : Ending.returned (.bool a) = .returned (.bool b) := by rw [h]
theorem res_four {fn : Func} {t u v x : Tmp} (h : fn.results = #[.tmp t, .tmp u, .tmp v, .tmp x]) (tmps : Array Value) (P : Program) (w : World) :
    (results fn tmps).run P w = .ok (.tuple #[tmps.getD t undef, tmps.getD u undef, tmps.getD v undef, tmps.getD x undef]) w := by simp [results, h]
theorem qleft {P : Program} {f : FuncId} {args : Array Value} {w : World} {n : Nat} {v : Value}
    (h : Calls P f args (w.drewN n) fun e w' => e = .returned v ∧ w.drewN n = w') : Calls P f args (w.drewN n) fun e w'' => e = .returned v ∧ ∃ m, w'' = w.drewN m :=
  h.mono fun _ _ ⟨he, hm⟩ => ⟨he, n, hm.symm⟩
theorem below_drewN {B : Nat} {a w : World} (h : Below B a w) (n : Nat) : Below B a (w.drewN n) := ⟨h.os, h.tape, h.output, h.size, h.block⟩
end Go.Proofs.Ytaokneooejbfkaa

namespace Go.Proofs.Ytaokneooejbfkaa
set_option maxRecDepth 8000
open Go.RowKit
def IntsAt (w : World) (A : Option Addr) (hs : List Int) : Prop := hs = [] ∨ ∃ b off, A = some ⟨b, off, none⟩ ∧ b < w.heap.size ∧ ∀ j, j < hs.length → w.cell? ⟨b, off + j, none⟩ = some (.int .i64 (hs.getD j 0))
theorem IntsAt.below {w w' : World} {A : Option Addr} {hs : List Int} (h : IntsAt w A hs) (hb : Below w.heap.size w w') : IntsAt w' A hs := by
  rcases h with h | ⟨b, off, hA, hlt, hc⟩
  · exact .inl h
  · exact .inr ⟨b, off, hA, Nat.lt_of_lt_of_le hlt hb.size, fun j hj => (hb.cell (p := ⟨b, off + j, none⟩) hlt).trans (hc j hj)⟩
theorem IntsAt.alloc {w : World} {A : Option Addr} {hs : List Int} (h : IntsAt w A hs) (o : Obj) : IntsAt (w.alloc o) A hs := h.below ((Below.refl _ _).alloc (Nat.le_refl _) _)
theorem IntsAt.at_ {w : World} {A : Option Addr} {hs : List Int} (h : IntsAt w A hs) {j : Nat} (hj : j < hs.length) : ∃ b off, A = some ⟨b, off, none⟩ ∧ b < w.heap.size ∧ ∀ j, j < hs.length → w.cell? ⟨b, off + j, none⟩ = some (.int .i64 (hs.getD j 0)) := by
  rcases h with h | h
  · subst h; simp at hj
  · exact h
theorem IntsAt.nil (w : World) (A : Option Addr) : IntsAt w A [] := .inl rfl
theorem bup {B B' : Nat} {a b c : World} (h : Below B a b) (k : Below B' b c) (hB : B ≤ B') : Below B a c := h.trans (k.mono hB)
theorem bcell {W w1 : World} (hb : Below W.heap.size W w1) : (∀ b o, b < W.heap.size → w1.cell? ⟨b, o, none⟩ = W.cell? ⟨b, o, none⟩) ∧ (∀ b o, b < W.heap.size → w1.frozen? ⟨b, o, none⟩ = W.frozen? ⟨b, o, none⟩) :=
  ⟨fun b o h => hb.cell (p := ⟨b, o, none⟩) h, fun b o h => hb.frozen (p := ⟨b, o, none⟩) h⟩
theorem bcellB {B : Nat} {W w1 : World} (hb : Below B W w1) : (∀ b o, b < B → w1.cell? ⟨b, o, none⟩ = W.cell? ⟨b, o, none⟩) ∧ (∀ b o, b < B → w1.frozen? ⟨b, o, none⟩ = W.frozen? ⟨b, o, none⟩) :=
  ⟨fun b o h => hb.cell (p := ⟨b, o, none⟩) h, fun b o h => hb.frozen (p := ⟨b, o, none⟩) h⟩
/-- Only draws and new blocks: what the call itself leaves of the world when it makes one block. -/
theorem below_new (w : World) (o : Obj) : Below w.heap.size w (w.alloc o) := (Below.refl _ _).alloc (Nat.le_refl _) _
/-- For regions that draw their order and hold calls: what is kept of one block and of all below it. -/
theorem sw_mk {W0 y : World} {b : Nat} (hb : b < W0.heap.size) (g : Below W0.heap.size W0 y) : (∀ o, y.cell? ⟨b, o, none⟩ = W0.cell? ⟨b, o, none⟩) ∧ Below W0.heap.size W0 y :=
  ⟨fun o => g.cell (p := ⟨b, o, none⟩) hb, g⟩
theorem sw_keep {W0 x y : World} {b : Nat} (hb : b < W0.heap.size) (g : Below x.heap.size x y) (h : Below W0.heap.size W0 x) : (∀ o, y.cell? ⟨b, o, none⟩ = W0.cell? ⟨b, o, none⟩) ∧ Below W0.heap.size W0 y :=
  sw_mk hb (h.trans (g.mono h.size))
end Go.Proofs.Ytaokneooejbfkaa

namespace Go.Proofs.Ytaokneooejbfkaa.Bg
set_option maxRecDepth 8000
/-- 2 to the power 32 * i. -/
@[irreducible] def pw (i : Nat) : Nat := 2 ^ (32 * i)
@[irreducible] def limb (N i : Nat) : Nat := N / pw i % 4294967296
theorem p32 (i : Nat) : pw (i + 1) = pw i * 4294967296 := by
  unfold pw; rw [show 32 * (i + 1) = 32 * i + 32 from by omega, Nat.pow_add]
theorem padd (i j : Nat) : pw (i + j) = pw i * pw j := by
  unfold pw; rw [Nat.mul_add, Nat.pow_add]
theorem pw_zero : pw 0 = 1 := by unfold pw; rfl
theorem ppos (i : Nat) : 0 < pw i := by unfold pw; exact Nat.two_pow_pos _
theorem pmono {i j : Nat} (h : i ≤ j) : pw i ≤ pw j := by unfold pw; exact Nat.pow_le_pow_right (by decide) (by omega)
theorem limb_lt (N i : Nat) : limb N i < 4294967296 := by unfold limb; exact Nat.mod_lt _ (by decide)
theorem limb_zero (i : Nat) : limb 0 i = 0 := by simp [limb]
theorem low_succ (N i : Nat) : N % pw (i + 1) = N % pw i + limb N i * pw i := by
  rw [p32, Nat.mod_mul]
  unfold limb
  rw [Nat.mul_comm (pw i)]
theorem limb_low (N n i : Nat) (h : i < n) : limb (N % pw n) i = limb N i := by
  unfold limb pw
  rw [show 4294967296 = 2 ^ 32 from rfl]
  apply Nat.eq_of_testBit_eq
  intro j
  simp only [Nat.testBit_mod_two_pow, Nat.testBit_div_two_pow]
  by_cases hj : j < 32
  · have h2 : j + 32 * i < 32 * n := by omega
    simp [hj, h2]
  · simp [hj]
theorem limb_high (N n i : Nat) (h : n ≤ i) (hN : N < pw n) : limb N i = 0 := by
  unfold limb
  rw [Nat.div_eq_of_lt (Nat.lt_of_lt_of_le hN (pmono h))]
/-- The limb at place i of a number that is given in parts. -/
theorem limb_mid (L x H i : Nat) (hL : L < pw i) (hx : x < 4294967296) : limb (L + x * pw i + H * pw (i + 1)) i = x := by
  unfold limb
  have e : L + x * pw i + H * pw (i + 1) = L + pw i * (x + 4294967296 * H) := by rw [p32]; grind
  rw [e, Nat.add_mul_div_left _ _ (ppos i), Nat.div_eq_of_lt hL, Nat.zero_add, Nat.add_mul_mod_self_left, Nat.mod_eq_of_lt hx]
theorem low_mid (L R i : Nat) (hL : L < pw i) : (L + R * pw i) % pw i = L := by
  rw [Nat.add_mul_mod_self_right, Nat.mod_eq_of_lt hL]
/-- Low limbs are those of the low part. -/
theorem limb_add_high (L R n i : Nat) (hL : L < pw n) (h : i < n) : limb (L + R * pw n) i = limb L i := by
  rw [← limb_low _ n i h, low_mid L R n hL]
/-- High limbs are those of the high part. -/
theorem limb_up (L R n i : Nat) (hL : L < pw n) : limb (L + R * pw n) (n + i) = limb R i := by
  unfold limb
  rw [padd, ← Nat.div_div_eq_div_mul, Nat.add_mul_div_right _ _ (ppos n), Nat.div_eq_of_lt hL, Nat.zero_add]
/-- Two numbers with the same limbs. -/
theorem limb_ext (n : Nat) : ∀ (N M : Nat), N < pw n → M < pw n → (∀ i, i < n → limb N i = limb M i) → N = M := by
  induction n with
  | zero => intro N M h1 h2 _; rw [pw_zero] at h1 h2; omega
  | succ n ih =>
    intro N M h1 h2 h
    have e : N % pw n = M % pw n := ih _ _ (Nat.mod_lt _ (ppos n)) (Nat.mod_lt _ (ppos n)) (fun i hi => by rw [limb_low _ _ _ hi, limb_low _ _ _ hi]; exact h i (by omega))
    have a := low_succ N n
    have b := low_succ M n
    rw [Nat.mod_eq_of_lt h1] at a
    rw [Nat.mod_eq_of_lt h2] at b
    rw [a, b, e, h n (by omega)]
/-- A number with one limb changed. -/
def setL (N i x : Nat) : Nat := N % pw i + x * pw i + N / pw (i + 1) * pw (i + 1)
theorem setL_limb (N i x j : Nat) (hx : x < 4294967296) : limb (setL N i x) j = if j = i then x else limb N j := by
  unfold setL
  have hm : N % pw i < pw i := Nat.mod_lt _ (ppos i)
  have hlow : N % pw i + x * pw i < pw (i + 1) := by
    rw [p32]
    have : (x + 1) * pw i ≤ 4294967296 * pw i := Nat.mul_le_mul_right _ hx
    rw [Nat.add_mul] at this
    omega
  by_cases h1 : j = i
  · subst h1; rw [if_pos rfl]; exact limb_mid _ _ _ _ hm hx
  · rw [if_neg h1]
    by_cases h2 : j < i
    · rw [limb_add_high _ _ (i + 1) j hlow (by omega), limb_add_high _ _ i j hm h2, limb_low _ _ _ h2]
    · obtain ⟨k, rfl⟩ : ∃ k, j = i + 1 + k := ⟨j - (i + 1), by omega⟩
      rw [limb_up _ _ _ _ hlow]
      unfold limb
      rw [Nat.div_div_eq_div_mul, ← padd]
theorem setL_lt (N i x n : Nat) (hx : x < 4294967296) (hi : i < n) (hN : N < pw n) : setL N i x < pw n := by
  unfold setL
  have hm : N % pw i < pw i := Nat.mod_lt _ (ppos i)
  have hlow : N % pw i + x * pw i < pw (i + 1) := by
    rw [p32]
    have : (x + 1) * pw i ≤ 4294967296 * pw i := Nat.mul_le_mul_right _ hx
    rw [Nat.add_mul] at this
    omega
  obtain ⟨d, rfl⟩ : ∃ d, n = i + 1 + d := ⟨n - (i + 1), by omega⟩
  rw [padd] at hN
  have hq : N / pw (i + 1) < pw d := by rw [Nat.div_lt_iff_lt_mul (ppos _), Nat.mul_comm]; exact hN
  have : (N / pw (i + 1) + 1) * pw (i + 1) ≤ pw d * pw (i + 1) := Nat.mul_le_mul_right _ hq
  rw [Nat.add_mul] at this
  rw [padd (i + 1) d, Nat.mul_comm (pw (i + 1)) (pw d)]
  generalize N / pw (i + 1) * pw (i + 1) = q at *
  generalize pw d * pw (i + 1) = r at *
  omega
/-- Where nothing lies at place i or above it: the limb is laid on top. -/
theorem setL_top (N i x : Nat) (hN : N < pw i) : setL N i x = N + x * pw i := by
  unfold setL
  rw [Nat.mod_eq_of_lt hN, Nat.div_eq_of_lt (Nat.lt_of_lt_of_le hN (pmono (Nat.le_succ i))), Nat.zero_mul, Nat.add_zero]
theorem lt_succ {N i x : Nat} (hN : N < pw i) (hx : x < 4294967296) : N + x * pw i < pw (i + 1) := by
  rw [p32]
  have : (x + 1) * pw i ≤ 4294967296 * pw i := Nat.mul_le_mul_right _ hx
  rw [Nat.add_mul] at this
  omega
/-- How many limbs are used. -/
def top : Nat → Nat → Nat
  | 0, _ => 0
  | k + 1, N => if limb N k = 0 then top k N else k + 1
def used (N : Nat) : Nat := top 32 N
theorem top_le (N : Nat) : ∀ k, top k N ≤ k
  | 0 => Nat.le_refl _
  | k + 1 => by
    unfold top
    have := top_le N k
    split <;> omega
theorem top_down {N k : Nat} (h : limb N k = 0) : top (k + 1) N = top k N := by rw [top, if_pos h]
theorem top_stop {N k : Nat} (h : limb N k ≠ 0) : top (k + 1) N = k + 1 := by rw [top, if_neg h]
theorem top_lt (N k : Nat) (h : N < pw k) : N < pw (top k N) := by
  induction k with
  | zero => exact h
  | succ k ih =>
    unfold top
    split
    · rename_i h0
      have := low_succ N k
      rw [Nat.mod_eq_of_lt h, h0, Nat.zero_mul, Nat.add_zero] at this
      exact ih (by rw [this]; exact Nat.mod_lt _ (ppos k))
    · exact h
theorem top_ge (N k : Nat) : top k N = 0 ∨ pw (top k N - 1) ≤ N := by
  induction k with
  | zero => exact .inl rfl
  | succ k ih =>
    unfold top
    split
    · exact ih
    · rename_i h0
      right
      refine Nat.le_of_not_lt (fun hlt => h0 ?_)
      exact limb_high N k k (Nat.le_refl _) (by simpa using hlt)
/-- Magnitudes are below this. -/
def lim : Nat := pw 32
theorem used_le (N : Nat) : used N ≤ 32 := top_le N 32
theorem used_lt {N : Nat} (h : N < lim) : N < pw (used N) := by unfold used; exact top_lt N 32 h
theorem used_ge (N : Nat) : used N = 0 ∨ pw (used N - 1) ≤ N := by unfold used; exact top_ge N 32
theorem used_zero {N : Nat} (h : N < lim) : used N = 0 ↔ N = 0 := by
  have h1 := used_lt h
  have h2 := used_ge N
  constructor
  · intro e; rw [e, pw_zero] at h1; omega
  · intro e
    rcases h2 with h2 | h2
    · exact h2
    · have h3 := ppos (used N - 1)
      rw [e] at h2 h3
      exact absurd h2 (Nat.not_le_of_lt h3)
/-- The borrow of a subtraction. -/
def brw (x y c : Nat) : Nat := if x < y + c then 1 else 0
theorem brw_le (x y c : Nat) : brw x y c ≤ 1 := by unfold brw; split <;> omega
theorem top_bit (z : Nat) (hz : z < 4294967296) : z / 2147483648 = (z.testBit 31).toNat := by
  rw [Nat.testBit_eq_decide_div_mod_eq]
  have : z / 2 ^ 31 % 2 = z / 2147483648 := by omega
  rw [this]
  by_cases h : z / 2147483648 = 1
  · simp [h]
  · simp [h]; omega
theorem tb31 (z : Nat) (hz : z < 4294967296) : z.testBit 31 = decide (2147483648 ≤ z) := by
  rw [Nat.testBit_eq_decide_div_mod_eq]
  by_cases h : 2147483648 ≤ z
  · simp [h]; omega
  · simp [h]; omega
theorem borrow_bits (x y c : Nat) (hx : x < 4294967296) (hy : y < 4294967296) (hc : c ≤ 1) :
    (((4294967295 ^^^ x) &&& y) ||| ((4294967295 ^^^ (x ^^^ y)) &&& ((x + 4294967296 - y + 4294967296 - c) % 4294967296))) / 2147483648 = brw x y c := by
  generalize hd : (x + 4294967296 - y + 4294967296 - c) % 4294967296 = d
  have hd2 : d < 4294967296 := by omega
  have h1 : (4294967295 ^^^ x) &&& y < 4294967296 := Nat.lt_of_le_of_lt Nat.and_le_right hy
  have h2 : (4294967295 ^^^ (x ^^^ y)) &&& d < 4294967296 := Nat.lt_of_le_of_lt Nat.and_le_right hd2
  rw [top_bit _ (Nat.or_lt_two_pow (n := 32) h1 h2)]
  have h3 : Nat.testBit 4294967295 31 = true := by decide
  simp only [Nat.testBit_or, Nat.testBit_and, Nat.testBit_xor, h3, tb31 x hx, tb31 y hy, tb31 d hd2]
  unfold brw
  by_cases a : 2147483648 ≤ x <;> by_cases b : 2147483648 ≤ y <;> by_cases e : 2147483648 ≤ d <;> simp [a, b, e] <;> omega
theorem div_step (N i : Nat) : N / pw i = limb N i + 4294967296 * (N / pw (i + 1)) := by
  have h := Nat.mod_add_div (N / pw i) 4294967296
  rw [Nat.div_div_eq_div_mul, ← p32] at h
  unfold limb
  exact h.symm
theorem lt_of_div {a b i : Nat} (h : a / pw i < b / pw i) : a < b := by
  refine Nat.lt_of_not_le (fun hle => ?_)
  have := Nat.div_le_div_right (c := pw i) hle
  omega
/-- The comparison of two numbers. -/
def cmp (a b : Nat) : Int := if a < b then -1 else if b < a then 1 else 0
theorem cmp_lt {a b i : Nat} (h : a / pw (i + 1) = b / pw (i + 1)) (hl : limb a i < limb b i) : cmp a b = -1 := by
  have : a < b := lt_of_div (i := i) (by rw [div_step a i, div_step b i, h]; omega)
  simp [cmp, this]
theorem cmp_gt {a b i : Nat} (h : a / pw (i + 1) = b / pw (i + 1)) (hl : limb b i < limb a i) : cmp a b = 1 := by
  have : b < a := lt_of_div (i := i) (by rw [div_step a i, div_step b i, h]; omega)
  have h2 : ¬ a < b := by omega
  simp [cmp, this, h2]
theorem cmp_eq {a b i : Nat} (h : a / pw (i + 1) = b / pw (i + 1)) (hl : limb a i = limb b i) : a / pw i = b / pw i := by
  rw [div_step a i, div_step b i, h, hl]
theorem cmp_same {a b : Nat} (h : a / pw 0 = b / pw 0) : cmp a b = 0 := by
  rw [pw_zero, Nat.div_one, Nat.div_one] at h
  subst h
  simp [cmp]
/-- A sum, limb by limb. -/
structure AddSt (a b i s c : Nat) : Prop where
  lt : s < pw i
  eq : a % pw i + b % pw i = s + c * pw i
  le : c ≤ 1
theorem AddSt.zero (a b : Nat) : AddSt a b 0 0 0 := ⟨ppos 0, by simp [pw_zero, Nat.mod_one], by omega⟩
theorem AddSt.step {a b i s c : Nat} (h : AddSt a b i s c) : AddSt a b (i + 1) (setL s i ((limb a i + limb b i + c) % 4294967296)) ((limb a i + limb b i + c) / 4294967296) := by
  obtain ⟨h1, h2, h3⟩ := h
  have hx := limb_lt a i
  have hy := limb_lt b i
  rw [setL_top _ _ _ h1]
  refine ⟨lt_succ h1 (Nat.mod_lt _ (by decide)), ?_, by omega⟩
  rw [low_succ, low_succ, p32]
  have e := Nat.div_add_mod (limb a i + limb b i + c) 4294967296
  generalize (limb a i + limb b i + c) / 4294967296 = q at *
  generalize (limb a i + limb b i + c) % 4294967296 = r at *
  generalize pw i = p at *
  generalize limb a i = x at *
  generalize limb b i = y at *
  grind
theorem AddSt.done {a b s c : Nat} (h : AddSt a b 32 s c) (ha : a < lim) (hb : b < lim) : s = (a + b) % lim ∧ (c = 0 ↔ a + b < lim) := by
  obtain ⟨h1, h2, h3⟩ := h
  have hl : s < lim := h1
  change a % lim + b % lim = s + c * lim at h2
  rw [Nat.mod_eq_of_lt ha, Nat.mod_eq_of_lt hb] at h2
  have h2' : a + b = s + c * lim := h2
  generalize lim = L at *
  have : c = 0 ∨ c = 1 := by omega
  rcases this with rfl | rfl
  · rw [h2', Nat.zero_mul, Nat.add_zero, Nat.mod_eq_of_lt hl]
    exact ⟨rfl, by simp; omega⟩
  · rw [h2', Nat.one_mul, Nat.add_mod_right, Nat.mod_eq_of_lt hl]
    exact ⟨rfl, by simp⟩
/-- A difference, limb by limb. -/
structure SubSt (a b i s c : Nat) : Prop where
  lt : s < pw i
  eq : a % pw i + c * pw i = b % pw i + s
  le : c ≤ 1
theorem SubSt.zero (a b : Nat) : SubSt a b 0 0 0 := ⟨ppos 0, by simp [pw_zero, Nat.mod_one], by omega⟩
theorem SubSt.step {a b i s c d c2 : Nat} (h : SubSt a b i s c) (hd : d < 4294967296) (hc : c2 ≤ 1) (he : limb a i + c2 * 4294967296 = limb b i + c + d) : SubSt a b (i + 1) (setL s i d) c2 := by
  obtain ⟨h1, h2, h3⟩ := h
  rw [setL_top _ _ _ h1]
  refine ⟨lt_succ h1 hd, ?_, hc⟩
  rw [low_succ, low_succ, p32]
  generalize pw i = p at *
  generalize limb a i = x at *
  generalize limb b i = y at *
  grind
theorem brw_eq (x y c : Nat) (hx : x < 4294967296) (hy : y < 4294967296) (hc : c ≤ 1) : x + brw x y c * 4294967296 = y + c + (x + 4294967296 - y + 4294967296 - c) % 4294967296 := by
  unfold brw
  split <;> omega
/-- The difference of two magnitudes, modulo the limit. -/
def dif (a b : Nat) : Nat := if b ≤ a then a - b else a + lim - b
theorem SubSt.done {a b s c : Nat} (h : SubSt a b 32 s c) (ha : a < lim) (hb : b < lim) : s = dif a b := by
  obtain ⟨h1, h2, h3⟩ := h
  have hl : s < lim := h1
  change a % lim + c * lim = b % lim + s at h2
  rw [Nat.mod_eq_of_lt ha, Nat.mod_eq_of_lt hb] at h2
  have h2' : a + c * lim = b + s := h2
  unfold dif
  generalize lim = L at *
  have : c = 0 ∨ c = 1 := by omega
  rcases this with rfl | rfl
  · rw [if_pos (by omega)]; omega
  · rw [if_neg (by omega)]; omega
theorem dif_lt {a b : Nat} (ha : a < lim) (hb : b < lim) : dif a b < lim := by
  unfold dif; split <;> omega
theorem setL_eq (N i x : Nat) : setL N i x + limb N i * pw i = N + x * pw i := by
  have h1 := Nat.div_add_mod N (pw (i + 1))
  have h2 := low_succ N i
  unfold setL
  generalize N % pw i = p at *
  generalize limb N i * pw i = q at *
  generalize x * pw i = r at *
  rw [Nat.mul_comm] at h1
  generalize N / pw (i + 1) * pw (i + 1) = u at *
  omega
/-- A product, row by row: before row i. -/
structure MulSt (a b m i s : Nat) : Prop where
  lt : s < pw (i + m)
  eq : s = a % pw i * b
/-- Within row i, before column j. -/
structure RowSt (a b m i j t c : Nat) : Prop where
  lt : t < pw (i + m)
  eq : t + c * pw (i + j) = a % pw i * b + limb a i * (b % pw j) * pw i
  le : c < 4294967296
theorem MulSt.zero (a b m : Nat) : MulSt a b m 0 0 := ⟨ppos _, by simp [pw_zero, Nat.mod_one]⟩
theorem MulSt.row {a b m i s : Nat} (h : MulSt a b m i s) : RowSt a b m i 0 s 0 := ⟨h.lt, by rw [pw_zero, Nat.mod_one]; simp [h.eq], by decide⟩
/-- The sum of one column. -/
def col (x y t c : Nat) : Nat := x * y + t + c
theorem col_lt {x y t c : Nat} (hx : x < 4294967296) (hy : y < 4294967296) (ht : t < 4294967296) (hc : c < 4294967296) : col x y t c < 18446744073709551616 := by
  unfold col
  have : x * y ≤ 4294967295 * 4294967295 := Nat.mul_le_mul (by omega) (by omega)
  omega
theorem col_mul {x y : Nat} (hx : x < 4294967296) (hy : y < 4294967296) : x * y ≤ 18446744065119617025 := by
  have : x * y ≤ 4294967295 * 4294967295 := Nat.mul_le_mul (by omega) (by omega)
  omega
theorem RowSt.step {a b m i j t c : Nat} (h : RowSt a b m i j t c) (hj : j < m) :
    RowSt a b m i (j + 1) (setL t (i + j) (col (limb a i) (limb b j) (limb t (i + j)) c % 4294967296)) (col (limb a i) (limb b j) (limb t (i + j)) c / 4294967296) := by
  obtain ⟨h1, h2, h3⟩ := h
  have hx := limb_lt a i
  have hy := limb_lt b j
  have ht := limb_lt t (i + j)
  have hc := col_lt hx hy ht h3
  have e := Nat.div_add_mod (col (limb a i) (limb b j) (limb t (i + j)) c) 4294967296
  refine ⟨setL_lt _ _ _ _ (Nat.mod_lt _ (by decide)) (by omega) h1, ?_, by omega⟩
  have hs := setL_eq t (i + j) (col (limb a i) (limb b j) (limb t (i + j)) c % 4294967296)
  rw [low_succ, ← Nat.add_assoc, p32]
  generalize col (limb a i) (limb b j) (limb t (i + j)) c / 4294967296 = q at *
  generalize col (limb a i) (limb b j) (limb t (i + j)) c % 4294967296 = r at *
  generalize setL t (i + j) r = t2 at *
  unfold col at e
  rw [padd] at *
  generalize pw i = pi at *
  generalize pw j = pj at *
  generalize limb a i = x at *
  generalize limb b j = y at *
  generalize limb t (i + j) = z at *
  grind
theorem RowSt.done {a b m i t c : Nat} (h : RowSt a b m i m t c) (hb : b < pw m) : MulSt a b m (i + 1) (setL t (i + m) c) := by
  obtain ⟨h1, h2, h3⟩ := h
  rw [setL_top _ _ _ h1]
  refine ⟨?_, ?_⟩
  · rw [show i + 1 + m = i + m + 1 from by omega]
    exact lt_succ h1 h3
  · rw [low_succ, h2, Nat.mod_eq_of_lt hb, Nat.add_mul]
    grind
theorem MulSt.done {a b m n s : Nat} (h : MulSt a b m n s) (ha : a < pw n) : s = a * b := by rw [h.eq, Nat.mod_eq_of_lt ha]
theorem limb_low' (N n i : Nat) (h : i < n) : limb N i = limb (N % pw n) i := (limb_low N n i h).symm
theorem limb_div (N n i : Nat) : limb N (n + i) = limb (N / pw n) i := by
  unfold limb
  rw [padd, Nat.div_div_eq_div_mul]
theorem mul_fits {a b : Nat} (ha : a < lim) (hb : b < lim) : a * b / lim < lim := by
  have h0 : 0 < lim := ppos 32
  rw [Nat.div_lt_iff_lt_mul h0]
  exact Nat.mul_lt_mul'' ha hb
theorem div_zero (N : Nat) : (N / lim = 0) = (N < lim) := by
  rw [Nat.div_eq_zero_iff]
  have : ¬ lim = 0 := by have := ppos 32; unfold lim; omega
  simp [this]
/-- Division by one limb, from the top: k limbs are left. -/
def shT (N x k : Nat) : Nat := N % pw k + N / pw k / x * pw k
def shR (N x k : Nat) : Nat := N / pw k % x
theorem shT_top {N x k : Nat} (h : N < pw k) : shT N x k = N := by
  unfold shT; rw [Nat.div_eq_of_lt h, Nat.mod_eq_of_lt h]; simp
theorem shR_top {N x k : Nat} (h : N < pw k) : shR N x k = 0 := by
  unfold shR; rw [Nat.div_eq_of_lt h]; simp
theorem shT_limb (N x k : Nat) : limb (shT N x (k + 1)) k = limb N k := by
  unfold shT
  rw [limb_add_high _ _ _ _ (Nat.mod_lt _ (ppos _)) (Nat.lt_succ_self k), limb_low _ _ _ (Nat.lt_succ_self k)]
theorem sh_div (A l x : Nat) (hx : 0 < x) : (l + 4294967296 * A) / x = (A % x * 4294967296 + l) / x + A / x * 4294967296 ∧ (l + 4294967296 * A) % x = (A % x * 4294967296 + l) % x := by
  have h := Nat.div_add_mod A x
  have e : l + 4294967296 * A = (A % x * 4294967296 + l) + x * (A / x * 4294967296) := by
    rw [← Nat.mul_assoc]
    generalize x * (A / x) = u at *
    omega
  rw [e]
  exact ⟨Nat.add_mul_div_left _ _ hx, Nat.add_mul_mod_self_left _ _ _⟩
theorem sh_step {N x k : Nat} (hx : 0 < x) : setL (shT N x (k + 1)) k ((shR N x (k + 1) * 4294967296 + limb N k) / x) = shT N x k ∧ shR N x k = (shR N x (k + 1) * 4294967296 + limb N k) % x := by
  have hd := sh_div (N / pw (k + 1)) (limb N k) x hx
  have ht : shT N x (k + 1) % pw k = N % pw k := by
    unfold shT
    rw [low_succ, p32]
    have e : N % pw k + limb N k * pw k + N / (pw k * 4294967296) / x * (pw k * 4294967296) = N % pw k + (limb N k + N / (pw k * 4294967296) / x * 4294967296) * pw k := by grind
    rw [e, Nat.add_mul_mod_self_right, Nat.mod_eq_of_lt (Nat.mod_lt _ (ppos k))]
  have hq : shT N x (k + 1) / pw (k + 1) = N / pw (k + 1) / x := by
    unfold shT
    rw [Nat.add_mul_div_right _ _ (ppos _), Nat.div_eq_of_lt (Nat.mod_lt _ (ppos _)), Nat.zero_add]
  constructor
  · unfold setL
    rw [ht, hq]
    unfold shT shR
    rw [div_step N k, hd.1, p32]
    generalize (N / (pw k * 4294967296) % x * 4294967296 + limb N k) / x = q
    generalize N / (pw k * 4294967296) / x = u
    grind
  · unfold shR
    rw [div_step N k, hd.2]
theorem sh_done (N x : Nat) : shT N x 0 = N / x ∧ shR N x 0 = N % x := by
  unfold shT shR
  rw [pw_zero, Nat.mod_one, Nat.div_one]
  simp
theorem shR_lt (N x k : Nat) (hx : 0 < x) : shR N x k < x := Nat.mod_lt _ hx
theorem shT_lt {N x k : Nat} (hN : N < lim) : shT N x k < lim := by
  unfold shT
  have h1 : N / pw k / x * pw k ≤ N / pw k * pw k := Nat.mul_le_mul_right _ (Nat.div_le_self _ _)
  have h2 := Nat.div_add_mod N (pw k)
  rw [Nat.mul_comm] at h2
  omega
/-- One more than the quotient fits where there is a remainder. -/
theorem quo_up {M N : Nat} (hM : M < lim) (hd : M % N ≠ 0) : M / N + 1 < lim := by
  have h1 : N ≠ 1 := by intro e; subst e; simp [Nat.mod_one] at hd
  have h2 : M ≠ 0 := by intro e; subst e; simp at hd
  have h0 : N ≠ 0 ∨ N = 0 := by omega
  rcases h0 with h0 | h0
  · have h3 : M / N ≤ M / 2 := Nat.div_le_div_left (by omega) (by decide)
    omega
  · subst h0
    simp only [Nat.div_zero]
    omega
end Go.Proofs.Ytaokneooejbfkaa.Bg

namespace Go.Proofs.Ytaokneooejbfkaa
set_option maxRecDepth 8000
open Go.RowKit
namespace Bg
def lv (N i : Nat) : Value := .int .u32 (limb N i : Nat)
@[irreducible] def lims (n N : Nat) : List Value := (List.range n).map (lv N)
@[irreducible] def row (n N : Nat) : Array Value := (lims n N).toArray
def magV (N : Nat) : Value := .agg (row 32 N)
@[irreducible] def intA (s : Bool) (N : Nat) : Array Value := (Value.bool s :: lims 32 N).toArray
def intV (s : Bool) (N : Nat) : Value := .agg (intA s N)
theorem lims_row (n N : Nat) : (lims n N).toArray = row n N := by unfold row; rfl
theorem lims_length (n N : Nat) : (lims n N).length = n := by simp [lims]
theorem row_size (n N : Nat) : (row n N).size = n := by simp [row, lims]
theorem intA_size (s : Bool) (N : Nat) : (intA s N).size = 33 := by simp [intA, lims]
theorem lims_at (n N i : Nat) (h : i < n) : (lims n N)[i]? = some (lv N i) := by simp [lims, h]
theorem row_at (n N i : Nat) (h : i < n) : (row n N)[i]? = some (lv N i) := by simp [row, lims, h]
theorem intA_at (s : Bool) (N i : Nat) (h : i < 32) : (intA s N)[i + 1]? = some (lv N i) := by simp [intA, lims, h]
theorem intA_neg (s : Bool) (N : Nat) : (intA s N)[0]? = some (.bool s) := by simp [intA]
theorem row_one (n N : Nat) : (row n N).all (·.oneCell') = true := by
  simp [row, lims, lv, Value.oneCell']
theorem intA_one (s : Bool) (N : Nat) : (intA s N).all (·.oneCell') = true := by
  simp [intA, lims, lv, Value.oneCell']
theorem row_set (n N i x : Nat) (hx : x < 4294967296) : (row n N).setIfInBounds i (.int .u32 (x : Nat)) = row n (setL N i x) := by
  apply Array.ext_getElem?
  intro j
  rw [Array.getElem?_setIfInBounds]
  by_cases hj : j < n
  · rw [row_at n _ j hj]
    by_cases e : i = j
    · subst e; rw [if_pos rfl, row_size, if_pos hj, row_at n _ i hj]; simp [lv, setL_limb _ _ _ _ hx]
    · rw [if_neg e, row_at n _ j hj]; simp [lv, setL_limb _ _ _ _ hx, Ne.symm e]
  · rw [Array.getElem?_eq_none (by rw [row_size]; omega), Array.getElem?_eq_none (by rw [row_size]; omega)]
    by_cases e : i = j
    · subst e; simp [row_size, hj]
    · rw [if_neg e]
theorem row_inj {n N M : Nat} (hN : N < pw n) (hM : M < pw n) : row n N = row n M ↔ N = M := by
  constructor
  · intro h
    refine limb_ext n N M hN hM (fun i hi => ?_)
    have h1 := row_at n N i hi
    rw [h, row_at n M i hi] at h1
    simp [lv] at h1; omega
  · intro h; rw [h]
theorem zero32 : #[Value.int .u32 0, .int .u32 0, .int .u32 0, .int .u32 0, .int .u32 0, .int .u32 0, .int .u32 0, .int .u32 0, .int .u32 0, .int .u32 0, .int .u32 0, .int .u32 0, .int .u32 0, .int .u32 0, .int .u32 0, .int .u32 0, .int .u32 0, .int .u32 0, .int .u32 0, .int .u32 0, .int .u32 0, .int .u32 0, .int .u32 0, .int .u32 0, .int .u32 0, .int .u32 0, .int .u32 0, .int .u32 0, .int .u32 0, .int .u32 0, .int .u32 0, .int .u32 0] = row 32 0 := by
  kernel_rfl
theorem zeroInt : #[Value.bool false, .int .u32 0, .int .u32 0, .int .u32 0, .int .u32 0, .int .u32 0, .int .u32 0, .int .u32 0, .int .u32 0, .int .u32 0, .int .u32 0, .int .u32 0, .int .u32 0, .int .u32 0, .int .u32 0, .int .u32 0, .int .u32 0, .int .u32 0, .int .u32 0, .int .u32 0, .int .u32 0, .int .u32 0, .int .u32 0, .int .u32 0, .int .u32 0, .int .u32 0, .int .u32 0, .int .u32 0, .int .u32 0, .int .u32 0, .int .u32 0, .int .u32 0, .int .u32 0] = intA false 0 := by
  kernel_rfl
end Bg
/-- Block b is just these cells. -/
def Blk (w : World) (b : Nat) (c : Array Value) : Prop := ∃ t, w.heap[b]? = some (.cells c t (0, 0))
theorem Blk.lt {w : World} {b : Nat} {c : Array Value} (h : Blk w b c) : b < w.heap.size := by
  obtain ⟨t, h⟩ := h; exact (Array.getElem?_eq_some_iff.1 h).1
theorem Blk.kept {w w' : World} {b : Nat} {c : Array Value} (h : Blk w b c) (e : w'.heap[b]? = w.heap[b]?) : Blk w' b c := by
  obtain ⟨t, h⟩ := h; exact ⟨t, e.trans h⟩
theorem Blk.below {w w' : World} {b B : Nat} {c : Array Value} (h : Blk w b c) (hb : Below B w w') (hB : b < B) : Blk w' b c := h.kept (hb.block b hB)
theorem Blk.turn {w w' : World} {b : Nat} {r : Option Nat} {c : Array Value} (h : Blk w b c) (hg : w.grownBy w' r) (hne : some b ≠ r) : Blk w' b c := h.kept (hg.block b h.lt hne)
theorem Blk.alloc {w : World} {b : Nat} {c : Array Value} (h : Blk w b c) (o : Obj) : Blk (w.alloc o) b c := h.kept (Below.heap_alloc w o b h.lt)
theorem Blk.new (w : World) (c : Array Value) (t : TypeId) : Blk (w.alloc (.cells c t)) w.heap.size c := ⟨t, heap_alloc_last w _⟩
theorem Blk.drew {w : World} {b : Nat} {c : Array Value} (h : Blk w b c) : Blk w.drew b c := h
theorem Blk.drewN {w : World} {b : Nat} {c : Array Value} (h : Blk w b c) (n : Nat) : Blk (w.drewN n) b c := h.kept (by simp)
theorem Blk.far {w : World} {b : Nat} {c : Array Value} (h : Blk w b c) {p : Addr} (hp : b ≠ p.block) (u : Value) : Blk (w.setCell p u) b c := h.kept (Below.heap_setCell w p u b hp)
theorem Blk.cell {w : World} {b : Nat} {c : Array Value} (h : Blk w b c) (i : Nat) : w.cell? ⟨b, i, none⟩ = c[i]? := by
  obtain ⟨t, h⟩ := h; exact cell_of_row w b i c t _ h
theorem Blk.free {w : World} {b : Nat} {c : Array Value} (h : Blk w b c) (o : Nat) : w.frozen? ⟨b, o, none⟩ = false := by
  obtain ⟨t, h⟩ := h; simp [World.frozen?, h]
theorem Blk.set {w : World} {b : Nat} {c : Array Value} (h : Blk w b c) (i : Nat) (v : Value) : Blk (w.setCell ⟨b, i, none⟩ v) b (c.setIfInBounds i v) := by
  obtain ⟨t, h⟩ := h
  refine ⟨t, ?_⟩
  rw [setCell_eq_setRow w b i c t (0, 0) v h]
  exact setRow_heap w b c _ t _ h
theorem Blk.range {w : World} {b : Nat} {c : Array Value} (h : Blk w b c) : w.rangeAt b 0 c.toList := by
  intro j v hv
  rw [Nat.zero_add, h.cell j]
  simpa using hv
theorem Blk.mag {w : World} {b : Nat} {s : Bool} {N : Nat} (h : Blk w b (Bg.intA s N)) : w.rangeAt b 1 (Bg.lims 32 N) := by
  intro j v hv
  have hj : j < 32 := by
    have := (List.getElem?_eq_some_iff.1 hv).1
    rw [Bg.lims_length] at this
    exact this
  rw [h.cell (1 + j), Nat.add_comm 1 j, Bg.intA_at s N j hj, ← hv, Bg.lims_at 32 N j hj]
theorem Blk.there {w : World} {b : Nat} {c : Array Value} (h : Blk w b c) : w.there b 0 c.size := by
  intro j hj
  rw [Nat.zero_add, h.cell j, h.free j]
  simp [hj]
/-- A limb is read. -/
theorem Blk.limb {w : World} {b n N : Nat} (h : Blk w b (Bg.row n N)) {i : Nat} (hi : i < n) : w.cell? ⟨b, i, none⟩ = some (.int .u32 (Bg.limb N i : Nat)) := by
  rw [h.cell i, Bg.row_at n N i hi]; rfl
/-- A limb is written. -/
theorem Blk.put {w : World} {b n N : Nat} (h : Blk w b (Bg.row n N)) (i x : Nat) (hx : x < 4294967296) : Blk (w.setCell ⟨b, i, none⟩ (.int .u32 (x : Nat))) b (Bg.row n (Bg.setL N i x)) := by
  have := h.set i (.int .u32 (x : Nat))
  rwa [Bg.row_set n N i x hx] at this
section
variable {ops : Array Oper} {rest : List Oper} {o : Oper} {a : Act} {w : World} {Q : Exit → Act → World → Prop}
end
/-- A whole block is written. -/
theorem Blk.setRow {w : World} {b : Nat} {c : Array Value} (h : Blk w b c) (c' : Array Value) : Blk (w.setRow b c') b c' := by
  obtain ⟨t, h⟩ := h; exact ⟨t, setRow_heap w b c c' t _ h⟩
theorem heap_setRow (w : World) (g : Nat) (c : Array Value) (k : Nat) (h : k ≠ g) : (w.setRow g c).heap[k]? = w.heap[k]? := by
  simp only [World.setRow, Array.getElem?_modify]
  rw [if_neg (by omega)]
theorem Blk.farRow {w : World} {b g : Nat} {c : Array Value} (h : Blk w b c) (hne : b ≠ g) (c' : Array Value) : Blk (w.setRow g c') b c := h.kept (heap_setRow w g c' b hne)
theorem below_setRow {B : Nat} {a w : World} (h : Below B a w) {g : Nat} (hg : B ≤ g) (c : Array Value) : Below B a (w.setRow g c) :=
  h.trans ⟨rfl, rfl, rfl, by simp, fun k hk => heap_setRow _ _ _ _ (by omega)⟩
/-- What may have turned is block b alone, and new blocks. -/
theorem grown_setRow {a w : World} {b : Nat} (h : a.grownBy w (some b)) {g : Nat} (hg : g = b ∨ a.heap.size ≤ g) (c : Array Value) : a.grownBy (w.setRow g c) (some b) :=
  ⟨h.os, h.tape, h.output, by simpa using h.size, fun k hk hne => (heap_setRow _ _ _ _ (fun e => by subst e; rcases hg with rfl | hg; exact hne rfl; omega)).trans (h.block k hk hne)⟩
end Go.Proofs.Ytaokneooejbfkaa

namespace Go.Proofs.Ytaokneooejbfkaa
set_option maxRecDepth 8000
open Go.RowKit
end Go.Proofs.Ytaokneooejbfkaa

namespace Go.Proofs.Ytaokneooejbfkaa
set_option maxRecDepth 8000
open Go.RowKit
theorem u32_info : ∃ i, Try.prog.info? 82 = some i := Option.isSome_iff_exists.1 (by kernel_rfl)
theorem u32_cells : Try.prog.cellsOf 82 = 1 := by kernel_rfl
theorem eq_items (N M n : Nat) (W : World) (d : Nat) : ∀ is : List Nat, (∀ i ∈ is, i < n) →
    (Op.eqItems (d + 1) 82 1 (Bg.row n N) (Bg.row n M) is).run Try.prog W = .ok (is.all fun i => decide (Bg.limb N i = Bg.limb M i)) W
  | [], _ => by simp [Op.eqItems]
  | i :: is, h => by
    have hi : i < n := h i (by simp)
    have ih := eq_items N M n W d is (fun j hj => h j (by simp [hj]))
    have hb := fun a b => run_equalIn_int (P := Try.prog) W d 82 .u32 .u32 a b Try.underlying82
    have h1 := Bg.row_at n N i hi
    have h2 := Bg.row_at n M i hi
    have hl : (Bg.lv N i, Bg.lv M i) = (.int .u32 (Bg.limb N i : Nat), .int .u32 (Bg.limb M i : Nat)) := rfl
    injection hl with l1 l2
    rw [l1] at h1
    rw [l2] at h2
    have hd : ((Bg.limb N i : Int) == (Bg.limb M i : Int)) = decide (Bg.limb N i = Bg.limb M i) := by
      by_cases e : Bg.limb N i = Bg.limb M i
      · simp [e]
      · simp [e]
        omega
    simp only [Op.eqItems, List.all_cons, Nat.mul_one, Sem.run_bind]
    simp [part, h1, h2, hb, hd, Result.andThen, ih]
    by_cases e : Bg.limb N i = Bg.limb M i <;> simp [e]
theorem below_box {w w' : World} {o : Obj} (h : Below (w.heap.size + 1) (w.alloc o) w') : Below w.heap.size w w' := (below_new w o).trans (h.mono (by omega))
section
variable {ops : Array Oper} {o : Oper} {a : Act} {w : World} {K : Act → Prop}
end
/-- A region that draws: all but its last operations only read; the draw is one more in the world. -/
theorem still_tail {id : Nat} {Q : Exit → Act → World → Prop} {a : Act} {w : World} {l : List Oper} (n : Nat) (hB : Region.lexTailB .any l.toArray n = true)
    (h : ∀ w2 : World, Hid (w2 = w.drew) → wpStill Try.prog l.toArray w2 (fun a' => wpList Try.prog l.toArray Q (l.drop n) a' w2) (l.take n) a) : (Code.region id l.toArray true).wp Try.prog Q a w :=
  wp_region_still_tail n (by kernel_rfl) hB (h w.drew rfl)
section
variable {fn : Func} {P : Program} {w : World} {p q t u : Tmp} {ty ty2 : TypeId} {a b : Addr} {v v2 : Value}
theorem res_cell (h : fn.results = #[.cell p ty]) (tmps : Array Value) (hp : tmps.getD p undef = .pointer (some a)) (hl : (loadVar ty a).run P w = .ok v w) : (results fn tmps).run P w = .ok v w := by
  have hp' : tmps[p]?.getD undef = .pointer (some a) := by simpa using hp
  simp [results, h, hp', asAddr, hl]
theorem res_tmp_cell (h : fn.results = #[.tmp t, .cell p ty]) (tmps : Array Value) (hp : tmps.getD p undef = .pointer (some a)) (hl : (loadVar ty a).run P w = .ok v w) : (results fn tmps).run P w = .ok (.tuple #[tmps.getD t undef, v]) w := by
  have hp' : tmps[p]?.getD undef = .pointer (some a) := by simpa using hp
  simp [results, h, hp', asAddr, hl, Result.andThen]
theorem res_cell_tmp (h : fn.results = #[.cell p ty, .tmp t]) (tmps : Array Value) (hp : tmps.getD p undef = .pointer (some a)) (hl : (loadVar ty a).run P w = .ok v w) : (results fn tmps).run P w = .ok (.tuple #[v, tmps.getD t undef]) w := by
  have hp' : tmps[p]?.getD undef = .pointer (some a) := by simpa using hp
  simp [results, h, hp', asAddr, hl, Result.andThen]
theorem res_cell_cell (h : fn.results = #[.cell p ty, .cell q ty2]) (tmps : Array Value) (hp : tmps.getD p undef = .pointer (some a)) (hq : tmps.getD q undef = .pointer (some b)) (hl : (loadVar ty a).run P w = .ok v w) (hl2 : (loadVar ty2 b).run P w = .ok v2 w) : (results fn tmps).run P w = .ok (.tuple #[v, v2]) w := by
  have hp' : tmps[p]?.getD undef = .pointer (some a) := by simpa using hp
  have hq' : tmps[q]?.getD undef = .pointer (some b) := by simpa using hq
  simp [results, h, hp', hq', asAddr, hl, hl2, Result.andThen]
theorem res_cell_cell_tmp (h : fn.results = #[.cell p ty, .cell q ty2, .tmp t]) (tmps : Array Value) (hp : tmps.getD p undef = .pointer (some a)) (hq : tmps.getD q undef = .pointer (some b)) (hl : (loadVar ty a).run P w = .ok v w) (hl2 : (loadVar ty2 b).run P w = .ok v2 w) : (results fn tmps).run P w = .ok (.tuple #[v, v2, tmps.getD t undef]) w := by
  have hp' : tmps[p]?.getD undef = .pointer (some a) := by simpa using hp
  have hq' : tmps[q]?.getD undef = .pointer (some b) := by simpa using hq
  simp [results, h, hp', hq', asAddr, hl, hl2, Result.andThen]
end
theorem fill_at (l : List Value) : ∀ (k : Nat) (c : Array Value) (j : Nat), ((l.zipIdx k).foldl (fun (cs : Array Value) (x : Value × Nat) => cs.setIfInBounds (1 + x.snd) x.fst) c)[j]? =
    if k + 1 ≤ j ∧ j < k + 1 + l.length ∧ j < c.size then l[j - (k + 1)]? else c[j]? := by
  induction l with
  | nil => intro k c j; simp; omega
  | cons x l ih =>
    intro k c j
    rw [List.zipIdx_cons, List.foldl_cons, ih (k + 1)]
    simp only [Array.size_setIfInBounds, Array.getElem?_setIfInBounds, List.length_cons]
    by_cases h1 : j = k + 1
    · subst h1
      by_cases h2 : k + 1 < c.size
      · rw [if_neg (by omega), if_pos (by omega), if_pos (by omega), if_pos (by omega)]
        simp
      · rw [if_neg (by omega), if_pos (by omega), if_neg (by omega), if_neg (by omega)]
        rw [Array.getElem?_eq_none (by omega)]
    · by_cases h2 : k + 1 + 1 ≤ j ∧ j < k + 1 + 1 + l.length ∧ j < c.size
      · rw [if_pos h2, if_pos (by omega)]
        obtain ⟨d, rfl⟩ : ∃ d, j = k + 1 + 1 + d := ⟨j - (k + 2), by omega⟩
        rw [show k + 1 + 1 + d - (k + 1 + 1) = d from by omega, show k + 1 + 1 + d - (k + 1) = d + 1 from by omega]
        simp
      · rw [if_neg h2]
        by_cases h3 : k + 1 ≤ j ∧ j < k + 1 + (l.length + 1) ∧ j < c.size
        · omega
        · rw [if_neg h3, if_neg (by omega)]
theorem fill_int (s : Bool) (N : Nat) : Array.foldl (fun (cs : Array Value) (x : Value × Nat) => cs.setIfInBounds (1 + x.snd) x.fst) ((Bg.intA false 0).setIfInBounds 0 (Value.bool s)) (Bg.row 32 N).zipIdx 0 32 = Bg.intA s N := by
  have e : (Bg.row 32 N).zipIdx = ((Bg.lims 32 N).zipIdx 0).toArray := by simp [Bg.row]
  have hs : (Bg.row 32 N).zipIdx.size = 32 := by simp [Bg.row_size]
  have h32 : Array.foldl (fun (cs : Array Value) (x : Value × Nat) => cs.setIfInBounds (1 + x.snd) x.fst) ((Bg.intA false 0).setIfInBounds 0 (Value.bool s)) (Bg.row 32 N).zipIdx 0 32 = Array.foldl (fun (cs : Array Value) (x : Value × Nat) => cs.setIfInBounds (1 + x.snd) x.fst) ((Bg.intA false 0).setIfInBounds 0 (Value.bool s)) (Bg.row 32 N).zipIdx := by rw [hs]
  rw [h32, e, List.foldl_toArray]
  apply Array.ext_getElem?
  intro j
  rw [fill_at]
  simp only [Bg.lims_length, Array.size_setIfInBounds, Bg.intA_size]
  match j with
  | 0 => simp [Bg.intA]
  | j + 1 =>
    by_cases hj : j < 32
    · rw [if_pos (by omega), Bg.intA_at s N j hj, show j + 1 - (0 + 1) = j from by omega, Bg.lims_at 32 N j hj]
    · rw [if_neg (by omega), Array.getElem?_eq_none (by simp [Bg.intA_size]; omega), Array.getElem?_eq_none (by rw [Bg.intA_size]; omega)]
theorem alloc_size (w : World) (o : Obj) : (w.alloc o).heap.size = w.heap.size + 1 := by simp
theorem intA_ne (s : Bool) (N : Nat) : (Bg.intA s N = #[]) = False := by
  simp [Bg.intA]
end Go.Proofs.Ytaokneooejbfkaa

namespace Go.Proofs.Ytaokneooejbfkaa
set_option maxRecDepth 8000
open Go.RowKit
end Go.Proofs.Ytaokneooejbfkaa

namespace Go.Proofs.Ytaokneooejbfkaa
set_option maxRecDepth 8000
open Go.RowKit
theorem ret_pair {v v' u u' : Value} {x : Ending} (h : x = .returned (.tuple #[v, u])) (h1 : v = v') (h2 : u = u') : x = .returned (.tuple #[v', u']) := by rw [h, h1, h2]
theorem div_or (x y : Nat) (hx : x < 4294967296) (hy : y < 4294967296) : bits .or .u64 (((x * 4294967296 : Nat) : Int)) (y : Int) = ((x * 4294967296 + y : Nat) : Int) := by
  rw [u64_or_nat _ _ (by omega) (by omega), nat_join 32 _ _ (by omega) (by omega)]
end Go.Proofs.Ytaokneooejbfkaa

namespace Go.Proofs.Ytaokneooejbfkaa
set_option maxRecDepth 8000
open Go.RowKit
theorem beq_zero (q : Nat) : ((q : Int) == 0) = decide (q = 0) := by
  by_cases h : q = 0 <;> simp [h]
theorem drew_two (w : World) (n m : Nat) : (w.drewN n).drewN m = w.drewN (n + m) := by simp [World.drewN, Nat.add_assoc]
end Go.Proofs.Ytaokneooejbfkaa

namespace Go.Proofs.Ytaokneooejbfkaa
set_option maxRecDepth 8000
open Go.RowKit
end Go.Proofs.Ytaokneooejbfkaa

namespace Go.Proofs.Ytaokneooejbfkaa
set_option maxRecDepth 8000
open Go.RowKit
theorem zero64 : #[Value.int .u32 0, .int .u32 0, .int .u32 0, .int .u32 0, .int .u32 0, .int .u32 0, .int .u32 0, .int .u32 0, .int .u32 0, .int .u32 0, .int .u32 0, .int .u32 0, .int .u32 0, .int .u32 0, .int .u32 0, .int .u32 0, .int .u32 0, .int .u32 0, .int .u32 0, .int .u32 0, .int .u32 0, .int .u32 0, .int .u32 0, .int .u32 0, .int .u32 0, .int .u32 0, .int .u32 0, .int .u32 0, .int .u32 0, .int .u32 0, .int .u32 0, .int .u32 0,
  .int .u32 0, .int .u32 0, .int .u32 0, .int .u32 0, .int .u32 0, .int .u32 0, .int .u32 0, .int .u32 0, .int .u32 0, .int .u32 0, .int .u32 0, .int .u32 0, .int .u32 0, .int .u32 0, .int .u32 0, .int .u32 0, .int .u32 0, .int .u32 0, .int .u32 0, .int .u32 0, .int .u32 0, .int .u32 0, .int .u32 0, .int .u32 0, .int .u32 0, .int .u32 0, .int .u32 0, .int .u32 0, .int .u32 0, .int .u32 0, .int .u32 0, .int .u32 0] = Bg.row 64 0 := by
  kernel_rfl
theorem Blk.low64 {w : World} {b N : Nat} (h : Blk w b (Bg.row 64 N)) : w.rangeAt b 0 (Bg.lims 32 (N % Bg.lim)) := by
  intro j v hv
  have hj : j < 32 := by
    have := (List.getElem?_eq_some_iff.1 hv).1
    rwa [Bg.lims_length] at this
  rw [Bg.lims_at 32 _ j hj] at hv
  rw [Nat.zero_add, h.limb (by omega), ← hv]
  unfold Bg.lv Bg.lim
  rw [Bg.limb_low' N 32 j hj]
theorem Blk.high64 {w : World} {b N : Nat} (h : Blk w b (Bg.row 64 N)) : w.rangeAt b 32 (Bg.lims 32 (N / Bg.lim)) := by
  intro j v hv
  have hj : j < 32 := by
    have := (List.getElem?_eq_some_iff.1 hv).1
    rwa [Bg.lims_length] at this
  rw [Bg.lims_at 32 _ j hj] at hv
  rw [h.limb (by omega), ← hv]
  unfold Bg.lv Bg.lim
  rw [Bg.limb_div N 32 j]
theorem take_h {P : Program} {md : Region.Mode} {ops : Array Oper} {Q : Exit → Act → World → Prop} {S : World → Prop} {i : Nat} {oi : Oper} {v : Value} {d : Tmp} {fuel : Nat} {listed : Array Bool} {a : Act} {w : World} (hi : ops[i]? = some oi) (hd : oi.dst = some d)
    (hs : Region.noSelect ops = true) (hf : Region.free md ops listed i = true) (hr : (Region.ready md ops listed).contains i = true)
    (hQ : ∀ c a w, Q (.panic c) (a.put (some d) v) w → Q (.panic c) a w) (hy : YieldsIf P ops S oi v a) (hS : S w)
    (h : wpAnyH P md ops Q S fuel (listed.setIfInBounds i true) { a with tmps := a.tmps.setIfInBounds d v } w) : wpAnyH P md ops Q S (fuel + 1) listed a w :=
  wpAnyH_take hi hs hf hr (by rw [hd]; exact hQ) hy hS (by rw [hd]; exact h)
end Go.Proofs.Ytaokneooejbfkaa
