/- Walks. -/
import Derived.WalkKit
import Derived.WalkLawsBesides
import Derived.Outline
import Derived.Lib.Hide
import Derived.Deep.QuietTactic
import Derived.BigQuiet
import Derived.IntWalk
import Derived.Deep.Draws
import Derived.Deep.DeepFit
import Derived.Deep.DeepMust
import Derived.Deep.DeepCutAuto
import Init.Data.Nat.Lemmas
import Init.Omega
import Init.Grind
import Derived.Deep.MidRow
import Derived.Deep.WholeRow
import Derived.ChangeKeysEq
import Derived.StillTailTactics
import Derived.Laws.BitsAllLaws
import Derived.Deep.RegionWith
import Derived.Deep.RegionHeld3
import Derived.Test.YtiekmabiecalbaaGreatDoorChecked
namespace Go.Proofs.YtiekmabiecalbaaGreatDoor
set_option maxHeartbeats 16000000
open Go.RowKit
set_option maxRecDepth 8000
section
theorem z9_1 {P : Prop} (h : P := by
 rw [p32]
 have : (x + 1) * pw i ≤ 4294967296 * pw i := Nat.mul_le_mul_right _ hx
 rw [Nat.add_mul] at this
 omega) : P := h
theorem z9_2 {P : Prop} (h : P := by
 generalize pw i = p at *
 generalize limb a i = x at *
 generalize limb b i = y at *
 grind) : P := h
theorem z9_3 {P : Prop} (h : P := by
 have : x * y ≤ 4294967295 * 4294967295 := Nat.mul_le_mul Zo Zo
 omega) : P := h
theorem z9_4 {P : Prop} (h : P := by
 rw [h0] at hc
 go_wp2
 go_round
 case rel => exact ⟨k, by omega, rfl, Zi (HK.out.trans (Bg.top_down h0))⟩
 case measure => simp [intOf]) : P := h
theorem z9_5 {P : Prop} (h : P := by
 simp only [e, decide_false]
 refine Bool.eq_false_iff.2 (fun h => e ?_)
 refine Bg.limb_ext 32 N M hN hM (fun i hi => ?_)
 have := List.all_eq_true.1 h i (by simpa using hi)
 simpa using this) : P := h
theorem z9_6 {P : Prop} (h : P := by
 have hp' : tmps[p]?.getD undef = .pointer (some a) := by simpa using hp
 simp [results, h, hp', asAddr, hl, Result.andThen]) : P := h
theorem z9_7 {P : Prop} (h : P := by
 have hp' : tmps[p]?.getD undef = .pointer (some a) := by simpa using hp
 have hq' : tmps[q]?.getD undef = .pointer (some b) := by simpa using hq
 simp [results, h, hp', hq', asAddr, hl, hl2, Result.andThen]) : P := h
theorem z9_8 {P : Prop} (h : P := by
 rw [if_neg Zo, if_pos Zo, if_pos Zo, if_pos Zo]
 simp) : P := h
theorem z9_9 {P : Prop} (h : P := by
 rw [if_neg Zo, if_pos Zo, if_neg Zo, if_neg Zo]
 rw [Array.getElem?_eq_none Zo]) : P := h
theorem z9_10 {P : Prop} (h : P := by
 unfold execOp
 simp only [Sem.run_bind] at hr
 simp only [ho, hx, hy, Sem.run_bind, hr, Result.andThen_ok, Sem.run_pure]) : P := h
end
section
theorem Zk {P : Prop} (h : P := by kernel_rfl) : P := h
theorem Zo {P : Prop} (h : P := by omega) : P := h
theorem Zd {P : Prop} (h : P := by decide) : P := h
theorem Zs {P : Prop} (h : P := by simp) : P := h
theorem Zw {P : Prop} (h : P := by (conv => lhs; whnf) <;> rfl) : P := h
theorem Zl {P : Prop} (h : P := by ((repeat (first | exact Look.here | refine Look.there ?_)); done)) : P := h
theorem Zg {P : Prop} (h : P := by (repeat (first | exact At.here | apply At.there))) : P := h
theorem Zv {P : Prop} (h : P := by rfl) : P := h
theorem Zn {a b : Int} [i : Decidable (a < b)] (h : b ≤ a) : decide (a < b) = false := decide_eq_false (Int.not_lt.2 h)
theorem Zm {a b : Int} [i : Decidable (a ≤ b)] (h : b < a) : decide (a ≤ b) = false := decide_eq_false (Int.not_le.2 h)
theorem Zb {α : Type _} [BEq α] [LawfulBEq α] {a b : α} (h : a ≠ b) : (a == b) = false := beq_eq_false_iff_ne.2 h
theorem Zt {p : Prop} [i : Decidable p] (h : p) : decide p = true := decide_eq_true h
theorem Zf {p : Prop} [i : Decidable p] (h : ¬ p) : decide p = false := decide_eq_false h
theorem Zr {A B C D P : Prop} (h : P) : A ∨ B ∨ C ∨ D ∨ P := .inr (.inr (.inr (.inr h)))
theorem Za {α : Type _} (l : List α) (i : Nat) (a : α) : l.toArray.setIfInBounds i a = (l.set i a).toArray := List.setIfInBounds_toArray ..
theorem Zx {α : Type _} {x : α} {l : List α} {n : Nat} {a : α} : (x :: l).set (n + 1) a = x :: l.set n a := rfl
theorem Zy {α : Type _} {x : α} {l : List α} {a : α} : (x :: l).set 0 a = a :: l := rfl
theorem Zi {p : Prop} (h : p) : Hid p := Lib.hid h
theorem Zh {α : Sort _} (e : α) : ∃ x, Hid (x = e) := ⟨_, Lib.hid rfl⟩
theorem Zq {A B C D E F G H P : Prop} (h : P) : A ∨ B ∨ C ∨ D ∨ E ∨ F ∨ G ∨ H ∨ P := Zr (Zr h)
theorem ret_int {k : IntKind} {a b : Int} (h : a = b) : Ending.returned (.int k a) = .returned (.int k b) := by rw [h]
theorem ret_bool {a b : Bool} (h : a = b) : Ending.returned (.bool a) = .returned (.bool b) := by rw [h]
theorem res_four {fn : Func} {t u v x : Tmp} (h : fn.results = #[.tmp t, .tmp u, .tmp v, .tmp x]) (tmps : Array Value) (P : Program) (w : World) :
    (results fn tmps).run P w = .ok (.tuple #[tmps.getD t undef, tmps.getD u undef, tmps.getD v undef, tmps.getD x undef]) w := by simp [results, h]
theorem below_drewN {B : Nat} {a w : World} (h : Below B a w) (n : Nat) : Below B a (w.drewN n) := ⟨h.os, h.tape, h.output, h.size, h.block⟩
end
section
def IntsAt (w : World) (A : Option Addr) (hs : List Int) : Prop := hs = [] ∨ ∃ b off, A = some ⟨b, off, none⟩ ∧ b < w.heap.size ∧ ∀ j, j < hs.length → w.cell? ⟨b, off + j, none⟩ = some (.int .i64 (hs.getD j 0))
theorem IntsAt.below {w w' : World} {A : Option Addr} {hs : List Int} (h : IntsAt w A hs) (hb : Below w.heap.size w w') : IntsAt w' A hs := by
 rcases h with h | ⟨b, off, hA, hlt, hc⟩
 ·exact .inl h
 ·exact .inr ⟨b, off, hA, Nat.lt_of_lt_of_le hlt hb.size, fun j hj => (hb.cell (p := ⟨b, off + j, none⟩) hlt).trans (hc j hj)⟩
theorem IntsAt.at_ {w : World} {A : Option Addr} {hs : List Int} (h : IntsAt w A hs) {j : Nat} (hj : j < hs.length) : ∃ b off, A = some ⟨b, off, none⟩ ∧ b < w.heap.size ∧ ∀ j, j < hs.length → w.cell? ⟨b, off + j, none⟩ = some (.int .i64 (hs.getD j 0)) := by
 rcases h with h | h
 ·subst h; simp at hj
 ·exact h
theorem IntsAt.nil (w : World) (A : Option Addr) : IntsAt w A [] := .inl rfl
theorem below_new (w : World) (o : Obj) : Below w.heap.size w (w.alloc o) := (Below.refl _ _).alloc (Nat.le_refl _) _
end
namespace Bg
set_option maxRecDepth 8000
@[irreducible] def pw (i : Nat) : Nat := 2 ^ (32 * i)
@[irreducible] def limb (N i : Nat) : Nat := N / pw i % 4294967296
theorem p32 (i : Nat) : pw (i + 1) = pw i * 4294967296 := by
 unfold pw; rw [show 32 * (i + 1) = 32 * i + 32 from by omega, Nat.pow_add]
theorem padd (i j : Nat) : pw (i + j) = pw i * pw j := by
 unfold pw; rw [Nat.mul_add, Nat.pow_add]
theorem pw_zero : pw 0 = 1 := by unfold pw; rfl
theorem ppos (i : Nat) : 0 < pw i := by unfold pw; exact Nat.two_pow_pos _
theorem pmono {i j : Nat} (h : i ≤ j) : pw i ≤ pw j := by unfold pw; exact Nat.pow_le_pow_right Zd Zo
theorem limb_lt (N i : Nat) : limb N i < 4294967296 := by unfold limb; exact Nat.mod_lt _ Zd
theorem low_succ (N i : Nat) : N % pw (i + 1) = N % pw i + limb N i * pw i := by
 rw [p32, Nat.mod_mul]
 unfold limb
 rw [Nat.mul_comm (pw i)]
theorem limb_low (N n i : Nat) (h : i < n) : limb (N % pw n) i = limb N i := by
 unfold limb pw
 rw [show 4294967296 = 2 ^ 32 from rfl]
 apply Nat.eq_of_testBit_eq
 intro j
 simp only [Nat.testBit_mod_two_pow, Nat.testBit_div_two_pow]
 by_cases hj : j < 32
 ·have h2 : j + 32 * i < 32 * n := by omega
  simp [hj, h2]
 ·simp [hj]
theorem limb_high (N n i : Nat) (h : n ≤ i) (hN : N < pw n) : limb N i = 0 := by
 unfold limb
 rw [Nat.div_eq_of_lt (Nat.lt_of_lt_of_le hN (pmono h))]
theorem limb_mid (L x H i : Nat) (hL : L < pw i) (hx : x < 4294967296) : limb (L + x * pw i + H * pw (i + 1)) i = x := by
 unfold limb
 have e : L + x * pw i + H * pw (i + 1) = L + pw i * (x + 4294967296 * H) := by rw [p32]; grind
 rw [e, Nat.add_mul_div_left _ _ (ppos i), Nat.div_eq_of_lt hL, Nat.zero_add, Nat.add_mul_mod_self_left, Nat.mod_eq_of_lt hx]
theorem low_mid (L R i : Nat) (hL : L < pw i) : (L + R * pw i) % pw i = L := by
 rw [Nat.add_mul_mod_self_right, Nat.mod_eq_of_lt hL]
theorem limb_add_high (L R n i : Nat) (hL : L < pw n) (h : i < n) : limb (L + R * pw n) i = limb L i := by
 rw [← limb_low _ n i h, low_mid L R n hL]
theorem limb_up (L R n i : Nat) (hL : L < pw n) : limb (L + R * pw n) (n + i) = limb R i := by
 unfold limb
 rw [padd, ← Nat.div_div_eq_div_mul, Nat.add_mul_div_right _ _ (ppos n), Nat.div_eq_of_lt hL, Nat.zero_add]
theorem limb_ext (n : Nat) : ∀ (N M : Nat), N < pw n → M < pw n → (∀ i, i < n → limb N i = limb M i) → N = M := by
 induction n with
 | zero => intro N M h1 h2 _; rw [pw_zero] at h1 h2; omega
 | succ n ih =>
  intro N M h1 h2 h
  have e : N % pw n = M % pw n := ih _ _ (Nat.mod_lt _ (ppos n)) (Nat.mod_lt _ (ppos n)) (fun i hi => by rw [limb_low _ _ _ hi, limb_low _ _ _ hi]; exact h i Zo)
  have a := low_succ N n
  have b := low_succ M n
  rw [Nat.mod_eq_of_lt h1] at a
  rw [Nat.mod_eq_of_lt h2] at b
  rw [a, b, e, h n Zo]
def setL (N i x : Nat) : Nat := N % pw i + x * pw i + N / pw (i + 1) * pw (i + 1)
theorem setL_limb (N i x j : Nat) (hx : x < 4294967296) : limb (setL N i x) j = if j = i then x else limb N j := by
 unfold setL
 have hm : N % pw i < pw i := Nat.mod_lt _ (ppos i)
 have hlow : N % pw i + x * pw i < pw (i + 1) := by
  exact z9_1
 by_cases h1 : j = i
 ·subst h1; rw [if_pos rfl]; exact limb_mid _ _ _ _ hm hx
 ·rw [if_neg h1]
  by_cases h2 : j < i
  ·rw [limb_add_high _ _ (i + 1) j hlow Zo, limb_add_high _ _ i j hm h2, limb_low _ _ _ h2]
  ·obtain ⟨k, rfl⟩ : ∃ k, j = i + 1 + k := ⟨j - (i + 1), by omega⟩
   rw [limb_up _ _ _ _ hlow]
   unfold limb
   rw [Nat.div_div_eq_div_mul, ← padd]
theorem setL_lt (N i x n : Nat) (hx : x < 4294967296) (hi : i < n) (hN : N < pw n) : setL N i x < pw n := by
 unfold setL
 have hm : N % pw i < pw i := Nat.mod_lt _ (ppos i)
 have hlow : N % pw i + x * pw i < pw (i + 1) := by
  exact z9_1
 obtain ⟨d, rfl⟩ : ∃ d, n = i + 1 + d := ⟨n - (i + 1), by omega⟩
 rw [padd] at hN
 have hq : N / pw (i + 1) < pw d := by rw [Nat.div_lt_iff_lt_mul (ppos _), Nat.mul_comm]; exact hN
 have : (N / pw (i + 1) + 1) * pw (i + 1) ≤ pw d * pw (i + 1) := Nat.mul_le_mul_right _ hq
 rw [Nat.add_mul] at this
 rw [padd (i + 1) d, Nat.mul_comm (pw (i + 1)) (pw d)]
 generalize N / pw (i + 1) * pw (i + 1) = q at *
 generalize pw d * pw (i + 1) = r at *
 omega
theorem setL_top (N i x : Nat) (hN : N < pw i) : setL N i x = N + x * pw i := by
 unfold setL
 rw [Nat.mod_eq_of_lt hN, Nat.div_eq_of_lt (Nat.lt_of_lt_of_le hN (pmono (Nat.le_succ i))), Nat.zero_mul, Nat.add_zero]
theorem lt_succ {N i x : Nat} (hN : N < pw i) (hx : x < 4294967296) : N + x * pw i < pw (i + 1) := by
 exact z9_1
def top : Nat → Nat → Nat
 | 0, _ => 0
 | k + 1, N => if limb N k = 0 then top k N else k + 1
def used (N : Nat) : Nat := top 32 N
theorem top_le (N : Nat) : ∀ k, top k N ≤ k
 | 0 => Nat.le_refl _
 | k + 1 => by
  unfold top
  have := top_le N k
  split <;> omega
theorem top_down {N k : Nat} (h : limb N k = 0) : top (k + 1) N = top k N := by rw [top, if_pos h]
theorem top_stop {N k : Nat} (h : limb N k ≠ 0) : top (k + 1) N = k + 1 := by rw [top, if_neg h]
theorem top_lt (N k : Nat) (h : N < pw k) : N < pw (top k N) := by
 induction k with
 | zero => exact h
 | succ k ih =>
  unfold top
  split
  ·rename_i h0
   have := low_succ N k
   rw [Nat.mod_eq_of_lt h, h0, Nat.zero_mul, Nat.add_zero] at this
   exact ih (by rw [this]; exact Nat.mod_lt _ (ppos k))
  ·exact h
theorem top_ge (N k : Nat) : top k N = 0 ∨ pw (top k N - 1) ≤ N := by
 induction k with
 | zero => exact .inl rfl
 | succ k ih =>
  unfold top
  split
  ·exact ih
  ·rename_i h0
   right
   refine Nat.le_of_not_lt (fun hlt => h0 ?_)
   exact limb_high N k k (Nat.le_refl _) (by simpa using hlt)
def lim : Nat := pw 32
theorem used_le (N : Nat) : used N ≤ 32 := top_le N 32
theorem used_lt {N : Nat} (h : N < lim) : N < pw (used N) := by unfold used; exact top_lt N 32 h
theorem used_ge (N : Nat) : used N = 0 ∨ pw (used N - 1) ≤ N := by unfold used; exact top_ge N 32
theorem used_zero {N : Nat} (h : N < lim) : used N = 0 ↔ N = 0 := by
 have h1 := used_lt h
 have h2 := used_ge N
 constructor
 ·intro e; rw [e, pw_zero] at h1; omega
 ·intro e
  rcases h2 with h2 | h2
  ·exact h2
  ·have h3 := ppos (used N - 1)
   rw [e] at h2 h3
   exact absurd h2 (Nat.not_le_of_lt h3)
def brw (x y c : Nat) : Nat := if x < y + c then 1 else 0
theorem brw_le (x y c : Nat) : brw x y c ≤ 1 := by unfold brw; split <;> omega
theorem top_bit (z : Nat) (hz : z < 4294967296) : z / 2147483648 = (z.testBit 31).toNat := by
 rw [Nat.testBit_eq_decide_div_mod_eq]
 have : z / 2 ^ 31 % 2 = z / 2147483648 := by omega
 rw [this]
 by_cases h : z / 2147483648 = 1
 ·simp [h]
 ·simp [h]; omega
theorem tb31 (z : Nat) (hz : z < 4294967296) : z.testBit 31 = decide (2147483648 ≤ z) := by
 rw [Nat.testBit_eq_decide_div_mod_eq]
 by_cases h : 2147483648 ≤ z
 ·simp [h]; omega
 ·simp [h]; omega
theorem borrow_bits (x y c : Nat) (hx : x < 4294967296) (hy : y < 4294967296) (hc : c ≤ 1) :
    (((4294967295 ^^^ x) &&& y) ||| ((4294967295 ^^^ (x ^^^ y)) &&& ((x + 4294967296 - y + 4294967296 - c) % 4294967296))) / 2147483648 = brw x y c := by
 generalize hd : (x + 4294967296 - y + 4294967296 - c) % 4294967296 = d
 have hd2 : d < 4294967296 := by omega
 have h1 : (4294967295 ^^^ x) &&& y < 4294967296 := Nat.lt_of_le_of_lt Nat.and_le_right hy
 have h2 : (4294967295 ^^^ (x ^^^ y)) &&& d < 4294967296 := Nat.lt_of_le_of_lt Nat.and_le_right hd2
 rw [top_bit _ (Nat.or_lt_two_pow (n := 32) h1 h2)]
 have h3 : Nat.testBit 4294967295 31 = true := by decide
 simp only [Nat.testBit_or, Nat.testBit_and, Nat.testBit_xor, h3, tb31 x hx, tb31 y hy, tb31 d hd2]
 unfold brw
 by_cases a : 2147483648 ≤ x <;> by_cases b : 2147483648 ≤ y <;> by_cases e : 2147483648 ≤ d <;> simp [a, b, e] <;> omega
theorem div_step (N i : Nat) : N / pw i = limb N i + 4294967296 * (N / pw (i + 1)) := by
 have h := Nat.mod_add_div (N / pw i) 4294967296
 rw [Nat.div_div_eq_div_mul, ← p32] at h
 unfold limb
 exact h.symm
theorem lt_of_div {a b i : Nat} (h : a / pw i < b / pw i) : a < b := by
 refine Nat.lt_of_not_le (fun hle => ?_)
 have := Nat.div_le_div_right (c := pw i) hle
 omega
def cmp (a b : Nat) : Int := if a < b then -1 else if b < a then 1 else 0
theorem cmp_lt {a b i : Nat} (h : a / pw (i + 1) = b / pw (i + 1)) (hl : limb a i < limb b i) : cmp a b = -1 := by
 have : a < b := lt_of_div (i := i) (by rw [div_step a i, div_step b i, h]; omega)
 simp [cmp, this]
theorem cmp_gt {a b i : Nat} (h : a / pw (i + 1) = b / pw (i + 1)) (hl : limb b i < limb a i) : cmp a b = 1 := by
 have : b < a := lt_of_div (i := i) (by rw [div_step a i, div_step b i, h]; omega)
 have h2 : ¬ a < b := by omega
 simp [cmp, this, h2]
theorem cmp_eq {a b i : Nat} (h : a / pw (i + 1) = b / pw (i + 1)) (hl : limb a i = limb b i) : a / pw i = b / pw i := by
 rw [div_step a i, div_step b i, h, hl]
theorem cmp_same {a b : Nat} (h : a / pw 0 = b / pw 0) : cmp a b = 0 := by
 rw [pw_zero, Nat.div_one, Nat.div_one] at h
 subst h
 simp [cmp]
structure AddSt (a b i s c : Nat) : Prop where
 lt : s < pw i
 eq : a % pw i + b % pw i = s + c * pw i
 le : c ≤ 1
theorem AddSt.zero (a b : Nat) : AddSt a b 0 0 0 := ⟨ppos 0, by simp [pw_zero, Nat.mod_one], by omega⟩
theorem AddSt.step {a b i s c : Nat} (h : AddSt a b i s c) : AddSt a b (i + 1) (setL s i ((limb a i + limb b i + c) % 4294967296)) ((limb a i + limb b i + c) / 4294967296) := by
 obtain ⟨h1, h2, h3⟩ := h
 have hx := limb_lt a i
 have hy := limb_lt b i
 rw [setL_top _ _ _ h1]
 refine ⟨lt_succ h1 (Nat.mod_lt _ Zd), ?_, by omega⟩
 rw [low_succ, low_succ, p32]
 have e := Nat.div_add_mod (limb a i + limb b i + c) 4294967296
 generalize (limb a i + limb b i + c) / 4294967296 = q at *
 generalize (limb a i + limb b i + c) % 4294967296 = r at *
 exact z9_2
theorem AddSt.done {a b s c : Nat} (h : AddSt a b 32 s c) (ha : a < lim) (hb : b < lim) : s = (a + b) % lim ∧ (c = 0 ↔ a + b < lim) := by
 obtain ⟨h1, h2, h3⟩ := h
 have hl : s < lim := h1
 change a % lim + b % lim = s + c * lim at h2
 rw [Nat.mod_eq_of_lt ha, Nat.mod_eq_of_lt hb] at h2
 have h2' : a + b = s + c * lim := h2
 generalize lim = L at *
 have : c = 0 ∨ c = 1 := by omega
 rcases this with rfl | rfl
 ·rw [h2', Nat.zero_mul, Nat.add_zero, Nat.mod_eq_of_lt hl]
  exact ⟨rfl, by simp; omega⟩
 ·rw [h2', Nat.one_mul, Nat.add_mod_right, Nat.mod_eq_of_lt hl]
  exact ⟨rfl, by simp⟩
structure SubSt (a b i s c : Nat) : Prop where
 lt : s < pw i
 eq : a % pw i + c * pw i = b % pw i + s
 le : c ≤ 1
theorem SubSt.zero (a b : Nat) : SubSt a b 0 0 0 := ⟨ppos 0, by simp [pw_zero, Nat.mod_one], by omega⟩
theorem SubSt.step {a b i s c d c2 : Nat} (h : SubSt a b i s c) (hd : d < 4294967296) (hc : c2 ≤ 1) (he : limb a i + c2 * 4294967296 = limb b i + c + d) : SubSt a b (i + 1) (setL s i d) c2 := by
 obtain ⟨h1, h2, h3⟩ := h
 rw [setL_top _ _ _ h1]
 refine ⟨lt_succ h1 hd, ?_, hc⟩
 rw [low_succ, low_succ, p32]
 exact z9_2
theorem brw_eq (x y c : Nat) (hx : x < 4294967296) (hy : y < 4294967296) (hc : c ≤ 1) : x + brw x y c * 4294967296 = y + c + (x + 4294967296 - y + 4294967296 - c) % 4294967296 := by
 unfold brw
 split <;> omega
def dif (a b : Nat) : Nat := if b ≤ a then a - b else a + lim - b
theorem SubSt.done {a b s c : Nat} (h : SubSt a b 32 s c) (ha : a < lim) (hb : b < lim) : s = dif a b := by
 obtain ⟨h1, h2, h3⟩ := h
 have hl : s < lim := h1
 change a % lim + c * lim = b % lim + s at h2
 rw [Nat.mod_eq_of_lt ha, Nat.mod_eq_of_lt hb] at h2
 have h2' : a + c * lim = b + s := h2
 unfold dif
 generalize lim = L at *
 have : c = 0 ∨ c = 1 := by omega
 rcases this with rfl | rfl
 ·rw [if_pos Zo]; omega
 ·rw [if_neg Zo]; omega
theorem dif_lt {a b : Nat} (ha : a < lim) (hb : b < lim) : dif a b < lim := by
 unfold dif; split <;> omega
theorem setL_eq (N i x : Nat) : setL N i x + limb N i * pw i = N + x * pw i := by
 have h1 := Nat.div_add_mod N (pw (i + 1))
 have h2 := low_succ N i
 unfold setL
 generalize N % pw i = p at *
 generalize limb N i * pw i = q at *
 generalize x * pw i = r at *
 rw [Nat.mul_comm] at h1
 generalize N / pw (i + 1) * pw (i + 1) = u at *
 omega
structure MulSt (a b m i s : Nat) : Prop where
 lt : s < pw (i + m)
 eq : s = a % pw i * b
structure RowSt (a b m i j t c : Nat) : Prop where
 lt : t < pw (i + m)
 eq : t + c * pw (i + j) = a % pw i * b + limb a i * (b % pw j) * pw i
 le : c < 4294967296
theorem MulSt.zero (a b m : Nat) : MulSt a b m 0 0 := ⟨ppos _, by simp [pw_zero, Nat.mod_one]⟩
theorem MulSt.row {a b m i s : Nat} (h : MulSt a b m i s) : RowSt a b m i 0 s 0 := ⟨h.lt, by rw [pw_zero, Nat.mod_one]; simp [h.eq], by decide⟩
def col (x y t c : Nat) : Nat := x * y + t + c
theorem col_lt {x y t c : Nat} (hx : x < 4294967296) (hy : y < 4294967296) (ht : t < 4294967296) (hc : c < 4294967296) : col x y t c < 18446744073709551616 := by
 unfold col
 exact z9_3
theorem col_mul {x y : Nat} (hx : x < 4294967296) (hy : y < 4294967296) : x * y ≤ 18446744065119617025 := by
 exact z9_3
theorem RowSt.step {a b m i j t c : Nat} (h : RowSt a b m i j t c) (hj : j < m) :
    RowSt a b m i (j + 1) (setL t (i + j) (col (limb a i) (limb b j) (limb t (i + j)) c % 4294967296)) (col (limb a i) (limb b j) (limb t (i + j)) c / 4294967296) := by
 obtain ⟨h1, h2, h3⟩ := h
 have hx := limb_lt a i
 have hy := limb_lt b j
 have ht := limb_lt t (i + j)
 have hc := col_lt hx hy ht h3
 have e := Nat.div_add_mod (col (limb a i) (limb b j) (limb t (i + j)) c) 4294967296
 refine ⟨setL_lt _ _ _ _ (Nat.mod_lt _ Zd) Zo h1, ?_, by omega⟩
 have hs := setL_eq t (i + j) (col (limb a i) (limb b j) (limb t (i + j)) c % 4294967296)
 rw [low_succ, ← Nat.add_assoc, p32]
 generalize col (limb a i) (limb b j) (limb t (i + j)) c / 4294967296 = q at *
 generalize col (limb a i) (limb b j) (limb t (i + j)) c % 4294967296 = r at *
 generalize setL t (i + j) r = t2 at *
 unfold col at e
 rw [padd] at *
 generalize pw i = pi at *
 generalize pw j = pj at *
 generalize limb a i = x at *
 generalize limb b j = y at *
 generalize limb t (i + j) = z at *
 grind
theorem RowSt.done {a b m i t c : Nat} (h : RowSt a b m i m t c) (hb : b < pw m) : MulSt a b m (i + 1) (setL t (i + m) c) := by
 obtain ⟨h1, h2, h3⟩ := h
 rw [setL_top _ _ _ h1]
 refine ⟨?_, ?_⟩
 ·rw [show i + 1 + m = i + m + 1 from by omega]
  exact lt_succ h1 h3
 ·rw [low_succ, h2, Nat.mod_eq_of_lt hb, Nat.add_mul]
  grind
theorem MulSt.done {a b m n s : Nat} (h : MulSt a b m n s) (ha : a < pw n) : s = a * b := by rw [h.eq, Nat.mod_eq_of_lt ha]
theorem limb_low' (N n i : Nat) (h : i < n) : limb N i = limb (N % pw n) i := (limb_low N n i h).symm
theorem limb_div (N n i : Nat) : limb N (n + i) = limb (N / pw n) i := by
 unfold limb
 rw [padd, Nat.div_div_eq_div_mul]
theorem mul_fits {a b : Nat} (ha : a < lim) (hb : b < lim) : a * b / lim < lim := by
 have h0 : 0 < lim := ppos 32
 rw [Nat.div_lt_iff_lt_mul h0]
 exact Nat.mul_lt_mul'' ha hb
theorem div_zero (N : Nat) : (N / lim = 0) = (N < lim) := by
 rw [Nat.div_eq_zero_iff]
 have : ¬ lim = 0 := by have := ppos 32; unfold lim; omega
 simp [this]
def shT (N x k : Nat) : Nat := N % pw k + N / pw k / x * pw k
def shR (N x k : Nat) : Nat := N / pw k % x
theorem shT_top {N x k : Nat} (h : N < pw k) : shT N x k = N := by
 unfold shT; rw [Nat.div_eq_of_lt h, Nat.mod_eq_of_lt h]; simp
theorem shR_top {N x k : Nat} (h : N < pw k) : shR N x k = 0 := by
 unfold shR; rw [Nat.div_eq_of_lt h]; simp
theorem shT_limb (N x k : Nat) : limb (shT N x (k + 1)) k = limb N k := by
 unfold shT
 rw [limb_add_high _ _ _ _ (Nat.mod_lt _ (ppos _)) (Nat.lt_succ_self k), limb_low _ _ _ (Nat.lt_succ_self k)]
theorem sh_div (A l x : Nat) (hx : 0 < x) : (l + 4294967296 * A) / x = (A % x * 4294967296 + l) / x + A / x * 4294967296 ∧ (l + 4294967296 * A) % x = (A % x * 4294967296 + l) % x := by
 have h := Nat.div_add_mod A x
 have e : l + 4294967296 * A = (A % x * 4294967296 + l) + x * (A / x * 4294967296) := by
  rw [← Nat.mul_assoc]
  generalize x * (A / x) = u at *
  omega
 rw [e]
 exact ⟨Nat.add_mul_div_left _ _ hx, Nat.add_mul_mod_self_left _ _ _⟩
theorem sh_step {N x k : Nat} (hx : 0 < x) : setL (shT N x (k + 1)) k ((shR N x (k + 1) * 4294967296 + limb N k) / x) = shT N x k ∧ shR N x k = (shR N x (k + 1) * 4294967296 + limb N k) % x := by
 have hd := sh_div (N / pw (k + 1)) (limb N k) x hx
 have ht : shT N x (k + 1) % pw k = N % pw k := by
  unfold shT
  rw [low_succ, p32]
  have e : N % pw k + limb N k * pw k + N / (pw k * 4294967296) / x * (pw k * 4294967296) = N % pw k + (limb N k + N / (pw k * 4294967296) / x * 4294967296) * pw k := by grind
  rw [e, Nat.add_mul_mod_self_right, Nat.mod_eq_of_lt (Nat.mod_lt _ (ppos k))]
 have hq : shT N x (k + 1) / pw (k + 1) = N / pw (k + 1) / x := by
  unfold shT
  rw [Nat.add_mul_div_right _ _ (ppos _), Nat.div_eq_of_lt (Nat.mod_lt _ (ppos _)), Nat.zero_add]
 constructor
 ·unfold setL
  rw [ht, hq]
  unfold shT shR
  rw [div_step N k, hd.1, p32]
  generalize (N / (pw k * 4294967296) % x * 4294967296 + limb N k) / x = q
  generalize N / (pw k * 4294967296) / x = u
  grind
 ·unfold shR
  rw [div_step N k, hd.2]
theorem sh_done (N x : Nat) : shT N x 0 = N / x ∧ shR N x 0 = N % x := by
 unfold shT shR
 rw [pw_zero, Nat.mod_one, Nat.div_one]
 simp
theorem shR_lt (N x k : Nat) (hx : 0 < x) : shR N x k < x := Nat.mod_lt _ hx
theorem quo_up {M N : Nat} (hM : M < lim) (hd : M % N ≠ 0) : M / N + 1 < lim := by
 have h1 : N ≠ 1 := by intro e; subst e; simp [Nat.mod_one] at hd
 have h2 : M ≠ 0 := by intro e; subst e; simp at hd
 have h0 : N ≠ 0 ∨ N = 0 := by omega
 rcases h0 with h0 | h0
 ·have h3 : M / N ≤ M / 2 := Nat.div_le_div_left Zo Zd
  omega
 ·subst h0
  simp only [Nat.div_zero]
  omega
end Bg
section
namespace Bg
def lv (N i : Nat) : Value := .int .u32 (limb N i : Nat)
@[irreducible] def lims (n N : Nat) : List Value := (List.range n).map (lv N)
@[irreducible] def row (n N : Nat) : Array Value := (lims n N).toArray
def magV (N : Nat) : Value := .agg (row 32 N)
@[irreducible] def intA (s : Bool) (N : Nat) : Array Value := (Value.bool s :: lims 32 N).toArray
def intV (s : Bool) (N : Nat) : Value := .agg (intA s N)
theorem lims_row (n N : Nat) : (lims n N).toArray = row n N := by unfold row; rfl
theorem lims_length (n N : Nat) : (lims n N).length = n := by simp [lims]
theorem row_size (n N : Nat) : (row n N).size = n := by simp [row, lims]
theorem intA_size (s : Bool) (N : Nat) : (intA s N).size = 33 := by simp [intA, lims]
theorem lims_at (n N i : Nat) (h : i < n) : (lims n N)[i]? = some (lv N i) := by simp [lims, h]
theorem row_at (n N i : Nat) (h : i < n) : (row n N)[i]? = some (lv N i) := by simp [row, lims, h]
theorem intA_at (s : Bool) (N i : Nat) (h : i < 32) : (intA s N)[i + 1]? = some (lv N i) := by simp [intA, lims, h]
theorem intA_neg (s : Bool) (N : Nat) : (intA s N)[0]? = some (.bool s) := by simp [intA]
theorem row_one (n N : Nat) : (row n N).all (·.oneCell') = true := by
 simp [row, lims, lv, Value.oneCell']
theorem intA_one (s : Bool) (N : Nat) : (intA s N).all (·.oneCell') = true := by
 simp [intA, lims, lv, Value.oneCell']
theorem row_set (n N i x : Nat) (hx : x < 4294967296) : (row n N).setIfInBounds i (.int .u32 (x : Nat)) = row n (setL N i x) := by
 apply Array.ext_getElem?
 intro j
 rw [Array.getElem?_setIfInBounds]
 by_cases hj : j < n
 ·rw [row_at n _ j hj]
  by_cases e : i = j
  ·subst e; rw [if_pos rfl, row_size, if_pos hj, row_at n _ i hj]; simp [lv, setL_limb _ _ _ _ hx]
  ·rw [if_neg e, row_at n _ j hj]; simp [lv, setL_limb _ _ _ _ hx, Ne.symm e]
 ·rw [Array.getElem?_eq_none (by rw [row_size]; omega), Array.getElem?_eq_none (by rw [row_size]; omega)]
  by_cases e : i = j
  ·subst e; simp [row_size, hj]
  ·rw [if_neg e]
theorem zero32 : #[Value.int .u32 0, .int .u32 0, .int .u32 0, .int .u32 0, .int .u32 0, .int .u32 0, .int .u32 0, .int .u32 0, .int .u32 0, .int .u32 0, .int .u32 0, .int .u32 0, .int .u32 0, .int .u32 0, .int .u32 0, .int .u32 0, .int .u32 0, .int .u32 0, .int .u32 0, .int .u32 0, .int .u32 0, .int .u32 0, .int .u32 0, .int .u32 0, .int .u32 0, .int .u32 0, .int .u32 0, .int .u32 0, .int .u32 0, .int .u32 0, .int .u32 0, .int .u32 0] = row 32 0 := by
 kernel_rfl
theorem zeroInt : #[Value.bool false, .int .u32 0, .int .u32 0, .int .u32 0, .int .u32 0, .int .u32 0, .int .u32 0, .int .u32 0, .int .u32 0, .int .u32 0, .int .u32 0, .int .u32 0, .int .u32 0, .int .u32 0, .int .u32 0, .int .u32 0, .int .u32 0, .int .u32 0, .int .u32 0, .int .u32 0, .int .u32 0, .int .u32 0, .int .u32 0, .int .u32 0, .int .u32 0, .int .u32 0, .int .u32 0, .int .u32 0, .int .u32 0, .int .u32 0, .int .u32 0, .int .u32 0, .int .u32 0] = intA false 0 := by
 kernel_rfl
end Bg
def Blk (w : World) (b : Nat) (c : Array Value) : Prop := ∃ t, w.heap[b]? = some (.cells c t (0, 0))
theorem Blk.lt {w : World} {b : Nat} {c : Array Value} (h : Blk w b c) : b < w.heap.size := by
 obtain ⟨t, h⟩ := h; exact (Array.getElem?_eq_some_iff.1 h).1
theorem Blk.kept {w w' : World} {b : Nat} {c : Array Value} (h : Blk w b c) (e : w'.heap[b]? = w.heap[b]?) : Blk w' b c := by
 obtain ⟨t, h⟩ := h; exact ⟨t, e.trans h⟩
theorem Blk.below {w w' : World} {b B : Nat} {c : Array Value} (h : Blk w b c) (hb : Below B w w') (hB : b < B) : Blk w' b c := h.kept (hb.block b hB)
theorem Blk.turn {w w' : World} {b : Nat} {r : Option Nat} {c : Array Value} (h : Blk w b c) (hg : w.grownBy w' r) (hne : some b ≠ r) : Blk w' b c := h.kept (hg.block b h.lt hne)
theorem Blk.alloc {w : World} {b : Nat} {c : Array Value} (h : Blk w b c) (o : Obj) : Blk (w.alloc o) b c := h.kept (Below.heap_alloc w o b h.lt)
theorem Blk.new (w : World) (c : Array Value) (t : TypeId) : Blk (w.alloc (.cells c t)) w.heap.size c := ⟨t, heap_alloc_last w _⟩
theorem Blk.drew {w : World} {b : Nat} {c : Array Value} (h : Blk w b c) : Blk w.drew b c := h
theorem Blk.drewN {w : World} {b : Nat} {c : Array Value} (h : Blk w b c) (n : Nat) : Blk (w.drewN n) b c := h.kept Zs
theorem Blk.far {w : World} {b : Nat} {c : Array Value} (h : Blk w b c) {p : Addr} (hp : b ≠ p.block) (u : Value) : Blk (w.setCell p u) b c := h.kept (Below.heap_setCell w p u b hp)
theorem Blk.cell {w : World} {b : Nat} {c : Array Value} (h : Blk w b c) (i : Nat) : w.cell? ⟨b, i, none⟩ = c[i]? := by
 obtain ⟨t, h⟩ := h; exact cell_of_row w b i c t _ h
theorem Blk.free {w : World} {b : Nat} {c : Array Value} (h : Blk w b c) (o : Nat) : w.frozen? ⟨b, o, none⟩ = false := by
 obtain ⟨t, h⟩ := h; simp [World.frozen?, h]
theorem Blk.set {w : World} {b : Nat} {c : Array Value} (h : Blk w b c) (i : Nat) (v : Value) : Blk (w.setCell ⟨b, i, none⟩ v) b (c.setIfInBounds i v) := by
 obtain ⟨t, h⟩ := h
 refine ⟨t, ?_⟩
 rw [setCell_eq_setRow w b i c t (0, 0) v h]
 exact setRow_heap w b c _ t _ h
theorem Blk.range {w : World} {b : Nat} {c : Array Value} (h : Blk w b c) : w.rangeAt b 0 c.toList := by
 intro j v hv
 rw [Nat.zero_add, h.cell j]
 simpa using hv
theorem Blk.mag {w : World} {b : Nat} {s : Bool} {N : Nat} (h : Blk w b (Bg.intA s N)) : w.rangeAt b 1 (Bg.lims 32 N) := by
 intro j v hv
 have hj : j < 32 := by
  have := (List.getElem?_eq_some_iff.1 hv).1
  rw [Bg.lims_length] at this
  exact this
 rw [h.cell (1 + j), Nat.add_comm 1 j, Bg.intA_at s N j hj, ← hv, Bg.lims_at 32 N j hj]
theorem Blk.limb {w : World} {b n N : Nat} (h : Blk w b (Bg.row n N)) {i : Nat} (hi : i < n) : w.cell? ⟨b, i, none⟩ = some (.int .u32 (Bg.limb N i : Nat)) := by
 rw [h.cell i, Bg.row_at n N i hi]; rfl
theorem Blk.put {w : World} {b n N : Nat} (h : Blk w b (Bg.row n N)) (i x : Nat) (hx : x < 4294967296) : Blk (w.setCell ⟨b, i, none⟩ (.int .u32 (x : Nat))) b (Bg.row n (Bg.setL N i x)) := by
 have := h.set i (.int .u32 (x : Nat))
 rwa [Bg.row_set n N i x hx] at this
theorem und_mag : Tryz.prog.underlying 167 = some (.array 32 30) := by kernel_rfl
theorem und_arr : Tryz.prog.underlying 31 = some (.array 32 30) := by kernel_rfl
theorem siz_mag : (Tryz.prog.info? 167).map (·.size) = some 32 := by kernel_rfl
theorem siz_arr : (Tryz.prog.info? 31).map (·.size) = some 32 := by kernel_rfl
theorem siz_int : (Tryz.prog.info? 33).map (·.size) = some 33 := by kernel_rfl
theorem und_int : ∃ fs, Tryz.prog.underlying 33 = some (.struct fs) := ⟨_, Tryz.underlying33⟩
section
variable {ops : Array Oper} {rest : List Oper} {o : Oper} {a : Act} {w : World} {Q : Exit → Act → World → Prop}
theorem ld_mag (N : Nat) (hg : o.guard = none) (x : Operand) (ho : o.op = .load 167 x) (b : Nat) (hx : a.eval x = .pointer (some ⟨b, 0, none⟩)) (hb : Blk w b (Bg.row 32 N))
    (h : wpList Tryz.prog ops Q rest (a.put o.dst (.agg (Bg.row 32 N))) w) : wpList Tryz.prog ops Q (o :: rest) a w := by
 obtain ⟨t, hb⟩ := hb
 exact wpList_load_row hg _ x ho b hx t _ _ _ hb und_mag rfl (by rw [Bg.row_size]; exact siz_mag) h
theorem ld_arr (N : Nat) (hg : o.guard = none) (x : Operand) (ho : o.op = .load 31 x) (b : Nat) (hx : a.eval x = .pointer (some ⟨b, 0, none⟩)) (hb : Blk w b (Bg.row 32 N))
    (h : wpList Tryz.prog ops Q rest (a.put o.dst (.agg (Bg.row 32 N))) w) : wpList Tryz.prog ops Q (o :: rest) a w := by
 obtain ⟨t, hb⟩ := hb
 exact wpList_load_row hg _ x ho b hx t _ _ _ hb und_arr rfl (by rw [Bg.row_size]; exact siz_arr) h
theorem ld_fld (s : Bool) (N : Nat) (hg : o.guard = none) (x : Operand) (ho : o.op = .load 31 x) (b : Nat) (hx : a.eval x = .pointer (some ⟨b, 1, none⟩)) (hb : Blk w b (Bg.intA s N))
    (h : wpList Tryz.prog ops Q rest (a.put o.dst (.agg (Bg.row 32 N))) w) : wpList Tryz.prog ops Q (o :: rest) a w :=
 wpList_load_mid hg _ x ho b 1 hx (Bg.lims 32 N) _ hb.mag und_arr rfl (by rw [Bg.lims_length]; exact siz_arr) (by rw [Bg.lims_row]; exact h)
theorem ld_int (s : Bool) (N : Nat) (hg : o.guard = none) (x : Operand) (ho : o.op = .load 33 x) (b : Nat) (hx : a.eval x = .pointer (some ⟨b, 0, none⟩)) (hb : Blk w b (Bg.intA s N))
    (h : wpList Tryz.prog ops Q rest (a.put o.dst (.agg (Bg.intA s N))) w) : wpList Tryz.prog ops Q (o :: rest) a w := by
 obtain ⟨t, hb⟩ := hb
 obtain ⟨fs, hu⟩ := und_int
 exact wpList_load_row hg _ x ho b hx t _ _ _ hb hu rfl (by rw [Bg.intA_size]; exact siz_int) h
theorem st_mag (N : Nat) (c : Array Value) (hg : o.guard = none) (x y : Operand) (ho : o.op = .store 167 x y) (b : Nat) (hx : a.eval x = .pointer (some ⟨b, 0, none⟩)) (hy : a.eval y = .agg (Bg.row 32 N)) (hb : Blk w b c) (hc : c.size = 32)
    (h : wpList Tryz.prog ops Q rest (a.put o.dst undef) (w.setRow b (Bg.row 32 N))) : wpList Tryz.prog ops Q (o :: rest) a w := by
 obtain ⟨t, hb⟩ := hb
 exact wpList_plain hg fun _ hK => wp_store_row _ x y ho b _ hx hy t _ hb (by rw [Bg.row_size]; exact siz_mag) (by rw [Bg.row_size, hc]) (Bg.row_one 32 N) (hK _ _ h)
theorem st_int (s : Bool) (N : Nat) (c : Array Value) (hg : o.guard = none) (x y : Operand) (ho : o.op = .store 33 x y) (b : Nat) (hx : a.eval x = .pointer (some ⟨b, 0, none⟩)) (hy : a.eval y = .agg (Bg.intA s N)) (hb : Blk w b c) (hc : c.size = 33)
    (h : wpList Tryz.prog ops Q rest (a.put o.dst undef) (w.setRow b (Bg.intA s N))) : wpList Tryz.prog ops Q (o :: rest) a w := by
 obtain ⟨t, hb⟩ := hb
 exact wpList_plain hg fun _ hK => wp_store_row _ x y ho b _ hx hy t _ hb (by rw [Bg.intA_size]; exact siz_int) (by rw [Bg.intA_size, hc]) (Bg.intA_one s N) (hK _ _ h)
end
theorem Blk.setRow {w : World} {b : Nat} {c : Array Value} (h : Blk w b c) (c' : Array Value) : Blk (w.setRow b c') b c' := by
 obtain ⟨t, h⟩ := h; exact ⟨t, setRow_heap w b c c' t _ h⟩
theorem heap_setRow (w : World) (g : Nat) (c : Array Value) (k : Nat) (h : k ≠ g) : (w.setRow g c).heap[k]? = w.heap[k]? := by
 simp only [World.setRow, Array.getElem?_modify]
 rw [if_neg Zo]
theorem Blk.farRow {w : World} {b g : Nat} {c : Array Value} (h : Blk w b c) (hne : b ≠ g) (c' : Array Value) : Blk (w.setRow g c') b c := h.kept (heap_setRow w g c' b hne)
theorem below_setRow {B : Nat} {a w : World} (h : Below B a w) {g : Nat} (hg : B ≤ g) (c : Array Value) : Below B a (w.setRow g c) :=
 h.trans ⟨rfl, rfl, rfl, by simp, fun k hk => heap_setRow _ _ _ _ Zo⟩
end
section
theorem used_any (b N : Nat) (w : World) (hb : Blk w b (Bg.row 32 N)) :
    Calls Tryz.prog 161 #[.pointer (some ⟨b, 0, none⟩)] w fun e w' => e = .returned (.int .i64 (Bg.used N : Nat)) ∧ w' = w := by
 have HB := Zi hb
 clear hb
 go_enter Tryz.func161, Tryz.ntmps161
 go_wp2
 go_loop [3] (fun i => ∃ k : Nat, k ≤ 32 ∧ i = .int .i64 k ∧ Hid (Bg.used N = Bg.top k N)) (fun i => (intOf i).toNat)
 case atStart => exact ⟨32, by omega, rfl, Zi rfl⟩
 case round =>
  obtain ⟨k, hk, rfl, HK⟩ := hrel
  cases k with
  | zero =>
   go_wp2
   go_ret
   exact ⟨by rw [HK.out]; rfl, rfl⟩
  | succ k =>
   have hc := HB.out.limb (i := k) Zo
   by_cases h0 : Bg.limb N k = 0
   ·exact z9_4
   ·go_wp2
    go_ret
    exact ⟨by rw [HK.out, Bg.top_stop h0]; simp, rfl⟩
theorem limbs_any (N : Nat) (w : World) :
    Calls Tryz.prog 176 #[Bg.magV N] w fun e w' => e = .returned (.int .i64 (Bg.used N : Nat)) ∧ Below w.heap.size w w' := by
 unfold Bg.magV
 go_enter Tryz.func176, Tryz.ntmps176
 go_wp2
 have HB := Zi (Blk.new w (Bg.row 32 N) 31)
 generalize hg : w.alloc (Obj.cells (Bg.row 32 N) 31) = w1 at HB ⊢
 have HL := Zi (show Below w.heap.size w w1 from hg ▸ below_new w _)
 clear hg
 go_loop [3] (fun i => ∃ k : Nat, k ≤ 32 ∧ i = .int .i64 k ∧ Hid (Bg.used N = Bg.top k N)) (fun i => (intOf i).toNat)
 case atStart => exact ⟨32, by omega, rfl, Zi rfl⟩
 case round =>
  obtain ⟨k, hk, rfl, HK⟩ := hrel
  cases k with
  | zero =>
   go_wp2
   go_ret
   exact ⟨by rw [HK.out]; rfl, HL.out⟩
  | succ k =>
   have hc := HB.out.limb (i := k) Zo
   by_cases h0 : Bg.limb N k = 0
   ·exact z9_4
   ·go_wp2
    go_ret
    exact ⟨by rw [HK.out, Bg.top_stop h0]; simp, HL.out⟩
theorem zero_any (N : Nat) (hN : N < Bg.lim) (w : World) :
    Calls Tryz.prog 171 #[Bg.magV N] w fun e w' => e = .returned (.bool (decide (N = 0))) ∧ Below w.heap.size w w' := by
 unfold Bg.magV
 go_enter Tryz.func171, Tryz.ntmps171
 have HB := Zi (Blk.new w (Bg.row 32 N) 31)
 go_wp2_with (first
  | (refine ld_arr N rfl _ rfl _ rfl HB.out ?_)
  | (go_at_call 176; refine (limbs_any N _).mono ?_; rintro e w' ⟨rfl, hL⟩))
 go_ret
 refine ⟨?_, (below_new w _).trans (hL.mono Zs)⟩
 have h0 := Bg.used_zero hN
 by_cases e : N = 0
 ·rw [h0.2 e]
  simp [e]
 ·have := mt h0.1 e
  simp [e, this]
end
section
theorem u32_info : ∃ i, Tryz.prog.info? 30 = some i := Option.isSome_iff_exists.1 Zk
theorem u32_cells : Tryz.prog.cellsOf 30 = 1 := by kernel_rfl
theorem eq_items (N M n : Nat) (W : World) (d : Nat) : ∀ is : List Nat, (∀ i ∈ is, i < n) →
    (Op.eqItems (d + 1) 30 1 (Bg.row n N) (Bg.row n M) is).run Tryz.prog W = .ok (is.all fun i => decide (Bg.limb N i = Bg.limb M i)) W
 | [], _ => by simp [Op.eqItems]
 | i :: is, h => by
  have hi : i < n := h i Zs
  have ih := eq_items N M n W d is (fun j hj => h j (by simp [hj]))
  have hb := fun a b => run_equalIn_int (P := Tryz.prog) W d 30 .u32 .u32 a b Tryz.underlying30
  have h1 := Bg.row_at n N i hi
  have h2 := Bg.row_at n M i hi
  have hl : (Bg.lv N i, Bg.lv M i) = (.int .u32 (Bg.limb N i : Nat), .int .u32 (Bg.limb M i : Nat)) := rfl
  injection hl with l1 l2
  rw [l1] at h1
  rw [l2] at h2
  have hd : ((Bg.limb N i : Int) == (Bg.limb M i : Int)) = decide (Bg.limb N i = Bg.limb M i) := by
   by_cases e : Bg.limb N i = Bg.limb M i
   ·simp [e]
   ·simp [e]
    omega
  simp only [Op.eqItems, List.all_cons, Nat.mul_one, Sem.run_bind]
  simp [part, h1, h2, hb, hd, Result.andThen, ih]
  by_cases e : Bg.limb N i = Bg.limb M i <;> simp [e]
theorem eq_mag (N M : Nat) (hN : N < Bg.lim) (hM : M < Bg.lim) (W : World) :
    (Op.equalIn 10000 167 (.agg (Bg.row 32 N)) (.agg (Bg.row 32 M))).run Tryz.prog W = .ok (decide (N = M)) W := by
 obtain ⟨i, hi⟩ := u32_info
 rw [run_equalIn_array W 9999 _ _ und_mag hi, u32_cells, eq_items N M 32 W 9998 _ Zs]
 congr 1
 by_cases e : N = M
 ·simp [e]
 ·exact z9_5
section
variable {ops : Array Oper} {o : Oper} {a : Act} {w : World} {K : Act → Prop}
theorem sl_mag (N : Nat) (hw : Region.wanted o (yielded ops a.tmps) = true) (x : Operand) (ho : o.op = .load 167 x) (b : Nat) (hx : a.eval x = .pointer (some ⟨b, 0, none⟩)) (hb : Blk w b (Bg.row 32 N))
    (h : K (a.put o.dst (.agg (Bg.row 32 N)))) : if Region.wanted o (yielded ops a.tmps) = true then o.still Tryz.prog a w K else K (a.put o.dst undef) := by
 obtain ⟨t, hb⟩ := hb
 rw [if_pos hw]
 unfold Oper.still execOp
 simp only [ho, hx, Instr.loadAt, Instr.sureAddr, Sem.run_bind, Sem.run_pure, Result.andThen_ok, run_loadVar_row w b t _ _ _ _ hb und_mag rfl (by rw [Bg.row_size]; exact siz_mag)]
 rw [Oper.stillUpon_value]
 exact h
end
theorem run_cmp_mag (op : BinOp) (N M : Nat) (hN : N < Bg.lim) (hM : M < Bg.lim) (x y : Operand) (w : World) (h : op = .eql ∨ op = .neq) :
    (do eqGuard op 167 x y (.agg (Bg.row 32 N)) (.agg (Bg.row 32 M)); binOp op 167 (.agg (Bg.row 32 N)) (.agg (Bg.row 32 M)) : Sem Value).run Tryz.prog w = .ok (.bool (if op = .eql then decide (N = M) else !decide (N = M))) w := by
 have hm : Tryz.prog.eqGuardType Tryz.prog.depth 167 = false := by kernel_rfl
 simp only [Sem.run_bind, run_eqGuard_agg w op _ x y _ _ hm, Result.andThen_ok]
 rcases h with rfl | rfl
 ·rw [run_eql_struct, eq_mag N M hN hM, Result.andThen_ok, if_pos rfl]
 ·rw [run_neq_struct, eq_mag N M hN hM, Result.andThen_ok, if_neg Zs]
theorem sl_neq (N M : Nat) {ops : Array Oper} {o : Oper} {a : Act} {w : World} {K : Act → Prop} (hw : Region.wanted o (yielded ops a.tmps) = true) (x y : Operand) (t : TypeId) (ho : o.op = .binOp .neq 167 x y t) (hx : a.eval x = .agg (Bg.row 32 N)) (hy : a.eval y = .agg (Bg.row 32 M)) (hN : N < Bg.lim) (hM : M < Bg.lim)
    (h : K (a.put o.dst (.bool (!decide (N = M))))) : if Region.wanted o (yielded ops a.tmps) = true then o.still Tryz.prog a w K else K (a.put o.dst undef) := by
 have hr := run_cmp_mag .neq N M hN hM x y w (.inr rfl)
 rw [if_neg Zs] at hr
 rw [if_pos hw]
 unfold Oper.still execOp
 simp only [ho, hx, hy, Sem.run_bind, hr]
 simp only [Sem.run_bind] at hr
 simp only [Result.andThen_ok, Sem.run_pure]
 rw [Oper.stillUpon_value]
 exact h
theorem ls_cmp (op : BinOp) (N M : Nat) {ops : Array Oper} {rest : List Oper} {o : Oper} {a : Act} {w : World} {Q : Exit → Act → World → Prop} (hg : o.guard = none) (x y : Operand) (t : TypeId) (ho : o.op = .binOp op 167 x y t) (he : op = .eql ∨ op = .neq) (hx : a.eval x = .agg (Bg.row 32 N)) (hy : a.eval y = .agg (Bg.row 32 M)) (hN : N < Bg.lim) (hM : M < Bg.lim)
    (h : wpList Tryz.prog ops Q rest (a.put o.dst (.bool (if op = .eql then decide (N = M) else !decide (N = M)))) w) : wpList Tryz.prog ops Q (o :: rest) a w := by
 have hr := run_cmp_mag op N M hN hM x y w he
 refine wpList_plain hg fun _ hK => ?_
 unfold Oper.wp execOp
 simp only [Sem.run_bind] at hr
 simp only [ho, hx, hy, Sem.run_bind, hr, Result.andThen_ok, Sem.run_pure]
 exact hK _ _ h
theorem still_tail {id : Nat} {Q : Exit → Act → World → Prop} {a : Act} {w : World} {l : List Oper} (n : Nat) (hB : Region.lexTailB .any l.toArray n = true)
    (h : ∀ w2 : World, Hid (w2 = w.drew) → wpStill Tryz.prog l.toArray w2 (fun a' => wpList Tryz.prog l.toArray Q (l.drop n) a' w2) (l.take n) a) : (Code.region id l.toArray true).wp Tryz.prog Q a w :=
 wp_region_still_tail n Zk hB (h w.drew rfl)
section
variable {fn : Func} {P : Program} {w : World} {p q t u : Tmp} {ty ty2 : TypeId} {a b : Addr} {v v2 : Value}
theorem res_cell (h : fn.results = #[.cell p ty]) (tmps : Array Value) (hp : tmps.getD p undef = .pointer (some a)) (hl : (loadVar ty a).run P w = .ok v w) : (results fn tmps).run P w = .ok v w := by
 have hp' : tmps[p]?.getD undef = .pointer (some a) := by simpa using hp
 simp [results, h, hp', asAddr, hl]
theorem res_tmp_cell (h : fn.results = #[.tmp t, .cell p ty]) (tmps : Array Value) (hp : tmps.getD p undef = .pointer (some a)) (hl : (loadVar ty a).run P w = .ok v w) : (results fn tmps).run P w = .ok (.tuple #[tmps.getD t undef, v]) w := by
 exact z9_6
theorem res_cell_tmp (h : fn.results = #[.cell p ty, .tmp t]) (tmps : Array Value) (hp : tmps.getD p undef = .pointer (some a)) (hl : (loadVar ty a).run P w = .ok v w) : (results fn tmps).run P w = .ok (.tuple #[v, tmps.getD t undef]) w := by
 exact z9_6
theorem res_cell_cell (h : fn.results = #[.cell p ty, .cell q ty2]) (tmps : Array Value) (hp : tmps.getD p undef = .pointer (some a)) (hq : tmps.getD q undef = .pointer (some b)) (hl : (loadVar ty a).run P w = .ok v w) (hl2 : (loadVar ty2 b).run P w = .ok v2 w) : (results fn tmps).run P w = .ok (.tuple #[v, v2]) w := by
 exact z9_7
theorem res_cell_cell_tmp (h : fn.results = #[.cell p ty, .cell q ty2, .tmp t]) (tmps : Array Value) (hp : tmps.getD p undef = .pointer (some a)) (hq : tmps.getD q undef = .pointer (some b)) (hl : (loadVar ty a).run P w = .ok v w) (hl2 : (loadVar ty2 b).run P w = .ok v2 w) : (results fn tmps).run P w = .ok (.tuple #[v, v2, tmps.getD t undef]) w := by
 exact z9_7
end
theorem lv_mag {w : World} {b N : Nat} (hb : Blk w b (Bg.row 32 N)) : (loadVar 167 ⟨b, 0, none⟩).run Tryz.prog w = .ok (.agg (Bg.row 32 N)) w := by
 obtain ⟨t, hb⟩ := hb
 exact run_loadVar_row w b t _ _ _ _ hb und_mag rfl (by rw [Bg.row_size]; exact siz_mag)
theorem lv_int {w : World} {s : Bool} {b N : Nat} (hb : Blk w b (Bg.intA s N)) : (loadVar 33 ⟨b, 0, none⟩).run Tryz.prog w = .ok (.agg (Bg.intA s N)) w := by
 obtain ⟨t, hb⟩ := hb
 obtain ⟨fs, hu⟩ := und_int
 exact run_loadVar_row w b t _ _ _ _ hb hu rfl (by rw [Bg.intA_size]; exact siz_int)
theorem fill_at (l : List Value) : ∀ (k : Nat) (c : Array Value) (j : Nat), ((l.zipIdx k).foldl (fun (cs : Array Value) (x : Value × Nat) => cs.setIfInBounds (1 + x.snd) x.fst) c)[j]? =
    if k + 1 ≤ j ∧ j < k + 1 + l.length ∧ j < c.size then l[j - (k + 1)]? else c[j]? := by
 induction l with
 | nil => intro k c j; simp; omega
 | cons x l ih =>
  intro k c j
  rw [List.zipIdx_cons, List.foldl_cons, ih (k + 1)]
  simp only [Array.size_setIfInBounds, Array.getElem?_setIfInBounds, List.length_cons]
  by_cases h1 : j = k + 1
  ·subst h1
   by_cases h2 : k + 1 < c.size
   ·exact z9_8
   ·exact z9_9
  ·by_cases h2 : k + 1 + 1 ≤ j ∧ j < k + 1 + 1 + l.length ∧ j < c.size
   ·rw [if_pos h2, if_pos Zo]
    obtain ⟨d, rfl⟩ : ∃ d, j = k + 1 + 1 + d := ⟨j - (k + 2), by omega⟩
    rw [show k + 1 + 1 + d - (k + 1 + 1) = d from by omega, show k + 1 + 1 + d - (k + 1) = d + 1 from by omega]
    simp
   ·rw [if_neg h2]
    by_cases h3 : k + 1 ≤ j ∧ j < k + 1 + (l.length + 1) ∧ j < c.size
    ·omega
    ·rw [if_neg h3, if_neg Zo]
theorem fill_int (s : Bool) (N : Nat) : Array.foldl (fun (cs : Array Value) (x : Value × Nat) => cs.setIfInBounds (1 + x.snd) x.fst) ((Bg.intA false 0).setIfInBounds 0 (Value.bool s)) (Bg.row 32 N).zipIdx 0 32 = Bg.intA s N := by
 have e : (Bg.row 32 N).zipIdx = ((Bg.lims 32 N).zipIdx 0).toArray := by simp [Bg.row]
 have hs : (Bg.row 32 N).zipIdx.size = 32 := by simp [Bg.row_size]
 have h32 : Array.foldl (fun (cs : Array Value) (x : Value × Nat) => cs.setIfInBounds (1 + x.snd) x.fst) ((Bg.intA false 0).setIfInBounds 0 (Value.bool s)) (Bg.row 32 N).zipIdx 0 32 = Array.foldl (fun (cs : Array Value) (x : Value × Nat) => cs.setIfInBounds (1 + x.snd) x.fst) ((Bg.intA false 0).setIfInBounds 0 (Value.bool s)) (Bg.row 32 N).zipIdx := by rw [hs]
 rw [h32, e, List.foldl_toArray]
 apply Array.ext_getElem?
 intro j
 rw [fill_at]
 simp only [Bg.lims_length, Array.size_setIfInBounds, Bg.intA_size]
 match j with
 | 0 => simp [Bg.intA]
 | j + 1 =>
  by_cases hj : j < 32
  ·rw [if_pos Zo, Bg.intA_at s N j hj, show j + 1 - (0 + 1) = j from by omega, Bg.lims_at 32 N j hj]
  ·rw [if_neg Zo, Array.getElem?_eq_none (by simp [Bg.intA_size]; omega), Array.getElem?_eq_none (by rw [Bg.intA_size]; omega)]
theorem alloc_size (w : World) (o : Obj) : (w.alloc o).heap.size = w.heap.size + 1 := by simp
theorem intA_ne (s : Bool) (N : Nat) : (Bg.intA s N = #[]) = False := by
 simp [Bg.intA]
theorem made_any (s : Bool) (N : Nat) (hN : N < Bg.lim) (w : World) :
    Calls Tryz.prog 136 #[.bool s, Bg.magV N] w fun e w' => e = .returned (Bg.intV (s && decide (N ≠ 0)) N) ∧ Below w.heap.size w w' := by
 unfold Bg.magV Bg.intV
 have hz := Bg.zero32
 have hzi := Bg.zeroInt
 go_enter Tryz.func136, Tryz.ntmps136
 go_wp2_with fail
 have HB := Zi ((Blk.new w (Bg.row 32 N) 167).alloc (.cells (Bg.intA false 0) 33))
 have HR := Zi (Blk.new (w.alloc (.cells (Bg.row 32 N) 167)) (Bg.intA false 0) 33)
 have HL := Zi ((below_new w (.cells (Bg.row 32 N) 167)).alloc Zs (.cells (Bg.intA false 0) 33))
 rw [alloc_size] at HR
 generalize (w.alloc (.cells (Bg.row 32 N) 167)).alloc (.cells (Bg.intA false 0) 33) = w1 at HB HR HL ⊢
 have hn := intA_ne false 0
 have hs1 := Bg.row_size 32 N
 have hs2 := Bg.intA_size false 0
 have hf := fun s => fill_int s N
 have HR2 := Zi (fun w2 (h : Hid (w2 = w1.drew)) => (show Blk w2 (w.heap.size + 1) (Bg.intA false 0) from h.out ▸ HR.out))
 cases s with
 | false =>
  refine still_tail 8 Zk (fun w2 H2 => ?_)
  simp only [List.take_succ_cons, List.take_zero, List.drop_succ_cons, List.drop_zero]
  iterate 6 still_step
  refine wpStill_step (fun K hK => ?_)
  refine sl_mag N Zk _ rfl _ rfl (H2.out ▸ HB.out) ?_
  refine hK _ ?_
  clear hK K
  still_step
  refine wpStill_nil ?_
  refine st_int false N _ rfl _ _ rfl _ rfl rfl (HR2.out _ H2) hs2 ?_
  have HF := Zi ((HR2.out _ H2).setRow (Bg.intA false N))
  have HG := Zi (below_setRow (show Below w.heap.size w w2 from H2.out ▸ HL.out.drew) (g := w.heap.size + 1) Zo (Bg.intA false N))
  generalize w2.setRow (w.heap.size + 1) (Bg.intA false N) = w3 at HF HG ⊢
  go_wp2_with fail
  refine bodyPost_ret (res_cell rfl _ rfl (lv_int HF.out)) rfl ⟨by simp, HG.out⟩
 | true =>
  refine still_tail 8 Zk (fun w2 H2 => ?_)
  simp only [List.take_succ_cons, List.take_zero, List.drop_succ_cons, List.drop_zero]
  iterate 2 still_step
  refine wpStill_step (fun K hK => ?_)
  refine sl_mag N Zk _ rfl _ rfl (H2.out ▸ HB.out) ?_
  refine hK _ ?_
  clear hK K
  still_step
  refine wpStill_step (fun K hK => ?_)
  refine sl_neq N 0 Zk _ _ _ rfl rfl rfl hN (Bg.ppos 32) ?_
  refine hK _ ?_
  clear hK K
  still_step
  refine wpStill_step (fun K hK => ?_)
  refine sl_mag N Zk _ rfl _ rfl (H2.out ▸ HB.out) ?_
  refine hK _ ?_
  clear hK K
  still_step
  refine wpStill_nil ?_
  refine st_int (!decide (N = 0)) N _ rfl _ _ rfl _ rfl rfl (HR2.out _ H2) hs2 ?_
  have HF := Zi ((HR2.out _ H2).setRow (Bg.intA (!decide (N = 0)) N))
  have HG := Zi (below_setRow (show Below w.heap.size w w2 from H2.out ▸ HL.out.drew) (g := w.heap.size + 1) Zo (Bg.intA (!decide (N = 0)) N))
  generalize w2.setRow (w.heap.size + 1) (Bg.intA (!decide (N = 0)) N) = w3 at HF HG ⊢
  go_wp2_with fail
  refine bodyPost_ret (res_cell rfl _ rfl (lv_int HF.out)) rfl ⟨by simp, HG.out⟩
end
section
set_option maxRecDepth 20000 in
theorem split_any (s : Bool) (N : Nat) (hN : N < Bg.lim) (w : World) :
    Calls Tryz.prog 120 #[Bg.intV s N] w fun e w' => e = .returned (.tuple #[.bool (s && decide (N ≠ 0)), Bg.magV N]) ∧ Below w.heap.size w w' := by
 unfold Bg.magV Bg.intV
 have hz := Bg.zero32
 have hs2 := Bg.row_size 32 0
 obtain ⟨w1, hw1⟩ : ∃ w1, w1 = (w.alloc (.cells (Bg.intA s N) 33)).alloc (.cells (Bg.row 32 0) 167) := ⟨_, rfl⟩
 have HB := Zi ((Blk.new w (Bg.intA s N) 33).alloc (.cells (Bg.row 32 0) 167))
 have HR := Zi (Blk.new (w.alloc (.cells (Bg.intA s N) 33)) (Bg.row 32 0) 167)
 have HL := Zi ((below_new w (.cells (Bg.intA s N) 33)).alloc Zs (.cells (Bg.row 32 0) 167))
 rw [alloc_size] at HR
 have HZ := Zi (Blk.new w1 (Bg.row 32 0) 167)
 have hsz : w1.heap.size = w.heap.size + 2 := by rw [hw1]; simp
 rw [← hw1] at HB HR HL
 rw [hsz] at HZ
 go_enter Tryz.func120, Tryz.ntmps120
 go_wp2_with (first
  | (rw [← hw1]; refine ld_fld s N rfl _ rfl _ rfl HB.out ?_; clear hw1)
  | (refine st_mag N _ rfl _ _ rfl _ rfl rfl HZ.out hs2 ?_; generalize hq : World.setRow _ _ _ = w3))
 have HB3 := Zi ((HB.out.alloc (.cells (Bg.row 32 0) 167)).farRow (g := w.heap.size + 2) Zo (Bg.row 32 N))
 have HR3 := Zi ((HR.out.alloc (.cells (Bg.row 32 0) 167)).farRow (g := w.heap.size + 2) Zo (Bg.row 32 N))
 have HM3 := Zi (HZ.out.setRow (Bg.row 32 N))
 have HL3 := Zi (below_setRow (HL.out.alloc Zo (.cells (Bg.row 32 0) 167)) (g := w.heap.size + 2) Zo (Bg.row 32 N))
 rw [hq] at HB3 HR3 HM3 HL3
 clear hq HB HR HZ HL
 have HW := Zi (fun w2 (h : Hid (w2 = w3.drew)) => (show w2.cell? ⟨w.heap.size, 0, none⟩ = some (.bool s) from h.out ▸ (HB3.out.cell 0).trans (Bg.intA_neg s N)))
 cases s with
 | false =>
  refine still_tail 9 Zk (fun w2 H2 => ?_)
  simp only [List.take_succ_cons, List.take_zero, List.drop_succ_cons, List.drop_zero]
  have hc := HW.out w2 H2
  iterate 7 still_step
  refine wpStill_step (fun K hK => ?_)
  refine sl_mag N Zk _ rfl _ rfl (H2.out ▸ HM3.out) ?_
  refine hK _ ?_
  clear hK K
  still_step
  refine wpStill_nil ?_
  refine st_mag N _ rfl _ _ rfl _ rfl rfl (H2.out ▸ HR3.out) hs2 ?_
  have HF := Zi ((show Blk w2 (w.heap.size + 1) (Bg.row 32 0) from H2.out ▸ HR3.out).setRow (Bg.row 32 N))
  have HG := Zi (below_setRow (show Below w.heap.size w w2 from H2.out ▸ HL3.out.drew) (g := w.heap.size + 1) Zo (Bg.row 32 N))
  generalize w2.setRow (w.heap.size + 1) (Bg.row 32 N) = w4 at HF HG ⊢
  go_wp2_with fail
  refine bodyPost_ret (res_tmp_cell rfl _ rfl (lv_mag HF.out)) rfl ⟨by simp [Act.put], HG.out⟩
 | true =>
  refine still_tail 9 Zk (fun w2 H2 => ?_)
  simp only [List.take_succ_cons, List.take_zero, List.drop_succ_cons, List.drop_zero]
  have hc := HW.out w2 H2
  iterate 3 still_step
  refine wpStill_step (fun K hK => ?_)
  refine sl_mag N Zk _ rfl _ rfl (H2.out ▸ HM3.out) ?_
  refine hK _ ?_
  clear hK K
  still_step
  refine wpStill_step (fun K hK => ?_)
  refine sl_neq N 0 Zk _ _ _ rfl rfl rfl hN (Bg.ppos 32) ?_
  refine hK _ ?_
  clear hK K
  still_step
  refine wpStill_step (fun K hK => ?_)
  refine sl_mag N Zk _ rfl _ rfl (H2.out ▸ HM3.out) ?_
  refine hK _ ?_
  clear hK K
  still_step
  refine wpStill_nil ?_
  refine st_mag N _ rfl _ _ rfl _ rfl rfl (H2.out ▸ HR3.out) hs2 ?_
  have HF := Zi ((show Blk w2 (w.heap.size + 1) (Bg.row 32 0) from H2.out ▸ HR3.out).setRow (Bg.row 32 N))
  have HG := Zi (below_setRow (show Below w.heap.size w w2 from H2.out ▸ HL3.out.drew) (g := w.heap.size + 1) Zo (Bg.row 32 N))
  generalize w2.setRow (w.heap.size + 1) (Bg.row 32 N) = w4 at HF HG ⊢
  go_wp2_with fail
  refine bodyPost_ret (res_tmp_cell rfl _ rfl (lv_mag HF.out)) rfl ⟨by simp [Act.put], HG.out⟩
end
section
theorem ret_pair {v v' u u' : Value} {x : Ending} (h : x = .returned (.tuple #[v, u])) (h1 : v = v') (h2 : u = u') : x = .returned (.tuple #[v', u']) := by rw [h, h1, h2]
theorem add32_any (x y c : Nat) (hx : x < 4294967296) (hy : y < 4294967296) (hc : c ≤ 1) (w : World) :
    Calls Tryz.prog 200 #[.int .u32 (x : Nat), .int .u32 (y : Nat), .int .u32 (c : Nat)] w fun e w' => e = .returned (.tuple #[.int .u32 ((x + y + c) % 4294967296 : Nat), .int .u32 ((x + y + c) / 4294967296 : Nat)]) ∧ w' = w := by
 go_enter Tryz.func200, Tryz.ntmps200
 go_wp2
 go_ret2
 refine ⟨ret_pair rfl (by congr) (by congr), rfl⟩
theorem sub32_any (x y c : Nat) (hx : x < 4294967296) (hy : y < 4294967296) (hc : c ≤ 1) (w : World) :
    Calls Tryz.prog 199 #[.int .u32 (x : Nat), .int .u32 (y : Nat), .int .u32 (c : Nat)] w fun e w' => e = .returned (.tuple #[.int .u32 ((x + 4294967296 - y + 4294967296 - c) % 4294967296 : Nat), .int .u32 (Bg.brw x y c : Nat)]) ∧ w' = w := by
 have hs : IntKind.u32.signed = false := rfl
 have hm : IntKind.u32.max = 4294967295 := rfl
 have hd : (((x : Int) - y) % 4294967296 - c) % 4294967296 = (((x + 4294967296 - y + 4294967296 - c) % 4294967296 : Nat) : Int) := by omega
 have hb := Bg.borrow_bits x y c hx hy hc
 have hdl : (x + 4294967296 - y + 4294967296 - c) % 4294967296 < 4294967296 := Nat.mod_lt _ Zd
 obtain ⟨d, hdd⟩ : ∃ d, d = (x + 4294967296 - y + 4294967296 - c) % 4294967296 := ⟨_, rfl⟩
 rw [← hdd] at hd hb hdl ⊢
 have hx1 : x ^^^ y < 4294967296 := Nat.xor_lt_two_pow (n := 32) hx hy
 have hx2 : 4294967295 ^^^ x < 4294967296 := Nat.xor_lt_two_pow (n := 32) Zd hx
 have hx3 : 4294967295 ^^^ (x ^^^ y) < 4294967296 := Nat.xor_lt_two_pow (n := 32) Zd hx1
 have h4 : (4294967295 ^^^ x) &&& y < 4294967296 := Nat.lt_of_le_of_lt Nat.and_le_right hy
 have h5 : (4294967295 ^^^ (x ^^^ y)) &&& d < 4294967296 := Nat.lt_of_le_of_lt Nat.and_le_right hdl
 have r1 := u32_xor_nat x y hx hy
 have r2 : bits .xor .u32 4294967295 (x : Int) = _ := u32_xor_nat 4294967295 x Zd hx
 have r3 : bits .xor .u32 4294967295 ((x ^^^ y : Nat) : Int) = _ := u32_xor_nat 4294967295 (x ^^^ y) Zd hx1
 have r4 := u32_and_nat (4294967295 ^^^ x) y hx2 hy
 have r5 := u32_and_nat (4294967295 ^^^ (x ^^^ y)) d hx3 hdl
 have r6 := u32_or_nat _ _ h4 h5
 have HB := Zi hb
 clear hb hdd hdl hx1 hx2 hx3 h4 h5
 go_enter Tryz.func199, Tryz.ntmps199
 go_wp2
 go_ret2
 refine ⟨ret_pair rfl (congrArg (Value.int .u32) hd) (congrArg (Value.int .u32) ?_), rfl⟩
 rw [← HB.out]
 rfl
theorem div_or (x y : Nat) (hx : x < 4294967296) (hy : y < 4294967296) : bits .or .u64 (((x * 4294967296 : Nat) : Int)) (y : Int) = ((x * 4294967296 + y : Nat) : Int) := by
 rw [u64_or_nat _ _ Zo Zo, nat_join 32 _ _ Zo Zo]
set_option maxRecDepth 20000 in
theorem div32_any (x y d : Nat) (hx : x < d) (hy : y < 4294967296) (hd : d < 4294967296) (w : World) :
    Calls Tryz.prog 162 #[.int .u32 (x : Nat), .int .u32 (y : Nat), .int .u32 (d : Nat)] w fun e w' => e = .returned (.tuple #[.int .u32 ((x * 4294967296 + y) / d : Nat), .int .u32 ((x * 4294967296 + y) % d : Nat)]) ∧ ∃ n, w' = w.drewN n := by
 have h1 : ¬ d ≤ x := by omega
 have h2 : ((d : Int) != 0) = true := by simp; omega
 have h3 : ((d : Int) == 0) = false := by simp; omega
 have ho : bits .or .u64 ((x : Int) * 4294967296) (y : Int) = ((x * 4294967296 + y : Nat) : Int) := div_or x y Zo hy
 have hq : (x * 4294967296 + y) / d < 4294967296 := by
  rw [Nat.div_lt_iff_lt_mul Zo]
  have : (x + 1) * 4294967296 ≤ d * 4294967296 := Nat.mul_le_mul_right _ hx
  omega
 have hz : x * 4294967296 + y < 18446744073709551616 := by omega
 have hr : (x * 4294967296 + y) % d < d := Nat.mod_lt _ Zo
 generalize x * 4294967296 + y = z at ho hq hz hr ⊢
 have HQ := Zi hq
 clear hq
 go_enter Tryz.func162, Tryz.ntmps162
 go_wp2_with fail
 go_quiet (fail)
 go_wp2_with fail
 go_ret2
 refine ⟨ret_pair rfl (congrArg (Value.int .u32) ?_) (congrArg (Value.int .u32) ?_), nq, rfl⟩
 ·have h := HQ.out
  have e : (z : Int) / (d : Int) = ((z / d : Nat) : Int) := rfl
  rw [e]
  generalize z / d = q at h ⊢
  have hw : IntKind.u64.wrap (q : Int) = (q : Int) % 18446744073709551616 := by simp [IntKind.wrap, IntKind.bits, IntKind.signed]
  rw [hw]
  omega
 ·rfl
end
section
theorem beq_zero (q : Nat) : ((q : Int) == 0) = decide (q = 0) := by
 by_cases h : q = 0 <;> simp [h]
theorem drew_two (w : World) (n m : Nat) : (w.drewN n).drewN m = w.drewN (n + m) := by simp [World.drewN, Nat.add_assoc]
set_option maxRecDepth 20000 in
theorem compare_any (ba bb a b : Nat) (ha : a < Bg.lim) (hb : b < Bg.lim) (w : World) (hA : Blk w ba (Bg.row 32 a)) (hB : Blk w bb (Bg.row 32 b)) :
    Calls Tryz.prog 156 #[.pointer (some ⟨ba, 0, none⟩), .pointer (some ⟨bb, 0, none⟩)] w fun e w' => e = .returned (.int .i64 (Bg.cmp a b)) ∧ ∃ n, w' = w.drewN n := by
 have HA := Zi hA
 have HB := Zi hB
 clear hA hB
 go_enter Tryz.func156, Tryz.ntmps156
 go_wp2_with fail
 go_loopw [5] (fun i wr => ∃ k : Nat, k ≤ 32 ∧ i = .int .i64 (k - 1) ∧ Hid (a / Bg.pw k = b / Bg.pw k) ∧ ∃ n, wr = w.drewN n) (fun i _ => (intOf i + 1).toNat)
 case atStart => exact ⟨32, by omega, rfl, Zi (by rw [Nat.div_eq_of_lt (show a < Bg.pw 32 from ha), Nat.div_eq_of_lt (show b < Bg.pw 32 from hb)]), 0, rfl⟩
 case round =>
  obtain ⟨k, hk, rfl, HE, n, rfl⟩ := hrel
  cases k with
  | zero =>
   go_wp2_with fail
   go_ret
   refine ⟨?_, n, rfl⟩
   rw [Bg.cmp_same HE.out]
   rfl
  | succ k =>
   have e1 : ((k + 1 : Nat) : Int) - 1 = (k : Int) := by omega
   rw [e1]
   have hca := HA.out.limb (i := k) Zo
   have hcb := HB.out.limb (i := k) Zo
   have hk0 : (0 : Int) ≤ (k : Int) := by omega
   have hk1 : (k : Int) < 32 := by omega
   have hk2 : k < 32 := by omega
   rcases Nat.lt_trichotomy (Bg.limb a k) (Bg.limb b k) with hl | hl | hl
   ·have HR := Zi (Bg.cmp_lt HE.out hl)
    go_wp2_with fail
    go_quiet (fail)
    go_wp2_with fail
    go_ret
    refine ⟨?_, _, drew_two _ _ _⟩
    rw [HR.out]
    rfl
   ·have HR := Zi (Bg.cmp_eq HE.out hl)
    rw [hl] at hca
    clear hl
    go_wp2_with fail
    go_quiet (fail)
    go_wp2_with fail
    go_quiet (fail)
    go_wp2_with fail
    go_roundw
    case rel => exact ⟨k, by omega, rfl, HR, _, rfl⟩
    case measure => simp [intOf]
   ·have HR := Zi (Bg.cmp_gt HE.out hl)
    have hn : ¬ Bg.limb a k < Bg.limb b k := by omega
    go_wp2_with fail
    go_quiet (fail)
    go_wp2_with fail
    go_quiet (fail)
    go_wp2_with fail
    go_ret
    refine ⟨?_, ?hw⟩
    case hw => exact ⟨_, by rw [drew_two, drew_two]⟩
    rw [HR.out]
    rfl
set_option maxRecDepth 20000 in
theorem plus_any (ba bb a b : Nat) (ha : a < Bg.lim) (hb : b < Bg.lim) (w : World) (hA : Blk w ba (Bg.row 32 a)) (hB : Blk w bb (Bg.row 32 b)) :
    Calls Tryz.prog 159 #[.pointer (some ⟨ba, 0, none⟩), .pointer (some ⟨bb, 0, none⟩)] w fun e w' => e = .returned (.tuple #[Bg.magV ((a + b) % Bg.lim), .bool (decide (a + b < Bg.lim))]) ∧ Below w.heap.size w w' := by
 have hz := Bg.zero32
 have ha1 := hA.lt
 have hb1 := hB.lt
 have HA := Zi hA
 have HB := Zi hB
 obtain ⟨w1, hw1⟩ : ∃ w1, w1 = (w.alloc (.cells (Bg.row 32 0) 167)).alloc (.cells (Bg.row 32 0) 167) := ⟨_, rfl⟩
 have HR := Zi ((Blk.new w (Bg.row 32 0) 167).alloc (.cells (Bg.row 32 0) 167))
 have HC := Zi (Blk.new (w.alloc (.cells (Bg.row 32 0) 167)) (Bg.row 32 0) 167)
 have HL := Zi ((below_new w (.cells (Bg.row 32 0) 167)).alloc Zs (.cells (Bg.row 32 0) 167))
 rw [alloc_size] at HC
 rw [← hw1] at HR HC HL
 clear hA hB
 go_enter Tryz.func159, Tryz.ntmps159
 go_wp2_with fail
 rw [← hw1]
 clear hw1
 go_loopw [7, 9] (fun c i wr => ∃ (k q s : Nat), k ≤ 32 ∧ i = .int .i64 k ∧ c = .int .u32 q ∧ Hid (Bg.AddSt a b k s q) ∧ Hid (Blk wr (w.heap.size + 1) (Bg.row 32 s)) ∧ Hid (Blk wr w.heap.size (Bg.row 32 0)) ∧ Hid (Below w.heap.size w wr)) (fun _ i _ => 32 - (intOf i).toNat)
 case atStart => exact ⟨0, 0, 0, by omega, rfl, rfl, Zi (Bg.AddSt.zero a b), HC, HR, HL⟩
 case round =>
  obtain ⟨k, q, s, hk, rfl, rfl, HS, HC, HR, HL⟩ := hrel
  by_cases hlt : k < 32
  ·have hca := (HA.out.below HL.out ha1).limb hlt
   have hcb := (HB.out.below HL.out hb1).limb hlt
   have hcc := HC.out.limb hlt
   have hf := HC.out.free k
   have hq := HS.out.le
   have HX := Zi (add32_any (Bg.limb a k) (Bg.limb b k) q (Bg.limb_lt _ _) (Bg.limb_lt _ _) hq)
   go_wp2_with fail
   go_region_with (go_at_call 200; refine (HX.out _).mono ?_; rintro e w' ⟨rfl, rfl⟩)
   all_goals
    go_wp2_with fail
    go_roundw
    case rel => exact ⟨k + 1, _, _, by omega, by go_num, rfl, Zi HS.out.step, Zi (HC.out.put k _ (Nat.mod_lt _ Zd)).drew, Zi (HR.out.far Zs _).drew, Zi (HL.out.setCell Zs _).drew⟩
    case measure => simp [intOf]; omega
  ·obtain rfl : k = 32 := by omega
   have hd := HS.out.done ha hb
   have hs2 := Bg.row_size 32 0
   have HG := Zi (below_setRow HL.out (g := w.heap.size) (Nat.le_refl _) (Bg.row 32 s))
   have HF := Zi (HR.out.setRow (Bg.row 32 s))
   have hq : decide (q = 0) = decide (a + b < Bg.lim) := by simp only [hd.2]
   have HQ := Zi hq
   have HD := Zi hd.1
   clear hd hq hlt
   go_wp2_with (first
    | (refine ld_mag s rfl _ rfl _ rfl HC.out ?_)
    | (refine st_mag s _ rfl _ _ rfl _ rfl rfl HR.out hs2 ?_; generalize World.setRow _ _ _ = w3 at HF HG ⊢))
   refine bodyPost_ret (res_cell_tmp rfl _ rfl (lv_mag HF.out)) rfl ⟨?_, HG.out⟩
   rw [← HD.out, ← HQ.out]
   rw [← beq_zero]
   rfl
end
section
set_option maxRecDepth 20000 in
theorem minus_any (ba bb a b : Nat) (ha : a < Bg.lim) (hb : b < Bg.lim) (w : World) (hA : Blk w ba (Bg.row 32 a)) (hB : Blk w bb (Bg.row 32 b)) :
    Calls Tryz.prog 160 #[.pointer (some ⟨ba, 0, none⟩), .pointer (some ⟨bb, 0, none⟩)] w fun e w' => e = .returned (Bg.magV (Bg.dif a b)) ∧ Below w.heap.size w w' := by
 have hz := Bg.zero32
 have ha1 := hA.lt
 have hb1 := hB.lt
 have HA := Zi hA
 have HB := Zi hB
 obtain ⟨w1, hw1⟩ : ∃ w1, w1 = (w.alloc (.cells (Bg.row 32 0) 167)).alloc (.cells (Bg.row 32 0) 167) := ⟨_, rfl⟩
 have HR := Zi ((Blk.new w (Bg.row 32 0) 167).alloc (.cells (Bg.row 32 0) 167))
 have HC := Zi (Blk.new (w.alloc (.cells (Bg.row 32 0) 167)) (Bg.row 32 0) 167)
 have HL := Zi ((below_new w (.cells (Bg.row 32 0) 167)).alloc Zs (.cells (Bg.row 32 0) 167))
 rw [alloc_size] at HC
 rw [← hw1] at HR HC HL
 clear hA hB
 go_enter Tryz.func160, Tryz.ntmps160
 go_wp2_with fail
 rw [← hw1]
 clear hw1
 go_loopw [6, 8] (fun c i wr => ∃ (k q s : Nat), k ≤ 32 ∧ i = .int .i64 k ∧ c = .int .u32 q ∧ Hid (Bg.SubSt a b k s q) ∧ Hid (Blk wr (w.heap.size + 1) (Bg.row 32 s)) ∧ Hid (Blk wr w.heap.size (Bg.row 32 0)) ∧ Hid (Below w.heap.size w wr)) (fun _ i _ => 32 - (intOf i).toNat)
 case atStart => exact ⟨0, 0, 0, by omega, rfl, rfl, Zi (Bg.SubSt.zero a b), HC, HR, HL⟩
 case round =>
  obtain ⟨k, q, s, hk, rfl, rfl, HS, HC, HR, HL⟩ := hrel
  by_cases hlt : k < 32
  ·have hca := (HA.out.below HL.out ha1).limb hlt
   have hcb := (HB.out.below HL.out hb1).limb hlt
   have hcc := HC.out.limb hlt
   have hf := HC.out.free k
   have hq := HS.out.le
   have HX := Zi (sub32_any (Bg.limb a k) (Bg.limb b k) q (Bg.limb_lt _ _) (Bg.limb_lt _ _) hq)
   have HY := Zi (HS.out.step (Nat.mod_lt _ Zd) (Bg.brw_le _ _ _) (Bg.brw_eq (Bg.limb a k) (Bg.limb b k) q (Bg.limb_lt _ _) (Bg.limb_lt _ _) hq))
   have HM := Zi (Nat.mod_lt (Bg.limb a k + 4294967296 - Bg.limb b k + 4294967296 - q) (show 4294967296 > 0 by decide))
   generalize (Bg.limb a k + 4294967296 - Bg.limb b k + 4294967296 - q) % 4294967296 = d at HX HY HM
   generalize Bg.brw (Bg.limb a k) (Bg.limb b k) q = q2 at HX HY
   go_wp2_with fail
   go_region_with (go_at_call 199; refine (HX.out _).mono ?_; rintro e w' ⟨rfl, rfl⟩)
   all_goals
    go_wp2_with fail
    go_roundw
    case rel => exact ⟨k + 1, q2, _, by omega, by go_num, rfl, HY, Zi (HC.out.put k d HM.out).drew, Zi (HR.out.far Zs _).drew, Zi (HL.out.setCell Zs _).drew⟩
    case measure => simp [intOf]; omega
  ·obtain rfl : k = 32 := by omega
   have HD := Zi (HS.out.done ha hb)
   have hs2 := Bg.row_size 32 0
   have HG := Zi (below_setRow HL.out (g := w.heap.size) (Nat.le_refl _) (Bg.row 32 s))
   have HF := Zi (HR.out.setRow (Bg.row 32 s))
   clear hlt
   go_wp2_with (first
    | (refine ld_mag s rfl _ rfl _ rfl HC.out ?_)
    | (refine st_mag s _ rfl _ _ rfl _ rfl rfl HR.out hs2 ?_; generalize World.setRow _ _ _ = w3 at HF HG ⊢))
   refine bodyPost_ret (res_cell rfl _ rfl (lv_mag HF.out)) rfl ⟨?_, HG.out⟩
   rw [← HD.out]
   rfl
end
section
theorem zero64 : #[Value.int .u32 0, .int .u32 0, .int .u32 0, .int .u32 0, .int .u32 0, .int .u32 0, .int .u32 0, .int .u32 0, .int .u32 0, .int .u32 0, .int .u32 0, .int .u32 0, .int .u32 0, .int .u32 0, .int .u32 0, .int .u32 0, .int .u32 0, .int .u32 0, .int .u32 0, .int .u32 0, .int .u32 0, .int .u32 0, .int .u32 0, .int .u32 0, .int .u32 0, .int .u32 0, .int .u32 0, .int .u32 0, .int .u32 0, .int .u32 0, .int .u32 0, .int .u32 0,
 .int .u32 0, .int .u32 0, .int .u32 0, .int .u32 0, .int .u32 0, .int .u32 0, .int .u32 0, .int .u32 0, .int .u32 0, .int .u32 0, .int .u32 0, .int .u32 0, .int .u32 0, .int .u32 0, .int .u32 0, .int .u32 0, .int .u32 0, .int .u32 0, .int .u32 0, .int .u32 0, .int .u32 0, .int .u32 0, .int .u32 0, .int .u32 0, .int .u32 0, .int .u32 0, .int .u32 0, .int .u32 0, .int .u32 0, .int .u32 0, .int .u32 0, .int .u32 0] = Bg.row 64 0 := by
 kernel_rfl
theorem Blk.low64 {w : World} {b N : Nat} (h : Blk w b (Bg.row 64 N)) : w.rangeAt b 0 (Bg.lims 32 (N % Bg.lim)) := by
 intro j v hv
 have hj : j < 32 := by
  have := (List.getElem?_eq_some_iff.1 hv).1
  rwa [Bg.lims_length] at this
 rw [Bg.lims_at 32 _ j hj] at hv
 rw [Nat.zero_add, h.limb Zo, ← hv]
 unfold Bg.lv Bg.lim
 rw [Bg.limb_low' N 32 j hj]
theorem Blk.high64 {w : World} {b N : Nat} (h : Blk w b (Bg.row 64 N)) : w.rangeAt b 32 (Bg.lims 32 (N / Bg.lim)) := by
 intro j v hv
 have hj : j < 32 := by
  have := (List.getElem?_eq_some_iff.1 hv).1
  rwa [Bg.lims_length] at this
 rw [Bg.lims_at 32 _ j hj] at hv
 rw [h.limb Zo, ← hv]
 unfold Bg.lv Bg.lim
 rw [Bg.limb_div N 32 j]
theorem take_h {P : Program} {md : Region.Mode} {ops : Array Oper} {Q : Exit → Act → World → Prop} {S : World → Prop} {i : Nat} {oi : Oper} {v : Value} {d : Tmp} {fuel : Nat} {listed : Array Bool} {a : Act} {w : World} (hi : ops[i]? = some oi) (hd : oi.dst = some d)
    (hs : Region.noSelect ops = true) (hf : Region.free md ops listed i = true) (hr : (Region.ready md ops listed).contains i = true)
    (hQ : ∀ c a w, Q (.panic c) (a.put (some d) v) w → Q (.panic c) a w) (hy : YieldsIf P ops S oi v a) (hS : S w)
    (h : wpAnyH P md ops Q S fuel (listed.setIfInBounds i true) { a with tmps := a.tmps.setIfInBounds d v } w) : wpAnyH P md ops Q S (fuel + 1) listed a w :=
 wpAnyH_take hi hs hf hr (by rw [hd]; exact hQ) hy hS (by rw [hd]; exact h)
theorem store_h (N : Nat) (c : Array Value) {md : Region.Mode} {ops : Array Oper} {Q : Exit → Act → World → Prop} {S : World → Prop} {i : Nat} {oi : Oper} {fuel : Nat} {listed : Array Bool} {a : Act} {w : World} (hr : Region.ready md ops listed = [i]) (hi : ops[i]? = some oi) (hd : oi.dst = none)
    (hw : Region.wanted oi (yielded ops a.tmps) = true) (x y : Operand) (ho : oi.op = .store 167 x y) (b : Nat) (hx : a.eval x = .pointer (some ⟨b, 0, none⟩)) (hy : a.eval y = .agg (Bg.row 32 N)) (hb : Blk w b c) (hc : c.size = 32) (hS : S (w.setRow b (Bg.row 32 N)))
    (h : wpAnyH Tryz.prog md ops Q S fuel (listed.setIfInBounds i true) a (w.setRow b (Bg.row 32 N))) : wpAnyH Tryz.prog md ops Q S (fuel + 1) listed a w := by
 obtain ⟨t, hb⟩ := hb
 refine wpAnyH_ready hr Zs (AllReadyH.cons hi (fun K hK => ?_) AllReadyH.nil)
 rw [if_pos hw]
 refine wp_store_row _ x y ho b _ hx hy t _ hb (by rw [Bg.row_size]; exact siz_mag) (by rw [Bg.row_size, hc]) (Bg.row_one 32 N) ?_
 rw [hd]
 exact hK.out _ _ hS (fun _ => h)
theorem arr_mag (ad : Addr) (l c : Nat) (h : 32 ≤ l) (w : World) : (Instr.arrayAt 167 (.slice (some ad) l c)).run Tryz.prog w = .ok (.pointer (some ad)) w := by
 have hn : ¬ l < 32 := by omega
 simp only [Instr.arrayAt, Sem.run_bind, run_underlying und_mag, Result.andThen_ok, if_neg hn, Sem.run_pure]
theorem yl_eq (N M : Nat) {ops : Array Oper} {S : World → Prop} {o : Oper} {a : Act} (hw : Region.wanted o (yielded ops a.tmps) = true) (x y : Operand) (t : TypeId) (ho : o.op = .binOp .eql 167 x y t) (hx : a.eval x = .agg (Bg.row 32 N)) (hy : a.eval y = .agg (Bg.row 32 M)) (hN : N < Bg.lim) (hM : M < Bg.lim) :
    YieldsIf Tryz.prog ops S o (.bool (decide (N = M))) a := by
 refine Or.inl ⟨hw, fun w _ => ?_⟩
 have hr := run_cmp_mag .eql N M hN hM x y w (.inl rfl)
 rw [if_pos rfl] at hr
 exact z9_10
theorem yl_mag (N : Nat) {ops : Array Oper} {S : World → Prop} {o : Oper} {a : Act} (hw : Region.wanted o (yielded ops a.tmps) = true) (x : Operand) (ho : o.op = .load 167 x) (b k : Nat) (hx : a.eval x = .pointer (some ⟨b, k, none⟩)) (hS : ∀ w, S w → w.rangeAt b k (Bg.lims 32 N)) :
    YieldsIf Tryz.prog ops S o (.agg (Bg.row 32 N)) a :=
 Bg.lims_row 32 N ▸ yieldsIf_load_mid hw _ x ho b k hx (Bg.lims 32 N) _ hS und_mag rfl (by rw [Bg.lims_length]; exact siz_mag)
set_option maxRecDepth 20000 in
theorem times_any (ba bb a b : Nat) (ha : a < Bg.lim) (hb : b < Bg.lim) (w : World) (hA : Blk w ba (Bg.row 32 a)) (hB : Blk w bb (Bg.row 32 b)) :
    Calls Tryz.prog 157 #[.pointer (some ⟨ba, 0, none⟩), .pointer (some ⟨bb, 0, none⟩)] w fun e w' => e = .returned (.tuple #[Bg.magV (a * b % Bg.lim), .bool (decide (a * b < Bg.lim))]) ∧ Below w.heap.size w w' := by
 have hz := Bg.zero32
 have hz2 := zero64
 have ha1 := hA.lt
 have hb1 := hB.lt
 have HA := Zi hA
 have HB := Zi hB
 have hna := Bg.used_le a
 have hnb := Bg.used_le b
 have HNA := Zi (Bg.used_lt ha)
 have HNB := Zi (Bg.used_lt hb)
 obtain ⟨w1, hw1⟩ : ∃ w1, w1 = (w.alloc (.cells (Bg.row 32 0) 167)).alloc (.cells (Bg.row 64 0) 239) := ⟨_, rfl⟩
 have HR := Zi ((Blk.new w (Bg.row 32 0) 167).alloc (.cells (Bg.row 64 0) 239))
 have HC := Zi (Blk.new (w.alloc (.cells (Bg.row 32 0) 167)) (Bg.row 64 0) 239)
 have HL := Zi ((below_new w (.cells (Bg.row 32 0) 167)).alloc Zs (.cells (Bg.row 64 0) 239))
 rw [alloc_size] at HC
 rw [← hw1] at HR HC HL
 clear hA hB
 have HUA := Zi (used_any ba a w1 (HA.out.below HL.out ha1))
 have HUB := Zi (used_any bb b w1 (HB.out.below HL.out hb1))
 generalize Bg.used a = n at hna HNA HUA
 generalize Bg.used b = m at hnb HNB HUB
 go_enter Tryz.func157, Tryz.ntmps157
 go_wp2_with (first
  | (rw [← hw1]; go_at_call 161; refine HUA.out.mono ?_; rintro e w' ⟨rfl, rfl⟩; clear hw1)
  | (go_at_call 161; refine HUB.out.mono ?_; rintro e w' ⟨rfl, rfl⟩))
 go_loopw [18] (fun i wr => ∃ (k s : Nat), k ≤ n ∧ i = .int .i64 k ∧ Hid (Bg.MulSt a b m k s) ∧ Hid (Blk wr (w.heap.size + 1) (Bg.row 64 s)) ∧ Hid (Blk wr w.heap.size (Bg.row 32 0)) ∧ Hid (Below w.heap.size w wr)) (fun i _ => n - (intOf i).toNat)
 case atStart => exact ⟨0, 0, by omega, rfl, Zi (Bg.MulSt.zero a b m), HC, HR, HL⟩
 case round =>
  clear HC HR HL HUA HUB
  obtain ⟨k, s, hk, rfl, HS, HC, HR, HL⟩ := hrel
  by_cases hlt : k < n
  ·go_wp2_with fail
   go_loopw [10, 22] (fun c j wr => ∃ (l q t : Nat), l ≤ m ∧ j = .int .i64 l ∧ c = .int .u64 q ∧ Hid (Bg.RowSt a b m k l t q) ∧ Hid (Blk wr (w.heap.size + 1) (Bg.row 64 t)) ∧ Hid (Blk wr w.heap.size (Bg.row 32 0)) ∧ Hid (Below w.heap.size w wr)) (fun _ j _ => m - (intOf j).toNat)
   case atStart => exact ⟨0, 0, s, by omega, rfl, rfl, Zi HS.out.row, HC, HR, HL⟩
   case round =>
    clear HC HR HL HS
    obtain ⟨l, q, t, hl, rfl, rfl, HS, HC, HR, HL⟩ := hrel
    have hq := HS.out.le
    by_cases hlm : l < m
    ·have hk32 : k < 32 := by omega
     have hl32 : l < 32 := by omega
     have hca := (HA.out.below HL.out ha1).limb hk32
     have hcb := (HB.out.below HL.out hb1).limb hl32
     have hkl : k + l < 64 := by omega
     have hcc := HC.out.limb hkl
     have hf := HC.out.free (k + l)
     have HY := Zi (HS.out.step hlm)
     have hx := Bg.limb_lt a k
     have hy := Bg.limb_lt b l
     have hz := Bg.limb_lt t (k + l)
     have HP := Zi (HC.out.put (k + l) _ (Nat.mod_lt (Bg.col (Bg.limb a k) (Bg.limb b l) (Bg.limb t (k + l)) q) (show 4294967296 > 0 by decide)))
     generalize Bg.limb a k = x at hca hx HY HP
     generalize Bg.limb b l = y at hcb hy HY HP
     generalize Bg.limb t (k + l) = z at hcc hz HY HP
     have hxy := Bg.col_mul hx hy
     have h1 : x * y < 18446744073709551616 := by omega
     have h2 : x * y + z < 18446744073709551616 := by omega
     have h3 : x * y + z + q < 18446744073709551616 := by omega
     have hi1 : (k : Int) + l < 64 := by omega
     have hi2 : (0 : Int) ≤ (k : Int) + l := by omega
     go_wp2_with fail
     go_quiet (fail)
     go_wp2_with fail
     go_roundw
     case rel => exact ⟨l + 1, _, _, by omega, by go_num, rfl, HY, Zi (HP.out.drewN _), Zi ((HR.out.far (p := ⟨w.heap.size + 1, k + l, none⟩) Zs _).drewN _), Zi (below_drewN (HL.out.setCell (p := ⟨w.heap.size + 1, k + l, none⟩) Zs _) _)⟩
     case measure => simp [intOf]; omega
    ·obtain rfl : l = m := by omega
     have hkl : k + l < 64 := by omega
     have hcc := HC.out.limb hkl
     have hf := HC.out.free (k + l)
     have HY := Zi (HS.out.done HNB.out)
     have HP := Zi (HC.out.put (k + l) q hq)
     have hi1 : (k : Int) + l < 64 := by omega
     have hi2 : (0 : Int) ≤ (k : Int) + l := by omega
     go_wp2_with fail
     go_roundw
     case rel => exact ⟨k + 1, _, by omega, by go_num, HY, HP, Zi (HR.out.far (p := ⟨w.heap.size + 1, k + l, none⟩) Zs _), Zi (HL.out.setCell (p := ⟨w.heap.size + 1, k + l, none⟩) Zs _)⟩
     case measure => simp [intOf]; omega
  ·obtain rfl : k = n := by omega
   have HD := HS.out.done HNA.out
   subst HD
   have har1 := arr_mag ⟨w.heap.size + 1, 0, none⟩ 32 64 Zd
   have har2 := arr_mag ⟨w.heap.size + 1, 32, none⟩ 32 32 Zd
   have hs2 := Bg.row_size 32 0
   have hlt2 := Bg.mul_fits ha hb
   go_wp2_with fail
   refine wp_region_held_drew (S := fun w' => Blk w' (w.heap.size + 1) (Bg.row 64 (a * b))) Zk HC.out.drew (fun hHeld => ?_)
   refine take_h (i := 0) (v := ?v1) rfl rfl Zk Zk Zk (fun _ _ _ h => h) (Or.inl ⟨by rfl, ?hy1⟩) (by assumption) ?rest1
   case hy1 => (intro w hSw; (try dsimp only at hSw); go_simp; all_goals with_reducible rfl)
   try simp only [Za, Zy, Zx]
   refine take_h (i := 1) (v := ?v2) rfl rfl Zk Zk Zk (fun _ _ _ h => h) (Or.inl ⟨by rfl, ?hy2⟩) (by assumption) ?rest2
   case hy2 => (intro w hSw; (try dsimp only at hSw); go_simp; all_goals with_reducible rfl)
   try simp only [Za, Zy, Zx]
   refine take_h (i := 2) (v := .agg (Bg.row 32 (a * b % Bg.lim))) rfl rfl Zk Zk Zk (fun _ _ _ h => h) ?hy3 (by assumption) ?rest3
   case hy3 => exact yl_mag (a * b % Bg.lim) Zv _ rfl _ _ rfl (fun w' h => Blk.low64 h)
   try simp only [Za, Zy, Zx]
   refine take_h (i := 3) (v := ?v4) rfl rfl Zk Zk Zk (fun _ _ _ h => h) (Or.inl ⟨by rfl, ?hy4⟩) (by assumption) ?rest4
   case hy4 => (intro w hSw; (try dsimp only at hSw); go_simp; all_goals with_reducible rfl)
   try simp only [Za, Zy, Zx]
   refine take_h (i := 4) (v := ?v5) rfl rfl Zk Zk Zk (fun _ _ _ h => h) (Or.inl ⟨by rfl, ?hy5⟩) (by assumption) ?rest5
   case hy5 => (intro w hSw; (try dsimp only at hSw); go_simp; all_goals with_reducible rfl)
   try simp only [Za, Zy, Zx]
   refine take_h (i := 5) (v := .agg (Bg.row 32 (a * b / Bg.lim))) rfl rfl Zk Zk Zk (fun _ _ _ h => h) ?hy6 (by assumption) ?rest6
   case hy6 => exact yl_mag (a * b / Bg.lim) Zv _ rfl _ _ rfl (fun w' h => Blk.high64 h)
   try simp only [Za, Zy, Zx]
   refine take_h (i := 6) (v := ?v7) rfl rfl Zk Zk Zk (fun _ _ _ h => h) (Or.inl ⟨by rfl, ?hy7⟩) (by assumption) ?rest7
   case hy7 => (intro w hSw; (try dsimp only at hSw); go_simp; all_goals with_reducible rfl)
   try simp only [Za, Zy, Zx]
   obtain ⟨fit, hfit⟩ : ∃ fit, fit = decide (a * b / Bg.lim = 0) := ⟨_, rfl⟩
   have HFIT := Zi hfit
   clear hfit
   refine take_h (i := 7) (v := .bool fit) rfl rfl Zk Zk Zk (fun _ _ _ h => h) ?hy8 (by assumption) ?rest8
   case hy8 =>
    rw [HFIT.out]; exact yl_eq (a * b / Bg.lim) 0 Zv _ _ _ rfl rfl rfl hlt2 (Bg.ppos 32)
   try simp only [Za, Zy, Zx]
   refine store_h (i := 8) (a * b % Bg.lim) _ Zk rfl rfl Zv _ _ rfl w.heap.size rfl rfl HR.out.drew hs2 (HC.out.drew.farRow (g := w.heap.size) Zo _) ?_
   have HF := Zi (HR.out.drew.setRow (Bg.row 32 (a * b % Bg.lim)))
   have HG := Zi (below_setRow HL.out.drew (g := w.heap.size) (Nat.le_refl _) (Bg.row 32 (a * b % Bg.lim)))
   have hHeld2 : Blk (wr.drew.setRow w.heap.size (Bg.row 32 (a * b % Bg.lim))) (w.heap.size + 1) (Bg.row 64 (a * b)) := HC.out.drew.farRow (g := w.heap.size) Zo _
   generalize wr.drew.setRow w.heap.size (Bg.row 32 (a * b % Bg.lim)) = w3 at HF HG hHeld2 ⊢
   refine take_h (i := 9) (v := ?v9) rfl rfl Zk Zk Zk (fun _ _ _ h => h) (Or.inl ⟨by rfl, ?hy9⟩) hHeld2 ?rest9
   case hy9 => (intro w hSw; (try dsimp only at hSw); go_simp; all_goals with_reducible rfl)
   refine wpAnyH_done Zk ?_ _
   try simp only [Za, Zy, Zx]
   go_wp2_with fail
   refine bodyPost_ret (res_cell_tmp rfl _ rfl (lv_mag HF.out)) rfl ⟨?_, HG.out⟩
   rw [show decide (a * b < Bg.lim) = decide (a * b / Bg.lim = 0) from by simp only [Bg.div_zero], ← HFIT.out]
   rfl
end
end Go.Proofs.YtiekmabiecalbaaGreatDoor
