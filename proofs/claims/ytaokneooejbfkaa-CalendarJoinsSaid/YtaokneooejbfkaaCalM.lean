/- A map[int]bool of the call's own, by the function that it is; workdays.Of and the methods of Days. -/
import Derived.Test.YtaokneooejbfkaaEngA
import Derived.Test.YtaokneooejbfkaaCalMath
import Derived.Maps.OwnSet
import Derived.Maps.Views
namespace Go.Proofs.Ytaokneooejbfkaa
set_option maxRecDepth 8000
open Go.RowKit Go.Maps
theorem int_law : Keyed Try.prog 3 := int_keyed Try.underlying3
theorem bool_zero (w : World) : (zeroValue 4).run Try.prog w = .ok (.bool false) w := by kernel_rfl
theorem plain_bool_inv {P : Program} {e : TypeId} (he : P.underlying e = some .bool) {v : Value} {z : DataW Unit × List MemPlace} (h : plainElem P e v = some z) : ∃ a, v = .bool a ∧ z = (.lit (.bool a), []) := by
  unfold plainElem at h
  rw [he] at h
  cases v <;> simp at h
  subst h
  exact ⟨_, rfl, rfl⟩
/-- Block b is a map of at most n entries that is the function f on the days. -/
def BMap (w : World) (b n : Nat) (f : Int → Bool) : Prop :=
  ∃ D : DataW Unit, w.ownsMap Try.prog 3 (plainElem Try.prog 4) b n D ∧ ∀ x, 0 ≤ x → x ≤ 73048 → D.atKey (.int .i64 x) (.lit (.bool false)) = .lit (.bool (f x))
theorem day_wf {x : Int} (h0 : 0 ≤ x) (h1 : x ≤ 73048) : (Lit.int .i64 x).wf = true := by
  simp [Lit.wf, IntKind.min, IntKind.max, IntKind.signed, IntKind.bits]; omega
theorem BMap.made (w : World) : BMap (w.alloc (.map #[] 0)) w.heap.size 0 (fun _ => false) :=
  ⟨.map [], World.ownsMap_made _ _ _ _, fun _ _ _ => rfl⟩
theorem BMap.lt {w : World} {b n : Nat} {f : Int → Bool} (h : BMap w b n f) : b < w.heap.size := by obtain ⟨D, h1, _⟩ := h; exact h1.lt
theorem BMap.below {w w' : World} {b n : Nat} {f : Int → Bool} (h : BMap w b n f) (hb : Below w.heap.size w w') : BMap w' b n f := by
  obtain ⟨D, h1, h2⟩ := h
  exact ⟨D, h1.kept (row := none) ⟨hb.os, hb.tape, hb.output, hb.size, fun i hi _ => hb.block i hi⟩ (by simp), h2⟩
theorem BMap.alloc {w : World} {b n : Nat} {f : Int → Bool} (h : BMap w b n f) (o : Obj) : BMap (w.alloc o) b n f := h.below (below_new _ _)
theorem BMap.set {w : World} {b n : Nat} {f : Int → Bool} (h : BMap w b n f) {a : Addr} (ha : b ≠ a.block) (u : Value) : BMap (w.setCell a u) b n f := by
  obtain ⟨D, h1, h2⟩ := h
  exact ⟨D, h1.setCell ha u, h2⟩
theorem BMap.look {w : World} {b n : Nat} {f : Int → Bool} (h : BMap w b n f) {x : Int} (h0 : 0 ≤ x) (h1 : x ≤ 73048) :
    (Instr.lookup 44 (.map (some b)) (.int .i64 x) false).run Try.prog w = .ok (.bool (f x)) w := by
  obtain ⟨D, hm, hf⟩ := h
  obtain ⟨v, ps, hrun, hv⟩ := hm.lookup int_law Try.underlying44 (bool_zero w) (plainElem_bool Try.underlying4 false) (keyOf_int_mk Try.underlying3 (day_wf h0 h1))
  obtain ⟨a, rfl, hz⟩ := plain_bool_inv Try.underlying4 hv
  simp only [Prod.mk.injEq] at hz
  rw [hf x h0 h1] at hz
  have := hz.1
  simp at this
  rw [hrun, this]
theorem BMap.congr {w : World} {b n : Nat} {f g : Int → Bool} (h : BMap w b n f) (e : ∀ x, 0 ≤ x → x ≤ 73048 → f x = g x) : BMap w b n g := by
  obtain ⟨D, hm, hf⟩ := h
  exact ⟨D, hm, fun x h0 h1 => by rw [hf x h0 h1, e x h0 h1]⟩
theorem own_put {w : World} {b n : Nat} {D : DataW Unit} {f : Int → Bool} {y : Int} (hf : ∀ x, 0 ≤ x → x ≤ 73048 → D.atKey (.int .i64 x) (.lit (.bool false)) = .lit (.bool (f x)))
    (hD : IsMap D) (h : w.ownsMap Try.prog 3 (plainElem Try.prog 4) b n (D.put (.int .i64 y) (.lit (.bool true)))) : BMap w b n (fun x => decide (x = y) || f x) := by
  refine ⟨_, h, fun x h0 h1 => ?_⟩
  by_cases e : x = y
  · subst e
    rw [atKey_put_same hD (by simp [WideAt.IsKeyLit])]
    simp
  · rw [atKey_put_other (by simpa using e), hf x h0 h1]
    simp [e]
end Go.Proofs.Ytaokneooejbfkaa
