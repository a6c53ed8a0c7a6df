/- Sum, of any list of values. -/
import Derived.Test.YteamjgifohamgaaGreatEngJ
import Derived.Test.YteamjgifohamgaaGreatField
import Derived.Test.YteamjgifohamgaaGreatEngD
namespace Go.Proofs.YteamjgifohamgaaGreat
set_option maxRecDepth 8000
open Go.RowKit
/-- Cells that hold a valid ratio, or one that is not valid. -/
def Rt.Vc : Option Rat → Array Value → Prop
  | some x, c => Rt.Fit x ∧ c = Rt.qA x
  | none, c => ∃ s M t N, M < Bg.lim ∧ N < Bg.lim ∧ Rt.ok s M t N = false ∧ c = Bg.ratA s M t N
theorem Rt.Vc.size {o : Option Rat} {c : Array Value} (h : Rt.Vc o c) : c.size = 66 := by
  cases o with
  | some x => obtain ⟨_, rfl⟩ := h; exact qA_size x
  | none => obtain ⟨s, M, t, N, _, _, _, rfl⟩ := h; exact ratA_size _ _ _ _
theorem Rt.Vc.one {o : Option Rat} {c : Array Value} (h : Rt.Vc o c) : c.all (·.oneCell') = true := by
  cases o with
  | some x => obtain ⟨_, rfl⟩ := h; exact qA_one x
  | none => obtain ⟨s, M, t, N, _, _, _, rfl⟩ := h; exact ratA_one _ _ _ _
theorem la_c {c : Array Value} (h : c.size = 66) : LA 32 c 0 (.agg c) := LA.whole (by kernel_rfl) (by rw [h]; exact sT_rat)
theorem sa_c {c d : Array Value} (h : d.size = 66) (h1 : d.all (·.oneCell') = true) (hc : c.size = 66) : SA 32 c 0 (.agg d) d := SA.whole (by rw [h]; exact sT_rat) h1 (by rw [h, hc])
/-- Any cells of a ratio are of one kind. -/
theorem Rt.vc_any {s t : Bool} {M N : Nat} (hM : M < Bg.lim) (hN : N < Bg.lim) : ∃ o, Rt.Vc o (Bg.ratA s M t N) := by
  cases h : Rt.ok s M t N with
  | true =>
    obtain ⟨x, hx, e, _⟩ := Rt.ok_rat hM hN h
    exact ⟨some x, hx, e⟩
  | false => exact ⟨none, s, M, t, N, hM, hN, h, rfl⟩
/-- A sum goes on: the total or the error. -/
noncomputable def Rt.addV (acc : Rat) : Option Rat → Array Value × Int
  | some x => Rt.res (acc + x)
  | none => (Bg.rZ 0 0, 20)
theorem radd_v (x : Rat) (o : Option Rat) (d c : Array Value) (e : Int) (hx : Rt.Fit x) (hd : Rt.Vc o d) (hr : Hid ((c, e) = Rt.addV x o)) (w : World) :
    Calls Tryz.prog 87 #[.agg (Rt.qA x), .agg d] w fun r w' => r = .returned (.tuple #[.agg c, .int .i64 e]) ∧ Below w.heap.size w w' := by
  cases o with
  | some y => obtain ⟨hy, rfl⟩ := hd; exact radd_r x y c e hx hy hr w
  | none =>
    obtain ⟨s, M, t, N, hM, hN, hk, rfl⟩ := hd
    obtain ⟨rfl, rfl⟩ : c = Bg.rZ 0 0 ∧ e = 20 := by simpa [Rt.addV] using hr.out
    rw [qA_rZ, rZ_ratA x.num]
    exact rAdd_g _ _ _ _ _ _ _ _ 0 0 20 hx.ln hx.ld hM hN (Lib.hid (by rw [hk, Bool.and_false]; rfl)) w
/-- The sum of a list, from a total on. -/
noncomputable def Rt.sumV (acc : Rat) : List (Option Rat) → Option Rat × Int
  | [] => (some acc, 0)
  | none :: _ => (none, 20)
  | some x :: l => open Classical in if Rt.Fit (acc + x) then Rt.sumV (acc + x) l else (none, 10)
/-- Its cells. -/
def Rt.outV : Option Rat → Array Value
  | some x => Rt.qA x
  | none => Bg.rZ 0 0
theorem Rt.step (acc : Rat) (o : Option Rat) (l : List (Option Rat)) : (∃ z, Rt.Fit z ∧ Rt.addV acc o = (Rt.qA z, 0) ∧ Rt.sumV acc (o :: l) = Rt.sumV z l) ∨ (∃ e : Int, e ≠ 0 ∧ Rt.addV acc o = (Bg.rZ 0 0, e) ∧ Rt.sumV acc (o :: l) = (none, e)) := by
  cases o with
  | none => exact .inr ⟨20, by decide, rfl, rfl⟩
  | some x =>
    by_cases h : Rt.Fit (acc + x)
    · exact .inl ⟨acc + x, h, (Rt.res_fit h).symm, by rw [Rt.sumV, if_pos h]⟩
    · exact .inr ⟨10, by decide, by show Rt.res _ = _; unfold Rt.res; rw [if_neg h], by rw [Rt.sumV, if_neg h]⟩
inductive Rt.Vcs : List (Option Rat) → List (Array Value) → Prop
  | nil : Rt.Vcs [] []
  | cons {o : Option Rat} {c : Array Value} {os : List (Option Rat)} {cs : List (Array Value)} (h : Rt.Vc o c) (t : Rt.Vcs os cs) : Rt.Vcs (o :: os) (c :: cs)
theorem Rt.Vcs.len {os : List (Option Rat)} {cs : List (Array Value)} (h : Rt.Vcs os cs) : os.length = cs.length := by
  induction h with
  | nil => rfl
  | cons _ _ ih => simp [ih]
theorem Rt.Vcs.at_ {os : List (Option Rat)} {cs : List (Array Value)} (h : Rt.Vcs os cs) : ∀ {k : Nat}, k < cs.length → ∃ o c, cs[k]? = some c ∧ Rt.Vc o c ∧ os.drop k = o :: os.drop (k + 1) := by
  induction h with
  | nil => intro k hk; simp at hk
  | cons h t ih =>
    intro k hk
    match k with
    | 0 => exact ⟨_, _, rfl, h, rfl⟩
    | k + 1 =>
      obtain ⟨o, c, h1, h2, h3⟩ := ih (k := k) (by simpa using hk)
      exact ⟨o, c, by simpa using h1, h2, by simpa using h3⟩
theorem Rt.Vcs.sizes {os : List (Option Rat)} {cs : List (Array Value)} (h : Rt.Vcs os cs) : ∀ c ∈ cs, c.size = 66 := by
  induction h with
  | nil => simp
  | cons h t ih => intro c hc; rcases List.mem_cons.1 hc with rfl | hc <;> first | exact h.size | exact ih c hc
end Go.Proofs.YteamjgifohamgaaGreat
