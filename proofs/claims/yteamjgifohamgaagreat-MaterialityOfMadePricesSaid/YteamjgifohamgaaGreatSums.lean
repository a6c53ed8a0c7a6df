/- The law RatioSums, walked: the sum of a list, valid or not, is the sum of its parts. -/
import Derived.Test.YteamjgifohamgaaGreatRatT
import Derived.Test.YteamjgifohamgaaGreatEngD
namespace Go.Proofs.YteamjgifohamgaaGreat
set_option maxRecDepth 8000
open Go.RowKit
theorem Rt.vc_out (o : Option Rat) (h : ∀ x, o = some x → Rt.Fit x) : Rt.Vc o (Rt.outV o) := by
  cases o with
  | some x => exact ⟨h x rfl, rfl⟩
  | none => exact ⟨false, 0, false, 0, Bg.ppos 32, Bg.ppos 32, Rt.ok_zero, rZ_zero.symm⟩
/-- The sum of two values. -/
noncomputable def Rt.addVV : Option Rat → Option Rat → Array Value × Int
  | some x, o => Rt.addV x o
  | none, _ => (Bg.rZ 0 0, 20)
theorem Rt.sumV_fit : ∀ (l : List (Option Rat)) (acc : Rat), Rt.Fit acc → ∀ x, (Rt.sumV acc l).1 = some x → Rt.Fit x
  | [], acc, h, x, e => by rw [Rt.sumV] at e; injection e with e; rwa [← e]
  | none :: l, acc, h, x, e => by rw [Rt.sumV] at e; cases e
  | some y :: l, acc, h, x, e => by
    rw [Rt.sumV] at e
    split at e
    · exact Rt.sumV_fit l _ ‹_› x e
    · cases e
theorem Rt.sumV_ok : ∀ (l : List (Option Rat)) (acc : Rat), (Rt.sumV acc l).2 = 0 → ∃ ys : List Rat, l = ys.map some ∧ (Rt.sumV acc l).1 = some (acc + ys.sum)
  | [], acc, _ => ⟨[], rfl, by rw [Rt.sumV]; simp [Rat.add_zero]⟩
  | none :: l, acc, h => by rw [Rt.sumV] at h; cases h
  | some y :: l, acc, h => by
    rw [Rt.sumV] at h
    split at h
    · obtain ⟨ys, e1, e2⟩ := Rt.sumV_ok l _ h
      refine ⟨y :: ys, by rw [e1]; rfl, ?_⟩
      rw [Rt.sumV, if_pos ‹_›, e2, List.sum_cons, Rat.add_assoc]
    · cases h
/-- If a list and its two parts have sums, they add up. -/
theorem Rt.sum_parts {os : List (Option Rat)} {k : Nat} {o a b : Option Rat} {c : Array Value} (h : (o, (0 : Int)) = Rt.sumV 0 os) (ha : (a, (0 : Int)) = Rt.sumV 0 (os.take k)) (hb : (b, (0 : Int)) = Rt.sumV 0 (os.drop k)) (hc : (c, (0 : Int)) = Rt.addVV a b) : c = Rt.outV o := by
  obtain ⟨ys, e1, e2⟩ := Rt.sumV_ok os 0 (by rw [← h])
  obtain ⟨us, f1, f2⟩ := Rt.sumV_ok (os.take k) 0 (by rw [← ha])
  obtain ⟨vs, g1, g2⟩ := Rt.sumV_ok (os.drop k) 0 (by rw [← hb])
  rw [← h] at e2
  rw [← ha] at f2
  rw [← hb] at g2
  have hy : ys = us ++ vs := by
    have : ys.map some = (us ++ vs).map (some : Rat → Option Rat) := by rw [← e1, List.map_append, ← f1, ← g1, List.take_append_drop]
    exact (List.map_inj_right (fun _ _ h => by injection h)).1 this
  simp only at e2 f2 g2
  subst e2 f2 g2
  have hs : ys.sum = us.sum + vs.sum := by rw [hy, List.sum_append]
  simp only [Rt.addVV, Rt.addV, Rat.zero_add] at hc
  unfold Rt.res at hc
  split at hc
  · injection hc with hc; rw [hc, Rt.outV, hs, Rat.zero_add]
  · simp at hc
/-- Drawn ratios. -/
def SumsL (j : Nat) (os : List (Option Rat)) (cs : List (Array Value)) : Prop := Rt.Vcs os cs ∧ cs.length = j
theorem Rt.Vcs.app {os os2 : List (Option Rat)} {cs cs2 : List (Array Value)} (h : Rt.Vcs os cs) (h2 : Rt.Vcs os2 cs2) : Rt.Vcs (os ++ os2) (cs ++ cs2) := by
  induction h with
  | nil => exact h2
  | cons h t ih => exact .cons h ih
theorem Rt.Vcs.take {os : List (Option Rat)} {cs : List (Array Value)} (h : Rt.Vcs os cs) : ∀ k, Rt.Vcs (os.take k) (cs.take k) := by
  induction h with
  | nil => intro k; simp; exact .nil
  | cons h t ih =>
    intro k
    cases k with
    | zero => exact .nil
    | succ k => exact .cons h (ih k)
theorem Rt.Vcs.drop {os : List (Option Rat)} {cs : List (Array Value)} (h : Rt.Vcs os cs) : ∀ k, Rt.Vcs (os.drop k) (cs.drop k) := by
  induction h with
  | nil => intro k; simp; exact .nil
  | cons h t ih =>
    intro k
    cases k with
    | zero => exact .cons h t
    | succ k => exact ih k
theorem Rt.Vcs.one {os : List (Option Rat)} {cs : List (Array Value)} (h : Rt.Vcs os cs) : ∀ c ∈ cs, c.all (·.oneCell') = true := by
  induction h with
  | nil => simp
  | cons h t ih => intro c hc; rcases List.mem_cons.1 hc with rfl | hc <;> first | exact h.one | exact ih c hc
theorem Rt.outV_size (o : Option Rat) : (Rt.outV o).size = 66 := by cases o <;> first | exact qA_size _ | exact rZ_size 0 0
theorem Rt.outV_one (o : Option Rat) : (Rt.outV o).all (·.oneCell') = true := by cases o <;> first | exact qA_one _ | exact rZ_one 0 0
theorem Rt.outV_rZ (o : Option Rat) (h : ∀ x, o = some x → Rt.Fit x) : ∃ n d : Int, Rt.outV o = Bg.rZ n d ∧ n.natAbs < Bg.lim ∧ d.natAbs < Bg.lim := by
  cases o with
  | none => exact ⟨0, 0, rfl, Bg.ppos 32, Bg.ppos 32⟩
  | some x => exact ⟨_, _, qA_rZ x, (h x rfl).ln, (h x rfl).ld⟩
section
variable {ops : Array Oper} {rest : List Oper} {a a2 : Act} {w : World} {Q : Exit → Act → World → Prop} {d : Option Tmp} {ty t : TypeId} {ps : String} {af : Array Edge} {g : Option (Nat × Bool)} {x y : Operand}
/-- A ratio compared with itself. -/
theorem a_same (op : BinOp) (c : Array Value) (v : Bool) (he : op = .eql ∨ op = .neq) (hv : v = if op = .eql then true else false) (hc : ∃ n d : Int, c = Bg.rZ n d ∧ n.natAbs < Bg.lim ∧ d.natAbs < Bg.lim) (h : wpList Tryz.prog ops Q rest a2 w) (hw : WantT ops { dst := d, op := .binOp op 32 x y t, type := ty, pos := ps, after := af, guard := g } a := by first | exact Or.inl rfl | exact Or.inr ⟨_, _, _, rfl, rfl, rfl⟩) (hx : a.eval x = .agg c := by (conv => lhs; whnf) <;> rfl) (hy : a.eval y = .agg c := by (conv => lhs; whnf) <;> rfl) (ha : a.put d (.bool v) = a2 := by ((try simp only [Act.put, List.setIfInBounds_toArray, List.set_cons_succ, List.set_cons_zero]) <;> rfl)) : OpG ops Q rest a w { dst := d, op := .binOp op 32 x y t, type := ty, pos := ps, after := af, guard := g } := by
  obtain ⟨n, d1, rfl, h1, h2⟩ := hc
  exact m_cmpr op n d1 n d1 v he (by rw [hv]; simp) h1 h2 h1 h2 hw hx hy (ha ▸ h)
end
theorem Rt.addVV_out (a b : Option Rat) : ∃ p e, (Rt.outV p, e) = Rt.addVV a b := by
  cases a with
  | none => exact ⟨none, 20, rfl⟩
  | some x =>
    cases b with
    | none => exact ⟨none, 20, rfl⟩
    | some y =>
      by_cases h : Rt.Fit (x + y)
      · exact ⟨some (x + y), 0, Rt.res_fit h⟩
      · exact ⟨none, 10, by show _ = Rt.res _; unfold Rt.res; rw [if_neg h]; rfl⟩
end Go.Proofs.YteamjgifohamgaaGreat
