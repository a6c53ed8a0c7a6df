/- The law RatioField, walked: small ratios form a field. -/
import Derived.Test.YtadnddffdedjgaaEngJ
import Derived.Test.YtadnddffdedjgaaEngD
namespace Go.Proofs.Ytadnddffdedjgaa
set_option maxRecDepth 8000
open Go.RowKit
theorem qA_one (x : Rat) : (Rt.qA x).all (·.oneCell') = true := by rw [qA_rZ, rZ_ratA]; exact ratA_one _ _ _ _
/-- The first of the three ratios are drawn. -/
def FieldC (j : Nat) (cs : Array Value) : Prop := ∃ l : List Rat, l.length = j ∧ (∀ x ∈ l, Rt.Bd x 30 20) ∧ cs = rowsOf (l.map Rt.qA ++ List.replicate (3 - j) (Bg.rZ 0 0))
theorem FieldC.rows {l : List Rat} {m : Nat} : ∀ c ∈ l.map Rt.qA ++ List.replicate m (Bg.rZ 0 0), c.size = 66 := by
  intro c hc
  rcases List.mem_append.1 hc with h | h
  · obtain ⟨x, _, rfl⟩ := List.mem_map.1 h; exact qA_size x
  · rw [List.eq_of_mem_replicate h]; exact rZ_size 0 0
theorem FieldC.put {j : Nat} {cs : Array Value} (h : FieldC j cs) (hj : j < 3) {x : Rat} (hx : Rt.Bd x 30 20) : ∃ cs', FieldC (j + 1) cs' ∧ SA 42 cs (j * 66) (.agg (Rt.qA x)) cs' := by
  obtain ⟨l, hl, hb, rfl⟩ := h
  have hr : 3 - j = (3 - (j + 1)) + 1 := by omega
  refine ⟨_, ⟨l ++ [x], by simp [hl], ?_, rfl⟩, ?_⟩
  · intro y hy
    rcases List.mem_append.1 hy with h | h
    · exact hb y h
    · rw [List.mem_singleton.1 h]; exact hx
  · have hk : (l.map Rt.qA ++ List.replicate (3 - j) (Bg.rZ 0 0))[j]? = some (Bg.rZ 0 0) := by
      rw [List.getElem?_append_right (by simp [hl]), hr]; simp [hl]
    have hs := sa_row sT_rat FieldC.rows hk (qA_size x) (qA_one x)
    have e : (l.map Rt.qA ++ List.replicate (3 - j) (Bg.rZ 0 0)).set j (Rt.qA x) = (l ++ [x]).map Rt.qA ++ List.replicate (3 - (j + 1)) (Bg.rZ 0 0) := by
      rw [List.set_append_right _ _ (by simp [hl]), hr]
      simp [hl, List.replicate_succ]
    rwa [e] at hs
theorem FieldC.zero : FieldC 0 (rowsOf [Bg.rZ 0 0, Bg.rZ 0 0, Bg.rZ 0 0]) := ⟨[], rfl, by simp, rfl⟩
theorem FieldC.get {cs : Array Value} (h : FieldC 3 cs) : ∃ a b c : Rat, Rt.Bd a 30 20 ∧ Rt.Bd b 30 20 ∧ Rt.Bd c 30 20 ∧ LA 42 cs 0 (.agg (Rt.qA a)) ∧ LA 42 cs 66 (.agg (Rt.qA b)) ∧ LA 42 cs 132 (.agg (Rt.qA c)) := by
  obtain ⟨l, hl, hb, rfl⟩ := h
  match l, hl with
  | [a, b, c], _ =>
    refine ⟨a, b, c, hb a (by simp), hb b (by simp), hb c (by simp), ?_, ?_, ?_⟩
    · exact la_row (k := 0) (by kernel_rfl) sT_rat FieldC.rows rfl
    · exact la_row (k := 1) (by kernel_rfl) sT_rat FieldC.rows rfl
    · exact la_row (k := 2) (by kernel_rfl) sT_rat FieldC.rows rfl
theorem rZ_one (n d : Int) : (Bg.rZ n d).all (·.oneCell') = true := by rw [rZ_ratA]; exact ratA_one _ _ _ _
end Go.Proofs.Ytadnddffdedjgaa
