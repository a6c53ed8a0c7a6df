/- clear of a part of a slice of the call's own. -/
import Derived.Test.YtadnddffdedjgaaSlicesD
import Derived.Laws.CopyRow
namespace Go.Proofs.Ytadnddffdedjgaa
set_option maxRecDepth 8000
open Go.RowKit
theorem rows_list : ∀ (l : List (Array Value)), (rowsOf l).toList = (l.map Array.toList).flatten
  | [] => rfl
  | c :: l => by rw [rowsOf, Array.toList_append, rows_list l]; rfl
theorem rows_len {n : Nat} {l : List (Array Value)} (h : ∀ c ∈ l, c.size = n) : (rowsOf l).toList.length = l.length * n := by
  rw [Array.length_toList, rows_size h, Nat.mul_comm]
/-- The cells behind F are put anew. -/
theorem rows_mid {n : Nat} {F G H S : List (Array Value)} (hF : ∀ c ∈ F, c.size = n) (hG : ∀ c ∈ G, c.size = n) (hH : ∀ c ∈ H, c.size = n) (hl : H.length = G.length) :
    ((rowsOf (F ++ (G ++ S))).toList.take (F.length * n) ++ (rowsOf H).toList ++ (rowsOf (F ++ (G ++ S))).toList.drop (F.length * n + (rowsOf H).toList.length)).toArray = rowsOf (F ++ (H ++ S)) := by
  have e1 : (rowsOf (F ++ (G ++ S))).toList = (rowsOf F).toList ++ ((rowsOf G).toList ++ (rowsOf S).toList) := by rw [rows_append, rows_append, Array.toList_append, Array.toList_append]
  have l1 := rows_len hF
  have l2 := rows_len hG
  have l3 := rows_len hH
  rw [e1, List.take_append_of_le_length (by omega), List.take_of_length_le (by omega), ← List.drop_drop, show F.length * n = (rowsOf F).toList.length from l1.symm, List.drop_left, show (rowsOf H).toList.length = (rowsOf G).toList.length by rw [l2, l3, hl], List.drop_left]
  apply Array.ext'
  rw [rows_append, rows_append, Array.toList_append, Array.toList_append, List.append_assoc]
theorem run_clr {n by_ : Nat} {t e ty : TypeId} {z : Array Value} {w : World} {b cap : Nat} {F G S : List (Array Value)} (hT : elemB t e n by_ = true) (hz : ZA e z) (h1 : z.all (·.oneCell') = true) (hzn : z.size = n) (hb : Blk w b (rowsOf (F ++ (G ++ S)))) (hF : ∀ c ∈ F, c.size = n) (hG : ∀ c ∈ G, c.size = n) (h0 : 0 < G.length) :
    ∃ w', (Builtin.clear_ #[t] ty #[.slice (some ⟨b, F.length * n, none⟩) G.length cap]).run Try.prog w = .ok (.tuple #[]) w' ∧ Blk w' b (rowsOf (F ++ (List.replicate G.length z ++ S))) ∧ Only [b] w w' := by
  obtain ⟨i, zz, hE⟩ := elemT hT
  obtain ⟨zv, hzc, hzr⟩ := hz
  have hH : ∀ c ∈ List.replicate G.length z, c.size = n := fun c hc => by rw [List.eq_of_mem_replicate hc]; exact hzn
  have hl : (List.replicate G.length z).length = G.length := List.length_replicate
  obtain ⟨tt, hh⟩ := hb
  have hb' : Blk w b (rowsOf (F ++ (G ++ S))) := ⟨tt, hh⟩
  have hsz : F.length * n + 0 + (rowsOf (List.replicate G.length z)).toList.length ≤ (rowsOf (F ++ (G ++ S))).size := by
    have e2 : (rowsOf (F ++ (G ++ S))).size = (rowsOf F).size + ((rowsOf G).size + (rowsOf S).size) := by rw [rows_append, rows_append, Array.size_append, Array.size_append]
    rw [rows_len hH, e2, rows_size hF, rows_size hG, hl, Nat.mul_comm n, Nat.mul_comm n]; omega
  have hone : ∀ v ∈ (rowsOf (List.replicate G.length z)).toList, v.oneCell' = true := by
    have := rows_cells_one (l := List.replicate G.length z) (fun c hc => by rw [List.eq_of_mem_replicate hc]; exact h1)
    rw [← Array.all_toList] at this
    exact List.all_eq_true.1 this
  have hr := run_storeCells_at (P := Try.prog) b (F.length * n) tt (rowsOf (List.replicate G.length z)).toList 0 _ w hh hsz hone
  rw [Nat.add_zero, rows_mid hF hG hH hl] at hr
  refine ⟨_, ?_, hb'.setRow _, Only.setRow _ _ _⟩
  have hne : ∃ k, G.length = k + 1 := ⟨G.length - 1, by omega⟩
  obtain ⟨k, hk⟩ := hne
  rw [hk] at hr ⊢
  simp only [Builtin.clear_, Sem.run_bind, List.getElem?_toArray, List.getElem?_cons_zero, run_underlying hE.ht, Result.andThen_ok, hzr, hzc, zeroCells_rows, hr]
  simp
section
variable {ops : Array Oper} {rest : List Oper} {a a2 : Act} {w w0 : World} {X : List Nat} {L : List (Nat × Array Value)} {Q : Exit → Act → World → Prop} {d : Option Tmp} {ty t e : TypeId} {n by_ : Nat} {ps : String} {af : Array Edge} {g : Option (Nat × Bool)} {x : Operand} {b cap : Nat} {z : Array Value} {F G S : List (Array Value)}
theorem g_clr (h : OpG ops Q rest a w { dst := d, op := .call { callee := .builtin .clear, args := #[x], argTypes := #[t] }, type := ty, pos := ps, after := af, guard := g }) : wpList Try.prog ops Q ({ dst := d, op := .call { callee := .builtin .clear, args := #[x], argTypes := #[t] }, type := ty, pos := ps, after := af, guard := g } :: rest) a w := h
theorem a_clr {K : Array Value → List (Nat × Array Value)} (HM : Mem w0 X L w) (F G S : List (Array Value)) (hz : ZA e z) (h1 : z.all (·.oneCell') = true) (hzn : z.size = n) (hF : ∀ c ∈ F, c.size = n) (hG : ∀ c ∈ G, c.size = n) (h0 : 0 < G.length)
    (h : ∀ w', Mem w0 X (K (rowsOf (F ++ (List.replicate G.length z ++ S)))) w' → wpList Try.prog ops Q rest a2 w') (hx : a.eval x = .slice (some ⟨b, F.length * n, none⟩) G.length cap)
    (hA : ∀ c', At L b (rowsOf (F ++ (G ++ S))) c' (K c')) (hT : elemB t e n by_ = true := by with_reducible assumption) (hw : WantT ops { dst := d, op := .call { callee := .builtin .clear, args := #[x], argTypes := #[t] }, type := ty, pos := ps, after := af, guard := g } a := by first | exact Or.inl rfl | exact Or.inr ⟨_, _, _, rfl, rfl, rfl⟩)
    (ha : a.put d (.tuple #[]) = a2 := by ((try simp only [Act.put, List.setIfInBounds_toArray, List.set_cons_succ, List.set_cons_zero]) <;> rfl)) : OpG ops Q rest a w { dst := d, op := .call { callee := .builtin .clear, args := #[x], argTypes := #[t] }, type := ty, pos := ps, after := af, guard := g } := by
  refine wpList_step fun K9 hK => ?_
  rw [if_pos hw.wanted]
  obtain ⟨w', hr, hb', hO⟩ := run_clr (ty := ty) (cap := cap) hT hz h1 hzn (HM.blk _ (hA (rowsOf (F ++ (G ++ S)))).mem) hF hG h0
  unfold Oper.wp
  simp [execOp, resolve, invoke, builtin, hx, hr, Result.andThen]
  exact hK _ _ (ha ▸ h _ (HM.put (hA _) hb' hO))
end
end Go.Proofs.Ytadnddffdedjgaa
