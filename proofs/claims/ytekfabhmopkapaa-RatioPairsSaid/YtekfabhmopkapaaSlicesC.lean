/- Parts of slices; building and appending as steps of a drawn region. -/
import Derived.Test.YtekfabhmopkapaaSlicesB
namespace Go.Proofs.Ytekfabhmopkapaa
set_option maxRecDepth 8000
open Go.RowKit
theorem Addr.add_lit' (b o n : Nat) : Addr.add ⟨b, o, none⟩ n = ⟨b, o + n, none⟩ := Addr.add_lit b o n
/-- A part of a slice, by its bounds. -/
theorem RdS.part {n : Nat} {w : World} {A : Option Addr} {len cap : Nat} {m : List (Array Value)} (h : RdS n w (.slice A len cap) m) {lo hi : Nat} (h1 : lo ≤ hi) (h2 : hi ≤ m.length) : RdS n w (.slice (if cap = lo then A else A.map (·.add (lo * n))) (hi - lo) (cap - lo)) ((m.take hi).drop lo) := by
  obtain ⟨hs, A', cap', e, hc, h4⟩ := h
  injection e with e1 e2 e3
  subst e1 e3
  have hl : ((m.take hi).drop lo).length = hi - lo := by rw [List.length_drop, List.length_take, Nat.min_eq_left h2]
  refine ⟨fun c hc => hs c (List.mem_of_mem_take (List.mem_of_mem_drop hc)), (if cap = lo then A else A.map (·.add (lo * n))), cap - lo, by rw [hl], by rw [hl]; omega, ?_⟩
  by_cases he : hi = lo
  · exact .inl (List.eq_nil_of_length_eq_zero (by rw [hl]; omega))
  · rcases h4 with h | ⟨b, off, cs, rfl, hb, hcell⟩
    · subst h; simp at h2; omega
    · refine .inr ⟨b, off + lo * n, cs, by rw [if_neg (by omega)]; simp [Addr.add_lit'], hb, fun j hj => ?_⟩
      rw [hl, Nat.sub_mul] at hj
      have h5 := Nat.mul_le_mul_right n h2
      rw [Nat.add_assoc, hcell _ (by omega)]
      have e1 : m = (m.take hi).take lo ++ ((m.take hi).drop lo ++ m.drop hi) := by rw [← List.append_assoc, List.take_append_drop, List.take_append_drop]
      have z1 : (rowsOf ((m.take hi).take lo)).size = lo * n := by
        rw [rows_size (fun c hc => hs c (List.mem_of_mem_take (List.mem_of_mem_take hc))), List.length_take, List.length_take, Nat.min_eq_left h2, Nat.min_eq_left h1, Nat.mul_comm]
      have z2 : (rowsOf ((m.take hi).drop lo)).size = hi * n - lo * n := by
        rw [rows_size (fun c hc => hs c (List.mem_of_mem_take (List.mem_of_mem_drop hc))), hl, Nat.mul_comm, Nat.sub_mul]
      conv => lhs; rw [e1, rows_append, rows_append]
      rw [Array.getElem?_append, if_neg (by omega), z1, Array.getElem?_append, if_pos (by omega), Nat.add_sub_cancel_left]
/-- s[:k] -/
theorem run_take {n by_ : Nat} {t e : TypeId} {w : World} {sv : Value} {m : List (Array Value)} (h : RdS n w sv m) (hT : elemB t e n by_ = true) {k : Nat} (hk : k ≤ m.length) : ∃ sv', (∀ w', (Instr.sliceAt t sv none (some (.int .i64 (k : Nat))) none).run Try.prog w' = .ok sv' w') ∧ ∀ w', RdS n w' sv m → RdS n w' sv' (m.take k) := by
  obtain ⟨i, z, hE⟩ := elemT hT
  obtain ⟨hs, A, cap, rfl, hc, _⟩ := h
  refine ⟨.slice (if cap = 0 then A else A.map (·.add (0 * n))) (k - 0) (cap - 0), fun w' => ?_, fun w' h' => ?_⟩
  · have hb := run_sliceBound (P := Try.prog) w' IntKind.i64 (k : Int) cap .sliceAcap (by omega) (by omega)
    simp [Instr.sliceAt, Instr.slice, run_underlying hE.ht, Instr.sliceBounds, sizeOf, typeInfo, hE.hi, hb]
  · have := h'.part (Nat.zero_le k) hk
    rwa [List.drop_zero] at this
/-- s[k:] -/
theorem run_drop {n by_ : Nat} {t e : TypeId} {w : World} {sv : Value} {m : List (Array Value)} (h : RdS n w sv m) (hT : elemB t e n by_ = true) {k : Nat} (hk : k ≤ m.length) : ∃ sv', (∀ w', (Instr.sliceAt t sv (some (.int .i64 (k : Nat))) none none).run Try.prog w' = .ok sv' w') ∧ ∀ w', RdS n w' sv m → RdS n w' sv' (m.drop k) := by
  obtain ⟨i, z, hE⟩ := elemT hT
  obtain ⟨hs, A, cap, rfl, hc, _⟩ := h
  refine ⟨.slice (if cap = k then A else A.map (·.add (k * n))) (m.length - k) (cap - k), fun w' => ?_, fun w' h' => ?_⟩
  · have hb := run_sliceBound (P := Try.prog) w' IntKind.i64 (k : Int) m.length .sliceB (by omega) (by omega)
    simp [Instr.sliceAt, Instr.slice, run_underlying hE.ht, Instr.sliceBounds, sizeOf, typeInfo, hE.hi, hE.hn, hb]
  · have := h'.part hk (Nat.le_refl _)
    rwa [List.take_length] at this
section
variable {ops : Array Oper} {rest : List Oper} {a a2 : Act} {w w0 : World} {X : List Nat} {L : List (Nat × Array Value)} {Q : Exit → Act → World → Prop} {d : Option Tmp} {ty t tx e : TypeId} {n by_ : Nat} {ps : String} {af : Array Edge} {g : Option (Nat × Bool)} {x : Operand} {lo hi mx : Option Operand} {v sv : Value}
theorem h_sl {o : Oper} (ho : o.op = .slice t x lo hi mx) (h : ∀ w, (Instr.sliceAt t (a.eval x) (lo.map a.eval) (hi.map a.eval) (mx.map a.eval)).run Try.prog w = .ok v w) : ∀ w, (execOp a.eval o).run Try.prog w = .ok (.value v) w := fun w => by
  unfold execOp
  simp only [ho, Sem.run_bind, h w, Result.andThen_ok, Sem.run_pure]
theorem g_sl (h : OpG ops Q rest a w { dst := d, op := .slice t x lo hi mx, type := ty, pos := ps, after := af, guard := g }) : wpList Try.prog ops Q ({ dst := d, op := .slice t x lo hi mx, type := ty, pos := ps, after := af, guard := g } :: rest) a w := h
theorem a_sl (h : wpList Try.prog ops Q rest a2 w) (hv : ∀ w, (Instr.sliceAt t (a.eval x) (lo.map a.eval) (hi.map a.eval) (mx.map a.eval)).run Try.prog w = .ok v w) (hw : WantT ops { dst := d, op := .slice t x lo hi mx, type := ty, pos := ps, after := af, guard := g } a := by first | exact Or.inl rfl | exact Or.inr ⟨_, _, _, rfl, rfl, rfl⟩) (ha : a.put d v = a2 := by ((try simp only [Act.put, List.setIfInBounds_toArray, List.set_cons_succ, List.set_cons_zero]) <;> rfl)) : OpG ops Q rest a w { dst := d, op := .slice t x lo hi mx, type := ty, pos := ps, after := af, guard := g } := by
  refine wpList_step fun K hK => ?_
  rw [if_pos hw.wanted]
  unfold Oper.wp
  rw [h_sl rfl hv]
  exact hK _ _ (ha ▸ h)
end
section
variable {ops : Array Oper} {oi : Oper} {a : Act} {w w0 : World} {X : List Nat} {L : List (Nat × Array Value)} {Q : Exit → Act → World → Prop} {R : Act → World → Prop} {d : Tmp} {t tx e : TypeId} {n by_ : Nat} {x y : Operand}
theorem j_app {a2 : Value → Act} {F : List (Nat × Array Value) → List (Nat × Array Value)} {K B : List (Nat × Array Value)} {s sv : Value} {l m : List (Array Value)} (HM : Mem w0 X L w) (HS : SlAt n s l B) (hR : RdS n w sv m) (h : ∀ s' B' w', SlAt n s' (l ++ m) B' → Mem w0 X (F B') w' → R (a2 s') w') (h1 : ∀ c ∈ m, c.all (·.oneCell') = true) (hT : elemB t e n by_ = true := by with_reducible assumption) (hTx : elemB tx e n by_ = true := by with_reducible assumption) (hd : oi.dst = some d := by rfl) (ho : oi.op = .call { callee := .builtin .append, args := #[x, y], argTypes := #[t, tx] } := by rfl) (hx : a.eval x = s := by (conv => lhs; whnf) <;> rfl) (hy : a.eval y = sv := by (conv => lhs; whnf) <;> rfl) (hF : Hole F K := by repeat (first | exact Hole.id | exact Hole.front | apply Hole.cons | apply Hole.app)) (hp : Pk (F B) L := by (repeat (first | exact Pk.nil | exact Pk.refl _ | exact Pk.pre _ _ | exact Pk.post _ _ | (apply Pk.cons; focus (repeat (first | exact Rm.here | apply Rm.there))) | apply Pk.skip))) (ha : ∀ s', ({ a with tmps := a.tmps.setIfInBounds d s' } : Act) = a2 s' := by intro s'; ((try simp only [List.setIfInBounds_toArray, List.set_cons_succ, List.set_cons_zero]) <;> rfl)) (hlen : (l.length + m.length) * (by_ + 1) ≤ 140737488355328 := by (try simp only [List.length_cons, List.length_nil, List.length_append, List.length_map]); omega) : Oper.wp Try.prog oi a w R Q := by
  obtain ⟨i, z, hE⟩ := elemT hT
  obtain ⟨i', z', hE'⟩ := elemT hTx
  obtain ⟨s', B', w', hr, hS', hM'⟩ := run_app (ty := oi.type) HM HS hF hp hE.ht hE.hi hE.hz hE.hn hE.hb hE.hzn hE.pos (hR.src hE'.ht h1) hR.1 hlen
  unfold Oper.wp execOp
  simp [ho, resolve, invoke, builtin, hx, hy, hr, Result.andThen]
  rw [Oper.upon_value, hd]
  have h9 := h s' B' w' hS' hM'
  rw [← ha s'] at h9
  exact h9
theorem j_bs0 {a2 : Nat → Act} (HM : Mem w0 X L w) (h : ∀ b w', Mem w0 X ((b, rowsOf []) :: L) w' → R (a2 b) w') (hT : elemB t e n by_ = true := by with_reducible assumption) (hd : oi.dst = some d := by rfl) (ho : oi.op = .buildSlice t 0 #[] := by rfl)  (hn : 0 * n ≤ 16777216 := by decide) (ha : ∀ b, ({ a with tmps := a.tmps.setIfInBounds d (.slice (some ⟨b, 0, none⟩) 0 0) } : Act) = a2 b := by intro b; ((try simp only [List.setIfInBounds_toArray, List.set_cons_succ, List.set_cons_zero]) <;> rfl)) : Oper.wp Try.prog oi a w R Q := by
  obtain ⟨i, z, hE⟩ := elemT hT
  have hr := run_bs hE [] (by simp) hn (parts := #[]) rfl w
  unfold Oper.wp execOp
  simp [ho, List.map_nil] at hr ⊢
  simp [hr, Result.andThen]
  rw [Oper.upon_value, hd]
  have h9 := h _ _ (HM.new _ e)
  rw [← ha] at h9
  exact h9
theorem j_bs1 {x0 : Operand} {v0 : Value} {c0 : Array Value} {a2 : Nat → Act} (HM : Mem w0 X L w) (h : ∀ b w', Mem w0 X ((b, rowsOf [c0]) :: L) w' → R (a2 b) w') (hT : elemB t e n by_ = true := by with_reducible assumption) (hd : oi.dst = some d := by rfl) (ho : oi.op = .buildSlice t 1 #[(0, x0)] := by rfl) (h0 : a.eval x0 = v0 := by (conv => lhs; whnf) <;> rfl) (k0 : v0.cells = c0 := by (conv => lhs; whnf) <;> rfl) (z0 : c0.size = n := by (first | exact qA_size _ | exact rZ_size _ _ | exact ratA_size _ _ _ _ | exact zA_size _ | exact Bg.intA_size _ _ | assumption | rfl)) (hn : 1 * n ≤ 16777216 := by decide) (ha : ∀ b, ({ a with tmps := a.tmps.setIfInBounds d (.slice (some ⟨b, 0, none⟩) 1 1) } : Act) = a2 b := by intro b; ((try simp only [List.setIfInBounds_toArray, List.set_cons_succ, List.set_cons_zero]) <;> rfl)) : Oper.wp Try.prog oi a w R Q := by
  obtain ⟨i, z, hE⟩ := elemT hT
  have hr := run_bs hE [v0] (by simp [k0, z0]) hn (parts := #[(0, v0)]) rfl w
  unfold Oper.wp execOp
  simp [ho, List.map_cons, List.map_nil, h0, k0] at hr ⊢
  simp [hr, Result.andThen]
  rw [Oper.upon_value, hd]
  have h9 := h _ _ (HM.new _ e)
  rw [← ha] at h9
  exact h9
theorem j_bs2 {x0 x1 : Operand} {v0 v1 : Value} {c0 c1 : Array Value} {a2 : Nat → Act} (HM : Mem w0 X L w) (h : ∀ b w', Mem w0 X ((b, rowsOf [c0, c1]) :: L) w' → R (a2 b) w') (hT : elemB t e n by_ = true := by with_reducible assumption) (hd : oi.dst = some d := by rfl) (ho : oi.op = .buildSlice t 2 #[(0, x0), (1, x1)] := by rfl) (h0 : a.eval x0 = v0 := by (conv => lhs; whnf) <;> rfl) (k0 : v0.cells = c0 := by (conv => lhs; whnf) <;> rfl) (z0 : c0.size = n := by (first | exact qA_size _ | exact rZ_size _ _ | exact ratA_size _ _ _ _ | exact zA_size _ | exact Bg.intA_size _ _ | assumption | rfl)) (h1 : a.eval x1 = v1 := by (conv => lhs; whnf) <;> rfl) (k1 : v1.cells = c1 := by (conv => lhs; whnf) <;> rfl) (z1 : c1.size = n := by (first | exact qA_size _ | exact rZ_size _ _ | exact ratA_size _ _ _ _ | exact zA_size _ | exact Bg.intA_size _ _ | assumption | rfl)) (hn : 2 * n ≤ 16777216 := by decide) (ha : ∀ b, ({ a with tmps := a.tmps.setIfInBounds d (.slice (some ⟨b, 0, none⟩) 2 2) } : Act) = a2 b := by intro b; ((try simp only [List.setIfInBounds_toArray, List.set_cons_succ, List.set_cons_zero]) <;> rfl)) : Oper.wp Try.prog oi a w R Q := by
  obtain ⟨i, z, hE⟩ := elemT hT
  have hr := run_bs hE [v0, v1] (by simp [k0, z0, k1, z1]) hn (parts := #[(0, v0), (1, v1)]) rfl w
  unfold Oper.wp execOp
  simp [ho, List.map_cons, List.map_nil, h0, h1, k0, k1] at hr ⊢
  simp [hr, Result.andThen]
  rw [Oper.upon_value, hd]
  have h9 := h _ _ (HM.new _ e)
  rw [← ha] at h9
  exact h9
theorem j_bs3 {x0 x1 x2 : Operand} {v0 v1 v2 : Value} {c0 c1 c2 : Array Value} {a2 : Nat → Act} (HM : Mem w0 X L w) (h : ∀ b w', Mem w0 X ((b, rowsOf [c0, c1, c2]) :: L) w' → R (a2 b) w') (hT : elemB t e n by_ = true := by with_reducible assumption) (hd : oi.dst = some d := by rfl) (ho : oi.op = .buildSlice t 3 #[(0, x0), (1, x1), (2, x2)] := by rfl) (h0 : a.eval x0 = v0 := by (conv => lhs; whnf) <;> rfl) (k0 : v0.cells = c0 := by (conv => lhs; whnf) <;> rfl) (z0 : c0.size = n := by (first | exact qA_size _ | exact rZ_size _ _ | exact ratA_size _ _ _ _ | exact zA_size _ | exact Bg.intA_size _ _ | assumption | rfl)) (h1 : a.eval x1 = v1 := by (conv => lhs; whnf) <;> rfl) (k1 : v1.cells = c1 := by (conv => lhs; whnf) <;> rfl) (z1 : c1.size = n := by (first | exact qA_size _ | exact rZ_size _ _ | exact ratA_size _ _ _ _ | exact zA_size _ | exact Bg.intA_size _ _ | assumption | rfl)) (h2 : a.eval x2 = v2 := by (conv => lhs; whnf) <;> rfl) (k2 : v2.cells = c2 := by (conv => lhs; whnf) <;> rfl) (z2 : c2.size = n := by (first | exact qA_size _ | exact rZ_size _ _ | exact ratA_size _ _ _ _ | exact zA_size _ | exact Bg.intA_size _ _ | assumption | rfl)) (hn : 3 * n ≤ 16777216 := by decide) (ha : ∀ b, ({ a with tmps := a.tmps.setIfInBounds d (.slice (some ⟨b, 0, none⟩) 3 3) } : Act) = a2 b := by intro b; ((try simp only [List.setIfInBounds_toArray, List.set_cons_succ, List.set_cons_zero]) <;> rfl)) : Oper.wp Try.prog oi a w R Q := by
  obtain ⟨i, z, hE⟩ := elemT hT
  have hr := run_bs hE [v0, v1, v2] (by simp [k0, z0, k1, z1, k2, z2]) hn (parts := #[(0, v0), (1, v1), (2, v2)]) rfl w
  unfold Oper.wp execOp
  simp [ho, List.map_cons, List.map_nil, h0, h1, h2, k0, k1, k2] at hr ⊢
  simp [hr, Result.andThen]
  rw [Oper.upon_value, hd]
  have h9 := h _ _ (HM.new _ e)
  rw [← ha] at h9
  exact h9
end
/-- A slice that was made with its elements. -/
theorem SlAt.made {n : Nat} (b : Nat) (l : List (Array Value)) (h : ∀ c ∈ l, c.size = n) : SlAt n (.slice (some ⟨b, 0, none⟩) l.length l.length) l [(b, rowsOf l)] := by
  have := SlAt.row (n := n) b l [] (by simpa using h)
  simpa using this
theorem SlAt.made0 {n : Nat} (b : Nat) : SlAt n (.slice (some ⟨b, 0, none⟩) 0 0) [] [(b, rowsOf [])] := SlAt.made b [] (by simp)
theorem SlAt.made1 {n : Nat} (b : Nat) {c : Array Value} (h : c.size = n) : SlAt n (.slice (some ⟨b, 0, none⟩) 1 1) [c] [(b, rowsOf [c])] := SlAt.made b [c] (by simpa using h)
end Go.Proofs.Ytekfabhmopkapaa
