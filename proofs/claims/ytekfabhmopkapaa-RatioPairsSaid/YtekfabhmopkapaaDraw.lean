/- Regions that draw their order: loads and plain values are taken first; what holds of memory may end where an operation has come up that waits for them. -/
import Derived.Test.YtekfabhmopkapaaMem
import Derived.Deep.RegionHeld
import Derived.Lib.MinMax
namespace Go.Proofs.Ytekfabhmopkapaa
set_option maxRecDepth 8000
open Go.RowKit
section
variable {P : Program} {md : Region.Mode} {ops : Array Oper} {Q : Exit → Act → World → Prop} {S1 S2 : World → Prop} {K : List Nat}
/-- None of these has come up. -/
def NoneUp (K : List Nat) (listed : Array Bool) : Prop := K.all (fun k => !listed.getD k false) = true
theorem NoneUp.at_ {K : List Nat} {listed : Array Bool} (h : NoneUp K listed) {k : Nat} (hk : k ∈ K) : listed.getD k false = false := by
  have := List.all_eq_true.1 h k hk
  simpa using this
theorem NoneUp.mk {K : List Nat} {listed : Array Bool} (h : ∀ k ∈ K, listed.getD k false = false) : NoneUp K listed :=
  List.all_eq_true.2 (fun k hk => by simp [h k hk])
theorem getD_set_ne' {listed : Array Bool} {i j : Nat} (d : Bool) (h : i ≠ j) : (listed.setIfInBounds i true).getD j d = listed.getD j d := by
  simp [Array.getElem?_setIfInBounds_ne h]
theorem NoneUp.set {K : List Nat} {listed : Array Bool} (h : NoneUp K listed) {i : Nat} (hi : i ∉ K) : NoneUp K (listed.setIfInBounds i true) :=
  .mk fun k hk => by
    have hne : i ≠ k := by intro e; subst e; exact hi hk
    rw [getD_set_ne' false hne]; exact h.at_ hk
theorem NoneUp.unset {K : List Nat} {listed : Array Bool} {i : Nat} (h : NoneUp K (listed.setIfInBounds i true)) : NoneUp K listed :=
  .mk fun k hk => by
    have h1 := h.at_ hk
    by_cases e : i = k
    · subst e
      rcases Nat.lt_or_ge i listed.size with h2 | h2
      · simp [h2] at h1
      · simp [Array.getElem?_eq_none h2]
    · rwa [getD_set_ne' false e] at h1
def Held (S1 S2 : World → Prop) (K : List Nat) (listed : Array Bool) (w : World) : Prop := S1 w ∧ (NoneUp K listed → S2 w)
def wpAnyL (P : Program) (md : Region.Mode) (ops : Array Oper) (Q : Exit → Act → World → Prop) (S1 S2 : World → Prop) (K : List Nat) : Nat → Array Bool → Act → World → Prop
  | 0, listed, a, w => Region.ready md ops listed = [] ∧ Q .normal a w
  | fuel + 1, listed, a, w =>
    (Region.ready md ops listed = [] → Q .normal a w) ∧
    ∀ i ∈ Region.ready md ops listed, wpOp P ops Q i (fun a' w' => Held S1 S2 K (listed.setIfInBounds i true) w' ∧ wpAnyL P md ops Q S1 S2 K fuel (listed.setIfInBounds i true) a' w') a w
theorem wpAny_of_L : ∀ (fuel : Nat) (listed : Array Bool) (a : Act) (w : World), wpAnyL P md ops Q S1 S2 K fuel listed a w → wpAny P md ops Q fuel listed a w
  | 0, _, _, _, h => h
  | fuel + 1, _, _, _, h => ⟨h.1, fun i hi => wpOp_mono (fun a' w' h' => wpAny_of_L fuel _ a' w' h'.2) (h.2 i hi)⟩
def Region.waitsB (md : Region.Mode) (ops : Array Oper) (i : Nat) (D : List Nat) : Bool :=
  !D.contains i && D.all (fun d => match ops[d]? with | none => false | some o => o.after.any fun e => Region.binds md e && (e.on == i || D.contains e.on))
theorem wait_spec {i : Nat} {D : List Nat} (h : Region.waitsB md ops i D = true) : i ∉ D ∧ ∀ d ∈ D, ∃ o, ops[d]? = some o ∧ ∃ e ∈ o.after, Region.binds md e = true ∧ (e.on = i ∨ e.on ∈ D) := by
  unfold Region.waitsB at h
  rw [Bool.and_eq_true] at h
  refine ⟨by simpa using h.1, fun d hd => ?_⟩
  have := List.all_eq_true.1 h.2 d hd
  cases ho : ops[d]? with
  | none => rw [ho] at this; simp at this
  | some o =>
    rw [ho] at this
    obtain ⟨e, he, hb⟩ := Array.any_eq_true'.1 this
    simp only [Bool.and_eq_true, Bool.or_eq_true, beq_iff_eq] at hb
    exact ⟨o, rfl, e, he, hb.1, by simpa using hb.2⟩
theorem wpAnyL_first {i : Nat} {oi : Oper} {v : Value} {D : List Nat} {S : World → Prop} (hi : ops[i]? = some oi) (hsel : ∀ (j : Nat) (o : Oper) cs b, ops[j]? = some o → o.op ≠ .select cs b)
    (hQ : ∀ c a w, Q (.panic c) (a.put oi.dst v) w → Q (.panic c) a w) (hD : i ∉ D) (hDs : ∀ d ∈ D, ∃ o, ops[d]? = some o ∧ ∃ e ∈ o.after, Region.binds md e = true ∧ (e.on = i ∨ e.on ∈ D)) (hiK : i ∉ K)
    (hS : ∀ listed w, NoneUp D listed → Held S1 S2 K listed w → S w) :
    ∀ (fuel : Nat) (listed : Array Bool) (a : Act) (w : World),
      (∀ j oj, ops[j]? = some oj → j ≠ i → listed.getD j true = false → (∀ e ∈ oj.after, Region.binds md e = true → e.on ≠ i) → oi.apart ops oj = true) →
      i ∈ Region.ready md ops listed → NoneUp D listed → YieldsIf P ops S oi v a → Held S1 S2 K listed w →
      wpAnyL P md ops Q S1 S2 K fuel (listed.setIfInBounds i true) (a.put oi.dst v) w → wpAnyL P md ops Q S1 S2 K (fuel + 1) listed a w := by
  intro fuel
  induction fuel with
  | zero =>
    intro listed a w _ hr hn hy hH H
    refine ⟨fun h => (by rw [h] at hr; cases hr), fun j hj => ?_⟩
    by_cases hji : j = i
    · subst hji; exact hy.wpOp hi (hS _ _ hn hH) ⟨⟨hH.1, fun hk => hH.2 hk.unset⟩, H⟩
    · have := ready_mono hj hji
      rw [H.1] at this
      cases this
  | succ fuel ih =>
    intro listed a w hfree hr hn hy hH H
    refine ⟨fun h => (by rw [h] at hr; cases hr), fun j hj => ?_⟩
    by_cases hji : j = i
    · subst hji; exact hy.wpOp hi (hS _ _ hn hH) ⟨⟨hH.1, fun hk => hH.2 hk.unset⟩, H⟩
    · have h1 := H.2 j (ready_mono hj hji)
      obtain ⟨hjun, oj, hoj, hall⟩ := mem_ready.1 hj
      have hiun : listed.getD i false = false := by
        have h0 := (mem_ready.1 hr).1
        rcases Nat.lt_or_ge i listed.size with h' | h'
        · simp [h'] at h0 ⊢; exact h0
        · simp [Array.getElem?_eq_none h']
      have hnot : ∀ e ∈ oj.after, Region.binds md e = true → e.on ≠ i := fun e he hb heq => by
        have h1 := hall e he hb
        rw [heq, hiun] at h1
        cases h1
      have hjD : j ∉ D := fun hd => by
        obtain ⟨o, ho, e, he, hb, hor⟩ := hDs j hd
        rw [hoj] at ho
        cases ho
        have h1 := hall e he hb
        rcases hor with hor | hor
        · exact hnot e he hb hor
        · rw [hn.at_ hor] at h1; cases h1
      have h2 := wpOp_putIf hoj (hfree j oj hoj hji hjun hnot) (fun cs b => hsel i oi cs b hi) (fun cs b => hsel j oj cs b hoj) hQ hy h1
      have hfree' : ∀ k ok, ops[k]? = some ok → k ≠ i → (listed.setIfInBounds j true).getD k true = false →
          (∀ e ∈ ok.after, Region.binds md e = true → e.on ≠ i) → oi.apart ops ok = true := fun k ok hk hki hun hno => by
        refine hfree k ok hk hki ?_ hno
        by_cases hjk : j = k
        · subst hjk; exact hjun
        · rw [getD_set_ne true hjk] at hun; exact hun
      refine wpOp_mono (fun a' w' h3 => ?_) h2
      have hH' : Held S1 S2 K (listed.setIfInBounds j true) w' := ⟨h3.2.1.1, fun hk => h3.2.1.2 (by
        rw [Array.setIfInBounds_comm _ _ (Ne.symm hji)]
        exact hk.set hiK)⟩
      refine ⟨hH', ih (listed.setIfInBounds j true) a' w' hfree' (ready_mono hr (Ne.symm hji)) (hn.set hjD) h3.1 hH' ?_⟩
      rw [Array.setIfInBounds_comm _ _ hji]
      exact h3.2.2
/-- All that is asked of an operation that is taken first, in one Bool. -/
def Region.takeB (md : Region.Mode) (ops : Array Oper) (listed : Array Bool) (i : Nat) (K D : List Nat) : Bool :=
  Region.noSelect ops && Region.free md ops listed i && (Region.ready md ops listed).contains i && Region.waitsB md ops i D && !K.contains i && D.all (fun k => !listed.getD k false)
theorem takeL {i : Nat} {oi : Oper} {v : Value} {d : Tmp} {D : List Nat} {S : World → Prop} {fuel : Nat} {listed : Array Bool} {a : Act} {w : World} (hi : ops[i]? = some oi) (hd : oi.dst = some d) (hb : Region.takeB md ops listed i K D = true)
    (hQ : ∀ c a w, Q (.panic c) (a.put (some d) v) w → Q (.panic c) a w) (hS : ∀ listed w, NoneUp D listed → Held S1 S2 K listed w → S w) (hH : Held S1 S2 K listed w) (hy : YieldsIf P ops S oi v a)
    (h : wpAnyL P md ops Q S1 S2 K fuel (listed.setIfInBounds i true) { a with tmps := a.tmps.setIfInBounds d v } w) : wpAnyL P md ops Q S1 S2 K (fuel + 1) listed a w := by
  unfold Region.takeB at hb
  simp only [Bool.and_eq_true] at hb
  obtain ⟨⟨⟨⟨⟨h1, h2⟩, h3⟩, h4⟩, h5⟩, h6⟩ := hb
  exact wpAnyL_first (D := D) (S := S) hi (Region.noSelect_spec h1) (by rw [hd]; exact hQ) (wait_spec h4).1 (wait_spec h4).2 (by simpa using h5) hS fuel listed a w (Region.free_spec hi h2) (by simpa using h3) h6 hy hH (by rw [hd]; exact h)
/-- A value that hangs on nothing in memory, or on what holds throughout. -/
theorem take1 {i : Nat} {oi : Oper} {v : Value} {d : Tmp} {fuel : Nat} {listed : Array Bool} {a : Act} {w : World} (hi : ops[i]? = some oi) (hd : oi.dst = some d) (hb : Region.takeB md ops listed i K [] = true)
    (hQ : ∀ c a w, Q (.panic c) (a.put (some d) v) w → Q (.panic c) a w) (hH : Held S1 S2 K listed w) (hy : YieldsIf P ops S1 oi v a)
    (h : wpAnyL P md ops Q S1 S2 K fuel (listed.setIfInBounds i true) { a with tmps := a.tmps.setIfInBounds d v } w) : wpAnyL P md ops Q S1 S2 K (fuel + 1) listed a w :=
  takeL (D := []) hi hd hb hQ (fun _ _ _ hH => hH.1) hH hy h
/-- A value that hangs on what holds until one of K comes up; D: K and all that K waits for. -/
theorem take2 {i : Nat} {oi : Oper} {v : Value} {d : Tmp} {fuel : Nat} {listed : Array Bool} {a : Act} {w : World} (D : List Nat) (hKD : K.all (D.contains ·) = true) (hi : ops[i]? = some oi) (hd : oi.dst = some d) (hb : Region.takeB md ops listed i K D = true)
    (hQ : ∀ c a w, Q (.panic c) (a.put (some d) v) w → Q (.panic c) a w) (hH : Held S1 S2 K listed w) (hy : YieldsIf P ops (fun w => S1 w ∧ S2 w) oi v a)
    (h : wpAnyL P md ops Q S1 S2 K fuel (listed.setIfInBounds i true) { a with tmps := a.tmps.setIfInBounds d v } w) : wpAnyL P md ops Q S1 S2 K (fuel + 1) listed a w :=
  takeL (D := D) hi hd hb hQ (fun _ _ hn hH => ⟨hH.1, hH.2 (.mk fun k hk => hn.at_ (by simpa using List.all_eq_true.1 hKD k hk))⟩) hH hy h
theorem wpAnyL_done {listed : Array Bool} {a : Act} {w : World} (hr : (Region.ready md ops listed).isEmpty = true) (h : Q .normal a w) :
    ∀ fuel, wpAnyL P md ops Q S1 S2 K fuel listed a w
  | 0 => ⟨by simpa using hr, h⟩
  | _ + 1 => ⟨fun _ => h, by rw [show Region.ready md ops listed = [] by simpa using hr]; simp⟩
/-- The one that may come up now. -/
theorem one_L {i : Nat} {oi : Oper} {fuel : Nat} {listed : Array Bool} {a : Act} {w : World} (hr : (Region.ready md ops listed == [i]) = true) (hi : ops[i]? = some oi) (hw : Region.wanted oi (yielded ops a.tmps) = true)
    (h : ∀ K' : Act → World → Prop, (∀ a' w', Held S1 S2 K (listed.setIfInBounds i true) w' → wpAnyL P md ops Q S1 S2 K fuel (listed.setIfInBounds i true) a' w' → K' a' w') → Oper.wp P oi a w K' Q) : wpAnyL P md ops Q S1 S2 K (fuel + 1) listed a w := by
  have hr' : Region.ready md ops listed = [i] := by simpa using hr
  refine ⟨fun h0 => (by rw [h0] at hr'; cases hr'), ?_⟩
  rw [hr']
  intro j hj
  obtain rfl : j = i := by simpa using hj
  unfold wpOp
  rw [hi]
  simp only [hw, if_true]
  exact .inl (h _ fun _ _ h1 h2 => ⟨h1, h2⟩)
/-- Two may come up now: each is walked. -/
theorem two_L {i j : Nat} {fuel : Nat} {listed : Array Bool} {a : Act} {w : World} (hr : (Region.ready md ops listed == [i, j]) = true)
    (h1 : wpOp P ops Q i (fun a' w' => Held S1 S2 K (listed.setIfInBounds i true) w' ∧ wpAnyL P md ops Q S1 S2 K fuel (listed.setIfInBounds i true) a' w') a w)
    (h2 : wpOp P ops Q j (fun a' w' => Held S1 S2 K (listed.setIfInBounds j true) w' ∧ wpAnyL P md ops Q S1 S2 K fuel (listed.setIfInBounds j true) a' w') a w) : wpAnyL P md ops Q S1 S2 K (fuel + 1) listed a w := by
  have hr' : Region.ready md ops listed = [i, j] := by simpa using hr
  refine ⟨fun h0 => (by rw [h0] at hr'; cases hr'), ?_⟩
  rw [hr']
  intro k hk
  rcases List.mem_cons.1 hk with rfl | hk
  · exact h1
  · obtain rfl : k = j := by simpa using hk
    exact h2
theorem op_L {i : Nat} {oi : Oper} {a : Act} {w : World} {R : Act → World → Prop} (hi : ops[i]? = some oi) (hw : Region.wanted oi (yielded ops a.tmps) = true) (h : Oper.wp P oi a w R Q) : wpOp P ops Q i R a w := by
  unfold wpOp
  rw [hi]
  simp only [hw, if_true]
  exact .inl h
theorem start_L {id : Nat} {a : Act} {w : World} (S1 S2 : World → Prop) (K : List Nat) (hm : P.follows .mixedOrders = true)
    (h : wpAnyL P .any ops Q S1 S2 K ops.size (Array.replicate ops.size false) a w.drew) : (Code.region id ops true).wp P Q a w :=
  wp_region_any hm (wpAny_of_L _ _ _ _ h)
end
section
variable {md : Region.Mode} {ops : Array Oper} {Q : Exit → Act → World → Prop} {S1 S2 : World → Prop} {K : List Nat} {w0 w : World} {X : List Nat} {L L' : List (Nat × Array Value)} {i : Nat} {oi : Oper} {d : Tmp} {fuel : Nat} {listed : Array Bool} {a : Act}
/-- A load, where its block holds its cells throughout. -/
theorem y_ld {S : World → Prop} {T : TypeId} {x : Operand} {b k : Nat} {c : Array Value} {v : Value} (hw : Region.wanted oi (yielded ops a.tmps) = true) (ho : oi.op = .load T x) (hx : a.eval x = .pointer (some ⟨b, k, none⟩)) (hb : ∀ w, S w → Blk w b c) (hv : LA T c k v) : YieldsIf Try.prog ops S oi v a :=
  .inl ⟨hw, fun w hS => by
    unfold execOp
    simp only [ho, hx, Instr.loadAt, Instr.sureAddr, Sem.run_bind, Sem.run_pure, Result.andThen_ok, hv w b (hb w hS)]⟩
/-- A call. -/
theorem o_call {R : Act → World → Prop} {v : Value} {f : FuncId} {args : Array Value} (hc : Calls Try.prog f args w fun e w' => e = .returned v ∧ Below w.heap.size w w') (HM : Mem w0 X L w) (hd : oi.dst = some d) (he : ∀ w, (execOp a.eval oi).run Try.prog w = .ok (.enter f args) w)
    (h : ∀ w', Mem w0 X L w' → R { a with tmps := a.tmps.setIfInBounds d v } w') : Oper.wp Try.prog oi a w R Q := by
  unfold Oper.wp
  rw [he, Oper.upon_enter]
  refine hc.mono ?_
  rintro e w' ⟨rfl, hb⟩
  rw [hd]
  exact h w' (HM.call hb)
/-- A call, whatever it does to memory. -/
theorem o_callg {R : Act → World → Prop} {f : FuncId} {args : Array Value} {Pc : Ending → World → Prop} (hc : Calls Try.prog f args w Pc) (hd : oi.dst = some d) (he : ∀ w, (execOp a.eval oi).run Try.prog w = .ok (.enter f args) w)
    (h : ∀ e w', Pc e w' → ∃ v, e = .returned v ∧ R { a with tmps := a.tmps.setIfInBounds d v } w') : Oper.wp Try.prog oi a w R Q := by
  unfold Oper.wp
  rw [he, Oper.upon_enter]
  refine hc.mono ?_
  intro e w' hp
  obtain ⟨v, rfl, hv⟩ := h e w' hp
  rw [hd]
  exact hv
theorem o_st {R : Act → World → Prop} {T : TypeId} {x y : Operand} {b k : Nat} {c c' : Array Value} {v : Value} (HM : Mem w0 X L w) (hd : oi.dst = none) (ho : oi.op = .store T x y) (hx : a.eval x = .pointer (some ⟨b, k, none⟩)) (hy : a.eval y = v) (ha : At L b c c' L') (hv : SA T c k v c')
    (h : ∀ w', Mem w0 X L' w' → R a w') : Oper.wp Try.prog oi a w R Q := by
  obtain ⟨w', hr, hb', hO⟩ := hv w b (HM.blk _ ha.mem)
  unfold Oper.wp execOp
  simp only [ho, hx, hy, Instr.storeAt, Instr.sureAddr, Sem.run_bind, Sem.run_pure, Result.andThen_ok, hr, Oper.upon_skip]
  rw [hd]
  exact h w' (HM.put ha hb' hO)
theorem o_al {R : Act → World → Prop} {T : TypeId} {c : Array Value} (HM : Mem w0 X L w) (hd : oi.dst = some d) (ho : oi.op = .alloc T) (hz : ZA T c)
    (h : ∀ b w', Mem w0 X ((b, c) :: L) w' → R { a with tmps := a.tmps.setIfInBounds d (.pointer (some ⟨b, 0, none⟩)) } w') : Oper.wp Try.prog oi a w R Q := by
  obtain ⟨z, hzc, hz⟩ := hz
  unfold Oper.wp execOp
  simp only [ho, Instr.alloc, Sem.run_bind, hz, Result.andThen_ok, newVar, newRow, hzc, run_newObj_alloc, Sem.run_pure, Oper.upon_value]
  rw [hd]
  exact h _ _ (HM.new c T)
theorem o_bx {R : Act → World → Prop} {T : TypeId} {x : Operand} {v : Value} {c : Array Value} (HM : Mem w0 X L w) (hd : oi.dst = some d) (ho : oi.op = .box T x) (hx : a.eval x = v) (hz : v.cells = c)
    (h : ∀ b w', Mem w0 X ((b, c) :: L) w' → R { a with tmps := a.tmps.setIfInBounds d (.pointer (some ⟨b, 0, none⟩)) } w') : Oper.wp Try.prog oi a w R Q := by
  unfold Oper.wp execOp
  simp only [ho, hx, Instr.box, Sem.run_bind, Result.andThen_ok, newVar, newRow, hz, run_newObj_alloc, Sem.run_pure, Oper.upon_value]
  rw [hd]
  exact h _ _ (HM.new c T)
end
/-- The way of these walks: memory as it is known at the start holds until a store comes up. -/
theorem start_M {id : Nat} {w0 w : World} {X : List Nat} {L : List (Nat × Array Value)} {ops : Array Oper} {Q : Exit → Act → World → Prop} {a : Act} (K : List Nat) (HM : Mem w0 X L w) (hm : Try.prog.follows .mixedOrders = true)
    (h : ∀ w1, Mem w0 X L w1 → wpAnyL Try.prog .any ops Q (fun _ => True) (fun w' => Mem w0 X L w') K ops.size (Array.replicate ops.size false) a w1) : (Code.region id ops true).wp Try.prog Q a w :=
  start_L _ _ K hm (h _ HM.drew)
theorem start_M2 {id : Nat} {w0 w : World} {X : List Nat} {L0 L : List (Nat × Array Value)} {ops : Array Oper} {Q : Exit → Act → World → Prop} {a : Act} (K : List Nat) (HM : Mem w0 X L w) (_hs : Sub L0 L) (hm : Try.prog.follows .mixedOrders = true)
    (h : ∀ w1, Mem w0 X L w1 → wpAnyL Try.prog .any ops Q (fun _ => True) (fun w' => Mem w0 X L0 w') K ops.size (Array.replicate ops.size false) a w1) : (Code.region id ops true).wp Try.prog Q a w :=
  start_L _ _ K hm (h _ HM.drew)
section
variable {md : Region.Mode} {ops : Array Oper} {Q : Exit → Act → World → Prop} {K : List Nat} {w0 w : World} {X : List Nat} {L L' : List (Nat × Array Value)} {i : Nat} {oi : Oper} {d : Tmp} {fuel : Nat} {listed : Array Bool} {a : Act}
theorem heldE (HM : Mem w0 X L' w) (hs : Sub L L' := by first | exact Sub.refl _ | (repeat (first | exact Sub.nil | refine Sub.keep ?_ | refine Sub.skip ?_))) : Held (fun _ => True) (fun w' => Mem w0 X L w') K listed w := ⟨trivial, fun _ => HM.less hs⟩
theorem heldN {S2 : World → Prop} (h : K.all (fun k => !listed.getD k false) = false := by kernel_rfl) : Held (fun _ => True) S2 K listed w := ⟨trivial, fun hn => by unfold NoneUp at hn; rw [h] at hn; cases hn⟩
/-- A plain value. -/
theorem t_pure {S2 : World → Prop} {v : Value} (hi : ops[i]? = some oi) (hd : oi.dst = some d) (hb : Region.takeB md ops listed i K [] = true)
    (hQ : ∀ c a w, Q (.panic c) (a.put (some d) v) w → Q (.panic c) a w) (hH : Held (fun _ => True) S2 K listed w) (hw : Region.wanted oi (yielded ops a.tmps) = true) (hy : ∀ w, (execOp a.eval oi).run Try.prog w = .ok (.value v) w)
    (h : wpAnyL Try.prog md ops Q (fun _ => True) S2 K fuel (listed.setIfInBounds i true) { a with tmps := a.tmps.setIfInBounds d v } w) : wpAnyL Try.prog md ops Q (fun _ => True) S2 K (fuel + 1) listed a w :=
  take1 hi hd hb hQ hH (.inl ⟨hw, fun w _ => hy w⟩) h
theorem t_move {S2 : World → Prop} {x : Operand} {v : Value} (hi : ops[i]? = some oi) (hd : oi.dst = some d) (hb : Region.takeB md ops listed i K [] = true)
    (hQ : ∀ c a w, Q (.panic c) (a.put (some d) v) w → Q (.panic c) a w) (hH : Held (fun _ => True) S2 K listed w) (hw : Region.wanted oi (yielded ops a.tmps) = true) (ho : oi.op = .move x ∨ oi.op = .assign x) (hx : a.eval x = v)
    (h : wpAnyL Try.prog md ops Q (fun _ => True) S2 K fuel (listed.setIfInBounds i true) { a with tmps := a.tmps.setIfInBounds d v } w) : wpAnyL Try.prog md ops Q (fun _ => True) S2 K (fuel + 1) listed a w :=
  take1 hi hd hb hQ hH (.inl ⟨hw, fun w _ => by unfold execOp; rcases ho with ho | ho <;> simp [ho, hx]⟩) h
/-- One that its guard lets fall. -/
theorem t_off {S2 : World → Prop} (hi : ops[i]? = some oi) (hd : oi.dst = some d) (hb : Region.takeB md ops listed i K [] = true)
    (hQ : ∀ c a w, Q (.panic c) (a.put (some d) undef) w → Q (.panic c) a w) (hH : Held (fun _ => True) S2 K listed w) (hw : Region.wanted oi (yielded ops a.tmps) = false)
    (h : wpAnyL Try.prog md ops Q (fun _ => True) S2 K fuel (listed.setIfInBounds i true) { a with tmps := a.tmps.setIfInBounds d undef } w) : wpAnyL Try.prog md ops Q (fun _ => True) S2 K (fuel + 1) listed a w :=
  take1 hi hd hb hQ hH (.inr ⟨hw, rfl⟩) h
theorem rd_look {b : Nat} {c : Array Value} (hl : Look L b c) : ∀ w, Mem w0 X L w → Blk w b c := fun _ h => h.get hl
theorem rd_ro {b : Nat} {c : Array Value} (hb : Blk w0 b c) (hn : b ∉ X) : ∀ w, Mem w0 X L w → Blk w b c := fun _ h => h.ro hb hn
/-- A load. -/
theorem t_ld (D : List Nat) {T : TypeId} {x : Operand} {b k : Nat} {c : Array Value} {v : Value} (hKD : K.all (D.contains ·) = true) (hi : ops[i]? = some oi) (hd : oi.dst = some d) (hb : Region.takeB md ops listed i K D = true)
    (hQ : ∀ c a w, Q (.panic c) (a.put (some d) v) w → Q (.panic c) a w) (hH : Held (fun _ => True) (fun w' => Mem w0 X L w') K listed w) (hw : Region.wanted oi (yielded ops a.tmps) = true) (ho : oi.op = .load T x) (hx : a.eval x = .pointer (some ⟨b, k, none⟩)) (hl : ∀ w, Mem w0 X L w → Blk w b c) (hv : LA T c k v)
    (h : wpAnyL Try.prog md ops Q (fun _ => True) (fun w' => Mem w0 X L w') K fuel (listed.setIfInBounds i true) { a with tmps := a.tmps.setIfInBounds d v } w) : wpAnyL Try.prog md ops Q (fun _ => True) (fun w' => Mem w0 X L w') K (fuel + 1) listed a w :=
  take2 D hKD hi hd hb hQ hH (y_ld hw ho hx (fun _ h => hl _ h.2) hv) h
theorem t_eq (D : List Nat) {v : Value} (hKD : K.all (D.contains ·) = true) (hi : ops[i]? = some oi) (hd : oi.dst = some d) (hb : Region.takeB md ops listed i K D = true)
    (hQ : ∀ c a w, Q (.panic c) (a.put (some d) v) w → Q (.panic c) a w) (hH : Held (fun _ => True) (fun w' => Mem w0 X L w') K listed w) (hy : YieldsIf Try.prog ops (fun w => True ∧ Mem w0 X L w) oi v a)
    (h : wpAnyL Try.prog md ops Q (fun _ => True) (fun w' => Mem w0 X L w') K fuel (listed.setIfInBounds i true) { a with tmps := a.tmps.setIfInBounds d v } w) : wpAnyL Try.prog md ops Q (fun _ => True) (fun w' => Mem w0 X L w') K (fuel + 1) listed a w :=
  take2 D hKD hi hd hb hQ hH hy h
/-- A load that is the one operation that may come up. -/
theorem o_ld {R : Act → World → Prop} {T : TypeId} {x : Operand} {b k : Nat} {c : Array Value} {v : Value} (hd : oi.dst = some d) (ho : oi.op = .load T x) (hx : a.eval x = .pointer (some ⟨b, k, none⟩)) (hb : Blk w b c) (hv : LA T c k v)
    (h : R { a with tmps := a.tmps.setIfInBounds d v } w) : Oper.wp Try.prog oi a w R Q := by
  unfold Oper.wp execOp
  simp only [ho, hx, Instr.loadAt, Instr.sureAddr, Sem.run_bind, Sem.run_pure, Result.andThen_ok, hv w b hb, Oper.upon_value]
  rw [hd]
  exact h
end
section
variable {o : Oper} {a : Act}
/-- The values of single operations, by what their operands hold. -/
theorem h_bin {op : BinOp} {T T2 : TypeId} {x y : Operand} {vx vy v : Value} (ho : o.op = .binOp op T x y T2) (hx : a.eval x = vx) (hy : a.eval y = vy)
    (h : ∀ w, (do eqGuard op T x y vx vy; binOp op T vx vy : Sem Value).run Try.prog w = .ok v w) : ∀ w, (execOp a.eval o).run Try.prog w = .ok (.value v) w := fun w => by
  unfold execOp
  have h1 := h w
  simp only [Sem.run_bind] at h1
  simp only [ho, hx, hy, Sem.run_bind, h1, Result.andThen_ok, Sem.run_pure]
theorem h_mv {x : Operand} {v : Value} (ho : o.op = .move x) (hx : a.eval x = v) : ∀ w, (execOp a.eval o).run Try.prog w = .ok (.value v) w := fun w => by
  unfold execOp; simp [ho, hx]
theorem h_as {x : Operand} {v : Value} (ho : o.op = .assign x) (hx : a.eval x = v) : ∀ w, (execOp a.eval o).run Try.prog w = .ok (.value v) w := fun w => by
  unfold execOp; simp [ho, hx]
theorem noGuard {op : BinOp} {T : TypeId} {x y : Operand} {k k2 : IntKind} {m n : Int} (w : World) : (eqGuard op T x y (.int k m) (.int k2 n)).run Try.prog w = .ok () w := by
  unfold eqGuard
  cases op <;> simp
theorem v_arith {op : BinOp} {T : TypeId} {x y : Operand} {k : IntKind} {m n r : Int} (hr : (op = .add ∧ r = m + n) ∨ (op = .sub ∧ r = m - n) ∨ (op = .mul ∧ r = m * n)) (hk : k.wrap r = r) :
    ∀ w, (do eqGuard op T x y (.int k m) (.int k n); binOp op T (.int k m) (.int k n) : Sem Value).run Try.prog w = .ok (.int k r) w := fun w => by
  rw [Sem.run_bind, noGuard, Result.andThen_ok]
  rcases hr with ⟨rfl, rfl⟩ | ⟨rfl, rfl⟩ | ⟨rfl, rfl⟩ <;> simp [binOp, Op.intArith, hk]
theorem v_cmp {op : BinOp} {T : TypeId} {x y : Operand} {k : IntKind} {m n : Int} {t : Bool} (hr : (op = .eql ∧ t = (m == n)) ∨ (op = .neq ∧ t = (m != n)) ∨ (op = .lss ∧ t = decide (m < n)) ∨ (op = .leq ∧ t = decide (m ≤ n)) ∨ (op = .gtr ∧ t = decide (m > n)) ∨ (op = .geq ∧ t = decide (m ≥ n))) :
    ∀ w, (do eqGuard op T x y (.int k m) (.int k n); binOp op T (.int k m) (.int k n) : Sem Value).run Try.prog w = .ok (.bool t) w := fun w => by
  rw [Sem.run_bind, noGuard, Result.andThen_ok]
  rcases hr with ⟨rfl, rfl⟩ | ⟨rfl, rfl⟩ | ⟨rfl, rfl⟩ | ⟨rfl, rfl⟩ | ⟨rfl, rfl⟩ | ⟨rfl, rfl⟩ <;> simp [binOp, Op.intCmp]
theorem h_not {T : TypeId} {x : Operand} {t : Bool} (ho : o.op = .unOp .not T x) (hx : a.eval x = .bool t) : ∀ w, (execOp a.eval o).run Try.prog w = .ok (.value (.bool (!t))) w := fun w => by
  unfold execOp
  simp [ho, hx, Op.unary]
theorem h_un {u : UnOp} {T : TypeId} {x : Operand} {vx v : Value} (ho : o.op = .unOp u T x) (hx : a.eval x = vx) (h : ∀ w, (Op.unary u vx).run Try.prog w = .ok v w) : ∀ w, (execOp a.eval o).run Try.prog w = .ok (.value v) w := fun w => by
  unfold execOp
  simp only [ho, hx, Sem.run_bind, h w, Result.andThen_ok, Sem.run_pure]
theorem h_cv {T T2 : TypeId} {x : Operand} {vx v : Value} (ho : o.op = .convert T T2 x) (hx : a.eval x = vx) (h : ∀ w, (convert T T2 vx).run Try.prog w = .ok v w) : ∀ w, (execOp a.eval o).run Try.prog w = .ok (.value v) w := fun w => by
  unfold execOp
  simp only [ho, hx, Sem.run_bind, h w, Result.andThen_ok, Sem.run_pure]
theorem h_pick {c x y : Operand} {t : Bool} {vx vy v : Value} (ho : o.op = .pick c x y) (hc : a.eval c = .bool t) (hx : a.eval x = vx) (hy : a.eval y = vy) (h : v = if t = true then vx else vy) : ∀ w, (execOp a.eval o).run Try.prog w = .ok (.value v) w := fun w => by
  unfold execOp
  simp [ho, hc, hx, hy, h, asBool]
theorem h_ext {x : Operand} {i : Nat} {vs : Array Value} {v : Value} (ho : o.op = .extract x i) (hx : a.eval x = .tuple vs) (h : vs.toList[i]? = some v) : ∀ w, (execOp a.eval o).run Try.prog w = .ok (.value v) w := fun w => by
  unfold execOp
  have h' : vs[i]? = some v := by simpa using h
  simp [ho, hx, h', Instr.extract]
theorem h_fa {T : TypeId} {x : Operand} {i : Nat} {vx v : Value} (ho : o.op = .fieldAddr T x i) (hx : a.eval x = vx) (h : ∀ w, (Instr.fieldAt T vx i).run Try.prog w = .ok v w) : ∀ w, (execOp a.eval o).run Try.prog w = .ok (.value v) w := fun w => by
  unfold execOp
  simp only [ho, hx, Sem.run_bind, h w, Result.andThen_ok, Sem.run_pure]
theorem h_ia {T : TypeId} {x y : Operand} {vx vy v : Value} (ho : o.op = .indexAddr T x y) (hx : a.eval x = vx) (hy : a.eval y = vy) (h : ∀ w, (Instr.indexAt T vx vy).run Try.prog w = .ok v w) : ∀ w, (execOp a.eval o).run Try.prog w = .ok (.value v) w := fun w => by
  unfold execOp
  simp only [ho, hx, hy, Sem.run_bind, h w, Result.andThen_ok, Sem.run_pure]
theorem h_max {x y : Operand} {ts : Array TypeId} {k : IntKind} {m n r : Int} (ho : o.op = .call { callee := .builtin .max, args := #[x, y], argTypes := ts }) (hx : a.eval x = .int k m) (hy : a.eval y = .int k n) (h : r = max m n) : ∀ w, (execOp a.eval o).run Try.prog w = .ok (.value (.int k r)) w := fun w => by
  unfold execOp
  simp [ho, resolve, invoke, builtin, hx, hy, h, Lib.run_max_ints]
theorem h_min {x y : Operand} {ts : Array TypeId} {k : IntKind} {m n r : Int} (ho : o.op = .call { callee := .builtin .min, args := #[x, y], argTypes := ts }) (hx : a.eval x = .int k m) (hy : a.eval y = .int k n) (h : r = min m n) : ∀ w, (execOp a.eval o).run Try.prog w = .ok (.value (.int k r)) w := fun w => by
  unfold execOp
  simp [ho, resolve, invoke, builtin, hx, hy, h, Lib.run_min_ints]
noncomputable def goF (f : FuncId) : Bool := match Try.prog.funcs[f]? with
  | some fn => !(fn.name == "runtime.NumGoroutine") && fn.body.isSome
  | none => false
theorem h_call {f : FuncId} {xs : Array Operand} {ts : Array TypeId} {args : Array Value} (ho : o.op = .call { callee := .value (.func f), args := xs, argTypes := ts }) (hf : goF f = true) (hx : xs.map a.eval = args) : ∀ w, (execOp a.eval o).run Try.prog w = .ok (.enter f args) w := fun w => by
  unfold goF at hf
  cases hg : Try.prog.funcs[f]? with
  | none => rw [hg] at hf; simp at hf
  | some fn =>
    rw [hg] at hf
    simp only [Bool.and_eq_true, Bool.not_eq_true'] at hf
    have h1 : ¬ fn.name = "runtime.NumGoroutine" := by simpa using hf.1
    have hb : ¬ fn.body = none := by intro h; simp [h] at hf
    unfold execOp
    simp [ho, resolve, Act.eval, Deferred.ofValue, invoke, callFunc, hg, h1, hb, ← hx]
theorem h_call0 {f : FuncId} {ts : Array TypeId} (ho : o.op = .call { callee := .value (.func f), args := #[], argTypes := ts }) (hf : goF f = true) : ∀ w, (execOp a.eval o).run Try.prog w = .ok (.enter f #[]) w := h_call ho hf (by simp)
theorem h_call1 {f : FuncId} {ts : Array TypeId} {x1 : Operand} {v1 : Value} (ho : o.op = .call { callee := .value (.func f), args := #[x1], argTypes := ts }) (hf : goF f = true) (h1 : a.eval x1 = v1) : ∀ w, (execOp a.eval o).run Try.prog w = .ok (.enter f #[v1]) w := h_call ho hf (by simp [h1])
theorem h_call2 {f : FuncId} {ts : Array TypeId} {x1 x2 : Operand} {v1 v2 : Value} (ho : o.op = .call { callee := .value (.func f), args := #[x1, x2], argTypes := ts }) (hf : goF f = true) (h1 : a.eval x1 = v1) (h2 : a.eval x2 = v2) : ∀ w, (execOp a.eval o).run Try.prog w = .ok (.enter f #[v1, v2]) w := h_call ho hf (by simp [h1, h2])
theorem h_call3 {f : FuncId} {ts : Array TypeId} {x1 x2 x3 : Operand} {v1 v2 v3 : Value} (ho : o.op = .call { callee := .value (.func f), args := #[x1, x2, x3], argTypes := ts }) (hf : goF f = true) (h1 : a.eval x1 = v1) (h2 : a.eval x2 = v2) (h3 : a.eval x3 = v3) : ∀ w, (execOp a.eval o).run Try.prog w = .ok (.enter f #[v1, v2, v3]) w := h_call ho hf (by simp [h1, h2, h3])
end
/-! Short arms: what an operation asks for is sought by the law itself. -/
/-- Block b holds c; with the cells c' in their place the list is F c'. -/
inductive Atf : List (Nat × Array Value) → Nat → Array Value → (Array Value → List (Nat × Array Value)) → Prop
  | here {b : Nat} {c : Array Value} {L : List (Nat × Array Value)} : Atf ((b, c) :: L) b c fun c' => (b, c') :: L
  | there {p : Nat × Array Value} {L : List (Nat × Array Value)} {b : Nat} {c : Array Value} {F : Array Value → List (Nat × Array Value)} (h : Atf L b c F) : Atf (p :: L) b c fun c' => p :: F c'
theorem Atf.at_ {L : List (Nat × Array Value)} {b : Nat} {c : Array Value} {F : Array Value → List (Nat × Array Value)} (h : Atf L b c F) (c' : Array Value) : At L b c c' (F c') := by
  induction h with
  | here => exact .here
  | there _ ih => exact .there ih
section
variable {ops : Array Oper} {rest : List Oper} {a a2 : Act} {w w0 : World} {X : List Nat} {L L' : List (Nat × Array Value)} {Q : Exit → Act → World → Prop} {d : Option Tmp} {ty T : TypeId} {ps : String} {af : Array Edge} {g : Option (Nat × Bool)} {x y : Operand} {b k : Nat} {c c' : Array Value} {v : Value}
def OpG (ops : Array Oper) (Q : Exit → Act → World → Prop) (rest : List Oper) (a : Act) (w : World) (o : Oper) : Prop := wpList Try.prog ops Q (o :: rest) a w
theorem g_ld (h : OpG ops Q rest a w { dst := d, op := .load T x, type := ty, pos := ps, after := af, guard := g }) : wpList Try.prog ops Q ({ dst := d, op := .load T x, type := ty, pos := ps, after := af, guard := g } :: rest) a w := h
theorem g_st (h : OpG ops Q rest a w { dst := d, op := .store T x y, type := ty, pos := ps, after := af, guard := g }) : wpList Try.prog ops Q ({ dst := d, op := .store T x y, type := ty, pos := ps, after := af, guard := g } :: rest) a w := h
theorem g_al (h : OpG ops Q rest a w { dst := d, op := .alloc T, type := ty, pos := ps, after := af, guard := g }) : wpList Try.prog ops Q ({ dst := d, op := .alloc T, type := ty, pos := ps, after := af, guard := g } :: rest) a w := h
theorem g_bx (h : OpG ops Q rest a w { dst := d, op := .box T x, type := ty, pos := ps, after := af, guard := g }) : wpList Try.prog ops Q ({ dst := d, op := .box T x, type := ty, pos := ps, after := af, guard := g } :: rest) a w := h
/-- A block that may be read: one of the list, or one of the caller's. -/
def RdB (w0 : World) (X : List Nat) (L : List (Nat × Array Value)) (b : Nat) (c : Array Value) : Prop := Look L b c ∨ (Hid (Blk w0 b c) ∧ b ∉ X)
theorem RdB.look (h : Look L b c) : RdB w0 X L b c := .inl h
theorem RdB.ro (h : Hid (Blk w0 b c)) (hn : b ∉ X) : RdB w0 X L b c := .inr ⟨h, hn⟩
theorem RdB.at_ (h : RdB w0 X L b c) (HM : Mem w0 X L w) : Blk w b c := h.elim HM.get fun h => HM.ro h.1.out h.2
theorem a_ld (HM : Mem w0 X L w) (h : wpList Try.prog ops Q rest a2 w) (hw : WantT ops { dst := d, op := .load T x, type := ty, pos := ps, after := af, guard := g } a := by first | exact Or.inl rfl | exact Or.inr ⟨_, _, _, rfl, rfl, rfl⟩) (hx : a.eval x = .pointer (some ⟨b, k, none⟩) := by (conv => lhs; whnf) <;> rfl) (hb : RdB w0 X L b c := by (first | (apply RdB.look; ((repeat (first | exact Look.here | apply Look.there)); done)) | (apply RdB.ro; (focus assumption); (focus simp)))) (hv : LA T c k v := by (first | (with_reducible (first | assumption | exact la_z _ | exact la_i _ _ | exact la_mag _ | exact la_arr _ | exact la_fldz _ | exact la_fld _ _ | exact la_negz _ | exact la_neg _ _)) | exact la_z _ | exact la_i _ _ | exact la_mag _ | exact la_arr _ | exact la_fldz _ | exact la_fld _ _ | exact la_negz _ | exact la_neg _ _ | assumption | exact LA.one (by kernel_rfl) rfl)) (ha : a.put d v = a2 := by ((try simp only [Act.put, List.setIfInBounds_toArray, List.set_cons_succ, List.set_cons_zero]) <;> rfl)) : OpG ops Q rest a w { dst := d, op := .load T x, type := ty, pos := ps, after := af, guard := g } := m_ld hw hx (hb.at_ HM) hv (ha ▸ h)
theorem a_st {F : Array Value → List (Nat × Array Value)} (HM : Mem w0 X L w) (h : ∀ w', Mem w0 X (F c') w' → wpList Try.prog ops Q rest a2 w') (hw : WantT ops { dst := d, op := .store T x y, type := ty, pos := ps, after := af, guard := g } a := by first | exact Or.inl rfl | exact Or.inr ⟨_, _, _, rfl, rfl, rfl⟩) (hx : a.eval x = .pointer (some ⟨b, k, none⟩) := by (conv => lhs; whnf) <;> rfl) (hy : a.eval y = v := by (conv => lhs; whnf) <;> rfl) (hat : Atf L b c F := by (repeat (first | exact Atf.here | apply Atf.there))) (hv : SA T c k v c' := by (first | (with_reducible assumption) | ((with_reducible (first | refine sa_z _ ?_ | refine sa_i _ _ ?_ | refine sa_mag _ ?_ | refine sa_arr _ ?_)); (first | exact zA_size _ | exact Bg.intA_size _ _ | exact Bg.row_size _ _)) | (with_reducible exact sa_neg _ _ _) | ((first | refine sa_z _ ?_ | refine sa_i _ _ ?_ | refine sa_mag _ ?_ | refine sa_arr _ ?_); (first | exact zA_size _ | exact Bg.intA_size _ _ | exact Bg.row_size _ _)) | exact sa_neg _ _ _ | assumption)) (ha : a.put d undef = a2 := by ((try simp only [Act.put, List.setIfInBounds_toArray, List.set_cons_succ, List.set_cons_zero]) <;> rfl)) : OpG ops Q rest a w { dst := d, op := .store T x y, type := ty, pos := ps, after := af, guard := g } := m_st HM hw hx hy (hat.at_ _) hv (ha ▸ h)
theorem a_al {a2 : Nat → Act} (HM : Mem w0 X L w) (h : ∀ b w', Mem w0 X ((b, c) :: L) w' → wpList Try.prog ops Q rest (a2 b) w') (hw : WantT ops { dst := d, op := .alloc T, type := ty, pos := ps, after := af, guard := g } a := by first | exact Or.inl rfl | exact Or.inr ⟨_, _, _, rfl, rfl, rfl⟩) (hz : ZA T c := by (first | (with_reducible (first | assumption | exact za_int | exact za_mag | exact za_arr)) | assumption)) (ha : ∀ b, a.put d (.pointer (some ⟨b, 0, none⟩)) = a2 b := by intro b; ((try simp only [Act.put, List.setIfInBounds_toArray, List.set_cons_succ, List.set_cons_zero]) <;> rfl)) : OpG ops Q rest a w { dst := d, op := .alloc T, type := ty, pos := ps, after := af, guard := g } := m_al HM hw hz fun b w9 h9 => (ha b).symm ▸ h b w9 h9
theorem a_bx {a2 : Nat → Act} (HM : Mem w0 X L w) (h : ∀ b w', Mem w0 X ((b, c) :: L) w' → wpList Try.prog ops Q rest (a2 b) w') (hw : WantT ops { dst := d, op := .box T x, type := ty, pos := ps, after := af, guard := g } a := by first | exact Or.inl rfl | exact Or.inr ⟨_, _, _, rfl, rfl, rfl⟩) (hx : a.eval x = v := by (conv => lhs; whnf) <;> rfl) (hz : v.cells = c := by (conv => lhs; whnf) <;> rfl) (ha : ∀ b, a.put d (.pointer (some ⟨b, 0, none⟩)) = a2 b := by intro b; ((try simp only [Act.put, List.setIfInBounds_toArray, List.set_cons_succ, List.set_cons_zero]) <;> rfl)) : OpG ops Q rest a w { dst := d, op := .box T x, type := ty, pos := ps, after := af, guard := g } := m_bx HM hw hx hz fun b w9 h9 => (ha b).symm ▸ h b w9 h9
end
/-! Short steps of a drawn region. -/
section
variable {md : Region.Mode} {ops : Array Oper} {Q : Exit → Act → World → Prop} {S2 : World → Prop} {K : List Nat} {w0 w : World} {X : List Nat} {L L' : List (Nat × Array Value)} {oi : Oper} {d : Tmp} {fuel : Nat} {listed : Array Bool} {a a2 : Act} {b k : Nat} {c c' : Array Value} {T T2 : TypeId} {x y : Operand} {v vx vy : Value}
theorem k_off (i : Nat) (hH : Held (fun _ => True) S2 K listed w) (h : wpAnyL Try.prog md ops Q (fun _ => True) S2 K fuel (listed.setIfInBounds i true) a2 w) (hi : ops[i]? = some oi := by rfl) (hd : oi.dst = some d := by rfl) (hb : Region.takeB md ops listed i K [] = true := by kernel_rfl) (hQ : ∀ c a w, Q (.panic c) (a.put (some d) undef) w → Q (.panic c) a w := by exact fun _ _ _ h => h) (hw : Region.wanted oi (yielded ops a.tmps) = false := by rfl) (ha : ({ a with tmps := a.tmps.setIfInBounds d undef } : Act) = a2 := by ((try simp only [List.setIfInBounds_toArray, List.set_cons_succ, List.set_cons_zero]) <;> rfl)) : wpAnyL Try.prog md ops Q (fun _ => True) S2 K (fuel + 1) listed a w := t_off hi hd hb hQ hH hw (ha ▸ h)
theorem k_mv (i : Nat) (hH : Held (fun _ => True) S2 K listed w) (h : wpAnyL Try.prog md ops Q (fun _ => True) S2 K fuel (listed.setIfInBounds i true) a2 w) (hi : ops[i]? = some oi := by rfl) (hd : oi.dst = some d := by rfl) (hb : Region.takeB md ops listed i K [] = true := by kernel_rfl) (hQ : ∀ c a w, Q (.panic c) (a.put (some d) v) w → Q (.panic c) a w := by exact fun _ _ _ h => h) (hw : Region.wanted oi (yielded ops a.tmps) = true := by rfl) (ho : oi.op = .move x ∨ oi.op = .assign x := by first | exact .inl rfl | exact .inr rfl) (hx : a.eval x = v := by (conv => lhs; whnf) <;> rfl) (ha : ({ a with tmps := a.tmps.setIfInBounds d v } : Act) = a2 := by ((try simp only [List.setIfInBounds_toArray, List.set_cons_succ, List.set_cons_zero]) <;> rfl)) : wpAnyL Try.prog md ops Q (fun _ => True) S2 K (fuel + 1) listed a w := t_move hi hd hb hQ hH hw ho hx (ha ▸ h)
theorem k_bin (i : Nat) {op : BinOp} (hH : Held (fun _ => True) S2 K listed w) (h : wpAnyL Try.prog md ops Q (fun _ => True) S2 K fuel (listed.setIfInBounds i true) a2 w) (hi : ops[i]? = some oi := by rfl) (hd : oi.dst = some d := by rfl) (hb : Region.takeB md ops listed i K [] = true := by kernel_rfl) (hQ : ∀ c a w, Q (.panic c) (a.put (some d) v) w → Q (.panic c) a w := by exact fun _ _ _ h => h) (hw : Region.wanted oi (yielded ops a.tmps) = true := by rfl) (ho : oi.op = .binOp op T x y T2 := by rfl) (hx : a.eval x = vx := by (conv => lhs; whnf) <;> rfl) (hy : a.eval y = vy := by (conv => lhs; whnf) <;> rfl) (hv : ∀ w, (do eqGuard op T x y vx vy; binOp op T vx vy : Sem Value).run Try.prog w = .ok v w := by (intro w9; first | (go_simp; done) | (go_simp; rfl))) (ha : ({ a with tmps := a.tmps.setIfInBounds d v } : Act) = a2 := by ((try simp only [List.setIfInBounds_toArray, List.set_cons_succ, List.set_cons_zero]) <;> rfl)) : wpAnyL Try.prog md ops Q (fun _ => True) S2 K (fuel + 1) listed a w := t_pure hi hd hb hQ hH hw (h_bin ho hx hy hv) (ha ▸ h)
theorem k_add (i : Nat) {op : BinOp} (hH : Held (fun _ => True) S2 K listed w) (h : wpAnyL Try.prog md ops Q (fun _ => True) S2 K fuel (listed.setIfInBounds i true) a2 w) (hi : ops[i]? = some oi := by rfl) (hd : oi.dst = some d := by rfl) (hb : Region.takeB md ops listed i K [] = true := by kernel_rfl) (hQ : ∀ c a w, Q (.panic c) (a.put (some d) v) w → Q (.panic c) a w := by exact fun _ _ _ h => h) (hw : Region.wanted oi (yielded ops a.tmps) = true := by rfl) (ho : oi.op = .binOp op T x y T2 := by rfl) (hx : a.eval x = vx := by (conv => lhs; whnf) <;> rfl) (hy : a.eval y = vy := by (conv => lhs; whnf) <;> rfl) (hv : ∀ w, (do eqGuard op T x y vx vy; binOp op T vx vy : Sem Value).run Try.prog w = .ok v w := by first | (refine v_arith (.inl ⟨rfl, rfl⟩) ?_; (first | exact IntWalk.i64_in _ (by omega) | exact IntWalk.u64_in _ (by omega) | exact IntWalk.u32_in _ (by omega))) | (intro w9; first | (go_simp; done) | (go_simp; rfl))) (ha : ({ a with tmps := a.tmps.setIfInBounds d v } : Act) = a2 := by ((try simp only [List.setIfInBounds_toArray, List.set_cons_succ, List.set_cons_zero]) <;> rfl)) : wpAnyL Try.prog md ops Q (fun _ => True) S2 K (fuel + 1) listed a w := t_pure hi hd hb hQ hH hw (h_bin ho hx hy hv) (ha ▸ h)
theorem k_sub (i : Nat) {op : BinOp} (hH : Held (fun _ => True) S2 K listed w) (h : wpAnyL Try.prog md ops Q (fun _ => True) S2 K fuel (listed.setIfInBounds i true) a2 w) (hi : ops[i]? = some oi := by rfl) (hd : oi.dst = some d := by rfl) (hb : Region.takeB md ops listed i K [] = true := by kernel_rfl) (hQ : ∀ c a w, Q (.panic c) (a.put (some d) v) w → Q (.panic c) a w := by exact fun _ _ _ h => h) (hw : Region.wanted oi (yielded ops a.tmps) = true := by rfl) (ho : oi.op = .binOp op T x y T2 := by rfl) (hx : a.eval x = vx := by (conv => lhs; whnf) <;> rfl) (hy : a.eval y = vy := by (conv => lhs; whnf) <;> rfl) (hv : ∀ w, (do eqGuard op T x y vx vy; binOp op T vx vy : Sem Value).run Try.prog w = .ok v w := by first | (refine v_arith (.inr (.inl ⟨rfl, rfl⟩)) ?_; (first | exact IntWalk.i64_in _ (by omega) | exact IntWalk.u64_in _ (by omega) | exact IntWalk.u32_in _ (by omega))) | (intro w9; first | (go_simp; done) | (go_simp; rfl))) (ha : ({ a with tmps := a.tmps.setIfInBounds d v } : Act) = a2 := by ((try simp only [List.setIfInBounds_toArray, List.set_cons_succ, List.set_cons_zero]) <;> rfl)) : wpAnyL Try.prog md ops Q (fun _ => True) S2 K (fuel + 1) listed a w := t_pure hi hd hb hQ hH hw (h_bin ho hx hy hv) (ha ▸ h)
theorem k_mul (i : Nat) {op : BinOp} (hH : Held (fun _ => True) S2 K listed w) (h : wpAnyL Try.prog md ops Q (fun _ => True) S2 K fuel (listed.setIfInBounds i true) a2 w) (hi : ops[i]? = some oi := by rfl) (hd : oi.dst = some d := by rfl) (hb : Region.takeB md ops listed i K [] = true := by kernel_rfl) (hQ : ∀ c a w, Q (.panic c) (a.put (some d) v) w → Q (.panic c) a w := by exact fun _ _ _ h => h) (hw : Region.wanted oi (yielded ops a.tmps) = true := by rfl) (ho : oi.op = .binOp op T x y T2 := by rfl) (hx : a.eval x = vx := by (conv => lhs; whnf) <;> rfl) (hy : a.eval y = vy := by (conv => lhs; whnf) <;> rfl) (hv : ∀ w, (do eqGuard op T x y vx vy; binOp op T vx vy : Sem Value).run Try.prog w = .ok v w := by first | (refine v_arith (.inr (.inr ⟨rfl, rfl⟩)) ?_; (first | exact IntWalk.i64_in _ (by omega) | exact IntWalk.u64_in _ (by omega) | exact IntWalk.u32_in _ (by omega))) | (intro w9; first | (go_simp; done) | (go_simp; rfl))) (ha : ({ a with tmps := a.tmps.setIfInBounds d v } : Act) = a2 := by ((try simp only [List.setIfInBounds_toArray, List.set_cons_succ, List.set_cons_zero]) <;> rfl)) : wpAnyL Try.prog md ops Q (fun _ => True) S2 K (fuel + 1) listed a w := t_pure hi hd hb hQ hH hw (h_bin ho hx hy hv) (ha ▸ h)
theorem k_not (i : Nat) {t : Bool} (hH : Held (fun _ => True) S2 K listed w) (h : wpAnyL Try.prog md ops Q (fun _ => True) S2 K fuel (listed.setIfInBounds i true) a2 w) (hi : ops[i]? = some oi := by rfl) (hd : oi.dst = some d := by rfl) (hb : Region.takeB md ops listed i K [] = true := by kernel_rfl) (hQ : ∀ c a w, Q (.panic c) (a.put (some d) v) w → Q (.panic c) a w := by exact fun _ _ _ h => h) (hw : Region.wanted oi (yielded ops a.tmps) = true := by rfl) (ho : oi.op = .unOp .not T x := by rfl) (hx : a.eval x = .bool t := by (conv => lhs; whnf) <;> rfl) (hv : Value.bool (!t) = v := by rfl) (ha : ({ a with tmps := a.tmps.setIfInBounds d v } : Act) = a2 := by ((try simp only [List.setIfInBounds_toArray, List.set_cons_succ, List.set_cons_zero]) <;> rfl)) : wpAnyL Try.prog md ops Q (fun _ => True) S2 K (fuel + 1) listed a w := t_pure hi hd hb hQ hH hw (hv ▸ h_not ho hx) (ha ▸ h)
theorem k_un (i : Nat) {u : UnOp} (hH : Held (fun _ => True) S2 K listed w) (h : wpAnyL Try.prog md ops Q (fun _ => True) S2 K fuel (listed.setIfInBounds i true) a2 w) (hi : ops[i]? = some oi := by rfl) (hd : oi.dst = some d := by rfl) (hb : Region.takeB md ops listed i K [] = true := by kernel_rfl) (hQ : ∀ c a w, Q (.panic c) (a.put (some d) v) w → Q (.panic c) a w := by exact fun _ _ _ h => h) (hw : Region.wanted oi (yielded ops a.tmps) = true := by rfl) (ho : oi.op = .unOp u T x := by rfl) (hx : a.eval x = vx := by (conv => lhs; whnf) <;> rfl) (hv : ∀ w, (Op.unary u vx).run Try.prog w = .ok v w := by (intro w9; first | (go_simp; done) | (go_simp; rfl))) (ha : ({ a with tmps := a.tmps.setIfInBounds d v } : Act) = a2 := by ((try simp only [List.setIfInBounds_toArray, List.set_cons_succ, List.set_cons_zero]) <;> rfl)) : wpAnyL Try.prog md ops Q (fun _ => True) S2 K (fuel + 1) listed a w := t_pure hi hd hb hQ hH hw (h_un ho hx hv) (ha ▸ h)
theorem k_cv (i : Nat) (hH : Held (fun _ => True) S2 K listed w) (h : wpAnyL Try.prog md ops Q (fun _ => True) S2 K fuel (listed.setIfInBounds i true) a2 w) (hi : ops[i]? = some oi := by rfl) (hd : oi.dst = some d := by rfl) (hb : Region.takeB md ops listed i K [] = true := by kernel_rfl) (hQ : ∀ c a w, Q (.panic c) (a.put (some d) v) w → Q (.panic c) a w := by exact fun _ _ _ h => h) (hw : Region.wanted oi (yielded ops a.tmps) = true := by rfl) (ho : oi.op = .convert T T2 x := by rfl) (hx : a.eval x = vx := by (conv => lhs; whnf) <;> rfl) (hv : ∀ w, (convert T T2 vx).run Try.prog w = .ok v w := by (intro w9; go_simp; (try rw [IntWalk.u64_in _ (by omega)]); first | done | rfl)) (ha : ({ a with tmps := a.tmps.setIfInBounds d v } : Act) = a2 := by ((try simp only [List.setIfInBounds_toArray, List.set_cons_succ, List.set_cons_zero]) <;> rfl)) : wpAnyL Try.prog md ops Q (fun _ => True) S2 K (fuel + 1) listed a w := t_pure hi hd hb hQ hH hw (h_cv ho hx hv) (ha ▸ h)
theorem k_fa (i : Nat) {n : Nat} (hH : Held (fun _ => True) S2 K listed w) (h : wpAnyL Try.prog md ops Q (fun _ => True) S2 K fuel (listed.setIfInBounds i true) a2 w) (hi : ops[i]? = some oi := by rfl) (hd : oi.dst = some d := by rfl) (hb : Region.takeB md ops listed i K [] = true := by kernel_rfl) (hQ : ∀ c a w, Q (.panic c) (a.put (some d) v) w → Q (.panic c) a w := by exact fun _ _ _ h => h) (hw : Region.wanted oi (yielded ops a.tmps) = true := by rfl) (ho : oi.op = .fieldAddr T x n := by rfl) (hx : a.eval x = vx := by (conv => lhs; whnf) <;> rfl) (hv : ∀ w, (Instr.fieldAt T vx n).run Try.prog w = .ok v w := by (intro w9; first | (go_simp; done) | (go_simp; rfl))) (ha : ({ a with tmps := a.tmps.setIfInBounds d v } : Act) = a2 := by ((try simp only [List.setIfInBounds_toArray, List.set_cons_succ, List.set_cons_zero]) <;> rfl)) : wpAnyL Try.prog md ops Q (fun _ => True) S2 K (fuel + 1) listed a w := t_pure hi hd hb hQ hH hw (h_fa ho hx hv) (ha ▸ h)
theorem k_ia (i : Nat) (hH : Held (fun _ => True) S2 K listed w) (h : wpAnyL Try.prog md ops Q (fun _ => True) S2 K fuel (listed.setIfInBounds i true) a2 w) (hi : ops[i]? = some oi := by rfl) (hd : oi.dst = some d := by rfl) (hb : Region.takeB md ops listed i K [] = true := by kernel_rfl) (hQ : ∀ c a w, Q (.panic c) (a.put (some d) v) w → Q (.panic c) a w := by exact fun _ _ _ h => h) (hw : Region.wanted oi (yielded ops a.tmps) = true := by rfl) (ho : oi.op = .indexAddr T x y := by rfl) (hx : a.eval x = vx := by (conv => lhs; whnf) <;> rfl) (hy : a.eval y = vy := by (conv => lhs; whnf) <;> rfl) (hv : ∀ w, (Instr.indexAt T vx vy).run Try.prog w = .ok v w := by (intro w9; first | (go_simp; done) | (go_simp; rfl))) (ha : ({ a with tmps := a.tmps.setIfInBounds d v } : Act) = a2 := by ((try simp only [List.setIfInBounds_toArray, List.set_cons_succ, List.set_cons_zero]) <;> rfl)) : wpAnyL Try.prog md ops Q (fun _ => True) S2 K (fuel + 1) listed a w := t_pure hi hd hb hQ hH hw (h_ia ho hx hy hv) (ha ▸ h)
theorem k_pick (i : Nat) {z : Operand} {t : Bool} (hH : Held (fun _ => True) S2 K listed w) (h : wpAnyL Try.prog md ops Q (fun _ => True) S2 K fuel (listed.setIfInBounds i true) a2 w) (hi : ops[i]? = some oi := by rfl) (hd : oi.dst = some d := by rfl) (hb : Region.takeB md ops listed i K [] = true := by kernel_rfl) (hQ : ∀ c a w, Q (.panic c) (a.put (some d) v) w → Q (.panic c) a w := by exact fun _ _ _ h => h) (hw : Region.wanted oi (yielded ops a.tmps) = true := by rfl) (ho : oi.op = .pick z x y := by rfl) (hz : a.eval z = .bool t := by (conv => lhs; whnf) <;> rfl) (hx : a.eval x = vx := by (conv => lhs; whnf) <;> rfl) (hy : a.eval y = vy := by (conv => lhs; whnf) <;> rfl) (hv : v = if t = true then vx else vy := by (first | exact (if_pos rfl).symm | exact (if_neg Bool.false_ne_true).symm | (simp only [Value.ite_bool]; rfl) | rfl)) (ha : ({ a with tmps := a.tmps.setIfInBounds d v } : Act) = a2 := by ((try simp only [List.setIfInBounds_toArray, List.set_cons_succ, List.set_cons_zero]) <;> rfl)) : wpAnyL Try.prog md ops Q (fun _ => True) S2 K (fuel + 1) listed a w := t_pure hi hd hb hQ hH hw (h_pick ho hz hx hy hv) (ha ▸ h)
theorem k_ext (i : Nat) {n : Nat} {vs : Array Value} (hH : Held (fun _ => True) S2 K listed w) (h : wpAnyL Try.prog md ops Q (fun _ => True) S2 K fuel (listed.setIfInBounds i true) a2 w) (hi : ops[i]? = some oi := by rfl) (hd : oi.dst = some d := by rfl) (hb : Region.takeB md ops listed i K [] = true := by kernel_rfl) (hQ : ∀ c a w, Q (.panic c) (a.put (some d) v) w → Q (.panic c) a w := by exact fun _ _ _ h => h) (hw : Region.wanted oi (yielded ops a.tmps) = true := by rfl) (ho : oi.op = .extract x n := by rfl) (hx : a.eval x = .tuple vs := by (conv => lhs; whnf) <;> rfl) (hv : vs.toList[n]? = some v := by ((conv => lhs; whnf) <;> rfl)) (ha : ({ a with tmps := a.tmps.setIfInBounds d v } : Act) = a2 := by ((try simp only [List.setIfInBounds_toArray, List.set_cons_succ, List.set_cons_zero]) <;> rfl)) : wpAnyL Try.prog md ops Q (fun _ => True) S2 K (fuel + 1) listed a w := t_pure hi hd hb hQ hH hw (h_ext ho hx hv) (ha ▸ h)
theorem k_pv (i : Nat) (hH : Held (fun _ => True) S2 K listed w) (h : wpAnyL Try.prog md ops Q (fun _ => True) S2 K fuel (listed.setIfInBounds i true) a2 w) (hi : ops[i]? = some oi := by rfl) (hd : oi.dst = some d := by rfl) (hb : Region.takeB md ops listed i K [] = true := by kernel_rfl) (hQ : ∀ c a w, Q (.panic c) (a.put (some d) v) w → Q (.panic c) a w := by exact fun _ _ _ h => h) (hw : Region.wanted oi (yielded ops a.tmps) = true := by rfl) (hv : ∀ w, (execOp a.eval oi).run Try.prog w = .ok (.value v) w := by (intro w9; first | (go_simp; done) | (go_simp; rfl))) (ha : ({ a with tmps := a.tmps.setIfInBounds d v } : Act) = a2 := by ((try simp only [List.setIfInBounds_toArray, List.set_cons_succ, List.set_cons_zero]) <;> rfl)) : wpAnyL Try.prog md ops Q (fun _ => True) S2 K (fuel + 1) listed a w := t_pure hi hd hb hQ hH hw (hv) (ha ▸ h)
theorem k_bld (i : Nat) (hH : Held (fun _ => True) S2 K listed w) (h : wpAnyL Try.prog md ops Q (fun _ => True) S2 K fuel (listed.setIfInBounds i true) a2 w) (hi : ops[i]? = some oi := by rfl) (hd : oi.dst = some d := by rfl) (hb : Region.takeB md ops listed i K [] = true := by kernel_rfl) (hQ : ∀ c a w, Q (.panic c) (a.put (some d) v) w → Q (.panic c) a w := by exact fun _ _ _ h => h) (hw : Region.wanted oi (yielded ops a.tmps) = true := by rfl) (hv : ∀ w, (execOp a.eval oi).run Try.prog w = .ok (.value v) w := by (first | (refine h_bi (x := ?_) (y := ?_) (s := ?_) (N := ?_) ?_ ?_ ?_; rotate_left 4; (focus rfl); (focus rfl); (focus rfl)) | (refine h_b0 ?_; rfl))) (ha : ({ a with tmps := a.tmps.setIfInBounds d v } : Act) = a2 := by ((try simp only [List.setIfInBounds_toArray, List.set_cons_succ, List.set_cons_zero]) <;> rfl)) : wpAnyL Try.prog md ops Q (fun _ => True) S2 K (fuel + 1) listed a w := t_pure hi hd hb hQ hH hw (hv) (ha ▸ h)
theorem k_ld (i : Nat) (D : List Nat) (hH : Held (fun _ => True) (fun w' => Mem w0 X L w') K listed w) (h : wpAnyL Try.prog md ops Q (fun _ => True) (fun w' => Mem w0 X L w') K fuel (listed.setIfInBounds i true) a2 w) (hKD : K.all (D.contains ·) = true := by rfl) (hi : ops[i]? = some oi := by rfl) (hd : oi.dst = some d := by rfl) (hb : Region.takeB md ops listed i K D = true := by kernel_rfl) (hQ : ∀ c a w, Q (.panic c) (a.put (some d) v) w → Q (.panic c) a w := by exact fun _ _ _ h => h) (hw : Region.wanted oi (yielded ops a.tmps) = true := by rfl) (ho : oi.op = .load T x := by rfl) (hx : a.eval x = .pointer (some ⟨b, k, none⟩) := by first | rfl | ((conv => lhs; whnf) <;> rfl)) (hl : ∀ w, Mem w0 X L w → Blk w b c := by (first | (apply rd_look; ((repeat (first | exact Look.here | apply Look.there)); done)) | (apply rd_ro; apply Hid.out; (focus assumption); (focus simp)))) (hv : LA T c k v := by (first | (with_reducible (first | assumption | exact la_z _ | exact la_i _ _ | exact la_mag _ | exact la_arr _ | exact la_fldz _ | exact la_fld _ _ | exact la_negz _ | exact la_neg _ _)) | exact la_z _ | exact la_i _ _ | exact la_mag _ | exact la_arr _ | exact la_fldz _ | exact la_fld _ _ | exact la_negz _ | exact la_neg _ _ | assumption | exact LA.one (by kernel_rfl) rfl)) (ha : ({ a with tmps := a.tmps.setIfInBounds d v } : Act) = a2 := by ((try simp only [List.setIfInBounds_toArray, List.set_cons_succ, List.set_cons_zero]) <;> rfl)) : wpAnyL Try.prog md ops Q (fun _ => True) (fun w' => Mem w0 X L w') K (fuel + 1) listed a w := t_ld D hKD hi hd hb hQ hH hw ho hx hl hv (ha ▸ h)
variable {R : Act → World → Prop}
theorem j_st {F : Array Value → List (Nat × Array Value)} (HM : Mem w0 X L w) (h : ∀ w', Mem w0 X (F c') w' → R a w') (hd : oi.dst = none := by rfl) (ho : oi.op = .store T x y := by rfl) (hx : a.eval x = .pointer (some ⟨b, k, none⟩) := by (conv => lhs; whnf) <;> rfl) (hy : a.eval y = v := by (conv => lhs; whnf) <;> rfl) (hat : Atf L b c F := by (repeat (first | exact Atf.here | apply Atf.there))) (hv : SA T c k v c' := by (first | (with_reducible assumption) | ((with_reducible (first | refine sa_z _ ?_ | refine sa_i _ _ ?_ | refine sa_mag _ ?_ | refine sa_arr _ ?_)); (first | exact zA_size _ | exact Bg.intA_size _ _ | exact Bg.row_size _ _)) | (with_reducible exact sa_neg _ _ _) | ((first | refine sa_z _ ?_ | refine sa_i _ _ ?_ | refine sa_mag _ ?_ | refine sa_arr _ ?_); (first | exact zA_size _ | exact Bg.intA_size _ _ | exact Bg.row_size _ _)) | exact sa_neg _ _ _ | assumption)) : Oper.wp Try.prog oi a w R Q := o_st HM hd ho hx hy (hat.at_ _) hv h
theorem j_al {a2 : Nat → Act} (HM : Mem w0 X L w) (h : ∀ b w', Mem w0 X ((b, c) :: L) w' → R (a2 b) w') (hd : oi.dst = some d := by rfl) (ho : oi.op = .alloc T := by rfl) (hz : ZA T c := by (first | (with_reducible (first | assumption | exact za_int | exact za_mag | exact za_arr)) | assumption)) (ha : ∀ b, ({ a with tmps := a.tmps.setIfInBounds d (.pointer (some ⟨b, 0, none⟩)) } : Act) = a2 b := by intro b; ((try simp only [List.setIfInBounds_toArray, List.set_cons_succ, List.set_cons_zero]) <;> rfl)) : Oper.wp Try.prog oi a w R Q := o_al HM hd ho hz fun b w9 h9 => (ha b).symm ▸ h b w9 h9
theorem j_bx {a2 : Nat → Act} (HM : Mem w0 X L w) (h : ∀ b w', Mem w0 X ((b, c) :: L) w' → R (a2 b) w') (hd : oi.dst = some d := by rfl) (ho : oi.op = .box T x := by rfl) (hx : a.eval x = v := by (conv => lhs; whnf) <;> rfl) (hz : v.cells = c := by (conv => lhs; whnf) <;> rfl) (ha : ∀ b, ({ a with tmps := a.tmps.setIfInBounds d (.pointer (some ⟨b, 0, none⟩)) } : Act) = a2 b := by intro b; ((try simp only [List.setIfInBounds_toArray, List.set_cons_succ, List.set_cons_zero]) <;> rfl)) : Oper.wp Try.prog oi a w R Q := o_bx HM hd ho hx hz fun b w9 h9 => (ha b).symm ▸ h b w9 h9
theorem j_ld (HM : Mem w0 X L w) (h : R a2 w) (hd : oi.dst = some d := by rfl) (ho : oi.op = .load T x := by rfl) (hx : a.eval x = .pointer (some ⟨b, k, none⟩) := by first | rfl | ((conv => lhs; whnf) <;> rfl)) (hb : RdB w0 X L b c := by (first | (apply RdB.look; ((repeat (first | exact Look.here | apply Look.there)); done)) | (apply RdB.ro; (focus assumption); (focus simp)))) (hv : LA T c k v := by (first | (with_reducible (first | assumption | exact la_z _ | exact la_i _ _ | exact la_mag _ | exact la_arr _ | exact la_fldz _ | exact la_fld _ _ | exact la_negz _ | exact la_neg _ _)) | exact la_z _ | exact la_i _ _ | exact la_mag _ | exact la_arr _ | exact la_fldz _ | exact la_fld _ _ | exact la_negz _ | exact la_neg _ _ | assumption | exact LA.one (by kernel_rfl) rfl)) (ha : ({ a with tmps := a.tmps.setIfInBounds d v } : Act) = a2 := by ((try simp only [List.setIfInBounds_toArray, List.set_cons_succ, List.set_cons_zero]) <;> rfl)) : Oper.wp Try.prog oi a w R Q := o_ld hd ho hx (hb.at_ HM) hv (ha ▸ h)
theorem j_call0 {f : FuncId} {ts : Array TypeId} (HM : Mem w0 X L w) (hc : Calls Try.prog f #[] w fun e w' => e = .returned v ∧ Below w.heap.size w w') (h : ∀ w', Mem w0 X L w' → R a2 w') (hd : oi.dst = some d := by rfl) (ho : oi.op = .call { callee := .value (.func f), args := #[], argTypes := ts } := by rfl) (hf : goF f = true := by kernel_rfl)  (ha : ({ a with tmps := a.tmps.setIfInBounds d v } : Act) = a2 := by ((try simp only [List.setIfInBounds_toArray, List.set_cons_succ, List.set_cons_zero]) <;> rfl)) : Oper.wp Try.prog oi a w R Q := o_call hc HM hd (h_call ho hf (by simp)) fun w9 h9 => ha ▸ h w9 h9
theorem j_call1 {f : FuncId} {ts : Array TypeId} {x1 : Operand} {v1 : Value} (HM : Mem w0 X L w) (hc : Calls Try.prog f #[v1] w fun e w' => e = .returned v ∧ Below w.heap.size w w') (h : ∀ w', Mem w0 X L w' → R a2 w') (hd : oi.dst = some d := by rfl) (ho : oi.op = .call { callee := .value (.func f), args := #[x1], argTypes := ts } := by rfl) (hf : goF f = true := by kernel_rfl) (h1 : a.eval x1 = v1 := by (conv => lhs; whnf) <;> rfl) (ha : ({ a with tmps := a.tmps.setIfInBounds d v } : Act) = a2 := by ((try simp only [List.setIfInBounds_toArray, List.set_cons_succ, List.set_cons_zero]) <;> rfl)) : Oper.wp Try.prog oi a w R Q := o_call hc HM hd (h_call ho hf (by simp [h1])) fun w9 h9 => ha ▸ h w9 h9
theorem j_call2 {f : FuncId} {ts : Array TypeId} {x1 x2 : Operand} {v1 v2 : Value} (HM : Mem w0 X L w) (hc : Calls Try.prog f #[v1, v2] w fun e w' => e = .returned v ∧ Below w.heap.size w w') (h : ∀ w', Mem w0 X L w' → R a2 w') (hd : oi.dst = some d := by rfl) (ho : oi.op = .call { callee := .value (.func f), args := #[x1, x2], argTypes := ts } := by rfl) (hf : goF f = true := by kernel_rfl) (h1 : a.eval x1 = v1 := by (conv => lhs; whnf) <;> rfl) (h2 : a.eval x2 = v2 := by (conv => lhs; whnf) <;> rfl) (ha : ({ a with tmps := a.tmps.setIfInBounds d v } : Act) = a2 := by ((try simp only [List.setIfInBounds_toArray, List.set_cons_succ, List.set_cons_zero]) <;> rfl)) : Oper.wp Try.prog oi a w R Q := o_call hc HM hd (h_call ho hf (by simp [h1, h2])) fun w9 h9 => ha ▸ h w9 h9
theorem j_call3 {f : FuncId} {ts : Array TypeId} {x1 x2 x3 : Operand} {v1 v2 v3 : Value} (HM : Mem w0 X L w) (hc : Calls Try.prog f #[v1, v2, v3] w fun e w' => e = .returned v ∧ Below w.heap.size w w') (h : ∀ w', Mem w0 X L w' → R a2 w') (hd : oi.dst = some d := by rfl) (ho : oi.op = .call { callee := .value (.func f), args := #[x1, x2, x3], argTypes := ts } := by rfl) (hf : goF f = true := by kernel_rfl) (h1 : a.eval x1 = v1 := by (conv => lhs; whnf) <;> rfl) (h2 : a.eval x2 = v2 := by (conv => lhs; whnf) <;> rfl) (h3 : a.eval x3 = v3 := by (conv => lhs; whnf) <;> rfl) (ha : ({ a with tmps := a.tmps.setIfInBounds d v } : Act) = a2 := by ((try simp only [List.setIfInBounds_toArray, List.set_cons_succ, List.set_cons_zero]) <;> rfl)) : Oper.wp Try.prog oi a w R Q := o_call hc HM hd (h_call ho hf (by simp [h1, h2, h3])) fun w9 h9 => ha ▸ h w9 h9
theorem j_call4 {f : FuncId} {ts : Array TypeId} {x1 x2 x3 x4 : Operand} {v1 v2 v3 v4 : Value} (HM : Mem w0 X L w) (hc : Calls Try.prog f #[v1, v2, v3, v4] w fun e w' => e = .returned v ∧ Below w.heap.size w w') (h : ∀ w', Mem w0 X L w' → R a2 w') (hd : oi.dst = some d := by rfl) (ho : oi.op = .call { callee := .value (.func f), args := #[x1, x2, x3, x4], argTypes := ts } := by rfl) (hf : goF f = true := by kernel_rfl) (h1 : a.eval x1 = v1 := by (conv => lhs; whnf) <;> rfl) (h2 : a.eval x2 = v2 := by (conv => lhs; whnf) <;> rfl) (h3 : a.eval x3 = v3 := by (conv => lhs; whnf) <;> rfl) (h4 : a.eval x4 = v4 := by (conv => lhs; whnf) <;> rfl) (ha : ({ a with tmps := a.tmps.setIfInBounds d v } : Act) = a2 := by ((try simp only [List.setIfInBounds_toArray, List.set_cons_succ, List.set_cons_zero]) <;> rfl)) : Oper.wp Try.prog oi a w R Q := o_call hc HM hd (h_call ho hf (by simp [h1, h2, h3, h4])) fun w9 h9 => ha ▸ h w9 h9
variable {S1 : World → Prop}
theorem j_one (i : Nat) (h : ∀ K' : Act → World → Prop, (∀ a' w', Held S1 S2 K (listed.setIfInBounds i true) w' → wpAnyL Try.prog md ops Q S1 S2 K fuel (listed.setIfInBounds i true) a' w' → K' a' w') → Oper.wp Try.prog oi a w K' Q) (hr : (Region.ready md ops listed == [i]) = true := by kernel_rfl) (hi : ops[i]? = some oi := by rfl) (hw : Region.wanted oi (yielded ops a.tmps) = true := by rfl) : wpAnyL Try.prog md ops Q S1 S2 K (fuel + 1) listed a w := one_L hr hi hw h
theorem j_two (i j : Nat) {o1 o2 : Oper} (hi : Oper.wp Try.prog o1 a w (fun a' w' => Held S1 S2 K (listed.setIfInBounds i true) w' ∧ wpAnyL Try.prog md ops Q S1 S2 K fuel (listed.setIfInBounds i true) a' w') Q) (hj : Oper.wp Try.prog o2 a w (fun a' w' => Held S1 S2 K (listed.setIfInBounds j true) w' ∧ wpAnyL Try.prog md ops Q S1 S2 K fuel (listed.setIfInBounds j true) a' w') Q) (hr : (Region.ready md ops listed == [i, j]) = true := by kernel_rfl) (ai : ops[i]? = some o1 := by rfl) (bi : Region.wanted o1 (yielded ops a.tmps) = true := by rfl) (aj : ops[j]? = some o2 := by rfl) (bj : Region.wanted o2 (yielded ops a.tmps) = true := by rfl) : wpAnyL Try.prog md ops Q S1 S2 K (fuel + 1) listed a w := two_L hr (op_L ai bi hi) (op_L aj bj hj)
end
end Go.Proofs.Ytekfabhmopkapaa
