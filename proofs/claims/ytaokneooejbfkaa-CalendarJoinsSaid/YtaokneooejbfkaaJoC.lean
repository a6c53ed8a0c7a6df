/- Laws of operations on calendars; the contracts of Check, Business for a calendar. -/
import Derived.Test.YtaokneooejbfkaaJoB
import Derived.Test.YtaokneooejbfkaaCalG
import Derived.Test.YtaokneooejbfkaaRefA
namespace Go.Proofs.Ytaokneooejbfkaa
set_option maxRecDepth 8000
open Go.RowKit Go.Maps
section
variable {fn : Func} {w : World} {p : Tmp} {T : TypeId} {t : Tmp} {b k : Nat} {c : Array Value} {v : Value}
theorem jr_c (h : fn.results = #[.cell p T]) {tmps : Array Value} (hp : tmps.getD p undef = .pointer (some ⟨b, k, none⟩)) (hb : Blk w b c) (hv : LA T c k v) : (results fn tmps).run Try.prog w = .ok v w := res_cell h tmps hp (hv w b hb.rbk)
theorem jr_ct (h : fn.results = #[.cell p T, .tmp t]) {tmps : Array Value} (hp : tmps.getD p undef = .pointer (some ⟨b, k, none⟩)) (hb : Blk w b c) (hv : LA T c k v) : (results fn tmps).run Try.prog w = .ok (.tuple #[v, tmps.getD t undef]) w := res_cell_tmp h tmps hp (hv w b hb.rbk)
end
section
variable {ops : Array Oper} {rest : List Oper} {a a2 : Act} {w : World} {Q : Exit → Act → World → Prop} {d : Option Tmp} {ty T : TypeId} {ps : String} {af : Array Edge} {g : Option (Nat × Bool)} {x : Operand} {v : Value} {b k : Nat} {c : Array Value} {xs : Array (Nat × Operand)}
/-- A load from a block that is readable in the world as it stands. -/
theorem a_ldw (hb : Hid (Rbk w b c)) (h : wpList Try.prog ops Q rest a2 w) (hw : WantT ops { dst := d, op := .load T x, type := ty, pos := ps, after := af, guard := g } a := by first | exact Or.inl rfl | exact Or.inr ⟨_, _, _, rfl, rfl, rfl⟩) (hx : a.eval x = .pointer (some ⟨b, k, none⟩) := by (conv => lhs; whnf) <;> rfl) (hv : LA T c k v := by with_reducible assumption) (ha : a.put d v = a2 := by ((try simp only [Act.put, List.setIfInBounds_toArray, List.set_cons_succ, List.set_cons_zero]) <;> rfl)) : OpG ops Q rest a w { dst := d, op := .load T x, type := ty, pos := ps, after := af, guard := g } := m_ld hw hx hb.out hv (ha ▸ h)
theorem a_jbl (h : wpList Try.prog ops Q rest a2 w) (hy : ∀ w, (execOp a.eval { dst := d, op := .build T xs, type := ty, pos := ps, after := af, guard := g }).run Try.prog w = .ok (.value v) w) (hw : WantT ops { dst := d, op := .build T xs, type := ty, pos := ps, after := af, guard := g } a := by first | exact Or.inl rfl | exact Or.inr ⟨_, _, _, rfl, rfl, rfl⟩) (ha : a.put d v = a2 := by ((try simp only [Act.put, List.setIfInBounds_toArray, List.set_cons_succ, List.set_cons_zero]) <;> rfl)) : OpG ops Q rest a w { dst := d, op := .build T xs, type := ty, pos := ps, after := af, guard := g } := by
  refine wpList_step fun K hK => ?_
  rw [if_pos hw.wanted]
  unfold Oper.wp
  rw [hy]
  exact hK _ _ (ha ▸ h)
theorem gj_bld (h : OpG ops Q rest a w { dst := d, op := .build T xs, type := ty, pos := ps, after := af, guard := g }) : wpList Try.prog ops Q ({ dst := d, op := .build T xs, type := ty, pos := ps, after := af, guard := g } :: rest) a w := h
end
theorem h_jb0 {o : Oper} {a : Act} {T : TypeId} {r : Array Value} (ho : o.op = .build T #[]) (hb : ∀ w, (Instr.build T #[]).run Try.prog w = .ok (.agg r) w) : ∀ w, (execOp a.eval o).run Try.prog w = .ok (.value (.agg r)) w := fun w => by
  unfold execOp
  simp only [ho, Sem.run_bind, List.map_toArray, List.map_nil, hb, Result.andThen_ok, Sem.run_pure]
theorem h_jb1 {o : Oper} {a : Act} {T : TypeId} {r : Array Value} {i : Nat} {x : Operand} {v : Value} (ho : o.op = .build T #[(i, x)]) (hx : a.eval x = v) (hb : ∀ w, (Instr.build T #[(i, v)]).run Try.prog w = .ok (.agg r) w) : ∀ w, (execOp a.eval o).run Try.prog w = .ok (.value (.agg r)) w := fun w => by
  unfold execOp
  simp only [ho, Sem.run_bind, List.map_toArray, List.map_cons, List.map_nil, hx, hb, Result.andThen_ok, Sem.run_pure]
theorem Jo.build0 (w : World) : (Instr.build 25 #[]).run Try.prog w = .ok (.agg Jo.z) w := by kernel_rfl
theorem Jo.build1 (s : ByteArray) (w : World) : (Instr.build 25 #[(0, .string s)]).run Try.prog w = .ok (.agg (Jo.cc s Jo.zk (.slice none 0 0))) w := by kernel_rfl
theorem Jo.sa_z : SA 25 Jo.z 0 (.agg Jo.z) Jo.z := sa_cc _ _ _ Jo.z rfl rfl
theorem Jo.la_z : LA 25 Jo.z 0 (.agg Jo.z) := la_cc _ _ _
theorem Jo.cc_congr {s : ByteArray} {k k' : Nat → Bool} {v : Value} (h : ∀ j, j < 7 → k j = k' j) : Jo.cc s k v = Jo.cc s k' v := by
  unfold Jo.cc
  rw [h 0 (by omega), h 1 (by omega), h 2 (by omega), h 3 (by omega), h 4 (by omega), h 5 (by omega), h 6 (by omega)]
/-- A weekend in the making. -/
def Jo.wm (a b : Nat → Bool) (j : Nat) (m : Nat) : Bool := if m < j then a m else b m
theorem Jo.wm_zero (a b : Nat → Bool) : Jo.wm a b 0 = b := by funext m; unfold wm; rw [if_neg (by omega)]
theorem Jo.wm_done (s : ByteArray) (a b : Nat → Bool) (v : Value) : Jo.cc s (Jo.wm a b 7) v = Jo.cc s a v := Jo.cc_congr fun j hj => by unfold wm; rw [if_pos hj]
theorem Jo.wm_at (a b : Nat → Bool) (j : Nat) : Jo.wm a b j j = b j := by unfold wm; rw [if_neg (by omega)]
theorem sa_wm (s : ByteArray) (a b : Nat → Bool) (v : Value) {j : Nat} (hj : j < 7) {z : Bool} (hz : a j = z) : SA 4 (Jo.cc s (Jo.wm a b j) v) (1 + j) (.bool z) (Jo.cc s (Jo.wm a b (j + 1)) v) := by
  have := sa_cday s (Jo.wm a b j) v hj z
  have e : (fun m => if m = j then z else Jo.wm a b j m) = Jo.wm a b (j + 1) := by
    funext m
    unfold Jo.wm
    by_cases e : m = j
    · subst e; rw [if_pos rfl, if_pos (by omega), hz]
    · rw [if_neg e]
      by_cases h : m < j
      · rw [if_pos h, if_pos (by omega)]
      · rw [if_neg h, if_neg (by omega)]
  rw [e] at this
  exact this
theorem Jo.week_ix (k : Nat → Bool) {j : Nat} (hj : j < 7) (w : World) : (Instr.index 23 (.agg #[.bool (k 0), .bool (k 1), .bool (k 2), .bool (k 3), .bool (k 4), .bool (k 5), .bool (k 6)]) (.int .i64 (j : Nat))).run Try.prog w = .ok (.bool (k j)) w := by
  obtain rfl | rfl | rfl | rfl | rfl | rfl | rfl : j = 0 ∨ j = 1 ∨ j = 2 ∨ j = 3 ∨ j = 4 ∨ j = 5 ∨ j = 6 := by omega
  all_goals kernel_rfl
theorem cCheck_c (x : Jo.C) (w : World) (hA : IntsAt w x.A x.hs) (hl : x.hs.length ≤ 9223372036854775807) (r : Int) (hr : Hid (r = Cl.chk x.s x.k x.hs)) :
    Calls Try.prog 15 #[.agg x.cells] w fun e w' => e = .returned (.int .i64 r) ∧ Below w.heap.size w w' := by
  rw [hr.out]; exact cCheck_any x.s x.k x.A x.hs x.c w hA hl
theorem rCheck_c (x : Jo.C) (w : World) (hA : IntsAt w x.A x.hs) (hl : x.hs.length ≤ 9223372036854775807) (r : Int) (hr : Hid (r = Cl.chk x.s x.k x.hs)) :
    Calls Try.prog 17 #[.agg x.cells] w fun e w' => e = .returned (.int .i64 r) ∧ Below w.heap.size w w' := by
  rw [hr.out]; exact rCheck_any x.s x.k x.A x.hs x.c w hA hl
theorem Jo.chk_ok {x : Jo.C} (h : Jo.okC x = true) : Cl.chk x.s x.k x.hs = 0 := by unfold Jo.okC at h; unfold Cl.chk; rw [if_pos h]
theorem Jo.chk_no {x : Jo.C} (h : ¬ Jo.okC x = true) : Cl.chk x.s x.k x.hs = 80 := by unfold Jo.okC at h; unfold Cl.chk; rw [if_neg h]
theorem Jo.asc_day : ∀ {hs : List Int} {last : Int}, Cl.asc last hs = true → ∀ h ∈ hs, 0 ≤ h ∧ h ≤ 73048
  | [], _, _ => by simp
  | x :: t, last, h => by
    unfold Cl.asc at h
    simp only [Bool.and_eq_true, decide_eq_true_eq, Dt.isDay] at h
    intro y hy
    rcases List.mem_cons.1 hy with rfl | hy
    · exact h.1.2
    · exact Jo.asc_day h.2 y hy
theorem Jo.ok_day {x : Jo.C} (h : Jo.okC x = true) : ∀ d ∈ x.hs, 0 ≤ d ∧ d ≤ 73048 := by
  unfold Jo.okC Cl.validC at h
  simp only [Bool.and_eq_true] at h
  exact Jo.asc_day h.2
theorem Jo.wf_day {d : Int} (h0 : 0 ≤ d) (h1 : d ≤ 73048) : (Lit.int .i64 d).wf = true := by
  simp [Lit.wf, IntKind.min, IntKind.max, IntKind.signed, IntKind.bits]; omega
/-! What Join answers. -/
def Jo.C0 : Jo.C := ⟨{ data := #[] }, Jo.zk, [], none, 0⟩
theorem Jo.out_bad {name : ByteArray} {l : List Jo.C} (h : Jo.err name l ≠ 0) : Jo.out name l = (Jo.C0.s, Jo.C0.k, Jo.C0.hs) := by unfold Jo.out; rw [if_neg h]; rfl
theorem Jo.err_bad {name : ByteArray} {l : List Jo.C} (h : Jo.bad l = true) : Jo.err name l = 80 := by unfold Jo.err; rw [if_pos h]
theorem Jo.err_ok {name : ByteArray} {l : List Jo.C} (h0 : 0 < l.length) (h8 : l.length ≤ 8) (h : ∀ x ∈ l, Jo.okC x = true) : Jo.err name l = Cl.chk name (Jo.week l) (Jo.srt (Jo.hols l)) := by
  unfold Jo.err Jo.bad
  rw [if_neg]
  simp only [Bool.or_eq_true, decide_eq_true_eq, Bool.not_eq_true']
  rintro ((h1 | h1) | h1)
  · omega
  · omega
  · rw [List.all_eq_true.2 h] at h1; cases h1
theorem Jo.bad_at {l : List Jo.C} {i : Nat} {x : Jo.C} (hx : l[i]? = some x) (h : ¬ Jo.okC x = true) : Jo.bad l = true := by
  unfold Jo.bad
  have : l.all Jo.okC = false := by
    refine Bool.eq_false_iff.2 fun h2 => h (List.all_eq_true.1 h2 x (List.mem_of_getElem? hx))
  rw [this]; simp
theorem Jo.bad_len {l : List Jo.C} (h : l.length = 0 ∨ 8 < l.length) : Jo.bad l = true := by
  unfold Jo.bad
  rcases h with h | h <;> simp [h]
theorem Jo.take_ok {l : List Jo.C} {i : Nat} {x : Jo.C} (hx : l[i]? = some x) : l.take (i + 1) = l.take i ++ [x] := by rw [List.take_add_one, hx]; rfl
end Go.Proofs.Ytaokneooejbfkaa
