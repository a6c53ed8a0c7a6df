/- The contracts at canonical numbers; comparing numbers; the chapter's examples. -/
import Derived.Test.YtbkbfgedlfbbiaaBigQ
import Derived.Test.YtbkbfgedlfbbiaaBigT
import Derived.Test.YtbkbfgedlfbbiaaBigU
namespace Go.Proofs.Ytbkbfgedlfbbiaa
open Go.RowKit
theorem zA_int (z : Int) : Bg.zA z = Bg.intA (decide (z < 0)) z.natAbs := by unfold Bg.zA; rfl
theorem fromInt_z (n : Int) (h1 : -9223372036854775808 ≤ n) (h2 : n < 9223372036854775808) (w : World) :
    Calls Try.prog 36 #[.int .i64 n] w fun e w' => e = .returned (.agg (Bg.zA n)) ∧ Below w.heap.size w w' := by
  by_cases h : n < 0
  · obtain ⟨U, rfl⟩ : ∃ U : Nat, n = -(U : Int) := ⟨n.natAbs, by omega⟩
    exact fromInt_neg U (by omega) (by omega) w
  · obtain ⟨U, rfl⟩ : ∃ U : Nat, n = (U : Int) := ⟨n.natAbs, by omega⟩
    exact fromInt_pos U (by omega) w
theorem divMod_z (p d x y : Int) (hp : p.natAbs < Bg.lim) (hd : d.natAbs < Bg.lim) (h0 : d ≠ 0) (hok : Bg.DivOk p.natAbs d.natAbs) (hx : Hid (x = p / d)) (hy : Hid (y = p % d)) (w : World) :
    Calls Try.prog 26 #[.agg (Bg.zA p), .agg (Bg.zA d)] w fun e w' => e = .returned (.tuple #[.agg (Bg.zA x), .agg (Bg.zA y), .int .i64 0]) ∧ Below w.heap.size w w' := by
  rw [zA_int p, zA_int d]
  exact divMod_any0 _ _ _ _ hp hd (by omega) hok x y (Lib.hid (by rw [Bg.toZ_iv, Bg.toZ_iv]; exact hx.out)) (Lib.hid (by rw [Bg.toZ_iv, Bg.toZ_iv]; exact hy.out)) w
theorem gcd_z (p d z : Int) (hp : p.natAbs < Bg.lim) (hd : d.natAbs < Bg.lim) (hok : ∀ A B, 0 < B → A < Bg.lim → B ≤ d.natAbs → Bg.DivOk A B) (hz : Hid (z = (Nat.gcd p.natAbs d.natAbs : Nat))) (w : World) :
    Calls Try.prog 23 #[.agg (Bg.zA p), .agg (Bg.zA d)] w fun e w' => e = .returned (.agg (Bg.zA z)) ∧ Below w.heap.size w w' := by
  rw [zA_int p, zA_int d]
  exact gcd_any0 _ _ _ _ hp hd hok z hz w
theorem toInt_z (p v : Int) (f : Bool) (hp : p.natAbs < Bg.lim) (hf : Hid (f = Bg.fits64 p)) (hv : Hid (v = if f then p else 0)) (w : World) :
    Calls Try.prog 37 #[.agg (Bg.zA p)] w fun e w' => e = .returned (.tuple #[.int .i64 v, .bool f]) ∧ Below w.heap.size w w' := by
  rw [zA_int p]
  exact toInt_any0 _ _ hp v f (Lib.hid (by rw [Bg.toZ_iv]; exact hf.out)) (Lib.hid (by rw [Bg.toZ_iv]; exact hv.out)) w
theorem neg_z (p y : Int) (hp : p.natAbs < Bg.lim) (hy : Hid (y = -p)) (w : World) :
    Calls Try.prog 25 #[.agg (Bg.zA p)] w fun e w' => e = .returned (.agg (Bg.zA y)) ∧ Below w.heap.size w w' := by
  have := neg_any (decide (p < 0)) p.natAbs hp w
  rw [Bg.toZ_iv] at this
  rw [zA_int p, hy.out]
  exact this
theorem add_z (p d v e z : Int) (hp : p.natAbs < Bg.lim) (hd : d.natAbs < Bg.lim) (hz : Hid (z = p + d)) (hv : Hid (v = Bg.resZ z)) (he : Hid (e = Bg.resE z)) (w : World) :
    Calls Try.prog 28 #[.agg (Bg.zA p), .agg (Bg.zA d)] w fun r w' => r = .returned (.tuple #[.agg (Bg.zA v), .int .i64 e]) ∧ Below w.heap.size w w' := by
  rw [zA_int p, zA_int d]
  exact add_as _ _ _ _ z v e hp hd (Lib.hid (by rw [Bg.toZ_iv, Bg.toZ_iv]; exact hz.out)) hv he w
theorem mul_z (p d v e z : Int) (hp : p.natAbs < Bg.lim) (hd : d.natAbs < Bg.lim) (hz : Hid (z = p * d)) (hv : Hid (v = Bg.resZ z)) (he : Hid (e = Bg.resE z)) (w : World) :
    Calls Try.prog 27 #[.agg (Bg.zA p), .agg (Bg.zA d)] w fun r w' => r = .returned (.tuple #[.agg (Bg.zA v), .int .i64 e]) ∧ Below w.heap.size w w' := by
  rw [zA_int p, zA_int d, hv.out, he.out, ← Bg.resV_eq]
  exact mul_any0 _ _ _ _ hp hd z (Lib.hid (by rw [Bg.toZ_iv, Bg.toZ_iv]; exact hz.out)) w
theorem cmp_z (p d g : Int) (hp : p.natAbs < Bg.lim) (hd : d.natAbs < Bg.lim) (hg : Hid (g = (p - d).sign)) (w : World) :
    Calls Try.prog 34 #[.agg (Bg.zA p), .agg (Bg.zA d)] w fun r w' => r = .returned (.int .i64 g) ∧ Below w.heap.size w w' := by
  rw [zA_int p, zA_int d]
  exact cmp_any0 _ _ _ _ hp hd g (Lib.hid (by rw [Bg.toZ_iv, Bg.toZ_iv]; exact hg.out)) w
theorem arr_info : ∃ i, Try.prog.info? 23 = some i := Option.isSome_iff_exists.1 (by kernel_rfl)
theorem eq_arr (N M : Nat) (hN : N < Bg.lim) (hM : M < Bg.lim) (d : Nat) (W : World) :
    (Op.equalIn (d + 2) 23 (.agg (Bg.row 32 N)) (.agg (Bg.row 32 M))).run Try.prog W = .ok (decide (N = M)) W := by
  obtain ⟨i, hi⟩ := u32_info
  rw [run_equalIn_array W (d + 1) _ _ und_arr hi, u32_cells, eq_items N M 32 W d _ (by simp)]
  congr 1
  by_cases e : N = M
  · simp [e]
  · simp only [e, decide_false]
    refine Bool.eq_false_iff.2 (fun h => e ?_)
    refine Bg.limb_ext 32 N M hN hM (fun i hi => ?_)
    have := List.all_eq_true.1 h i (by simpa using hi)
    simpa using this
theorem intA_mag (s : Bool) (N : Nat) : (Bg.intA s N).extract 1 33 = Bg.row 32 N := by
  apply Array.ext_getElem?
  intro j
  rw [Array.getElem?_extract]
  by_cases hj : j < 32
  · rw [if_pos (by rw [Bg.intA_size]; omega), Nat.add_comm 1 j, Bg.intA_at s N j hj, Bg.row_at 32 N j hj]
  · rw [if_neg (by rw [Bg.intA_size]; omega), Array.getElem?_eq_none (by rw [Bg.row_size]; omega)]
theorem eq_int (s t : Bool) (N M : Nat) (hN : N < Bg.lim) (hM : M < Bg.lim) (W : World) :
    (Op.equalIn 10000 25 (.agg (Bg.intA s N)) (.agg (Bg.intA t M))).run Try.prog W = .ok (decide (s = t ∧ N = M)) W := by
  have hb : ∀ a b : Bool, (Op.equalIn 9999 4 (.bool a) (.bool b)).run Try.prog W = .ok (a == b) W := fun a b => run_equalIn_bool' (P := Try.prog) W 9998 4 a b Try.underlying4
  have ha : (Op.equalIn 9999 23 (.agg (Bg.row 32 N)) (.agg (Bg.row 32 M))).run Try.prog W = .ok (decide (N = M)) W := eq_arr N M hN hM 9997 W
  have h1 := intA_mag s N
  have h2 := intA_mag t M
  have h3 := Bg.intA_neg s N
  have h4 := Bg.intA_neg t M
  have h5 := Bg.intA_size s N
  have h6 := Bg.intA_size t M
  have hp : Try.prog.stoodInHeld 25 = false := by kernel_rfl
  rw [run_equalIn_agg W 9999 25 _ _ (by kernel_rfl) hp]
  have hf : (Try.prog.fieldsOf 25).toList.map (fun f => (decide (f.name ≠ "_"), f.type, f.offset)) = [(true, 4, 0), (true, 23, 1)] := by kernel_rfl
  generalize (Try.prog.fieldsOf 25).toList = l at hf ⊢
  cases l with
  | nil => simp at hf
  | cons f1 l =>
    cases l with
    | nil => simp at hf
    | cons f2 l =>
      cases l with
      | cons _ _ => simp at hf
      | nil =>
        simp only [List.map_cons, List.map_nil, List.cons.injEq, Prod.mk.injEq, and_true, decide_eq_true_eq] at hf
        obtain ⟨⟨n1, t1, o1⟩, n2, t2, o2⟩ := hf
        have hp1 : (part f1.type (Bg.intA s N) f1.offset).run Try.prog W = .ok (.bool s) W := by rw [t1, o1]; simp [part, h3]
        have hp2 : (part f1.type (Bg.intA t M) f1.offset).run Try.prog W = .ok (.bool t) W := by rw [t1, o1]; simp [part, h4]
        have hp3 : (part f2.type (Bg.intA s N) f2.offset).run Try.prog W = .ok (.agg (Bg.row 32 N)) W := by rw [t2, o2]; simp [part, h1]
        have hp4 : (part f2.type (Bg.intA t M) f2.offset).run Try.prog W = .ok (.agg (Bg.row 32 M)) W := by rw [t2, o2]; simp [part, h2]
        rw [← t1] at hb
        rw [← t2] at ha
        unfold Op.eqFields
        rw [if_pos n1]
        simp only [Sem.run_bind, hp1, hp2, Result.andThen_ok, hb]
        by_cases e : s = t
        · subst e
          have hb2 : (!s == s) = false := by cases s <;> rfl
          simp only [hb2, Bool.false_eq_true, if_false]
          unfold Op.eqFields
          rw [if_pos n2]
          simp only [Sem.run_bind, hp3, hp4, Result.andThen_ok, ha]
          by_cases e2 : N = M <;> simp [e2, Op.eqFields]
        · have hb2 : (!s == t) = true := by cases s <;> cases t <;> simp_all
          simp only [hb2, if_true, Sem.run_pure]
          simp [e]
/-- Two numbers are compared as values. -/
theorem run_cmp_z (op : BinOp) (p d : Int) (hp : p.natAbs < Bg.lim) (hd : d.natAbs < Bg.lim) (x y : Operand) (w : World) (h : op = .eql ∨ op = .neq) :
    (do eqGuard op 25 x y (.agg (Bg.zA p)) (.agg (Bg.zA d)); binOp op 25 (.agg (Bg.zA p)) (.agg (Bg.zA d)) : Sem Value).run Try.prog w = .ok (.bool (if op = .eql then decide (p = d) else !decide (p = d))) w := by
  have hm : Try.prog.eqGuardType Try.prog.depth 25 = false := by kernel_rfl
  have he : (Op.equalIn 10000 25 (.agg (Bg.zA p)) (.agg (Bg.zA d))).run Try.prog w = .ok (decide (p = d)) w := by
    rw [zA_int, zA_int, eq_int _ _ _ _ hp hd]
    congr 1
    by_cases e : p = d
    · subst e; simp
    · have : ¬ (decide (p < 0) = decide (d < 0) ∧ p.natAbs = d.natAbs) := by
        rintro ⟨h1, h2⟩
        have h3 : (p < 0) ↔ (d < 0) := by simpa using h1
        omega
      rw [decide_eq_false this, decide_eq_false e]
  simp only [Sem.run_bind, run_eqGuard_agg w op _ x y _ _ hm, Result.andThen_ok]
  rcases h with rfl | rfl
  · rw [run_eql_struct, he, Result.andThen_ok, if_pos rfl]
  · rw [run_neq_struct, he, Result.andThen_ok, if_neg (by simp)]
theorem gls_cmpz (op : BinOp) (p d : Int) (v : Bool) (he : op = .eql ∨ op = .neq) (hv : v = if op = .eql then decide (p = d) else !decide (p = d)) (hp : p.natAbs < Bg.lim) (hd : d.natAbs < Bg.lim) {ops : Array Oper} {rest : List Oper} {o : Oper} {a : Act} {w : World} {Q : Exit → Act → World → Prop} (hw : Region.wanted o (yielded ops a.tmps) = true) (x y : Operand) (t : TypeId) (ho : o.op = .binOp op 25 x y t) (hx : a.eval x = .agg (Bg.zA p)) (hy : a.eval y = .agg (Bg.zA d))
    (h : wpList Try.prog ops Q rest (a.put o.dst (.bool v)) w) : wpList Try.prog ops Q (o :: rest) a w := by
  have hr := run_cmp_z op p d hp hd x y w he
  rw [← hv] at hr
  refine wpList_step fun K hK => ?_
  rw [if_pos hw]
  unfold Oper.wp execOp
  simp only [Sem.run_bind] at hr
  simp only [ho, hx, hy, Sem.run_bind, hr, Result.andThen_ok, Sem.run_pure]
  exact hK _ _ h
theorem ld_z (z : Int) {ops : Array Oper} {rest : List Oper} {o : Oper} {a : Act} {w : World} {Q : Exit → Act → World → Prop} (hg : o.guard = none) (x : Operand) (ho : o.op = .load 25 x) (b : Nat) (hx : a.eval x = .pointer (some ⟨b, 0, none⟩)) (hb : Blk w b (Bg.zA z))
    (h : wpList Try.prog ops Q rest (a.put o.dst (.agg (Bg.zA z))) w) : wpList Try.prog ops Q (o :: rest) a w := by
  rw [zA_int] at hb h
  exact ld_int _ _ hg x ho b hx hb h
end Go.Proofs.Ytbkbfgedlfbbiaa
