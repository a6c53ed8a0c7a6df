/- Ratios in memory. -/
import Derived.Test.YtekfabhmopkapaaMemI
import Derived.Test.YtekfabhmopkapaaMakeI
namespace Go.Proofs.Ytekfabhmopkapaa
set_option maxRecDepth 8000
open Go.RowKit
/-- The cells of a ratio: numerator, denominator. -/
@[irreducible] def Bg.ratA (s : Bool) (M : Nat) (t : Bool) (N : Nat) : Array Value := Bg.intA s M ++ Bg.intA t N
theorem ratA_size (s : Bool) (M : Nat) (t : Bool) (N : Nat) : (Bg.ratA s M t N).size = 66 := by unfold Bg.ratA; rw [Array.size_append, Bg.intA_size, Bg.intA_size]
theorem ratA_one (s : Bool) (M : Nat) (t : Bool) (N : Nat) : (Bg.ratA s M t N).all (·.oneCell') = true := by
  unfold Bg.ratA; rw [Array.all_append, Bg.intA_one, Bg.intA_one]; rfl
theorem ratA_lo (s : Bool) (M : Nat) (t : Bool) (N j : Nat) (h : j < 33) : (Bg.ratA s M t N)[j]? = (Bg.intA s M)[j]? := by
  unfold Bg.ratA; rw [Array.getElem?_append, if_pos (by rw [Bg.intA_size]; exact h)]
theorem ratA_hi (s : Bool) (M : Nat) (t : Bool) (N j : Nat) : (Bg.ratA s M t N)[33 + j]? = (Bg.intA t N)[j]? := by
  unfold Bg.ratA; rw [Array.getElem?_append, if_neg (by rw [Bg.intA_size]; omega), Bg.intA_size, Nat.add_sub_cancel_left]
theorem ratA_num (s : Bool) (M : Nat) (t : Bool) (N : Nat) : (Bg.ratA s M t N).extract 0 33 = Bg.intA s M := by
  apply Array.ext_getElem?
  intro j
  rw [Array.getElem?_extract]
  by_cases hj : j < 33
  · rw [if_pos (by rw [ratA_size]; omega), Nat.zero_add, ratA_lo _ _ _ _ _ hj]
  · rw [if_neg (by rw [ratA_size]; omega), Array.getElem?_eq_none (by rw [Bg.intA_size]; omega)]
theorem ratA_den (s : Bool) (M : Nat) (t : Bool) (N : Nat) : (Bg.ratA s M t N).extract 33 66 = Bg.intA t N := by
  apply Array.ext_getElem?
  intro j
  rw [Array.getElem?_extract]
  by_cases hj : j < 33
  · rw [if_pos (by rw [ratA_size]; omega), ratA_hi]
  · rw [if_neg (by rw [ratA_size]; omega), Array.getElem?_eq_none (by rw [Bg.intA_size]; omega)]
theorem ratA_nmag (s : Bool) (M : Nat) (t : Bool) (N : Nat) : (Bg.ratA s M t N).extract 1 33 = Bg.row 32 M := by
  rw [← intA_mag s M]
  apply Array.ext_getElem?
  intro j
  rw [Array.getElem?_extract, Array.getElem?_extract, ratA_size, Bg.intA_size]
  by_cases hj : j < 32
  · rw [if_pos (by omega), if_pos (by omega), ratA_lo _ _ _ _ _ (by omega)]
  · rw [if_neg (by omega), if_neg (by omega)]
theorem ratA_dmag (s : Bool) (M : Nat) (t : Bool) (N : Nat) : (Bg.ratA s M t N).extract 34 66 = Bg.row 32 N := by
  rw [← intA_mag t N]
  apply Array.ext_getElem?
  intro j
  rw [Array.getElem?_extract, Array.getElem?_extract, ratA_size, Bg.intA_size]
  by_cases hj : j < 32
  · rw [if_pos (by omega), if_pos (by omega), show 34 + j = 33 + (1 + j) from by omega, ratA_hi]
  · rw [if_neg (by omega), if_neg (by omega)]
theorem ratA_ext {s t : Bool} {M N : Nat} {c : Array Value} (hc : c.size = 66) (h1 : ∀ j, j < 33 → c[j]? = (Bg.intA s M)[j]?) (h2 : ∀ j, j < 33 → c[33 + j]? = (Bg.intA t N)[j]?) : c = Bg.ratA s M t N := by
  apply Array.ext_getElem?
  intro j
  by_cases hj : j < 33
  · rw [h1 j hj, ratA_lo _ _ _ _ _ hj]
  · by_cases hk : j < 66
    · obtain ⟨d, rfl⟩ : ∃ d, j = 33 + d := ⟨j - 33, by omega⟩
      rw [h2 d (by omega), ratA_hi]
    · rw [Array.getElem?_eq_none (by omega), Array.getElem?_eq_none (by rw [ratA_size]; omega)]
theorem sT_rat : sizT 27 = some 66 := by kernel_rfl
theorem la_rat (s : Bool) (M : Nat) (t : Bool) (N : Nat) : LA 27 (Bg.ratA s M t N) 0 (.agg (Bg.ratA s M t N)) := LA.whole (by kernel_rfl) (by rw [ratA_size]; exact sT_rat)
theorem la_rnum (s : Bool) (M : Nat) (t : Bool) (N : Nat) : LA 25 (Bg.ratA s M t N) 0 (.agg (Bg.intA s M)) := LA.mid (n := 33) (by kernel_rfl) sT_int (by rw [ratA_size]; omega) (ratA_num s M t N)
theorem la_rden (s : Bool) (M : Nat) (t : Bool) (N : Nat) : LA 25 (Bg.ratA s M t N) 33 (.agg (Bg.intA t N)) := LA.mid (n := 33) (by kernel_rfl) sT_int (by rw [ratA_size]; omega) (ratA_den s M t N)
theorem la_rnmag (s : Bool) (M : Nat) (t : Bool) (N : Nat) : LA 23 (Bg.ratA s M t N) 1 (.agg (Bg.row 32 M)) := LA.mid (n := 32) (by kernel_rfl) sT_arr (by rw [ratA_size]; omega) (ratA_nmag s M t N)
theorem la_rdmag (s : Bool) (M : Nat) (t : Bool) (N : Nat) : LA 23 (Bg.ratA s M t N) 34 (.agg (Bg.row 32 N)) := LA.mid (n := 32) (by kernel_rfl) sT_arr (by rw [ratA_size]; omega) (ratA_dmag s M t N)
theorem la_rnneg (s : Bool) (M : Nat) (t : Bool) (N : Nat) : LA 4 (Bg.ratA s M t N) 0 (.bool s) := LA.one (by kernel_rfl) (by rw [ratA_lo _ _ _ _ _ (by decide)]; exact Bg.intA_neg s M)
theorem la_rdneg (s : Bool) (M : Nat) (t : Bool) (N : Nat) : LA 4 (Bg.ratA s M t N) 33 (.bool t) := LA.one (by kernel_rfl) (by rw [show (33 : Nat) = 33 + 0 from rfl, ratA_hi]; exact Bg.intA_neg t N)
theorem sa_rat (s : Bool) (M : Nat) (t : Bool) (N : Nat) {c : Array Value} (h : c.size = 66) : SA 27 c 0 (.agg (Bg.ratA s M t N)) (Bg.ratA s M t N) := SA.whole (by rw [ratA_size]; exact sT_rat) (ratA_one s M t N) (by rw [ratA_size, h])
theorem setAll_at : ∀ (l : List Value) (k : Nat) (c : Array Value) (j : Nat), (setAll c k l)[j]? = if k ≤ j ∧ j < k + l.length ∧ j < c.size then l[j - k]? else c[j]? := by
  intro l
  induction l with
  | nil => intro k c j; simp [setAll]; omega
  | cons x l ih =>
    intro k c j
    rw [setAll, ih]
    simp only [Array.size_setIfInBounds, Array.getElem?_setIfInBounds, List.length_cons]
    by_cases h1 : j = k
    · subst h1
      by_cases h2 : j < c.size
      · rw [if_neg (by omega), if_pos rfl, if_pos h2, if_pos (by omega), Nat.sub_self]; rfl
      · rw [if_neg (by omega), if_pos rfl, if_neg h2, if_neg (by omega), Array.getElem?_eq_none (by omega)]
    · by_cases h2 : k + 1 ≤ j ∧ j < k + 1 + l.length ∧ j < c.size
      · rw [if_pos h2, if_pos (by omega)]
        obtain ⟨d, rfl⟩ : ∃ d, j = k + 1 + d := ⟨j - (k + 1), by omega⟩
        rw [show k + 1 + d - (k + 1) = d from by omega, show k + 1 + d - k = d + 1 from by omega]
        rfl
      · rw [if_neg h2, if_neg (by omega), if_neg (by omega)]
theorem setAll_size : ∀ (l : List Value) (k : Nat) (c : Array Value), (setAll c k l).size = c.size := by
  intro l
  induction l with
  | nil => intro k c; rfl
  | cons x l ih => intro k c; rw [setAll, ih, Array.size_setIfInBounds]
theorem sa_rnum (s s2 : Bool) (M M2 : Nat) (t : Bool) (N : Nat) : SA 25 (Bg.ratA s M t N) 0 (.agg (Bg.intA s2 M2)) (Bg.ratA s2 M2 t N) := by
  refine SA.mid (by rw [Bg.intA_size]; exact sT_int) (Bg.intA_one s2 M2) (by rw [ratA_size, Bg.intA_size]; omega) ?_
  refine ratA_ext (by rw [setAll_size, ratA_size]) (fun j hj => ?_) (fun j hj => ?_)
  · rw [setAll_at, Array.length_toList, Bg.intA_size, ratA_size, if_pos (by omega), Nat.sub_zero, Array.getElem?_toList]
  · rw [setAll_at, Array.length_toList, Bg.intA_size, ratA_size, if_neg (by omega), ratA_hi]
theorem sa_rden (s : Bool) (M : Nat) (t t2 : Bool) (N N2 : Nat) : SA 25 (Bg.ratA s M t N) 33 (.agg (Bg.intA t2 N2)) (Bg.ratA s M t2 N2) := by
  refine SA.mid (by rw [Bg.intA_size]; exact sT_int) (Bg.intA_one t2 N2) (by rw [ratA_size, Bg.intA_size]; omega) ?_
  refine ratA_ext (by rw [setAll_size, ratA_size]) (fun j hj => ?_) (fun j hj => ?_)
  · rw [setAll_at, Array.length_toList, Bg.intA_size, ratA_size, if_neg (by omega), ratA_lo _ _ _ _ _ hj]
  · rw [setAll_at, Array.length_toList, Bg.intA_size, ratA_size, if_pos (by omega), Nat.add_sub_cancel_left, Array.getElem?_toList]
theorem sa_rnneg (s s2 : Bool) (M : Nat) (t : Bool) (N : Nat) : SA 4 (Bg.ratA s M t N) 0 (.bool s2) (Bg.ratA s2 M t N) := by
  have h := SA.one (T := 4) (c := Bg.ratA s M t N) (k := 0) (v := .bool s2) (by kernel_rfl) rfl (by rw [ratA_size]; omega)
  have e : (Bg.ratA s M t N).setIfInBounds 0 (.bool s2) = Bg.ratA s2 M t N := by
    refine ratA_ext (by rw [Array.size_setIfInBounds, ratA_size]) (fun j hj => ?_) (fun j hj => ?_)
    · rw [← intA_set0 s s2 M, Array.getElem?_setIfInBounds, Array.getElem?_setIfInBounds, ratA_size, Bg.intA_size, ratA_lo _ _ _ _ _ hj]
      split <;> simp
    · rw [Array.getElem?_setIfInBounds, if_neg (by omega), ratA_hi]
  rwa [e] at h
theorem fill_gen (o : Nat) (l : List Value) : ∀ (k : Nat) (c : Array Value) (j : Nat), ((l.zipIdx k).foldl (fun (cs : Array Value) (x : Value × Nat) => cs.setIfInBounds (o + x.snd) x.fst) c)[j]? =
    if o + k ≤ j ∧ j < o + k + l.length ∧ j < c.size then l[j - (o + k)]? else c[j]? := by
  induction l with
  | nil => intro k c j; simp; omega
  | cons x l ih =>
    intro k c j
    rw [List.zipIdx_cons, List.foldl_cons, ih (k + 1)]
    simp only [Array.size_setIfInBounds, Array.getElem?_setIfInBounds, List.length_cons]
    by_cases h1 : j = o + k
    · subst h1
      by_cases h2 : o + k < c.size
      · rw [if_neg (by omega), if_pos (by omega), if_pos (by omega), if_pos (by omega)]
        simp
      · rw [if_neg (by omega), if_pos (by omega), if_neg (by omega), if_neg (by omega)]
        rw [Array.getElem?_eq_none (by omega)]
    · by_cases h2 : o + (k + 1) ≤ j ∧ j < o + (k + 1) + l.length ∧ j < c.size
      · rw [if_pos h2, if_pos (by omega)]
        obtain ⟨d, rfl⟩ : ∃ d, j = o + (k + 1) + d := ⟨j - (o + (k + 1)), by omega⟩
        rw [show o + (k + 1) + d - (o + (k + 1)) = d from by omega, show o + (k + 1) + d - (o + k) = d + 1 from by omega]
        simp
      · rw [if_neg h2]
        by_cases h3 : o + k ≤ j ∧ j < o + k + (l.length + 1) ∧ j < c.size
        · omega
        · rw [if_neg h3, if_neg (by omega)]
theorem fill_rat (s : Bool) (M : Nat) (t : Bool) (N : Nat) (a b : Array Value) (ha : a = Bg.intA s M) (hb : b = Bg.intA t N) :
    (b.toList.zipIdx 0).foldl (fun (cs : Array Value) (x : Value × Nat) => cs.setIfInBounds (33 + x.snd) x.fst) ((a.toList.zipIdx 0).foldl (fun (cs : Array Value) (x : Value × Nat) => cs.setIfInBounds (0 + x.snd) x.fst) (Bg.ratA false 0 false 0)) = Bg.ratA s M t N := by
  subst ha hb
  have hsz : ∀ (o : Nat) (l : List (Value × Nat)) (c : Array Value), (l.foldl (fun (cs : Array Value) (x : Value × Nat) => cs.setIfInBounds (o + x.snd) x.fst) c).size = c.size := by
    intro o l
    induction l with
    | nil => intro c; rfl
    | cons x l ih => intro c; rw [List.foldl_cons, ih, Array.size_setIfInBounds]
  refine ratA_ext (by rw [hsz, hsz, ratA_size]) (fun j hj => ?_) (fun j hj => ?_)
  · rw [fill_gen, Array.length_toList, Bg.intA_size, hsz, ratA_size, if_neg (by omega), fill_gen, Array.length_toList, Bg.intA_size, ratA_size, if_pos (by omega), Nat.sub_zero, Array.getElem?_toList]
  · rw [fill_gen, Array.length_toList, Bg.intA_size, hsz, ratA_size, if_pos (by omega), Nat.add_sub_cancel_left, Array.getElem?_toList]
/-- The canonical ratio of two numbers. -/
@[irreducible] def Bg.rZ (n d : Int) : Array Value := Bg.ratA (decide (n < 0)) n.natAbs (decide (d < 0)) d.natAbs
theorem rZ_ratA (n d : Int) : Bg.rZ n d = Bg.ratA (decide (n < 0)) n.natAbs (decide (d < 0)) d.natAbs := by unfold Bg.rZ; rfl
theorem rZ_size (n d : Int) : (Bg.rZ n d).size = 66 := by rw [rZ_ratA]; exact ratA_size _ _ _ _
theorem rZ_zero : Bg.ratA false 0 false 0 = Bg.rZ 0 0 := by rw [rZ_ratA]; rfl
theorem la_rz (n d : Int) : LA 27 (Bg.rZ n d) 0 (.agg (Bg.rZ n d)) := by rw [rZ_ratA]; exact la_rat _ _ _ _
theorem la_rznum (n d : Int) : LA 25 (Bg.rZ n d) 0 (.agg (Bg.zA n)) := by rw [rZ_ratA, zA_int]; exact la_rnum _ _ _ _
theorem la_rzden (n d : Int) : LA 25 (Bg.rZ n d) 33 (.agg (Bg.zA d)) := by rw [rZ_ratA, zA_int]; exact la_rden _ _ _ _
theorem sa_rz (n d : Int) {c : Array Value} (h : c.size = 66) : SA 27 c 0 (.agg (Bg.rZ n d)) (Bg.rZ n d) := by rw [rZ_ratA]; exact sa_rat _ _ _ _ h
theorem zeroRat : (zeroValue 27).run Try.prog = fun w => .ok (.agg (Bg.ratA false 0 false 0)) w := by
  unfold Bg.ratA; rw [← Bg.zeroInt]; kernel_rfl
theorem za_rat : ZA 27 (Bg.rZ 0 0) := ⟨.agg (Bg.rZ 0 0), rfl, fun w => by rw [← rZ_zero, zeroRat]⟩
theorem ratA_ne (s : Bool) (M : Nat) (t : Bool) (N : Nat) : (Bg.ratA s M t N = #[]) = False := by
  apply eq_false
  intro h
  have := ratA_size s M t N
  rw [h] at this
  cases this
theorem run_build_rat0 (w : World) : (Instr.build 27 #[]).run Try.prog w = .ok (.agg (Bg.rZ 0 0)) w := by
  have hz : ∀ w, (zeroValue 27).run Try.prog w = .ok (.agg (Bg.rZ 0 0)) w := fun w => by rw [← rZ_zero, zeroRat]
  simp [Instr.build, hz, go_sem]
theorem arr_fold (f : Array Value → Value × Nat → Array Value) (c a : Array Value) (n : Nat) (h : a.size = n) : Array.foldl f c a.zipIdx 0 n = (a.toList.zipIdx 0).foldl f c := by
  have e : a.zipIdx.size = n := by rw [Array.size_zipIdx, h]
  rw [← e, ← Array.foldl_toList, Array.toList_zipIdx]
theorem run_build_rat (s : Bool) (M : Nat) (t : Bool) (N : Nat) (w : World) : (Instr.build 27 #[(0, .agg (Bg.intA s M)), (1, .agg (Bg.intA t N))]).run Try.prog w = .ok (.agg (Bg.ratA s M t N)) w := by
  have hz : ∀ w, (zeroValue 27).run Try.prog w = .ok (.agg (Bg.ratA false 0 false 0)) w := fun w => by rw [zeroRat]
  have hs1 := Bg.intA_size s M
  have hs2 := Bg.intA_size t N
  have hs3 := ratA_size false 0 false 0
  have hf : Array.foldl (fun (cs : Array Value) (x : Value × Nat) => cs.setIfInBounds (33 + x.snd) x.fst) (Array.foldl (fun (cs : Array Value) (x : Value × Nat) => cs.setIfInBounds x.snd x.fst) (Bg.ratA false 0 false 0) (Bg.intA s M).zipIdx 0 33) (Bg.intA t N).zipIdx 0 33 = Bg.ratA s M t N := by
    rw [arr_fold _ _ _ 33 hs1, arr_fold _ _ _ 33 hs2]
    have h := fill_rat s M t N _ _ rfl rfl
    simp only [Nat.zero_add] at h
    exact h
  have hsz : (Array.foldl (fun (cs : Array Value) (x : Value × Nat) => cs.setIfInBounds x.snd x.fst) (Bg.ratA false 0 false 0) (Bg.intA s M).zipIdx 0 33).size = 66 := by
    rw [arr_fold _ _ _ 33 hs1]
    have hg : ∀ (l : List (Value × Nat)) (c : Array Value), (l.foldl (fun (cs : Array Value) (x : Value × Nat) => cs.setIfInBounds x.snd x.fst) c).size = c.size := by
      intro l
      induction l with
      | nil => intro c; rfl
      | cons x l ih => intro c; rw [List.foldl_cons, ih, Array.size_setIfInBounds]
    rw [hg, hs3]
  simp [Instr.build, hz, go_sem, hs1, hs2, hs3, Instr.fill, Value.cells, hf, hsz]
theorem run_build_rz (n d : Int) (w : World) : (Instr.build 27 #[(0, .agg (Bg.zA n)), (1, .agg (Bg.zA d))]).run Try.prog w = .ok (.agg (Bg.rZ n d)) w := by
  rw [zA_int, zA_int, rZ_ratA]; exact run_build_rat _ _ _ _ w
section
variable {o : Oper} {a : Act}
theorem h_br {x y : Operand} {n d : Int} (ho : o.op = .build 27 #[(0, x), (1, y)]) (hx : a.eval x = .agg (Bg.zA n)) (hy : a.eval y = .agg (Bg.zA d)) : ∀ w, (execOp a.eval o).run Try.prog w = .ok (.value (.agg (Bg.rZ n d))) w := fun w => by
  unfold execOp
  simp only [ho, Sem.run_bind, List.map_toArray, List.map_cons, List.map_nil, hx, hy, run_build_rz, Result.andThen_ok, Sem.run_pure]
theorem h_br0 (ho : o.op = .build 27 #[]) : ∀ w, (execOp a.eval o).run Try.prog w = .ok (.value (.agg (Bg.rZ 0 0))) w := fun w => by
  unfold execOp
  simp only [ho, Sem.run_bind, List.map_toArray, List.map_nil, run_build_rat0, Result.andThen_ok, Sem.run_pure]
end
theorem eq_int9 (p d : Int) (hp : p.natAbs < Bg.lim) (hd : d.natAbs < Bg.lim) (W : World) :
    (Op.equalIn 9999 25 (.agg (Bg.zA p)) (.agg (Bg.zA d))).run Try.prog W = .ok (decide (p = d)) W := by
  rw [zA_int p, zA_int d]
  generalize hs : decide (p < 0) = s
  generalize ht : decide (d < 0) = t
  generalize hN : p.natAbs = N at *
  generalize hM : d.natAbs = M at *
  have hb : ∀ a b : Bool, (Op.equalIn 9998 4 (.bool a) (.bool b)).run Try.prog W = .ok (a == b) W := fun a b => run_equalIn_bool' (P := Try.prog) W 9997 4 a b Try.underlying4
  have ha : (Op.equalIn 9998 23 (.agg (Bg.row 32 N)) (.agg (Bg.row 32 M))).run Try.prog W = .ok (decide (N = M)) W := eq_arr N M hp hd 9996 W
  have h1 := intA_mag s N
  have h2 := intA_mag t M
  have h3 := Bg.intA_neg s N
  have h4 := Bg.intA_neg t M
  have h5 := Bg.intA_size s N
  have h6 := Bg.intA_size t M
  have hpd : decide (p = d) = decide (s = t ∧ N = M) := by
    rw [← hs, ← ht, ← hN, ← hM]
    by_cases e : p = d
    · subst e; simp
    · have : ¬ (decide (p < 0) = decide (d < 0) ∧ p.natAbs = d.natAbs) := by
        rintro ⟨h1, h2⟩
        have h3 : (p < 0) ↔ (d < 0) := by simpa using h1
        omega
      rw [decide_eq_false this, decide_eq_false e]
  rw [hpd]
  have hp : Try.prog.stoodInHeld 25 = false := by kernel_rfl
  rw [run_equalIn_agg W 9998 25 _ _ (by kernel_rfl) hp]
  have hf : (Try.prog.fieldsOf 25).toList.map (fun f => (decide (f.name ≠ "_"), f.type, f.offset)) = [(true, 4, 0), (true, 23, 1)] := by kernel_rfl
  generalize (Try.prog.fieldsOf 25).toList = l at hf ⊢
  cases l with
  | nil => simp at hf
  | cons f1 l =>
    cases l with
    | nil => simp at hf
    | cons f2 l =>
      cases l with
      | cons _ _ => simp at hf
      | nil =>
        simp only [List.map_cons, List.map_nil, List.cons.injEq, Prod.mk.injEq, and_true, decide_eq_true_eq] at hf
        obtain ⟨⟨n1, t1, o1⟩, n2, t2, o2⟩ := hf
        have hp1 : (part f1.type (Bg.intA s N) f1.offset).run Try.prog W = .ok (.bool s) W := by rw [t1, o1]; simp [part, h3]
        have hp2 : (part f1.type (Bg.intA t M) f1.offset).run Try.prog W = .ok (.bool t) W := by rw [t1, o1]; simp [part, h4]
        have hp3 : (part f2.type (Bg.intA s N) f2.offset).run Try.prog W = .ok (.agg (Bg.row 32 N)) W := by rw [t2, o2]; simp [part, h1]
        have hp4 : (part f2.type (Bg.intA t M) f2.offset).run Try.prog W = .ok (.agg (Bg.row 32 M)) W := by rw [t2, o2]; simp [part, h2]
        rw [← t1] at hb
        rw [← t2] at ha
        unfold Op.eqFields
        rw [if_pos n1]
        simp only [Sem.run_bind, hp1, hp2, Result.andThen_ok, hb]
        by_cases e : s = t
        · subst e
          have hb2 : (!s == s) = false := by cases s <;> rfl
          simp only [hb2, Bool.false_eq_true, if_false]
          unfold Op.eqFields
          rw [if_pos n2]
          simp only [Sem.run_bind, hp3, hp4, Result.andThen_ok, ha]
          by_cases e2 : N = M <;> simp [e2, Op.eqFields]
        · have hb2 : (!s == t) = true := by cases s <;> cases t <;> simp_all
          simp only [hb2, if_true, Sem.run_pure]
          simp [e]
theorem rZ_n (n d : Int) : (Bg.rZ n d).extract 0 33 = Bg.zA n := by rw [rZ_ratA, zA_int]; exact ratA_num _ _ _ _
theorem rZ_d (n d : Int) : (Bg.rZ n d).extract 33 66 = Bg.zA d := by rw [rZ_ratA, zA_int]; exact ratA_den _ _ _ _
theorem eq_rz (n d n2 d2 : Int) (h1 : n.natAbs < Bg.lim) (h2 : d.natAbs < Bg.lim) (h3 : n2.natAbs < Bg.lim) (h4 : d2.natAbs < Bg.lim) (W : World) :
    (Op.equalIn 10000 27 (.agg (Bg.rZ n d)) (.agg (Bg.rZ n2 d2))).run Try.prog W = .ok (decide (n = n2 ∧ d = d2)) W := by
  have ha := eq_int9 n n2 h1 h3 W
  have hb := eq_int9 d d2 h2 h4 W
  have e1 := rZ_n n d
  have e2 := rZ_n n2 d2
  have e3 := rZ_d n d
  have e4 := rZ_d n2 d2
  have h5 := rZ_size n d
  have h6 := rZ_size n2 d2
  have hp : Try.prog.stoodInHeld 27 = false := by kernel_rfl
  rw [run_equalIn_agg W 9999 27 _ _ (by kernel_rfl) hp]
  have hf : (Try.prog.fieldsOf 27).toList.map (fun f => (decide (f.name ≠ "_"), f.type, f.offset)) = [(true, 25, 0), (true, 25, 33)] := by kernel_rfl
  generalize (Try.prog.fieldsOf 27).toList = l at hf ⊢
  cases l with
  | nil => simp at hf
  | cons f1 l =>
    cases l with
    | nil => simp at hf
    | cons f2 l =>
      cases l with
      | cons _ _ => simp at hf
      | nil =>
        simp only [List.map_cons, List.map_nil, List.cons.injEq, Prod.mk.injEq, and_true, decide_eq_true_eq] at hf
        obtain ⟨⟨n1, t1, o1⟩, n2', t2, o2⟩ := hf
        have hp1 : (part f1.type (Bg.rZ n d) f1.offset).run Try.prog W = .ok (.agg (Bg.zA n)) W := by rw [t1, o1]; simp [part, e1]
        have hp2 : (part f1.type (Bg.rZ n2 d2) f1.offset).run Try.prog W = .ok (.agg (Bg.zA n2)) W := by rw [t1, o1]; simp [part, e2]
        have hp3 : (part f2.type (Bg.rZ n d) f2.offset).run Try.prog W = .ok (.agg (Bg.zA d)) W := by rw [t2, o2]; simp [part, e3]
        have hp4 : (part f2.type (Bg.rZ n2 d2) f2.offset).run Try.prog W = .ok (.agg (Bg.zA d2)) W := by rw [t2, o2]; simp [part, e4]
        rw [← t1] at ha
        rw [← t2] at hb
        unfold Op.eqFields
        rw [if_pos n1]
        simp only [Sem.run_bind, hp1, hp2, Result.andThen_ok, ha]
        by_cases e : n = n2
        · subst e
          simp only [decide_true, Bool.not_true, Bool.false_eq_true, if_false]
          unfold Op.eqFields
          rw [if_pos n2']
          simp only [Sem.run_bind, hp3, hp4, Result.andThen_ok, hb]
          by_cases e2 : d = d2 <;> simp [e2, Op.eqFields]
        · simp only [e, decide_false, Bool.not_false, if_true, Sem.run_pure]
          simp
theorem run_cmp_r (op : BinOp) (n d n2 d2 : Int) (h1 : n.natAbs < Bg.lim) (h2 : d.natAbs < Bg.lim) (h3 : n2.natAbs < Bg.lim) (h4 : d2.natAbs < Bg.lim) (x y : Operand) (w : World) (h : op = .eql ∨ op = .neq) :
    (do eqGuard op 27 x y (.agg (Bg.rZ n d)) (.agg (Bg.rZ n2 d2)); binOp op 27 (.agg (Bg.rZ n d)) (.agg (Bg.rZ n2 d2)) : Sem Value).run Try.prog w = .ok (.bool (if op = .eql then decide (n = n2 ∧ d = d2) else !decide (n = n2 ∧ d = d2))) w := by
  have hm : Try.prog.eqGuardType Try.prog.depth 27 = false := by kernel_rfl
  have he := eq_rz n d n2 d2 h1 h2 h3 h4 w
  simp only [Sem.run_bind, run_eqGuard_agg w op _ x y _ _ hm, Result.andThen_ok]
  rcases h with rfl | rfl
  · rw [run_eql_struct, he, Result.andThen_ok, if_pos rfl]
  · rw [run_neq_struct, he, Result.andThen_ok, if_neg (by simp)]
theorem y_cmpr (op : BinOp) (n d n2 d2 : Int) (v : Bool) (he : op = .eql ∨ op = .neq) (hv : v = if op = .eql then decide (n = n2 ∧ d = d2) else !decide (n = n2 ∧ d = d2)) (h1 : n.natAbs < Bg.lim) (h2 : d.natAbs < Bg.lim) (h3 : n2.natAbs < Bg.lim) (h4 : d2.natAbs < Bg.lim) {ops : Array Oper} {S : World → Prop} {o : Oper} {a : Act} {x y : Operand} {t : TypeId} (hw : Region.wanted o (yielded ops a.tmps) = true) (ho : o.op = .binOp op 27 x y t) (hx : a.eval x = .agg (Bg.rZ n d)) (hy : a.eval y = .agg (Bg.rZ n2 d2)) :
    YieldsIf Try.prog ops S o (.bool v) a := by
  refine Or.inl ⟨hw, fun w _ => ?_⟩
  have hr := run_cmp_r op n d n2 d2 h1 h2 h3 h4 x y w he
  rw [← hv] at hr
  unfold execOp
  simp only [Sem.run_bind] at hr
  simp only [ho, hx, hy, Sem.run_bind, hr, Result.andThen_ok, Sem.run_pure]
theorem m_cmpr (op : BinOp) (n d1 n2 d2 : Int) (v : Bool) (he : op = .eql ∨ op = .neq) (hv : v = if op = .eql then decide (n = n2 ∧ d1 = d2) else !decide (n = n2 ∧ d1 = d2)) (h1 : n.natAbs < Bg.lim) (h2 : d1.natAbs < Bg.lim) (h3 : n2.natAbs < Bg.lim) (h4 : d2.natAbs < Bg.lim) {ops : Array Oper} {rest : List Oper} {a : Act} {w : World} {Q : Exit → Act → World → Prop} {x y : Operand} {t : TypeId} {d : Option Tmp} {ty : TypeId} {ps : String} {af : Array Edge} {g : Option (Nat × Bool)}
    (hw : WantT ops { dst := d, op := .binOp op 27 x y t, type := ty, pos := ps, after := af, guard := g } a) (hx : a.eval x = .agg (Bg.rZ n d1)) (hy : a.eval y = .agg (Bg.rZ n2 d2))
    (h : wpList Try.prog ops Q rest (a.put d (.bool v)) w) : wpList Try.prog ops Q ({ dst := d, op := .binOp op 27 x y t, type := ty, pos := ps, after := af, guard := g } :: rest) a w := by
  have hr := run_cmp_r op n d1 n2 d2 h1 h2 h3 h4 x y w he
  rw [← hv] at hr
  refine wpList_step fun K hK => ?_
  rw [if_pos hw.wanted]
  unfold Oper.wp execOp
  simp only [Sem.run_bind] at hr
  simp only [hx, hy, Sem.run_bind, hr, Result.andThen_ok, Sem.run_pure]
  exact hK _ _ h
section
variable {ops : Array Oper} {rest : List Oper} {a a2 : Act} {w : World} {Q : Exit → Act → World → Prop} {d : Option Tmp} {ty T t : TypeId} {ps : String} {af : Array Edge} {g : Option (Nat × Bool)} {x y : Operand} {v : Value} {xs : Array (Nat × Operand)} {bop : BinOp}
theorem a_rbl (h : wpList Try.prog ops Q rest a2 w) (hw : WantT ops { dst := d, op := .build T xs, type := ty, pos := ps, after := af, guard := g } a := by first | exact Or.inl rfl | exact Or.inr ⟨_, _, _, rfl, rfl, rfl⟩) (hy : ∀ w, (execOp a.eval { dst := d, op := .build T xs, type := ty, pos := ps, after := af, guard := g }).run Try.prog w = .ok (.value v) w := by (first | (refine h_br (x := ?_) (y := ?_) (n := ?_) (d := ?_) ?_ ?_ ?_; rotate_left 4; (focus rfl); (focus rfl); (focus rfl)) | (refine h_br0 ?_; rfl))) (ha : a.put d v = a2 := by ((try simp only [Act.put, List.setIfInBounds_toArray, List.set_cons_succ, List.set_cons_zero]) <;> rfl)) : OpG ops Q rest a w { dst := d, op := .build T xs, type := ty, pos := ps, after := af, guard := g } := m_bld hw hy (ha ▸ h)
theorem a_cmpr (op : BinOp) (n d1 n2 d2 : Int) (v : Bool) (he : op = .eql ∨ op = .neq) (hv : v = if op = .eql then decide (n = n2 ∧ d1 = d2) else !decide (n = n2 ∧ d1 = d2)) (h1 : n.natAbs < Bg.lim) (h2 : d1.natAbs < Bg.lim) (h3 : n2.natAbs < Bg.lim) (h4 : d2.natAbs < Bg.lim) (h : wpList Try.prog ops Q rest a2 w) (hw : WantT ops { dst := d, op := .binOp op 27 x y t, type := ty, pos := ps, after := af, guard := g } a := by first | exact Or.inl rfl | exact Or.inr ⟨_, _, _, rfl, rfl, rfl⟩) (hx : a.eval x = .agg (Bg.rZ n d1) := by (conv => lhs; whnf) <;> rfl) (hy : a.eval y = .agg (Bg.rZ n2 d2) := by (conv => lhs; whnf) <;> rfl) (ha : a.put d (.bool v) = a2 := by ((try simp only [Act.put, List.setIfInBounds_toArray, List.set_cons_succ, List.set_cons_zero]) <;> rfl)) : OpG ops Q rest a w { dst := d, op := .binOp op 27 x y t, type := ty, pos := ps, after := af, guard := g } := m_cmpr op n d1 n2 d2 v he hv h1 h2 h3 h4 hw hx hy (ha ▸ h)
end
end Go.Proofs.Ytekfabhmopkapaa
