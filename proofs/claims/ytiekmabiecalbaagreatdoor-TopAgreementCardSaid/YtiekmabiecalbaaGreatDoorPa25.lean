/- Walks. -/
import Derived.Maps.OwnSet
import Derived.Maps.Views
import Derived.Maps.RangeWalk
import Derived.Sort.KeysCollected
import Derived.Deep.LoopGhost
import Derived.Test.YtiekmabiecalbaaGreatDoorPa15
import Derived.Test.YtiekmabiecalbaaGreatDoorPa24
namespace Go.Proofs.YtiekmabiecalbaaGreatDoor
set_option maxHeartbeats 16000000
set_option maxRecDepth 8000
section
theorem z9_78 {P : Prop} (h : P := by
 refine ⟨⟨ho.os.trans h.only.os, ho.tape.trans h.only.tape, ho.output.trans h.only.output, Nat.le_trans h.only.size ho.size, fun k hk hn => ?_⟩, fun p hp => ?_, h.own, h.nod⟩
 ·exact (ho.block k (Nat.lt_of_lt_of_le hk h.only.size) (by simp; omega)).trans (h.only.block k hk hn)
 ·exact (h.blk p hp).kept (ho.block _ (h.blk p hp).lt (by simpa using hL p hp))) : P := h
end
section
open Go.RowKit Go.Maps
def As.c (m : As.Mk) : Array Value := #[.string m.key, .int .i64 m.kn, .bool m.vd]
theorem As.c_one (M : List As.Mk) : ∀ c ∈ M.map As.c, c.all (·.oneCell') = true := by
 intro c hc
 obtain ⟨m, _, rfl⟩ := List.mem_map.1 hc
 simp [As.c, Value.oneCell']
def As.Rd (w : World) (sv : Value) (M : List As.Mk) : Prop := RdS 3 w sv (M.map As.c) ∧ M.length ≤ 9223372036854775807
theorem As.Rd.form {w : World} {sv : Value} {M : List As.Mk} (h : As.Rd w sv M) : ∃ A cap, sv = .slice A M.length cap := by
 obtain ⟨⟨_, A, cap, e, _⟩, _⟩ := h
 rw [List.length_map] at e
 exact ⟨A, cap, e⟩
theorem As.Rd.below {w w' : World} {sv : Value} {M : List As.Mk} (h : As.Rd w sv M) (hb : Below w.heap.size w w') : As.Rd w' sv M := ⟨h.1.below hb, h.2⟩
theorem As.Rd.at_ {w : World} {A : Option Addr} {n cap : Nat} {M : List As.Mk} (h : As.Rd w (.slice A n cap) M) {i : Nat} {m : As.Mk} (hm : M[i]? = some m) :
    ∃ b off cs, A = some ⟨b, off, none⟩ ∧ Hid (Rbk w b cs) ∧ LA 147 cs (off + i * 3) (.agg (As.c m)) ∧ LA 9 cs (off + i * 3) (.string m.key) ∧ LA 3 cs (off + i * 3 + 1) (.int .i64 m.kn) ∧ LA 4 cs (off + i * 3 + 2) (.bool m.vd) := by
 obtain ⟨b, off, cs, cap', e, hb, hc⟩ := h.1.get (k := i) (c := As.c m) (by rw [List.getElem?_map, hm]; rfl)
 injection e with e1 e2 e3
 refine ⟨b, off, cs, e1, Zi hb, la_in (n := 3) Zk Zk rfl hc Zd, LA.one Zk ?_, LA.one Zk ?_, LA.one Zk ?_⟩
 ·have := hc 0 Zd; rw [Nat.add_zero] at this; rw [this]; rfl
 ·have := hc 1 Zd; rw [this]; rfl
 ·have := hc 2 Zd; rw [this]; rfl
theorem As.sa (m m' : As.Mk) : SA 147 (As.c m) 0 (.agg (As.c m')) (As.c m') := SA.whole Zk (As.c_one [m'] _ Zs) rfl
def As.z0 : As.Mk := ⟨{ data := #[] }, 0, false⟩
theorem As.za : ZA 147 (As.c As.z0) := ⟨.agg (As.c As.z0), rfl, fun w => by kernel_rfl⟩
theorem As.la0 (m : As.Mk) : LA 9 (As.c m) 0 (.string m.key) := LA.one Zk rfl
theorem As.la1 (m : As.Mk) : LA 3 (As.c m) 1 (.int .i64 m.kn) := LA.one Zk rfl
theorem As.la2 (m : As.Mk) : LA 4 (As.c m) 2 (.bool m.vd) := LA.one Zk rfl
theorem Mem.side {w0 w w' : World} {X : List Nat} {L : List (Nat × Array Value)} (h : Mem w0 X L w) {b : Nat} (hg : w.grownBy w' (some b)) (hb : w0.heap.size ≤ b) (hL : ∀ p ∈ L, p.1 ≠ b) : Mem w0 X L w' := by
 have ho := Only.of_grown hg
 exact z9_78
theorem Mem.side0 {w0 w w' : World} {X : List Nat} {L : List (Nat × Array Value)} (h : Mem w0 X L w) {b : Nat} (hg : w.grownBy w' (some b)) (hb : w0.heap.size ≤ b) : Mem w0 X [] w' :=
 (h.pk .nil).side hg hb Zs
theorem str_law : Keyed Tryz.prog 9 := string_keyed Tryz.underlying9
theorem und_smap : Tryz.prog.underlying 142 = some (.map 9 3) := Tryz.underlying142
def IView (D : DataW Unit) (f : ByteArray → Option Nat) : Prop := ∀ (s : ByteArray) (z : DataW Unit), D.atKey (.string s.data.toList) z = ((f s).map fun i : Nat => DataW.lit (.int .i64 (i : Int))).getD z
def IMap (w : World) (b n : Nat) (f : ByteArray → Option Nat) : Prop :=
 ∃ D : DataW Unit, w.ownsMap Tryz.prog 9 (plainElem Tryz.prog 3) b n D ∧ IView D f
theorem IMap.made (w : World) : IMap (w.alloc (.map #[] 0)) w.heap.size 0 (fun _ => none) := ⟨.map [], World.ownsMap_made _ _ _ _, fun _ _ => rfl⟩
theorem IMap.below {w w' : World} {b n : Nat} {f : ByteArray → Option Nat} (h : IMap w b n f) (hb : Below w.heap.size w w') : IMap w' b n f := by
 obtain ⟨D, h1, h2⟩ := h
 exact ⟨D, h1.kept (row := none) ⟨hb.os, hb.tape, hb.output, hb.size, fun i hi _ => hb.block i hi⟩ Zs, h2⟩
theorem IMap.mono {w : World} {b n n' : Nat} {f : ByteArray → Option Nat} (h : IMap w b n f) (hn : n ≤ n') : IMap w b n' f := by
 obtain ⟨D, h1, h2⟩ := h
 exact ⟨D, h1.mono hn, h2⟩
theorem IMap.congr {w : World} {b n : Nat} {f g : ByteArray → Option Nat} (h : IMap w b n f) (e : ∀ s, f s = g s) : IMap w b n g := by
 obtain ⟨D, h1, h2⟩ := h
 exact ⟨D, h1, fun s z => by rw [h2 s z, e s]⟩
theorem IView.put {D : DataW Unit} {f : ByteArray → Option Nat} (h : IView D f) (hD : IsMap D) (s : ByteArray) (i : Nat) : IView (D.put (.string s.data.toList) (.lit (.int .i64 (i : Int)))) (fun t => if s = t then some i else f t) := by
 intro t z
 by_cases e : s = t
 ·subst e
  rw [atKey_put_same hD (by simp [WideAt.IsKeyLit])]
  simp
 ·rw [atKey_put_other (fun h => e (As.key_inj (by injection h with h; exact h.symm)))]
  simp only [if_neg e]
  exact h t z
theorem IView.del {D : DataW Unit} {f : ByteArray → Option Nat} (h : IView D f) (s : ByteArray) : IView (D.del (.string s.data.toList)) (fun t => if s = t then none else f t) := by
 intro t z
 by_cases e : s = t
 ·subst e
  rw [atKey_del_same]
  simp
 ·rw [atKey_del_other (fun h => e (As.key_inj (by injection h with h; exact h.symm)))]
  simp only [if_neg e]
  exact h t z
theorem IView.has {D : DataW Unit} {f : ByteArray → Option Nat} (h : IView D f) (s : ByteArray) : Maps.has D (.string s.data.toList) = (f s).isSome := by
 cases e : f s with
 | none => exact has_false_of_atKey (fun z => by rw [h s z, e]; rfl)
 | some i => exact has_true_of_atKey (y := .lit (.int .i64 (i : Int))) (fun z => by rw [h s z, e]; rfl)
theorem key_mk {s : ByteArray} (h : s.size ≤ maxLen) : keyOf Tryz.prog 9 (.string s) = some (.string s.data.toList) := by
 simp [keyOf, Tryz.underlying9, mapKey, h]
theorem len_small {n : Nat} (h : n ≤ 4611686018427387904) : n ≤ maxLen := by unfold maxLen; omega
theorem i64_wf {i : Nat} (h : i ≤ 4611686018427387904) : (Lit.int .i64 (i : Int)).wf = true := by
 simp [Lit.wf, IntKind.min, IntKind.max, IntKind.signed, IntKind.bits]; omega
section
variable {ops : Array Oper} {rest : List Oper} {a a2 : Act} {w : World} {Q : Exit → Act → World → Prop} {d : Option Tmp} {ty : TypeId} {ps : String} {af : Array Edge} {x y z : Operand} {b n : Nat} {f : ByteArray → Option Nat} {s : ByteArray}
theorem g_upd (h : OpG ops Q rest a w { dst := d, op := .mapUpdate 142 x y z, type := ty, pos := ps, after := af, guard := none }) : wpList Tryz.prog ops Q ({ dst := d, op := .mapUpdate 142 x y z, type := ty, pos := ps, after := af, guard := none } :: rest) a w := h
theorem a_upd (i : Nat) (HI : IMap w b n f) (hn : n ≤ 4611686018427387903) (hs : s.size ≤ maxLen) (hi : i ≤ 4611686018427387904) (h : ∀ w', IMap w' b (n + 1) (fun t => if s = t then some i else f t) → w.grownBy w' (some b) → wpList Tryz.prog ops Q rest a2 w')
    (hx : a.eval x = .map (some b) := by (conv => lhs; whnf) <;> rfl) (hy : a.eval y = .string s := by (conv => lhs; whnf) <;> rfl) (hz : a.eval z = .int .i64 (i : Int) := by (conv => lhs; whnf) <;> rfl) (ha : a.put d undef = a2 := by ((try simp only [Act.put, Za, Zx, Zy]) <;> rfl)) :
    OpG ops Q rest a w { dst := d, op := .mapUpdate 142 x y z, type := ty, pos := ps, after := af, guard := none } := by
 obtain ⟨D, h1, h2⟩ := HI
 have hD := h1.isMap
 exact wpList_mapUpdate_own w rfl x y z _ rfl 9 3 str_law und_smap _ b n D hx h1 (by unfold maxLen; omega) _ _ _ hy hz (key_mk hs) _ [] (plainElem_int Tryz.underlying3 (i64_wf hi)) fun w' k1 k2 => ha ▸ h w' ⟨_, k1, h2.put hD s i⟩ k2
theorem g_del {t t2 : TypeId} (h : OpG ops Q rest a w { dst := d, op := .call { callee := .builtin .delete, args := #[x, y], argTypes := #[t, t2] }, type := ty, pos := ps, after := af, guard := none }) : wpList Tryz.prog ops Q ({ dst := d, op := .call { callee := .builtin .delete, args := #[x, y], argTypes := #[t, t2] }, type := ty, pos := ps, after := af, guard := none } :: rest) a w := h
theorem a_del (HI : IMap w b n f) (hs : s.size ≤ maxLen) (h : ∀ w', IMap w' b n (fun t => if s = t then none else f t) → w.grownBy w' (some b) → wpList Tryz.prog ops Q rest a2 w')
    (hx : a.eval x = .map (some b) := by (conv => lhs; whnf) <;> rfl) (hy : a.eval y = .string s := by (conv => lhs; whnf) <;> rfl) (ha : a.put d (.tuple #[]) = a2 := by ((try simp only [Act.put, Za, Zx, Zy]) <;> rfl)) :
    OpG ops Q rest a w { dst := d, op := .call { callee := .builtin .delete, args := #[x, y], argTypes := #[142, 9] }, type := ty, pos := ps, after := af, guard := none } := by
 obtain ⟨D, h1, h2⟩ := HI
 exact wpList_delete_own w rfl x y _ _ rfl 3 str_law und_smap _ b n D hx h1 _ _ hy (key_mk hs) fun w' k1 k2 => ha ▸ h w' ⟨_, k1, h2.del s⟩ k2.grown
end
end
section
theorem z9_79 {P : Prop} (h : P := by
 go_wp2_with (first | ((with_reducible refine g_ld ?_); refine a_ld HM ?_) | ((with_reducible refine g_st ?_); refine a_st HM ?_; clear HM; intro w1 HM) | ((with_reducible refine g_al ?_); refine a_al HM ?_; clear HM; intro bk w1 HM))
 go_ret
 exact ⟨rfl, HM.low⟩) : P := h
end
section
open Go.RowKit Go.Maps
theorem As.okFrom_step {last : Int} {M : List As.Mk} {i : Nat} {m : As.Mk} (hm : M[i]? = some m) : As.okFrom last (M.drop i) = (!(decide (m.key.size = 0) || decide (64 < m.key.size) || decide (m.kn ≤ last) || decide (2147483647 < m.kn)) && As.okFrom m.kn (M.drop (i + 1))) := by
 obtain ⟨hi, e⟩ := List.getElem?_eq_some_iff.1 hm
 rw [List.drop_eq_getElem_cons hi, e, As.okFrom]
theorem As.okFrom_end {last : Int} {M : List As.Mk} {i : Nat} (hi : M.length ≤ i) : As.okFrom last (M.drop i) = true := by
 rw [List.drop_of_length_le hi, As.okFrom]
theorem As.err_bad {M : List As.Mk} (h : As.ok M = false) : As.err M = 130 := by unfold As.err; rw [h]; rfl
theorem As.err_ok {M : List As.Mk} (h : As.ok M = true) : As.err M = 0 := by unfold As.err; rw [h]; rfl
theorem As.ok_long {M : List As.Mk} (h : 4096 < M.length) : As.ok M = false := by
 unfold As.ok; rw [Zf Zo]; rfl
theorem As.ok_short {M : List As.Mk} (h : ¬ 4096 < M.length) : As.ok M = As.okFrom 0 M := by
 unfold As.ok; rw [Zt Zo, Bool.true_and]
theorem check_any (sv : Value) (M : List As.Mk) (w : World) (hR : As.Rd w sv M) (e : Int) (he : Hid (e = As.err M)) :
    Calls Tryz.prog 88 #[sv] w fun r w' => r = .returned (.int .i64 e) ∧ Below w.heap.size w w' := by
 have HM := Mem.start w
 obtain ⟨A, cap, rfl⟩ := hR.form
 have HR := Zi hR
 have hML := hR.2
 have hz := As.za
 clear hR
 by_cases hl : 4096 < M.length
 ·obtain rfl : e = 130 := he.out.trans (As.err_bad (As.ok_long hl))
  have hl1 : (4096 : Int) < M.length := by omega
  go_enter Tryz.func88, Tryz.ntmps88
  go_wp2_with fail
  go_ret
  exact ⟨rfl, HM.low⟩
 ·have hok := Zi (As.ok_short hl)
  have hl1 : (M.length : Int) ≤ 4096 := by omega
  go_enter Tryz.func88, Tryz.ntmps88
  go_wp2_with fail
  go_loopw [3, 11] (fun lv iv wr => ∃ (i : Nat) (last : Int), iv = .int .i64 (i : Nat) ∧ lv = .int .i64 last ∧ i ≤ M.length ∧ Hid (As.ok M = As.okFrom last (M.drop i)) ∧ Mem w [] [] wr) (fun _ iv _ => M.length - (intOf iv).toNat)
  case atStart => exact ⟨0, 0, rfl, rfl, by omega, hok, HM⟩
  case round =>
   clear HM hok
   obtain ⟨i, last, rfl, rfl, hi, HO, HM⟩ := hrel
   by_cases hlt : i < M.length
   ·obtain ⟨m, hm⟩ : ∃ m, M[i]? = some m := ⟨_, List.getElem?_eq_getElem hlt⟩
    obtain ⟨b, off, cs, rfl, HB, l0, l1, l2, l3⟩ := HR.out.at_ hm
    have hlt1 : (i : Int) < M.length := by omega
    have hst := HO.out.trans (As.okFrom_step hm)
    have sa := As.sa As.z0 m
    have la0 := As.la0 m
    have la1 := As.la1 m
    clear l1 l2 l3 hm
    by_cases hb : m.key.size = 0 ∨ 64 < m.key.size ∨ m.kn ≤ last ∨ 2147483647 < m.kn
    ·have hf : As.ok M = false := by
       rw [hst]
       rcases hb with h | h | h | h <;> simp [h]
     obtain rfl : e = 130 := he.out.trans (As.err_bad hf)
     have hcase : m.key.size = 0 ∨ (m.key.size ≠ 0 ∧ 64 < m.key.size) ∨ (m.key.size ≠ 0 ∧ ¬ 64 < m.key.size ∧ m.kn ≤ last) ∨ (m.key.size ≠ 0 ∧ ¬ 64 < m.key.size ∧ ¬ m.kn ≤ last ∧ 2147483647 < m.kn) := by omega
     clear hst hf HO hb
     rcases hcase with h1 | ⟨h1, h2⟩ | ⟨h1, h2, h3⟩ | ⟨h1, h2, h3, h4⟩
     ·have g1 : ((m.key.size : Int) == 0) = true := beq_iff_eq.2 Zo
      clear h1
      exact z9_79
     ·have g1 : ((m.key.size : Int) == 0) = false := Zb Zo
      have g2 : decide ((64 : Int) < m.key.size) = true := Zt Zo
      clear h1 h2
      exact z9_79
     ·have g1 : ((m.key.size : Int) == 0) = false := Zb Zo
      have g2 : decide ((64 : Int) < m.key.size) = false := Zf Zo
      have g3 : decide (m.kn ≤ last) = true := Zt h3
      clear h1 h2 h3
      exact z9_79
     ·have g1 : ((m.key.size : Int) == 0) = false := Zb Zo
      have g2 : decide ((64 : Int) < m.key.size) = false := Zf Zo
      have g3 : decide (m.kn ≤ last) = false := Zf h3
      have g4 : decide ((2147483647 : Int) < m.kn) = true := Zt Zo
      clear h1 h2 h3 h4
      exact z9_79
    ·have hg : As.ok M = As.okFrom m.kn (M.drop (i + 1)) := by
       rw [hst, Zf Zo, Zf Zo, Zf Zo, Zf Zo]; rfl
     have HG := Zi hg
     have g1 : ((m.key.size : Int) == 0) = false := Zb Zo
     have g2 : decide ((64 : Int) < m.key.size) = false := Zf Zo
     have g3 : decide (m.kn ≤ last) = false := Zf Zo
     have g4 : decide ((2147483647 : Int) < m.kn) = false := Zf Zo
     clear hst hg
     go_wp2_with (first | ((with_reducible refine g_ld ?_); refine a_ld HM ?_) | ((with_reducible refine g_st ?_); refine a_st HM ?_; clear HM; intro w1 HM) | ((with_reducible refine g_al ?_); refine a_al HM ?_; clear HM; intro bk w1 HM))
     go_roundw
     case rel => exact ⟨i + 1, m.kn, by go_num, rfl, by omega, HG, HM.pick⟩
     case measure => simp [intOf]; omega
   ·obtain rfl : i = M.length := by omega
    obtain rfl : e = 0 := he.out.trans (As.err_ok (by rw [HO.out, As.okFrom_end (Nat.le_refl _)]))
    go_wp2_with fail
    go_ret
    exact ⟨rfl, HM.low⟩
end
end Go.Proofs.YtiekmabiecalbaaGreatDoor
