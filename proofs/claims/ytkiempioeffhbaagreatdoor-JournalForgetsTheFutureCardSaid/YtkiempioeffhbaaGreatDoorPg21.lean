/- Walks. -/
import Derived.Maps.OwnSet
import Derived.Maps.Views
import Derived.Maps.RangeWalk
import Derived.Sort.KeysCollected
import Derived.Deep.LoopGhost
import Derived.Test.YtkiempioeffhbaaGreatDoorPg13
import Derived.Test.YtkiempioeffhbaaGreatDoorPg20
namespace Go.Proofs.YtkiempioeffhbaaGreatDoor
set_option maxHeartbeats 16000000
set_option maxRecDepth 8000
section
theorem z9_56 {P : Prop} (h : P := by
 refine ⟨⟨ho.os.trans h.only.os, ho.tape.trans h.only.tape, ho.output.trans h.only.output, Nat.le_trans h.only.size ho.size, fun k hk hn => ?_⟩, fun p hp => ?_, h.own, h.nod⟩
 ·exact (ho.block k (Nat.lt_of_lt_of_le hk h.only.size) (by simp; omega)).trans (h.only.block k hk hn)
 ·exact (h.blk p hp).kept (ho.block _ (h.blk p hp).lt (by simpa using hL p hp))) : P := h
end
section
open Go.RowKit Go.Maps
def As.c (m : As.Mk) : Array Value := #[.string m.key, .int .i64 m.kn, .bool m.vd]
theorem As.c_one (M : List As.Mk) : ∀ c ∈ M.map As.c, c.all (·.oneCell') = true := by
 intro c hc
 obtain ⟨m, _, rfl⟩ := List.mem_map.1 hc
 simp [As.c, Value.oneCell']
def As.Rd (w : World) (sv : Value) (M : List As.Mk) : Prop := RdS 3 w sv (M.map As.c) ∧ M.length ≤ 9223372036854775807
theorem As.Rd.form {w : World} {sv : Value} {M : List As.Mk} (h : As.Rd w sv M) : ∃ A cap, sv = .slice A M.length cap := by
 obtain ⟨⟨_, A, cap, e, _⟩, _⟩ := h
 rw [List.length_map] at e
 exact ⟨A, cap, e⟩
theorem As.Rd.at_ {w : World} {A : Option Addr} {n cap : Nat} {M : List As.Mk} (h : As.Rd w (.slice A n cap) M) {i : Nat} {m : As.Mk} (hm : M[i]? = some m) :
    ∃ b off cs, A = some ⟨b, off, none⟩ ∧ Hid (Rbk w b cs) ∧ LA 185 cs (off + i * 3) (.agg (As.c m)) ∧ LA 9 cs (off + i * 3) (.string m.key) ∧ LA 3 cs (off + i * 3 + 1) (.int .i64 m.kn) ∧ LA 4 cs (off + i * 3 + 2) (.bool m.vd) := by
 obtain ⟨b, off, cs, cap', e, hb, hc⟩ := h.1.get (k := i) (c := As.c m) (by rw [List.getElem?_map, hm]; rfl)
 injection e with e1 e2 e3
 refine ⟨b, off, cs, e1, Zi hb, la_in (n := 3) Zk Zk rfl hc Zd, LA.one Zk ?_, LA.one Zk ?_, LA.one Zk ?_⟩
 ·have := hc 0 Zd; rw [Nat.add_zero] at this; rw [this]; rfl
 ·have := hc 1 Zd; rw [this]; rfl
 ·have := hc 2 Zd; rw [this]; rfl
theorem As.sa (m m' : As.Mk) : SA 185 (As.c m) 0 (.agg (As.c m')) (As.c m') := SA.whole Zk (As.c_one [m'] _ Zs) rfl
def As.z0 : As.Mk := ⟨{ data := #[] }, 0, false⟩
theorem As.za : ZA 185 (As.c As.z0) := ⟨.agg (As.c As.z0), rfl, fun w => by kernel_rfl⟩
theorem As.la0 (m : As.Mk) : LA 9 (As.c m) 0 (.string m.key) := LA.one Zk rfl
theorem As.la1 (m : As.Mk) : LA 3 (As.c m) 1 (.int .i64 m.kn) := LA.one Zk rfl
theorem Mem.side {w0 w w' : World} {X : List Nat} {L : List (Nat × Array Value)} (h : Mem w0 X L w) {b : Nat} (hg : w.grownBy w' (some b)) (hb : w0.heap.size ≤ b) (hL : ∀ p ∈ L, p.1 ≠ b) : Mem w0 X L w' := by
 have ho := Only.of_grown hg
 exact z9_56
theorem Mem.drewN {w0 w : World} {X : List Nat} {L : List (Nat × Array Value)} (h : Mem w0 X L w) (n : Nat) : Mem w0 X L (w.drewN n) :=
 ⟨⟨h.only.os, h.only.tape, h.only.output, h.only.size, h.only.block⟩, h.blk, h.own, h.nod⟩
theorem str_law : Keyed Tryz.prog 9 := string_keyed Tryz.underlying9
def IView (D : DataW Unit) (f : ByteArray → Option Nat) : Prop := ∀ (s : ByteArray) (z : DataW Unit), D.atKey (.string s.data.toList) z = ((f s).map fun i : Nat => DataW.lit (.int .i64 (i : Int))).getD z
def IMap (w : World) (b n : Nat) (f : ByteArray → Option Nat) : Prop :=
 ∃ D : DataW Unit, w.ownsMap Tryz.prog 9 (plainElem Tryz.prog 3) b n D ∧ IView D f
theorem key_mk {s : ByteArray} (h : s.size ≤ maxLen) : keyOf Tryz.prog 9 (.string s) = some (.string s.data.toList) := by
 simp [keyOf, Tryz.underlying9, mapKey, h]
end
section
theorem z9_57 {P : Prop} (h : P := by
 go_wp2_with (first | ((with_reducible refine g_ld ?_); refine a_ld HM ?_) | ((with_reducible refine g_st ?_); refine a_st HM ?_; clear HM; intro w1 HM) | ((with_reducible refine g_al ?_); refine a_al HM ?_; clear HM; intro bk w1 HM))
 go_ret
 exact ⟨rfl, HM.low⟩) : P := h
end
section
open Go.RowKit Go.Maps
theorem As.okFrom_step {last : Int} {M : List As.Mk} {i : Nat} {m : As.Mk} (hm : M[i]? = some m) : As.okFrom last (M.drop i) = (!(decide (m.key.size = 0) || decide (64 < m.key.size) || decide (m.kn ≤ last) || decide (2147483647 < m.kn)) && As.okFrom m.kn (M.drop (i + 1))) := by
 obtain ⟨hi, e⟩ := List.getElem?_eq_some_iff.1 hm
 rw [List.drop_eq_getElem_cons hi, e, As.okFrom]
theorem As.okFrom_end {last : Int} {M : List As.Mk} {i : Nat} (hi : M.length ≤ i) : As.okFrom last (M.drop i) = true := by
 rw [List.drop_of_length_le hi, As.okFrom]
theorem As.err_bad {M : List As.Mk} (h : As.ok M = false) : As.err M = 130 := by unfold As.err; rw [h]; rfl
theorem As.err_ok {M : List As.Mk} (h : As.ok M = true) : As.err M = 0 := by unfold As.err; rw [h]; rfl
theorem As.ok_long {M : List As.Mk} (h : 4096 < M.length) : As.ok M = false := by
 unfold As.ok; rw [Zf Zo]; rfl
theorem As.ok_short {M : List As.Mk} (h : ¬ 4096 < M.length) : As.ok M = As.okFrom 0 M := by
 unfold As.ok; rw [Zt Zo, Bool.true_and]
theorem check_any (sv : Value) (M : List As.Mk) (w : World) (hR : As.Rd w sv M) (e : Int) (he : Hid (e = As.err M)) :
    Calls Tryz.prog 85 #[sv] w fun r w' => r = .returned (.int .i64 e) ∧ Below w.heap.size w w' := by
 have HM := Mem.start w
 obtain ⟨A, cap, rfl⟩ := hR.form
 have HR := Zi hR
 have hML := hR.2
 have hz := As.za
 clear hR
 by_cases hl : 4096 < M.length
 ·obtain rfl : e = 130 := he.out.trans (As.err_bad (As.ok_long hl))
  have hl1 : (4096 : Int) < M.length := by omega
  go_enter Tryz.func85, Tryz.ntmps85
  go_wp2_with fail
  go_ret
  exact ⟨rfl, HM.low⟩
 ·have hok := Zi (As.ok_short hl)
  have hl1 : (M.length : Int) ≤ 4096 := by omega
  go_enter Tryz.func85, Tryz.ntmps85
  go_wp2_with fail
  go_loopw [3, 11] (fun lv iv wr => ∃ (i : Nat) (last : Int), iv = .int .i64 (i : Nat) ∧ lv = .int .i64 last ∧ i ≤ M.length ∧ Hid (As.ok M = As.okFrom last (M.drop i)) ∧ Mem w [] [] wr) (fun _ iv _ => M.length - (intOf iv).toNat)
  case atStart => exact ⟨0, 0, rfl, rfl, by omega, hok, HM⟩
  case round =>
   clear HM hok
   obtain ⟨i, last, rfl, rfl, hi, HO, HM⟩ := hrel
   by_cases hlt : i < M.length
   ·obtain ⟨m, hm⟩ : ∃ m, M[i]? = some m := ⟨_, List.getElem?_eq_getElem hlt⟩
    obtain ⟨b, off, cs, rfl, HB, l0, l1, l2, l3⟩ := HR.out.at_ hm
    have hlt1 : (i : Int) < M.length := by omega
    have hst := HO.out.trans (As.okFrom_step hm)
    have sa := As.sa As.z0 m
    have la0 := As.la0 m
    have la1 := As.la1 m
    clear l1 l2 l3 hm
    by_cases hb : m.key.size = 0 ∨ 64 < m.key.size ∨ m.kn ≤ last ∨ 2147483647 < m.kn
    ·have hf : As.ok M = false := by
       rw [hst]
       rcases hb with h | h | h | h <;> simp [h]
     obtain rfl : e = 130 := he.out.trans (As.err_bad hf)
     have hcase : m.key.size = 0 ∨ (m.key.size ≠ 0 ∧ 64 < m.key.size) ∨ (m.key.size ≠ 0 ∧ ¬ 64 < m.key.size ∧ m.kn ≤ last) ∨ (m.key.size ≠ 0 ∧ ¬ 64 < m.key.size ∧ ¬ m.kn ≤ last ∧ 2147483647 < m.kn) := by omega
     clear hst hf HO hb
     rcases hcase with h1 | ⟨h1, h2⟩ | ⟨h1, h2, h3⟩ | ⟨h1, h2, h3, h4⟩
     ·have g1 : ((m.key.size : Int) == 0) = true := beq_iff_eq.2 Zo
      clear h1
      exact z9_57
     ·have g1 : ((m.key.size : Int) == 0) = false := Zb Zo
      have g2 : decide ((64 : Int) < m.key.size) = true := Zt Zo
      clear h1 h2
      exact z9_57
     ·have g1 : ((m.key.size : Int) == 0) = false := Zb Zo
      have g2 : decide ((64 : Int) < m.key.size) = false := Zf Zo
      have g3 : decide (m.kn ≤ last) = true := Zt h3
      clear h1 h2 h3
      exact z9_57
     ·have g1 : ((m.key.size : Int) == 0) = false := Zb Zo
      have g2 : decide ((64 : Int) < m.key.size) = false := Zf Zo
      have g3 : decide (m.kn ≤ last) = false := Zf h3
      have g4 : decide ((2147483647 : Int) < m.kn) = true := Zt Zo
      clear h1 h2 h3 h4
      exact z9_57
    ·have hg : As.ok M = As.okFrom m.kn (M.drop (i + 1)) := by
       rw [hst, Zf Zo, Zf Zo, Zf Zo, Zf Zo]; rfl
     have HG := Zi hg
     have g1 : ((m.key.size : Int) == 0) = false := Zb Zo
     have g2 : decide ((64 : Int) < m.key.size) = false := Zf Zo
     have g3 : decide (m.kn ≤ last) = false := Zf Zo
     have g4 : decide ((2147483647 : Int) < m.kn) = false := Zf Zo
     clear hst hg
     go_wp2_with (first | ((with_reducible refine g_ld ?_); refine a_ld HM ?_) | ((with_reducible refine g_st ?_); refine a_st HM ?_; clear HM; intro w1 HM) | ((with_reducible refine g_al ?_); refine a_al HM ?_; clear HM; intro bk w1 HM))
     go_roundw
     case rel => exact ⟨i + 1, m.kn, by go_num, rfl, by omega, HG, HM.pick⟩
     case measure => simp [intOf]; omega
   ·obtain rfl : i = M.length := by omega
    obtain rfl : e = 0 := he.out.trans (As.err_ok (by rw [HO.out, As.okFrom_end (Nat.le_refl _)]))
    go_wp2_with fail
    go_ret
    exact ⟨rfl, HM.low⟩
end
end Go.Proofs.YtkiempioeffhbaaGreatDoor
