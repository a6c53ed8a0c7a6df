/- Walks. -/
import Derived.Maps.OwnSet
import Derived.Maps.Views
import Derived.Maps.RangeWalk
import Derived.Sort.KeysCollected
import Derived.Deep.LoopGhost
import Derived.Test.YtkiempioeffhbaaGreatDoorPt13
import Derived.Test.YtkiempioeffhbaaGreatDoorPt20
namespace Go.Proofs.YtkiempioeffhbaaGreatDoor
set_option maxHeartbeats 16000000
set_option maxRecDepth 8000
section
open Go.RowKit Go.Maps
def As.c (m : As.Mk) : Array Value := #[.string m.key, .int .i64 m.kn, .bool m.vd]
theorem As.c_one (M : List As.Mk) : ∀ c ∈ M.map As.c, c.all (·.oneCell') = true := by
 intro c hc
 obtain ⟨m, _, rfl⟩ := List.mem_map.1 hc
 simp [As.c, Value.oneCell']
def As.Rd (w : World) (sv : Value) (M : List As.Mk) : Prop := RdS 3 w sv (M.map As.c) ∧ M.length ≤ 9223372036854775807
theorem As.Rd.form {w : World} {sv : Value} {M : List As.Mk} (h : As.Rd w sv M) : ∃ A cap, sv = .slice A M.length cap := by
 obtain ⟨⟨_, A, cap, e, _⟩, _⟩ := h
 rw [List.length_map] at e
 exact ⟨A, cap, e⟩
theorem As.Rd.below {w w' : World} {sv : Value} {M : List As.Mk} (h : As.Rd w sv M) (hb : Below w.heap.size w w') : As.Rd w' sv M := ⟨h.1.below hb, h.2⟩
theorem As.Rd.at_ {w : World} {A : Option Addr} {n cap : Nat} {M : List As.Mk} (h : As.Rd w (.slice A n cap) M) {i : Nat} {m : As.Mk} (hm : M[i]? = some m) :
    ∃ b off cs, A = some ⟨b, off, none⟩ ∧ Hid (Rbk w b cs) ∧ LA 185 cs (off + i * 3) (.agg (As.c m)) ∧ LA 9 cs (off + i * 3) (.string m.key) ∧ LA 3 cs (off + i * 3 + 1) (.int .i64 m.kn) ∧ LA 4 cs (off + i * 3 + 2) (.bool m.vd) := by
 obtain ⟨b, off, cs, cap', e, hb, hc⟩ := h.1.get (k := i) (c := As.c m) (by rw [List.getElem?_map, hm]; rfl)
 injection e with e1 e2 e3
 refine ⟨b, off, cs, e1, Zi hb, la_in (n := 3) Zk Zk rfl hc Zd, LA.one Zk ?_, LA.one Zk ?_, LA.one Zk ?_⟩
 ·have := hc 0 Zd; rw [Nat.add_zero] at this; rw [this]; rfl
 ·have := hc 1 Zd; rw [this]; rfl
 ·have := hc 2 Zd; rw [this]; rfl
theorem As.Rd.cells {w : World} {A : Option Addr} {n cap : Nat} {M : List As.Mk} (h : As.Rd w (.slice A n cap) M) {i : Nat} {m : As.Mk} (hm : M[i]? = some m) :
    ∃ b off, A = some ⟨b, off, none⟩ ∧ w.cell? ⟨b, off + i * 3, none⟩ = some (.string m.key) ∧ w.cell? ⟨b, off + i * 3 + 1, none⟩ = some (.int .i64 m.kn) ∧ w.cell? ⟨b, off + i * 3 + 2, none⟩ = some (.bool m.vd) := by
 obtain ⟨b, off, cs, cap', e, hb, hc⟩ := h.1.get (k := i) (c := As.c m) (by rw [List.getElem?_map, hm]; rfl)
 injection e with e1 e2 e3
 refine ⟨b, off, e1, ?_, ?_, ?_⟩
 ·have := hc 0 Zd; rw [Nat.add_zero] at this; rw [hb.cell, this]; rfl
 ·have := hc 1 Zd; rw [hb.cell, this]; rfl
 ·have := hc 2 Zd; rw [hb.cell, this]; rfl
theorem As.sa (m m' : As.Mk) : SA 185 (As.c m) 0 (.agg (As.c m')) (As.c m') := SA.whole Zk (As.c_one [m'] _ Zs) rfl
def As.z0 : As.Mk := ⟨{ data := #[] }, 0, false⟩
theorem As.za : ZA 185 (As.c As.z0) := ⟨.agg (As.c As.z0), rfl, fun w => by kernel_rfl⟩
theorem As.la0 (m : As.Mk) : LA 9 (As.c m) 0 (.string m.key) := LA.one Zk rfl
theorem As.la1 (m : As.Mk) : LA 3 (As.c m) 1 (.int .i64 m.kn) := LA.one Zk rfl
theorem Mem.drewN {w0 w : World} {X : List Nat} {L : List (Nat × Array Value)} (h : Mem w0 X L w) (n : Nat) : Mem w0 X L (w.drewN n) :=
 ⟨⟨h.only.os, h.only.tape, h.only.output, h.only.size, h.only.block⟩, h.blk, h.own, h.nod⟩
def IView (D : DataW Unit) (f : ByteArray → Option Nat) : Prop := ∀ (s : ByteArray) (z : DataW Unit), D.atKey (.string s.data.toList) z = ((f s).map fun i : Nat => DataW.lit (.int .i64 (i : Int))).getD z
def IMap (w : World) (b n : Nat) (f : ByteArray → Option Nat) : Prop :=
 ∃ D : DataW Unit, w.ownsMap Tryz.prog 9 (plainElem Tryz.prog 3) b n D ∧ IView D f
end
section
theorem z9_85 {P : Prop} (h : P := by
 go_wp2_with (first | ((with_reducible refine g_ld ?_); refine a_ld HM ?_) | ((with_reducible refine g_st ?_); refine a_st HM ?_; clear HM; intro w1 HM) | ((with_reducible refine g_al ?_); refine a_al HM ?_; clear HM; intro bk w1 HM))
 go_ret
 exact ⟨rfl, HM.low⟩) : P := h
theorem z9_86 {P : Prop} (h : P := by
 obtain rfl : i = M.length := by omega
 obtain rfl : e = 0 := he.out.trans (As.err_ok (by rw [HO.out, As.okFrom_end (Nat.le_refl _)]))
 go_wp2_with fail
 go_ret
 exact ⟨rfl, HM.low⟩) : P := h
theorem z9_87 {P : Prop} (h : P := by
 go_wp2_with fail
 go_quiet (fail)
 go_wp2_with fail
 go_ret
 exact ⟨rfl, (HM.drewN _).low⟩) : P := h
theorem z9_88 {P : Prop} (h : P := by
 go_wp2_with fail
 go_quiet (fail)
 go_wp2_with fail
 go_roundw
 case rel => exact ⟨i + 1, m.kn, by go_num, by omega, HL2, HG, HM.drewN _⟩
 case measure => simp [intOf]; omega) : P := h
end
section
open Go.RowKit Go.Maps
theorem As.okFrom_step {last : Int} {M : List As.Mk} {i : Nat} {m : As.Mk} (hm : M[i]? = some m) : As.okFrom last (M.drop i) = (!(decide (m.key.size = 0) || decide (64 < m.key.size) || decide (m.kn ≤ last) || decide (2147483647 < m.kn)) && As.okFrom m.kn (M.drop (i + 1))) := by
 obtain ⟨hi, e⟩ := List.getElem?_eq_some_iff.1 hm
 rw [List.drop_eq_getElem_cons hi, e, As.okFrom]
theorem As.okFrom_end {last : Int} {M : List As.Mk} {i : Nat} (hi : M.length ≤ i) : As.okFrom last (M.drop i) = true := by
 rw [List.drop_of_length_le hi, As.okFrom]
theorem As.err_bad {M : List As.Mk} (h : As.ok M = false) : As.err M = 130 := by unfold As.err; rw [h]; rfl
theorem As.err_ok {M : List As.Mk} (h : As.ok M = true) : As.err M = 0 := by unfold As.err; rw [h]; rfl
theorem As.ok_long {M : List As.Mk} (h : 4096 < M.length) : As.ok M = false := by
 unfold As.ok; rw [Zf Zo]; rfl
theorem As.ok_short {M : List As.Mk} (h : ¬ 4096 < M.length) : As.ok M = As.okFrom 0 M := by
 unfold As.ok; rw [Zt Zo, Bool.true_and]
theorem check_any (sv : Value) (M : List As.Mk) (w : World) (hR : As.Rd w sv M) (e : Int) (he : Hid (e = As.err M)) :
    Calls Tryz.prog 85 #[sv] w fun r w' => r = .returned (.int .i64 e) ∧ Below w.heap.size w w' := by
 have HM := Mem.start w
 obtain ⟨A, cap, rfl⟩ := hR.form
 have HR := Zi hR
 have hML := hR.2
 have hz := As.za
 clear hR
 by_cases hl : 4096 < M.length
 ·obtain rfl : e = 130 := he.out.trans (As.err_bad (As.ok_long hl))
  have hl1 : (4096 : Int) < M.length := by omega
  go_enter Tryz.func85, Tryz.ntmps85
  go_wp2_with fail
  go_ret
  exact ⟨rfl, HM.low⟩
 ·have hok := Zi (As.ok_short hl)
  have hl1 : (M.length : Int) ≤ 4096 := by omega
  go_enter Tryz.func85, Tryz.ntmps85
  go_wp2_with fail
  go_loopw [3, 11] (fun lv iv wr => ∃ (i : Nat) (last : Int), iv = .int .i64 (i : Nat) ∧ lv = .int .i64 last ∧ i ≤ M.length ∧ Hid (As.ok M = As.okFrom last (M.drop i)) ∧ Mem w [] [] wr) (fun _ iv _ => M.length - (intOf iv).toNat)
  case atStart => exact ⟨0, 0, rfl, rfl, by omega, hok, HM⟩
  case round =>
   clear HM hok
   obtain ⟨i, last, rfl, rfl, hi, HO, HM⟩ := hrel
   by_cases hlt : i < M.length
   ·obtain ⟨m, hm⟩ : ∃ m, M[i]? = some m := ⟨_, List.getElem?_eq_getElem hlt⟩
    obtain ⟨b, off, cs, rfl, HB, l0, l1, l2, l3⟩ := HR.out.at_ hm
    have hlt1 : (i : Int) < M.length := by omega
    have hst := HO.out.trans (As.okFrom_step hm)
    have sa := As.sa As.z0 m
    have la0 := As.la0 m
    have la1 := As.la1 m
    clear l1 l2 l3 hm
    by_cases hb : m.key.size = 0 ∨ 64 < m.key.size ∨ m.kn ≤ last ∨ 2147483647 < m.kn
    ·have hf : As.ok M = false := by
       rw [hst]
       rcases hb with h | h | h | h <;> simp [h]
     obtain rfl : e = 130 := he.out.trans (As.err_bad hf)
     have hcase : m.key.size = 0 ∨ (m.key.size ≠ 0 ∧ 64 < m.key.size) ∨ (m.key.size ≠ 0 ∧ ¬ 64 < m.key.size ∧ m.kn ≤ last) ∨ (m.key.size ≠ 0 ∧ ¬ 64 < m.key.size ∧ ¬ m.kn ≤ last ∧ 2147483647 < m.kn) := by omega
     clear hst hf HO hb
     rcases hcase with h1 | ⟨h1, h2⟩ | ⟨h1, h2, h3⟩ | ⟨h1, h2, h3, h4⟩
     ·have g1 : ((m.key.size : Int) == 0) = true := beq_iff_eq.2 Zo
      clear h1
      exact z9_85
     ·have g1 : ((m.key.size : Int) == 0) = false := Zb Zo
      have g2 : decide ((64 : Int) < m.key.size) = true := Zt Zo
      clear h1 h2
      exact z9_85
     ·have g1 : ((m.key.size : Int) == 0) = false := Zb Zo
      have g2 : decide ((64 : Int) < m.key.size) = false := Zf Zo
      have g3 : decide (m.kn ≤ last) = true := Zt h3
      clear h1 h2 h3
      exact z9_85
     ·have g1 : ((m.key.size : Int) == 0) = false := Zb Zo
      have g2 : decide ((64 : Int) < m.key.size) = false := Zf Zo
      have g3 : decide (m.kn ≤ last) = false := Zf h3
      have g4 : decide ((2147483647 : Int) < m.kn) = true := Zt Zo
      clear h1 h2 h3 h4
      exact z9_85
    ·have hg : As.ok M = As.okFrom m.kn (M.drop (i + 1)) := by
       rw [hst, Zf Zo, Zf Zo, Zf Zo, Zf Zo]; rfl
     have HG := Zi hg
     have g1 : ((m.key.size : Int) == 0) = false := Zb Zo
     have g2 : decide ((64 : Int) < m.key.size) = false := Zf Zo
     have g3 : decide (m.kn ≤ last) = false := Zf Zo
     have g4 : decide ((2147483647 : Int) < m.kn) = false := Zf Zo
     clear hst hg
     go_wp2_with (first | ((with_reducible refine g_ld ?_); refine a_ld HM ?_) | ((with_reducible refine g_st ?_); refine a_st HM ?_; clear HM; intro w1 HM) | ((with_reducible refine g_al ?_); refine a_al HM ?_; clear HM; intro bk w1 HM))
     go_roundw
     case rel => exact ⟨i + 1, m.kn, by go_num, rfl, by omega, HG, HM.pick⟩
     case measure => simp [intOf]; omega
   ·exact z9_86
theorem rcheck_any (sv : Value) (M : List As.Mk) (w : World) (hR : As.Rd w sv M) (e : Int) (he : Hid (e = As.err M)) :
    Calls Tryz.prog 100 #[sv] w fun r w' => r = .returned (.int .i64 e) ∧ Below w.heap.size w w' := by
 have HM := Mem.start w
 obtain ⟨A, cap, rfl⟩ := hR.form
 have HR := Zi hR
 have hML := hR.2
 clear hR
 by_cases hl : 4096 < M.length
 ·obtain rfl : e = 130 := he.out.trans (As.err_bad (As.ok_long hl))
  have hl1 : (4096 : Int) < M.length := by omega
  go_enter Tryz.func100, Tryz.ntmps100
  go_wp2_with fail
  go_ret
  exact ⟨rfl, HM.low⟩
 ·have hok := Zi (As.ok_short hl)
  have hl1 : (M.length : Int) ≤ 4096 := by omega
  go_enter Tryz.func100, Tryz.ntmps100
  go_wp2_with fail
  go_loopw [3] (fun iv wr => ∃ (i : Nat) (last : Int), iv = .int .i64 (i : Nat) ∧ i ≤ M.length ∧ Hid ((i = 0 ∧ last = 0) ∨ (0 < i ∧ 0 ≤ last ∧ ∃ p, M[i - 1]? = some p ∧ p.kn = last)) ∧ Hid (As.ok M = As.okFrom last (M.drop i)) ∧ Mem w [] [] wr) (fun iv _ => M.length - (intOf iv).toNat)
  case atStart => exact ⟨0, 0, rfl, by omega, Zi (.inl ⟨rfl, rfl⟩), hok, HM⟩
  case round =>
   clear HM hok
   obtain ⟨i, last, rfl, hi, HL, HO, HM⟩ := hrel
   by_cases hlt : i < M.length
   ·obtain ⟨m, hm⟩ : ∃ m, M[i]? = some m := ⟨_, List.getElem?_eq_getElem hlt⟩
    have hR1 := HR.out.below HM.low
    obtain ⟨b, off, rfl, c0, c1, -⟩ := hR1.cells hm
    have hlt1 : (i : Int) < M.length := by omega
    have hst := HO.out.trans (As.okFrom_step hm)
    have hla : 0 ≤ last := by rcases HL.out with ⟨_, h⟩ | ⟨_, h, _⟩ <;> omega
    by_cases hb : m.key.size = 0 ∨ 64 < m.key.size ∨ m.kn ≤ last ∨ 2147483647 < m.kn
    ·have hf : As.ok M = false := by
       rw [hst]
       rcases hb with h | h | h | h <;> simp [h]
     obtain rfl : e = 130 := he.out.trans (As.err_bad hf)
     have hcase : m.key.size < 1 ∨ (¬ m.key.size < 1 ∧ 64 < m.key.size) ∨ (¬ m.key.size < 1 ∧ ¬ 64 < m.key.size ∧ m.kn < 1) ∨ (¬ m.key.size < 1 ∧ ¬ 64 < m.key.size ∧ ¬ m.kn < 1 ∧ 2147483647 < m.kn) ∨ (¬ m.key.size < 1 ∧ ¬ 64 < m.key.size ∧ ¬ m.kn < 1 ∧ ¬ 2147483647 < m.kn ∧ m.kn ≤ last) := by omega
     clear hst hf HO hb
     rcases hcase with h1 | ⟨h1, h2⟩ | ⟨h1, h2, h3⟩ | ⟨h1, h2, h3, h4⟩ | ⟨h1, h2, h3, h4, h5⟩
     ·have g1 : decide ((m.key.size : Int) < 1) = true := Zt Zo
      clear h1 hR1
      exact z9_87
     ·have g1 : decide ((m.key.size : Int) < 1) = false := Zf Zo
      have g2 : decide ((64 : Int) < m.key.size) = true := Zt Zo
      clear h1 h2 hR1
      exact z9_87
     ·have g1 : decide ((m.key.size : Int) < 1) = false := Zf Zo
      have g2 : decide ((64 : Int) < m.key.size) = false := Zf Zo
      have g3 : decide (m.kn < 1) = true := Zt h3
      clear h1 h2 h3 hR1
      exact z9_87
     ·have g1 : decide ((m.key.size : Int) < 1) = false := Zf Zo
      have g2 : decide ((64 : Int) < m.key.size) = false := Zf Zo
      have g3 : decide (m.kn < 1) = false := Zf h3
      have g4 : decide ((2147483647 : Int) < m.kn) = true := Zt Zo
      clear h1 h2 h3 h4 hR1
      exact z9_87
     ·obtain ⟨hi0, p, hp, hpk⟩ : 0 < i ∧ ∃ p, M[i - 1]? = some p ∧ p.kn = last := by
        rcases HL.out with ⟨_, h⟩ | ⟨h, _, h2⟩
        ·omega
        ·exact ⟨h, h2⟩
      obtain ⟨b2, off2, e2, -, c2, -⟩ := hR1.cells hp
      injection e2 with e2
      injection e2 with e2 e3 e4
      subst e2 e3
      rw [hpk] at c2
      have hi1 : ((i : Int) - 1).toNat = i - 1 := by omega
      have hi2 : (0 : Int) ≤ (i : Int) - 1 := by omega
      have hi3 : (i : Int) - 1 < M.length := by omega
      have g0 : decide ((0 : Int) < i) = true := Zt Zo
      have g1 : decide ((m.key.size : Int) < 1) = false := Zf Zo
      have g2 : decide ((64 : Int) < m.key.size) = false := Zf Zo
      have g3 : decide (m.kn < 1) = false := Zf h3
      have g4 : decide ((2147483647 : Int) < m.kn) = false := Zf Zo
      have g5 : decide (m.kn ≤ last) = true := Zt h5
      clear h1 h2 h3 h4 h5 hR1 hp hm hpk e4
      exact z9_87
    ·have hg : As.ok M = As.okFrom m.kn (M.drop (i + 1)) := by
       rw [hst, Zf (show ¬ m.key.size = 0 by omega), Zf (show ¬ 64 < m.key.size by omega), Zf (show ¬ m.kn ≤ last by omega), Zf (show ¬ 2147483647 < m.kn by omega)]; rfl
     have HG := Zi hg
     have HL2 : Hid ((i + 1 = 0 ∧ m.kn = 0) ∨ (0 < i + 1 ∧ 0 ≤ m.kn ∧ ∃ p, M[i + 1 - 1]? = some p ∧ p.kn = m.kn)) := Zi (.inr ⟨by omega, by omega, m, by simpa using hm, rfl⟩)
     have g1 : decide ((m.key.size : Int) < 1) = false := Zf Zo
     have g2 : decide ((64 : Int) < m.key.size) = false := Zf Zo
     have g3 : decide (m.kn < 1) = false := Zf Zo
     have g4 : decide ((2147483647 : Int) < m.kn) = false := Zf Zo
     have hnl : ¬ m.kn ≤ last := by omega
     clear hst hg hb
     by_cases hi0 : 0 < i
     ·obtain ⟨p, hp, hpk⟩ : ∃ p, M[i - 1]? = some p ∧ p.kn = last := by
        rcases HL.out with ⟨h, _⟩ | ⟨_, _, h2⟩
        ·omega
        ·exact h2
      obtain ⟨b2, off2, e2, -, c2, -⟩ := hR1.cells hp
      injection e2 with e2
      injection e2 with e2 e3 e4
      subst e2 e3
      rw [hpk] at c2
      have hi1 : ((i : Int) - 1).toNat = i - 1 := by omega
      have hi2 : (0 : Int) ≤ (i : Int) - 1 := by omega
      have hi3 : (i : Int) - 1 < M.length := by omega
      have g0 : decide ((0 : Int) < i) = true := Zt Zo
      have g00 : decide (0 < i) = true := Zt hi0
      have g5 : decide (m.kn ≤ last) = false := Zf hnl
      clear hR1 hp hm hpk e4
      exact z9_88
     ·have g0 : decide ((0 : Int) < i) = false := Zf Zo
      have g00 : decide (0 < i) = false := Zf hi0
      clear hR1 hm hnl hi0
      exact z9_88
   ·exact z9_86
end
end Go.Proofs.YtkiempioeffhbaaGreatDoor
