/- Walks. -/
import Derived.Laws.RangeAny
import Derived.Test.YtkiempioeffhbaaGreatDoorPg23
import Derived.Test.YtkiempioeffhbaaGreatDoorPg25
import Derived.Test.YtkiempioeffhbaaGreatDoorPg28
namespace Go.Proofs.YtkiempioeffhbaaGreatDoor
set_option maxHeartbeats 16000000
open Go.RowKit
set_option maxRecDepth 8000
set_option linter.unusedSimpArgs false
set_option linter.unusedVariables false
section
theorem z9_76 {P : Prop} (h : P := by
 rw [known_w] at h
 simp only [Bool.and_eq_true, decide_eq_true_eq] at h
 exact Jb.mk_ok h.1.1 h.1.2.1 h.1.2.2.1 h.1.2.2.2) : P := h
end
section
open Jb
theorem RdS.form9 {n : Nat} {w : World} {sv : Value} {c : Array Value} (h : RdS n w sv [c]) : ∃ A cap, sv = .slice A 1 cap := by
 obtain ⟨A, cap, e⟩ := h.form1
 exact ⟨A, cap, e⟩
theorem RdS.one1 {n : Nat} {T : TypeId} {w : World} {A : Option Addr} {k cap : Nat} {c : Array Value} (h : RdS n w (.slice A k cap) [c]) (hT : aggT T = some true) (hs : sizT T = some n) (hc : c.size = n) (h0 : 0 < n) {i : Nat} (hi : i < 1) : ∃ b off cs, A = some ⟨b, off, none⟩ ∧ Hid (Rbk w b cs) ∧ LA T cs (off + i * n) (.agg c) ∧ Hid (∀ j, j < n → cs[off + i * n + j]? = c[j]?) := by
 obtain rfl : i = 0 := by omega
 obtain ⟨b, off, cs, cap', e, hb, hc'⟩ := h.get (k := 0) (c := c) rfl
 injection e with e1 e2 e3
 exact ⟨b, off, cs, e1, Zi hb, la_in hT hs hc hc' h0, Zi hc'⟩
theorem LA.inRow {U : TypeId} {c cs : Array Value} {p n k : Nat} {v : Value} (h : FA U c k v) (hU : aggT U = some false) (hr : ∀ j, j < n → cs[p + j]? = c[j]?) (hk : k < n) : LA U cs (p + k) v := LA.one hU (by rw [hr k hk]; exact h.cell hU)
theorem Jb.mk_ok {m : As.Mk} (h1 : 1 ≤ m.key.size) (h2 : m.key.size ≤ 64) (h3 : 1 ≤ m.kn) (h4 : m.kn ≤ 2147483647) : As.err [m] = 0 := by
 refine As.err_ok ?_
 rw [As.ok_short Zs, As.okFrom, As.okFrom, Zf (show ¬ m.key.size = 0 by omega), Zf (show ¬ 64 < m.key.size by omega), Zf (show ¬ m.kn ≤ 0 by omega), Zf (show ¬ 2147483647 < m.kn by omega)]
 rfl
theorem mk_build (m : As.Mk) (w : World) : (Instr.build 185 #[(0, .string m.key), (1, .int .i64 m.kn), (2, .bool m.vd)]).run Tryz.prog w = .ok (.agg (As.c m)) w := by kernel_rfl
theorem mk_one (m : As.Mk) : ∀ c ∈ [As.c m], c.all (·.oneCell') = true := As.c_one [m]
theorem mk_el : elemB 170 185 3 32 = true := by kernel_rfl
theorem mk_cap (m : As.Mk) (i : Nat) : ((([m].take i).map As.c).length + [As.c m].length) * (32 + 1) ≤ 140737488355328 := by
 rw [List.length_map, List.length_take]; simp; omega
theorem mk_step {m : As.Mk} {i : Nat} {s : Value} {B : List (Nat × Array Value)} (hi : i < 1) (h : SlAt 3 s ((([m].take i).map As.c) ++ [As.c m]) B) : SlAt 3 s (([m].take (i + 1)).map As.c) B := by
 obtain rfl : i = 0 := by omega
 exact h
theorem mk_rd {m : As.Mk} {s : Value} {B : List (Nat × Array Value)} {w0 w : World} (h : SlAt 3 s (([m].take 1).map As.c) B) (HM : Mem w0 [] B w) : As.Rd w s [m] := ⟨SlAt.rd h HM (fun p hp => hp), by simp⟩
def JA.mrk (a : JA) : As.Mk := ⟨a.key, a.kn, a.vd⟩
def JE.mrk (a : JE) : As.Mk := ⟨a.key, a.kn, a.vd⟩
theorem JA.mk_ok {a : JA} (h : a.right = true) : As.err [a.mrk] = 0 := by
 unfold JA.right at h
 exact z9_76
theorem JE.mk_ok {a : JE} (h : a.right = true) : As.err [a.mrk] = 0 := by
 unfold JE.right at h
 exact z9_76
section
variable {w0 : World} {X : List Nat} {L L' : List (Nat × Array Value)} {K : List Nat} {w : World} {listed : Array Bool}
theorem heldF (HM : Mem w0 X L' w) (hs : Sub L L' := by first | exact Sub.refl _ | (repeat (first | exact Sub.nil | exact Sub.refl _ | refine Sub.keep ?_ | refine Sub.skip ?_))) : Held (fun _ => True) (fun w' => Mem w0 X L w') K listed w := ⟨trivial, fun _ => HM.less hs⟩
end
end
section
theorem z9_77 {P : Prop} (h : P := by
 go_enter Tryz.func67, Tryz.ntmps67
 go_wp2_with (first | ((with_reducible refine g_bld ?_); refine a_rbl (v := .agg B.c) ?_ (hy := h_bg2 rfl Zw Zw (by with_reducible exact (HB)))) | ((with_reducible refine g_ld ?_); refine a_ld HM ?_) | ((with_reducible refine g_st ?_); refine a_st HM ?_; clear HM; intro w1 HM) | ((with_reducible refine g_al ?_); refine a_al HM ?_; clear HM; intro bk w1 HM) | ((with_reducible refine g_bx ?_); refine a_bx HM ?_; clear HM; intro bk w1 HM))
 obtain ⟨b3, rfl⟩ := HM.nm0
 obtain ⟨b2, rfl⟩ := HM.nm1
 refine bodyPost_ret (r_c (b := b2) (k := 0) rfl rfl (HM.get Zl) lR) rfl (by exact ⟨rfl, HM.low⟩)) : P := h
theorem z9_78 {P : Prop} (h : P := by
 go_enter Tryz.func48, Tryz.ntmps48
 go_wp2_with (first | ((with_reducible refine g_ld ?_); refine a_ld HM ?_) | ((with_reducible refine g_bx ?_); refine a_bx HM ?_; clear HM; intro bk w1 HM))
 go_ret
 exact ⟨rfl, HM.low⟩) : P := h
theorem z9_79 {P : Prop} (h : P := by
 clear h1 h2 h3 h4 h5 h6
 go_enter Tryz.func48, Tryz.ntmps48
 go_wp2_with (first | ((with_reducible refine g_ld ?_); refine a_ld HM ?_) | ((with_reducible refine g_bx ?_); refine a_bx HM ?_; clear HM; intro bk w1 HM))
 go_ret
 exact ⟨rfl, HM.low⟩) : P := h
end
section
open Jb
theorem JR.only_of (x : JR) : x.only = (if x.kd = 1 then { JR.zero with kd := x.kd, fnd := x.fnd, q := x.q } else if x.kd = 2 then { JR.zero with kd := x.kd, fnd := x.fnd, a := x.a } else if x.kd = 3 then { JR.zero with kd := x.kd, fnd := x.fnd, e := x.e } else if x.kd = 4 then { JR.zero with kd := x.kd, fnd := x.fnd, o := x.o } else if x.kd = 5 then { JR.zero with kd := x.kd, fnd := x.fnd, t := x.t } else if x.kd = 6 then { JR.zero with kd := x.kd, fnd := x.fnd, s := x.s } else if x.kd = 7 ∨ x.kd = 8 then { JR.zero with kd := x.kd, fnd := x.fnd, day := x.day } else { JR.zero with kd := x.kd, fnd := x.fnd }) := rfl
theorem JR.known_of (x : JR) (n : Int) : x.known n = (if x.kd = 1 then x.q.kn else if x.kd = 2 then x.a.kn else if x.kd = 3 then x.e.kn else if x.kd = 4 then x.o.kn else if x.kd = 5 then x.t.kn else if x.kd = 6 then x.s.kn else n) := rfl
theorem LA.shift1 {T U : TypeId} {c d : Array Value} {k j : Nat} {v : Value} (h : FA U c k (.agg d)) (hU : aggT U = some true) (h2 : FA T d j v) (hT : aggT T = some false) : LA T c (k + j) v := by
 rcases h with ⟨h9, _⟩ | ⟨_, cs, h3, h4, h5, h6⟩
 ·rw [hU] at h9; cases h9
 ·injection h6 with h6
  subst h6
  have h7 := h2.cell hT
  have hj : j < d.size := (Array.getElem?_eq_some_iff.1 h7).1
  refine LA.one hT ?_
  have e2 : (c.extract k (k + d.size))[j]? = c[k + j]? := by rw [Array.getElem?_extract, if_pos Zo]
  rw [← e2, h5]; exact h7
theorem jonly_any (x : JR) (w : World) :
    Calls Tryz.prog 67 #[.agg x.c] w fun e w' => e = .returned (.agg x.only.c) ∧ Below w.heap.size w w' := by
 have HM := Mem.start w
 have lk := (JR.f_kd x).la
 have lf := (JR.f_fnd x).la
 have ld := (JR.f_day x).la
 have lq := (JR.f_q x).la
 have la := (JR.f_a x).la
 have le := (JR.f_e x).la
 have lo := (JR.f_o x).la
 have lt := (JR.f_t x).la
 have ls := (JR.f_s x).la
 have za0 := JR.za
 have HO := JR.only_of x
 obtain ⟨B, hB⟩ : ∃ B : JR, B = { JR.zero with kd := x.kd, fnd := x.fnd } := ⟨_, rfl⟩
 have HB := fun w => JR.bld (parts := #[(0, .int .i64 x.kd), (1, .string x.fnd)]) (r := B) (by simp [Value.cells]) (by rw [JR.rows, hB]; rfl) w
 have sB := B.sa JR.zero.size
 obtain ⟨R, hR⟩ : ∃ R, R = x.only := ⟨_, rfl⟩
 rw [← hR] at HO ⊢
 have lR := R.la
 have sR := R.sa JR.zero.size
 by_cases h1 : x.kd = 1
 ·have sF := JR.s_q B x.q
  rw [if_pos h1] at HO
  rw [show ({ B with q := x.q } : JR) = R by rw [HO, hB]] at sF
  have kk : (x.kd == 1) = true := beq_iff_eq.2 h1
  clear HO hB hR h1
  exact z9_77
 by_cases h2 : x.kd = 2
 ·have sF := JR.s_a B x.a
  rw [if_neg h1, if_pos h2] at HO
  rw [show ({ B with a := x.a } : JR) = R by rw [HO, hB]] at sF
  have k1 : (x.kd == 1) = false := Zb Zo
  have kk : (x.kd == 2) = true := beq_iff_eq.2 h2
  clear HO hB hR h1 h2
  exact z9_77
 by_cases h3 : x.kd = 3
 ·have sF := JR.s_e B x.e
  rw [if_neg h1, if_neg h2, if_pos h3] at HO
  rw [show ({ B with e := x.e } : JR) = R by rw [HO, hB]] at sF
  have k1 : (x.kd == 1) = false := Zb Zo
  have k2 : (x.kd == 2) = false := Zb Zo
  have kk : (x.kd == 3) = true := beq_iff_eq.2 h3
  clear HO hB hR h1 h2 h3
  exact z9_77
 by_cases h4 : x.kd = 4
 ·have sF := JR.s_o B x.o
  rw [if_neg h1, if_neg h2, if_neg h3, if_pos h4] at HO
  rw [show ({ B with o := x.o } : JR) = R by rw [HO, hB]] at sF
  have k1 : (x.kd == 1) = false := Zb Zo
  have k2 : (x.kd == 2) = false := Zb Zo
  have k3 : (x.kd == 3) = false := Zb Zo
  have kk : (x.kd == 4) = true := beq_iff_eq.2 h4
  clear HO hB hR h1 h2 h3 h4
  exact z9_77
 by_cases h5 : x.kd = 5
 ·have sF := JR.s_t B x.t
  rw [if_neg h1, if_neg h2, if_neg h3, if_neg h4, if_pos h5] at HO
  rw [show ({ B with t := x.t } : JR) = R by rw [HO, hB]] at sF
  have k1 : (x.kd == 1) = false := Zb Zo
  have k2 : (x.kd == 2) = false := Zb Zo
  have k3 : (x.kd == 3) = false := Zb Zo
  have k4 : (x.kd == 4) = false := Zb Zo
  have kk : (x.kd == 5) = true := beq_iff_eq.2 h5
  clear HO hB hR h1 h2 h3 h4 h5
  exact z9_77
 by_cases h6 : x.kd = 6
 ·have sF := JR.s_s B x.s
  rw [if_neg h1, if_neg h2, if_neg h3, if_neg h4, if_neg h5, if_pos h6] at HO
  rw [show ({ B with s := x.s } : JR) = R by rw [HO, hB]] at sF
  have k1 : (x.kd == 1) = false := Zb Zo
  have k2 : (x.kd == 2) = false := Zb Zo
  have k3 : (x.kd == 3) = false := Zb Zo
  have k4 : (x.kd == 4) = false := Zb Zo
  have k5 : (x.kd == 5) = false := Zb Zo
  have kk : (x.kd == 6) = true := beq_iff_eq.2 h6
  clear HO hB hR h1 h2 h3 h4 h5 h6
  exact z9_77
 by_cases h7 : x.kd = 7
 ·have sF := JR.s_day B x.day
  rw [if_neg h1, if_neg h2, if_neg h3, if_neg h4, if_neg h5, if_neg h6, if_pos (.inl h7)] at HO
  rw [show ({ B with day := x.day } : JR) = R by rw [HO, hB]] at sF
  have k1 : (x.kd == 1) = false := Zb Zo
  have k2 : (x.kd == 2) = false := Zb Zo
  have k3 : (x.kd == 3) = false := Zb Zo
  have k4 : (x.kd == 4) = false := Zb Zo
  have k5 : (x.kd == 5) = false := Zb Zo
  have k6 : (x.kd == 6) = false := Zb Zo
  have kk : (x.kd == 7) = true := beq_iff_eq.2 h7
  clear HO hB hR h1 h2 h3 h4 h5 h6 h7
  exact z9_77
 by_cases h8 : x.kd = 8
 ·have sF := JR.s_day B x.day
  rw [if_neg h1, if_neg h2, if_neg h3, if_neg h4, if_neg h5, if_neg h6, if_pos (.inr h8)] at HO
  rw [show ({ B with day := x.day } : JR) = R by rw [HO, hB]] at sF
  have k1 : (x.kd == 1) = false := Zb Zo
  have k2 : (x.kd == 2) = false := Zb Zo
  have k3 : (x.kd == 3) = false := Zb Zo
  have k4 : (x.kd == 4) = false := Zb Zo
  have k5 : (x.kd == 5) = false := Zb Zo
  have k6 : (x.kd == 6) = false := Zb Zo
  have k7 : (x.kd == 7) = false := Zb Zo
  have kk : (x.kd == 8) = true := beq_iff_eq.2 h8
  clear HO hB hR h1 h2 h3 h4 h5 h6 h7 h8
  exact z9_77
 rw [if_neg h1, if_neg h2, if_neg h3, if_neg h4, if_neg h5, if_neg h6, if_neg (fun h => h.elim h7 h8)] at HO
 rw [← hB] at HO
 rw [HO] at lR ⊢
 clear sR
 have k1 : (x.kd == 1) = false := Zb Zo
 have k2 : (x.kd == 2) = false := Zb Zo
 have k3 : (x.kd == 3) = false := Zb Zo
 have k4 : (x.kd == 4) = false := Zb Zo
 have k5 : (x.kd == 5) = false := Zb Zo
 have k6 : (x.kd == 6) = false := Zb Zo
 have k7 : (x.kd == 7) = false := Zb Zo
 have k8 : (x.kd == 8) = false := Zb Zo
 clear hB hR h1 h2 h3 h4 h5 h6 h7 h8
 exact z9_77
theorem jknown_any (x : JR) (n : Int) (w : World) :
    Calls Tryz.prog 48 #[.agg x.c, .int .i64 n] w fun e w' => e = .returned (.int .i64 (x.known n)) ∧ Below w.heap.size w w' := by
 have HM := Mem.start w
 have lk := (JR.f_kd x).la
 have HK := JR.known_of x n
 generalize x.known n = v at *
 have lq := LA.shift1 (JR.f_q x) Zk (JQ.f_kn x.q) Zk
 have la := LA.shift1 (JR.f_a x) Zk (JA.f_kn x.a) Zk
 have le := LA.shift1 (JR.f_e x) Zk (JE.f_kn x.e) Zk
 have lo := LA.shift1 (JR.f_o x) Zk (JO.f_kn x.o) Zk
 have lt := LA.shift1 (JR.f_t x) Zk (JT.f_kn x.t) Zk
 have ls := LA.shift1 (JR.f_s x) Zk (JS.f_kn x.s) Zk
 by_cases h1 : x.kd = 1
 ·rw [if_pos h1] at HK
  subst HK
  have kk : (x.kd == 1) = true := beq_iff_eq.2 h1
  clear h1
  exact z9_78
 by_cases h2 : x.kd = 2
 ·rw [if_neg h1, if_pos h2] at HK
  subst HK
  have k1 : (x.kd == 1) = false := Zb Zo
  have kk : (x.kd == 2) = true := beq_iff_eq.2 h2
  clear h1 h2
  exact z9_78
 by_cases h3 : x.kd = 3
 ·rw [if_neg h1, if_neg h2, if_pos h3] at HK
  subst HK
  have k1 : (x.kd == 1) = false := Zb Zo
  have k2 : (x.kd == 2) = false := Zb Zo
  have kk : (x.kd == 3) = true := beq_iff_eq.2 h3
  clear h1 h2 h3
  exact z9_78
 by_cases h4 : x.kd = 4
 ·rw [if_neg h1, if_neg h2, if_neg h3, if_pos h4] at HK
  subst HK
  have k1 : (x.kd == 1) = false := Zb Zo
  have k2 : (x.kd == 2) = false := Zb Zo
  have k3 : (x.kd == 3) = false := Zb Zo
  have kk : (x.kd == 4) = true := beq_iff_eq.2 h4
  clear h1 h2 h3 h4
  exact z9_78
 by_cases h5 : x.kd = 5
 ·rw [if_neg h1, if_neg h2, if_neg h3, if_neg h4, if_pos h5] at HK
  subst HK
  have k1 : (x.kd == 1) = false := Zb Zo
  have k2 : (x.kd == 2) = false := Zb Zo
  have k3 : (x.kd == 3) = false := Zb Zo
  have k4 : (x.kd == 4) = false := Zb Zo
  have kk : (x.kd == 5) = true := beq_iff_eq.2 h5
  clear h1 h2 h3 h4 h5
  exact z9_78
 by_cases h6 : x.kd = 6
 ·rw [if_neg h1, if_neg h2, if_neg h3, if_neg h4, if_neg h5, if_pos h6] at HK
  subst HK
  have k1 : (x.kd == 1) = false := Zb Zo
  have k2 : (x.kd == 2) = false := Zb Zo
  have k3 : (x.kd == 3) = false := Zb Zo
  have k4 : (x.kd == 4) = false := Zb Zo
  have k5 : (x.kd == 5) = false := Zb Zo
  have kk : (x.kd == 6) = true := beq_iff_eq.2 h6
  exact z9_79
 rw [if_neg h1, if_neg h2, if_neg h3, if_neg h4, if_neg h5, if_neg h6] at HK
 subst HK
 have k1 : (x.kd == 1) = false := Zb Zo
 have k2 : (x.kd == 2) = false := Zb Zo
 have k3 : (x.kd == 3) = false := Zb Zo
 have k4 : (x.kd == 4) = false := Zb Zo
 have k5 : (x.kd == 5) = false := Zb Zo
 have k6 : (x.kd == 6) = false := Zb Zo
 exact z9_79
end
section
theorem z9_80 {P : Prop} (h : P := by
 go_wp2_with (first | ((with_reducible refine g_bs1 ?_); refine a_bs1 (c0 := As.c x.mrk) HM ?_; clear HM; intro b9 w9 HM) | ((with_reducible refine g_app ?_); refine a_app (m := [As.c x.mrk]) (F := fun X => X) HM HS.out ((SlAt.made1 b9 rfl).rd HM Zs) ?_ (mk_one _) (hlen := mk_cap _ i); clear HM; intro s9 B9 w9 HS9 HM) | ((with_reducible refine g_ld ?_); refine a_ld HM ?_) | ((with_reducible refine g_st ?_); refine a_st HM ?_; clear HM; intro w1 HM) | ((with_reducible refine g_al ?_); refine a_al HM ?_; clear HM; intro bk w1 HM))
 go_roundw
 case rel => exact ⟨i + 1, B9, by go_num, by omega, Zi (mk_step hlt HS9), HM⟩
 case measure => simp [intOf]; omega) : P := h
theorem z9_81 {P : Prop} (h : P := by
 obtain rfl : i = 1 := by omega
 go_wp2_with fail
 go_ret
 exact ⟨⟨_, rfl, Zi (mk_rd HS.out HM)⟩, HM.low⟩) : P := h
end
section
open Jb
theorem amarks1 (x : JA) (sv : Value) (w : World) (hR : RdS 76 w sv [x.c]) :
    Calls Tryz.prog 88 #[sv] w fun e w' => (∃ s, e = .returned s ∧ Hid (As.Rd w' s [x.mrk])) ∧ Below w.heap.size w w' := by
 have HM := Mem.start w
 obtain ⟨A, cap, rfl⟩ := hR.form9
 have HR := Zi hR
 have za0 := JA.za
 have sx := x.sa JA.zero.size
 have lk := (JA.f_key x).la
 have ln := (JA.f_kn x).la
 have lv := (JA.f_vd x).la
 have HBM := fun w => mk_build x.mrk w
 have elm := mk_el
 clear hR
 go_enter Tryz.func88, Tryz.ntmps88
 go_wp2_with fail
 go_loopw [3, 8] (fun ov iv wr => ∃ (i : Nat) (B : List (Nat × Array Value)), iv = .int .i64 (i : Nat) ∧ i ≤ 1 ∧ Hid (SlAt 3 ov (([x.mrk].take i).map As.c) B) ∧ Mem w [] B wr) (fun _ iv _ => 1 - (intOf iv).toNat)
 case atStart => exact ⟨0, [], rfl, by omega, Zi .nil, HM⟩
 case round =>
  clear HM
  obtain ⟨i, B, rfl, hi, HS, HM⟩ := hrel
  by_cases hlt : i < 1
  ·have hlt1 : (i : Int) < 1 := by omega
   obtain ⟨b, off, cs, rfl, HB, l0, -⟩ := HR.out.one1 (T := 47) Zk Zk x.size Zd hlt
   exact z9_80
  ·exact z9_81
theorem pmarks1 (x : JE) (sv : Value) (w : World) (hR : RdS 10 w sv [x.c]) :
    Calls Tryz.prog 92 #[sv] w fun e w' => (∃ s, e = .returned s ∧ Hid (As.Rd w' s [x.mrk])) ∧ Below w.heap.size w w' := by
 have HM := Mem.start w
 obtain ⟨A, cap, rfl⟩ := hR.form9
 have HR := Zi hR
 have za0 := JE.za
 have sx := x.sa JE.zero.size
 have lk := (JE.f_key x).la
 have ln := (JE.f_kn x).la
 have lv := (JE.f_vd x).la
 have HBM := fun w => mk_build x.mrk w
 have elm := mk_el
 clear hR
 go_enter Tryz.func92, Tryz.ntmps92
 go_wp2_with fail
 go_loopw [3, 8] (fun ov iv wr => ∃ (i : Nat) (B : List (Nat × Array Value)), iv = .int .i64 (i : Nat) ∧ i ≤ 1 ∧ Hid (SlAt 3 ov (([x.mrk].take i).map As.c) B) ∧ Mem w [] B wr) (fun _ iv _ => 1 - (intOf iv).toNat)
 case atStart => exact ⟨0, [], rfl, by omega, Zi .nil, HM⟩
 case round =>
  clear HM
  obtain ⟨i, B, rfl, hi, HS, HM⟩ := hrel
  by_cases hlt : i < 1
  ·have hlt1 : (i : Int) < 1 := by omega
   obtain ⟨b, off, cs, rfl, HB, l0, -⟩ := HR.out.one1 (T := 49) Zk Zk x.size Zd hlt
   exact z9_80
  ·exact z9_81
end
section
open Jb
theorem amk_any (x : JA) (sv : Value) (w : World) (hR : RdS 76 w sv [x.c]) (hv : x.right = true) :
    Calls Tryz.prog 88 #[sv] w fun e w' => (∃ s m, e = .returned s ∧ Hid (As.Rd w' s [m]) ∧ Hid (As.err [m] = 0)) ∧ Below w.heap.size w w' := by
 refine (amarks1 x sv w hR).mono ?_
 rintro e w' ⟨⟨s, rfl, h⟩, hL⟩
 exact ⟨⟨s, _, rfl, h, Zi (JA.mk_ok hv)⟩, hL⟩
theorem pmk_any (x : JE) (sv : Value) (w : World) (hR : RdS 10 w sv [x.c]) (hv : x.right = true) :
    Calls Tryz.prog 92 #[sv] w fun e w' => (∃ s m, e = .returned s ∧ Hid (As.Rd w' s [m]) ∧ Hid (As.err [m] = 0)) ∧ Below w.heap.size w w' := by
 refine (pmarks1 x sv w hR).mono ?_
 rintro e w' ⟨⟨s, rfl, h⟩, hL⟩
 exact ⟨⟨s, _, rfl, h, Zi (JE.mk_ok hv)⟩, hL⟩
end
section
open Jb
theorem JQ.facts {q : JQ} (h : q.right = true) : 1 ≤ q.src.size ∧ q.src.size ≤ 16 ∧ q.ins.size ≤ 12 ∧ Dt.isDay q.day = true ∧ 1 ≤ q.kn ∧ q.kn ≤ 2147483647 := by
 unfold JQ.right at h
 rw [known_w] at h
 simp only [Bool.and_eq_true, decide_eq_true_eq] at h
 obtain ⟨h1, h2, -, h4, h5, -⟩ := h
 have hs : 1 ≤ q.src.size ∧ q.src.size ≤ 16 := by
  refine ⟨?_, ?_⟩
  ·by_cases hz : q.src.size = 0
   ·rw [Nm.usable_no0 hz] at h1; cases h1
   ·omega
  ·by_cases hz : 16 < q.src.size
   ·rw [Nm.usable_no16 hz] at h1; cases h1
   ·omega
 unfold paper at h2
 simp only [Bool.and_eq_true, decide_eq_true_eq] at h2
 exact ⟨hs.1, hs.2, h2.2.1, h4, h5.1, h5.2⟩
theorem qkey_any (s i : ByteArray) (d : Int) (h1 : s.size ≤ 16) (h2 : i.size ≤ 12) (hd : Dt.isDay d = true) (w : World) :
    Calls Tryz.prog 111 #[.string s, .string i, .int .i64 d] w fun e w' => (∃ k : ByteArray, e = .returned (.string k) ∧ k.size = s.size + i.size + 12) ∧ Below w.heap.size w w' := by
 have HM := Mem.start w
 have DF := fun w => dfmt_any d hd w
 clear hd
 go_enter Tryz.func111, Tryz.ntmps111
 go_wp2_with (go_at_call 145; refine (DF _).mono ?_; rintro e9 w2 ⟨⟨t, rfl, ht⟩, hL⟩; replace HM := HM.call hL; clear hL)
 go_ret
 refine ⟨⟨_, rfl, ?_⟩, HM.low⟩
 simp only [ByteArray.size_append, ht]
 show s.size + 1 + i.size + 1 + 10 = _
 omega
theorem qmk_any (x : JQ) (sv : Value) (w : World) (hR : RdS 72 w sv [x.c]) (hv : x.right = true) :
    Calls Tryz.prog 86 #[sv] w fun e w' => (∃ s m, e = .returned s ∧ Hid (As.Rd w' s [m]) ∧ Hid (As.err [m] = 0)) ∧ Below w.heap.size w w' := by
 have HM := Mem.start w
 obtain ⟨A, cap, rfl⟩ := hR.form9
 have HR := Zi hR
 obtain ⟨q1, q2, q3, q4, q5, q6⟩ := JQ.facts hv
 have KY := fun w => qkey_any x.src x.ins x.day q2 q3 q4 w
 have za0 := JQ.za
 have sx := x.sa JQ.zero.size
 have l1 := (JQ.f_src x).la
 have l2 := (JQ.f_ins x).la
 have l3 := (JQ.f_day x).la
 have l5 := (JQ.f_kn x).la
 have l6 := (JQ.f_vd x).la
 have elm := mk_el
 have HE : ∀ k : ByteArray, k.size = x.src.size + x.ins.size + 12 → Hid (As.err [(⟨k, x.kn, x.vd⟩ : As.Mk)] = 0) := fun k hk => Zi (Jb.mk_ok (show 1 ≤ k.size by omega) (show k.size ≤ 64 by omega) q5 q6)
 clear hR hv q1 q2 q3 q4 q5 q6
 go_enter Tryz.func86, Tryz.ntmps86
 go_wp2_with fail
 go_loopw [3, 8] (fun ov iv wr => ∃ (i : Nat) (m : As.Mk) (B : List (Nat × Array Value)), iv = .int .i64 (i : Nat) ∧ i ≤ 1 ∧ Hid (i = 1 → As.err [m] = 0) ∧ Hid (SlAt 3 ov (([m].take i).map As.c) B) ∧ Mem w [] B wr) (fun _ iv _ => 1 - (intOf iv).toNat)
 case atStart => exact ⟨0, As.z0, [], rfl, by omega, Zi (fun h => by omega), Zi .nil, HM⟩
 case round =>
  clear HM
  obtain ⟨i, m, B, rfl, hi, HE9, HS, HM⟩ := hrel
  by_cases hlt : i < 1
  ·have hlt1 : (i : Int) < 1 := by omega
   obtain ⟨b, off, cs, rfl, HB, l0, -⟩ := HR.out.one1 (T := 45) Zk Zk x.size Zd hlt
   go_upto_region 5 with (first | ((with_reducible refine g_ld ?_); refine a_ld HM ?_) | ((with_reducible refine g_st ?_); refine a_st HM ?_; clear HM; intro w1 HM) | ((with_reducible refine g_al ?_); refine a_al HM ?_; clear HM; intro bk w1 HM))
   obtain ⟨bq, rfl⟩ := HM.nm0
   refine start_M2 [] HM ((Sub.keep Sub.nil)) Zk (fun w0x H9 => ?_)
   replace HM := H9; clear H9
   refine k_mv 0 (heldF HM) ?_
   refine k_fa 1 (heldF HM) ?_
   refine k_ld 2 [] (heldF HM) ?_
   refine k_fa 3 (heldF HM) ?_
   refine k_ld 4 [] (heldF HM) ?_
   refine k_fa 5 (heldF HM) ?_
   refine k_ld 6 [] (heldF HM) ?_
   refine k_fa 8 (heldF HM) ?_
   refine k_ld 9 [] (heldF HM) ?_
   refine k_fa 10 (heldF HM) ?_
   refine k_ld 11 [] (heldF HM) ?_
   refine j_one 7 fun K9 hK9 => ?_
   (refine o_callg (KY _) rfl ?_ ?_; (focus (refine h_call3 (ts := ?_) (x1 := ?_) (x2 := ?_) (x3 := ?_) ?_ Zk ?_ ?_ ?_; rotate_left 4; (focus rfl); (focus rfl); (focus rfl); rfl)); rintro e9 w1 ⟨⟨k, rfl, hk⟩, hL⟩; replace HM := HM.call hL; clear hL; refine ⟨_, rfl, ?_⟩; have HEK := HE k hk)
   refine hK9 _ _ (heldF HM) ?_; clear hK9 K9; ((try simp only [Za]); (try simp only [Zx]); (try simp only [Zy]))
   refine t_pure (i := 12) (v := .agg (As.c ⟨k, x.kn, x.vd⟩)) rfl rfl Zk (fun _ _ _ h => h) (heldF HM) Zv ?_ ?_; (focus (exact h_bg3 rfl Zw Zw Zw (fun w => mk_build ⟨k, x.kn, x.vd⟩ w))); ((try simp only [Za]); (try simp only [Zx]); (try simp only [Zy]))
   refine j_one 13 fun K9 hK9 => ?_
   refine j_bs1 (c0 := As.c ⟨k, x.kn, x.vd⟩) HM ?_; clear HM; intro b9 w9 HM
   refine hK9 _ _ (heldF HM) ?_; clear hK9 K9; ((try simp only [Za]); (try simp only [Zx]); (try simp only [Zy]))
   refine j_one 14 fun K9 hK9 => ?_
   refine j_app (m := [As.c ⟨k, x.kn, x.vd⟩]) (F := fun X => (bq, x.c) :: X) HM HS.out ((SlAt.made1 b9 rfl).rd HM Zs) ?_ (mk_one _) (hlen := by rw [List.length_map, List.length_take]; simp; omega); clear HM; intro s9 B9 w9 HS9 HM
   refine hK9 _ _ (heldF HM) ?_; clear hK9 K9; ((try simp only [Za]); (try simp only [Zx]); (try simp only [Zy]))
   refine k_mv 15 (heldF HM) ?_
   refine wpAnyL_done Zk ?_ _
   go_wp2_with fail
   go_roundw
   case rel => exact ⟨i + 1, ⟨k, x.kn, x.vd⟩, B9, by go_num, by omega, Zi (fun _ => HEK.out), Zi (by
    obtain rfl : i = 0 := by omega
    exact HS9), HM.tail⟩
   case measure => simp [intOf]; omega
  ·obtain rfl : i = 1 := by omega
   go_wp2_with fail
   go_ret
   exact ⟨⟨_, rfl, m, Zi (mk_rd HS.out HM), Zi (HE9.out (by trivial))⟩, HM.low⟩
end
section
open Jb
theorem qcheck1 (x : JQ) (hw : x.wf) (sv : Value) (w : World) (hR : RdS 72 w sv [x.c]) :
    Calls Tryz.prog 68 #[sv] w fun e w' => e = .returned (.int .i64 (if x.right = true then 0 else 141)) ∧ Below w.heap.size w w' := by
 have HM := Mem.start w
 obtain ⟨A, cap, rfl⟩ := hR.form9
 have HR := Zi hR
 have za0 := JQ.za
 have sx := x.sa JQ.zero.size
 have lx := x.la
 have C1 := fun w => qline_any x hw w
 have C2 := fun w => belt (qkn_any x.kn (known x.kn) (Zi rfl) w)
 have lkn := (JQ.f_kn x).la
 have HRW : Hid (x.right = (x.line && known x.kn)) := Zi (JQ.right_w x)
 have MK : ∀ w, RdS 72 w (.slice A 1 cap) [x.c] → x.right = true → Calls Tryz.prog 86 #[.slice A 1 cap] w fun e w' => (∃ s m, e = .returned s ∧ Hid (As.Rd w' s [m]) ∧ Hid (As.err [m] = 0)) ∧ Below w.heap.size w w' := fun w hR hv => qmk_any x _ w hR hv
 generalize x.right = v at *
 generalize x.line = b1 at *
 generalize known x.kn = b2 at *
 clear hR
 go_enter Tryz.func68, Tryz.ntmps68
 go_wp2_with fail
 go_loopw [7] (fun iv wr => ∃ (i : Nat), iv = .int .i64 (i : Nat) ∧ i ≤ 1 ∧ Hid (i = 0 ∨ v = true) ∧ Mem w [] [] wr) (fun iv _ => 1 - (intOf iv).toNat)
 case atStart => exact ⟨0, rfl, by omega, Zi (.inl rfl), HM⟩
 case round =>
  clear HM
  obtain ⟨i, rfl, hi, HI, HM⟩ := hrel
  by_cases hlt : i < 1
  ·have hlt1 : (i : Int) < 1 := by omega
   obtain ⟨b, off, cs, rfl, HB, l0, -⟩ := HR.out.one1 (T := 45) Zk Zk x.size Zd hlt
   cases b1 with
   | true =>
    cases b2 with
    | true =>
     have hv9 : v = true := HRW.out
     go_wp2_with (first | ((first | (go_at_call 83; with_reducible refine (C1 _).mono ?_) | (go_at_call 84; with_reducible refine (C2 _).mono ?_)); rintro e9 w2 ⟨rfl, hL⟩; replace HM := HM.call hL; clear hL) | ((with_reducible refine g_ld ?_); refine a_ld HM ?_) | ((with_reducible refine g_st ?_); refine a_st HM ?_; clear HM; intro w1 HM) | ((with_reducible refine g_al ?_); refine a_al HM ?_; clear HM; intro bk w1 HM))
     go_roundw
     case rel => exact ⟨i + 1, by go_num, by omega, Zi (.inr hv9), HM.pick⟩
     case measure => simp [intOf]; omega
    | false =>
     obtain rfl : v = false := HRW.out
     go_wp2_with (first | ((first | (go_at_call 83; with_reducible refine (C1 _).mono ?_) | (go_at_call 84; with_reducible refine (C2 _).mono ?_)); rintro e9 w2 ⟨rfl, hL⟩; replace HM := HM.call hL; clear hL) | ((with_reducible refine g_ld ?_); refine a_ld HM ?_) | ((with_reducible refine g_st ?_); refine a_st HM ?_; clear HM; intro w1 HM) | ((with_reducible refine g_al ?_); refine a_al HM ?_; clear HM; intro bk w1 HM))
     go_ret
     exact ⟨rfl, HM.low⟩
   | false =>
    obtain rfl : v = false := by rw [HRW.out]; rfl
    go_wp2_with (first | ((with_reducible refine g_offw ?_); refine a_offw ?_) | (go_at_call 83; (with_reducible refine Zc HM (C1 _) ?_; clear HM; intro w2 HM)) | ((with_reducible refine g_ld ?_); refine a_ld HM ?_) | ((with_reducible refine g_st ?_); refine a_st HM ?_; clear HM; intro w1 HM) | ((with_reducible refine g_al ?_); refine a_al HM ?_; clear HM; intro bk w1 HM))
    go_ret
    exact ⟨rfl, HM.low⟩
  ·obtain rfl : i = 1 := by omega
   obtain rfl : v = true := by
    rcases HI.out with h | h
    ·omega
    ·exact h
   go_wp2_with (first | (go_at_call 86; refine (MK _ (HR.out.below HM.low) rfl).mono ?_; rintro e9 w2 ⟨⟨s9, m9, rfl, HS9, HE9⟩, hL⟩; replace HM := HM.call hL; clear hL) | (go_at_call 85; refine (check_any s9 [m9] _ HS9.out 0 (Zi HE9.out.symm)).mono ?_; rintro e9 w2 ⟨rfl, hL⟩; replace HM := HM.call hL; clear hL))
   go_ret
   exact ⟨rfl, HM.low⟩
theorem pcf_any (x : JE) (hw : x.wf) (w : World) :
    Calls Tryz.prog 90 #[.agg x.c] w fun e w' => e = .returned (.bool (!x.right)) ∧ Below w.heap.size w w' := by
 have HM := Mem.start w
 have lx := x.la
 have C1 := fun w => pval_any x hw w
 generalize x.right = v at *
 go_enter Tryz.func90, Tryz.ntmps90
 go_wp2_with (first | (go_at_call 91; (with_reducible refine Zc HM (C1 _) ?_; clear HM; intro w2 HM)) | ((with_reducible refine g_ld ?_); refine a_ld HM ?_) | ((with_reducible refine g_bx ?_); refine a_bx HM ?_; clear HM; intro bk w1 HM))
 go_ret
 exact ⟨rfl, HM.low⟩
theorem pidx_any (x : JE) (hw : x.wf) (sv : Value) (w : World) (hR : RdS 10 w sv [x.c]) (v : Bool) (hv : Hid (v = x.right)) :
    Calls Tryz.prog 117 #[sv, .func (.func 90) #[] #[]] w fun e w' => (∃ k : Int, e = .returned (.int .i64 k) ∧ Hid (decide (0 ≤ k) = !v)) ∧ Below w.heap.size w w' := by
 have HM := Mem.start w
 obtain ⟨A, cap, rfl⟩ := hR.form9
 have HR := Zi hR
 have C1 := fun w => pcf_any x hw w
 rw [← hv.out] at C1
 clear hR hv
 go_enter Tryz.func117, Tryz.ntmps117
 go_wp2_with fail
 go_loopw [4, 8] (fun rv iv wr => ∃ i : Nat, rv = .int .i64 0 ∧ iv = .int .i64 (i : Nat) ∧ i ≤ 1 ∧ Hid (i = 0 ∨ v = true) ∧ Mem w [] [] wr) (fun _ iv _ => 1 - (intOf iv).toNat)
 case atStart => exact ⟨0, rfl, rfl, by omega, Zi (.inl rfl), HM⟩
 case round =>
  clear HM
  obtain ⟨i, rfl, rfl, hi, HI, HM⟩ := hrel
  by_cases hlt : i < 1
  ·have hlt1 : (i : Int) < 1 := by omega
   obtain ⟨b, off, cs, rfl, HB, l0, -⟩ := HR.out.one1 (T := 49) Zk Zk x.size Zd hlt
   cases v with
   | true =>
    go_wp2_with (first | (go_at_call 90; (with_reducible refine Zc HM (C1 _) ?_; clear HM; intro w2 HM)) | ((with_reducible refine g_ld ?_); refine a_ld HM ?_))
    go_roundw
    case rel => exact ⟨i + 1, rfl, by go_num, by omega, Zi (.inr (by trivial)), HM.pick⟩
    case measure => simp [intOf]; omega
   | false =>
    go_wp2_with (first | (go_at_call 90; (with_reducible refine Zc HM (C1 _) ?_; clear HM; intro w2 HM)) | ((with_reducible refine g_ld ?_); refine a_ld HM ?_))
    go_ret
    exact ⟨⟨(i : Nat), rfl, Zi (Zt Zo)⟩, HM.low⟩
  ·obtain rfl : i = 1 := by omega
   obtain rfl : v = true := by
    rcases HI.out with h | h
    ·omega
    ·exact h
   go_wp2_with fail
   go_ret
   exact ⟨⟨-1, rfl, Zi (by first | decide | exact Zf Zd)⟩, HM.low⟩
theorem pcont_any (x : JE) (hw : x.wf) (sv : Value) (w : World) (hR : RdS 10 w sv [x.c]) :
    Calls Tryz.prog 89 #[sv, .func (.func 90) #[] #[]] w fun e w' => e = .returned (.bool (!x.right)) ∧ Below w.heap.size w w' := by
 have HM := Mem.start w
 go_enter Tryz.func89, Tryz.ntmps89
 go_upto_region 1 with fail
 go_wp2_with (go_at_call 117; refine (pidx_any x hw sv _ hR _ (Zi rfl)).mono ?_; rintro e9 w2 ⟨⟨k, rfl, HK⟩, hL⟩; replace HM := HM.call hL; clear hL)
 go_ret
 refine ⟨?_, HM.low⟩
 rw [← HK.out]
 rfl
theorem pcheck1 (x : JE) (hw : x.wf) (sv : Value) (w : World) (hR : RdS 10 w sv [x.c]) :
    Calls Tryz.prog 70 #[sv] w fun e w' => e = .returned (.int .i64 (if x.right = true then 0 else 180)) ∧ Below w.heap.size w w' := by
 have HM := Mem.start w
 have HR := Zi hR
 have C1 : ∀ w', Below w.heap.size w w' → Calls Tryz.prog 89 #[sv, .func (.func 90) #[] #[]] w' fun e w'' => e = .returned (.bool (!x.right)) ∧ Below w'.heap.size w' w'' := fun w' hB => pcont_any x hw sv w' (hR.below hB)
 have MK : ∀ w, RdS 10 w sv [x.c] → x.right = true → Calls Tryz.prog 92 #[sv] w fun e w' => (∃ s m, e = .returned s ∧ Hid (As.Rd w' s [m]) ∧ Hid (As.err [m] = 0)) ∧ Below w.heap.size w w' := fun w hR hv => pmk_any x _ w hR hv
 clear hR
 generalize x.right = v at *
 cases v with
 | true =>
  go_enter Tryz.func70, Tryz.ntmps70
  go_wp2_with (first | (go_at_call 89; (with_reducible refine Zc HM (C1 _ HM.low) ?_; clear HM; intro w2 HM)) | (go_at_call 92; refine (MK _ (HR.out.below HM.low) (by trivial)).mono ?_; rintro e9 w2 ⟨⟨s9, m9, rfl, HS9, HE9⟩, hL⟩; replace HM := HM.call hL; clear hL) | (go_at_call 85; refine (check_any s9 [m9] _ HS9.out 0 (Zi HE9.out.symm)).mono ?_; rintro e9 w2 ⟨rfl, hL⟩; replace HM := HM.call hL; clear hL))
  go_ret
  exact ⟨rfl, HM.low⟩
 | false =>
  go_enter Tryz.func70, Tryz.ntmps70
  go_wp2_with (go_at_call 89; (with_reducible refine Zc HM (C1 _ HM.low) ?_; clear HM; intro w2 HM))
  go_ret
  exact ⟨rfl, HM.low⟩
end
end Go.Proofs.YtkiempioeffhbaaGreatDoor
