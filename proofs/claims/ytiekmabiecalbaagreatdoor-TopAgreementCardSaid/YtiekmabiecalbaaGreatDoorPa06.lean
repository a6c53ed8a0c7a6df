/- Walks. -/
import Derived.Test.YtiekmabiecalbaaGreatDoorPa01
namespace Go.Proofs.YtiekmabiecalbaaGreatDoor
set_option maxHeartbeats 16000000
open Go.RowKit
set_option maxRecDepth 8000
section
theorem z9_15 {P : Prop} (h : P := by
 rw [← Bg.toZ_canon s M, ← Bg.toZ_canon t N, ← h1, ← h2]
 unfold Bg.dif
 rw [if_pos Zo]
 cases s1 <;> simp [Bg.toZ] <;> omega) : P := h
theorem z9_16 {P : Prop} (h : P := by
 refine bodyPost_ret (res_cell rfl _ rfl (lv_z HR.out.1)) rfl ⟨rfl, HR.out.2⟩) : P := h
end
section
namespace Bg
def toZ (s : Bool) (N : Nat) : Int := if s then -(N : Int) else N
@[irreducible] def zA (z : Int) : Array Value := intA (decide (z < 0)) z.natAbs
def iv (z : Int) : Value := .agg (zA z)
theorem toZ_abs (s : Bool) (N : Nat) : (toZ s N).natAbs = N := by cases s <;> simp [toZ]
theorem toZ_neg (s : Bool) (N : Nat) : decide (toZ s N < 0) = (s && decide (N ≠ 0)) := by
 cases s
 ·simp [toZ]
 ·by_cases h : N = 0
  ·simp [toZ, h]
  ·have : 0 < N := by omega
   simp [toZ, h, this]
theorem iv_toZ (s : Bool) (N : Nat) : iv (toZ s N) = intV (s && decide (N ≠ 0)) N := by
 unfold iv zA intV; rw [toZ_abs, toZ_neg]
theorem toZ_canon (s : Bool) (N : Nat) : toZ (s && decide (N ≠ 0)) N = toZ s N := by
 cases s
 ·simp [toZ]
 ·by_cases h : N = 0 <;> simp [toZ, h]
end Bg
section
variable {ops : Array Oper} {rest : List Oper} {o : Oper} {a : Act} {w : World} {Q : Exit → Act → World → Prop}
theorem sn_mag (N : Nat) (hg : o.guard = none) (x y : Operand) (ho : o.op = .store 167 x y) (hx : a.eval x = .pointer (some ⟨w.heap.size, 0, none⟩)) (hy : a.eval y = .agg (Bg.row 32 N))
    (h : wpList Tryz.prog ops Q rest (a.put o.dst undef) (w.alloc (.cells (Bg.row 32 N) 167))) : wpList Tryz.prog ops Q (o :: rest) a (w.alloc (.cells (Bg.row 32 0) 167)) := by
 refine st_mag N _ hg x y ho _ hx hy (Blk.new w (Bg.row 32 0) _) (Bg.row_size 32 0) ?_
 rw [World.setRow_alloc_new]
 exact h
end
theorem st_z (z : Int) (c : Array Value) {ops : Array Oper} {rest : List Oper} {o : Oper} {a : Act} {w : World} {Q : Exit → Act → World → Prop} (hg : o.guard = none) (x y : Operand) (ho : o.op = .store 33 x y) (b : Nat) (hx : a.eval x = .pointer (some ⟨b, 0, none⟩)) (hy : a.eval y = .agg (Bg.zA z)) (hb : Blk w b c) (hc : c.size = 33)
    (h : wpList Tryz.prog ops Q rest (a.put o.dst undef) (w.setRow b (Bg.zA z))) : wpList Tryz.prog ops Q (o :: rest) a w := by
 unfold Bg.zA at hy h
 exact st_int _ _ c hg x y ho b hx hy hb hc h
theorem lv_z {w : World} {z : Int} {b : Nat} (hb : Blk w b (Bg.zA z)) : (loadVar 33 ⟨b, 0, none⟩).run Tryz.prog w = .ok (.agg (Bg.zA z)) w := by
 unfold Bg.zA at hb ⊢
 exact lv_int hb
theorem made_z (s : Bool) (N : Nat) (hN : N < Bg.lim) (w : World) :
    Calls Tryz.prog 136 #[.bool s, Bg.magV N] w fun e w' => e = .returned (Bg.iv (Bg.toZ s N)) ∧ Below w.heap.size w w' := by
 rw [Bg.iv_toZ]; exact made_any s N hN w
theorem zA_zero : Bg.intA false 0 = Bg.zA 0 := by unfold Bg.zA; rfl
structure In1 (w w1 : World) (s : Bool) (N : Nat) : Prop where
 x : Blk w1 w.heap.size (Bg.intA s N)
 r : Blk w1 (w.heap.size + 1) (Bg.intA false 0)
 l : Below w.heap.size w w1
 z : w1.heap.size = w.heap.size + 2
theorem in1 (w : World) (s : Bool) (N : Nat) : In1 w ((w.alloc (.cells (Bg.intA s N) 33)).alloc (.cells (Bg.intA false 0) 33)) s N := by
 refine ⟨(Blk.new w _ _).alloc _, ?_, (below_new w _).alloc Zs _, by simp⟩
 have := Blk.new (w.alloc (.cells (Bg.intA s N) 33)) (Bg.intA false 0) 33
 rwa [alloc_size] at this
set_option maxRecDepth 20000 in
theorem neg_any (s : Bool) (N : Nat) (hN : N < Bg.lim) (w : World) :
    Calls Tryz.prog 107 #[Bg.intV s N] w fun e w' => e = .returned (Bg.iv (-Bg.toZ s N)) ∧ Below w.heap.size w w' := by
 have hz := Bg.zero32
 have hzi := Bg.zeroInt
 have hs2 := Bg.intA_size false 0
 obtain ⟨w1, hw1⟩ : ∃ w1, w1 = (w.alloc (.cells (Bg.intA s N) 33)).alloc (.cells (Bg.intA false 0) 33) := ⟨_, rfl⟩
 have HI := Zi (hw1 ▸ in1 w s N)
 obtain ⟨z, hzz⟩ : ∃ z, z = -Bg.toZ s N := ⟨_, rfl⟩
 rw [← hzz]
 have HQ := Zi hzz
 clear hzz
 unfold Bg.intV
 go_enter Tryz.func107, Tryz.ntmps107
 go_wp2_with (first
  | (rw [← hw1]; refine ld_int s N rfl _ rfl _ rfl HI.out.x ?_; clear hw1)
  | (go_at_call 120; refine (split_any s N hN _).mono ?_; rintro e w2 ⟨rfl, hL⟩; unfold Bg.magV; have HL := Zi hL; clear hL)
  | (refine sn_mag N rfl _ _ rfl rfl rfl ?_)
  | (refine ld_mag N rfl _ rfl _ rfl (Blk.new w2 (Bg.row 32 N) 167) ?_)
  | (go_at_call 136; refine (made_z _ N hN _).mono ?_; rintro e w4 ⟨rfl, hM⟩; generalize hv : Bg.toZ _ N = v; have HV := Zi hv; unfold Bg.iv; have HM := Zi hM; clear hM hv)
  | (refine st_z v (Bg.intA false 0) rfl _ _ rfl (w.heap.size + 1) rfl rfl ?hb hs2 ?_; (case hb => exact ((HI.out.r.below HL.out (by have := HI.out.z; omega)).alloc _).below HM.out (by have := HI.out.z; have := HL.out.size; simp; omega)); generalize hq : World.setRow _ _ _ = w5))
 have HF := Zi (((HI.out.r.below HL.out (by have := HI.out.z; omega)).alloc (.cells (Bg.row 32 N) 167)).below HM.out (by have := HI.out.z; have := HL.out.size; simp; omega) |>.setRow (Bg.zA v))
 rw [hq] at HF
 have HG : Below w.heap.size w w5 := by
  rw [← hq]
  exact below_setRow (((HI.out.l.trans (HL.out.mono (by have := HI.out.z; omega))).alloc (by have := HI.out.z; have := HL.out.size; omega) _).trans (HM.out.mono (by have := HI.out.z; have := HL.out.size; simp; omega))) Zo _
 refine bodyPost_ret (res_cell rfl _ rfl (lv_z HF.out)) rfl ⟨?_, HG⟩
 have : v = z := by
  rw [← HV.out, HQ.out]
  cases s <;> by_cases h : N = 0 <;> simp [Bg.toZ, h]
 rw [this]
 rfl
end
section
def Own (w wc : World) (l : List (Nat × Array Value)) : Prop := Below w.heap.size w wc ∧ ∀ p ∈ l, Blk wc p.1 p.2
theorem Own.start (w : World) : Own w w [] := ⟨Below.refl _ _, by simp⟩
theorem Own.alloc {w wc : World} {l : List (Nat × Array Value)} (h : Own w wc l) (c : Array Value) (t : TypeId) : Own w (wc.alloc (.cells c t)) ((wc.heap.size, c) :: l) := by
 refine ⟨h.1.alloc h.1.size _, fun p hp => ?_⟩
 rcases List.mem_cons.1 hp with rfl | hp
 ·exact Blk.new wc c t
 ·exact (h.2 p hp).alloc _
theorem Own.call {w wc w' : World} {l : List (Nat × Array Value)} (h : Own w wc l) (hb : Below wc.heap.size wc w') : Own w w' l :=
 ⟨h.1.trans (hb.mono h.1.size), fun p hp => (h.2 p hp).below hb (h.2 p hp).lt⟩
theorem Own.get {w wc : World} {l : List (Nat × Array Value)} (h : Own w wc l) {b : Nat} {c : Array Value} (hm : (b, c) ∈ l) : Blk wc b c := h.2 _ hm
theorem Own.fin {w wc : World} {l : List (Nat × Array Value)} (h : Own w wc l) {b : Nat} {c : Array Value} (hm : (b, c) ∈ l) (hb : w.heap.size ≤ b) (c' : Array Value) : Blk (wc.setRow b c') b c' ∧ Below w.heap.size w (wc.setRow b c') :=
 ⟨(h.get hm).setRow c', below_setRow h.1 hb c'⟩
theorem own2 (w : World) (c d : Array Value) (t u : TypeId) : Own w ((w.alloc (.cells c t)).alloc (.cells d u)) [(w.heap.size + 1, d), (w.heap.size, c)] := by
 have := ((Own.start w).alloc c t).alloc d u
 rwa [alloc_size] at this
theorem own3 (w : World) (c d e : Array Value) (t u v : TypeId) : Own w (((w.alloc (.cells c t)).alloc (.cells d u)).alloc (.cells e v)) [(w.heap.size + 2, e), (w.heap.size + 1, d), (w.heap.size, c)] := by
 have := (own2 w c d t u).alloc e v
 rwa [alloc_size, alloc_size] at this
theorem split_as (s s1 : Bool) (N : Nat) (hN : N < Bg.lim) (h : Hid (s1 = (s && decide (N ≠ 0)))) (w : World) :
    Calls Tryz.prog 120 #[.agg (Bg.intA s N)] w fun e w' => e = .returned (.tuple #[.bool s1, .agg (Bg.row 32 N)]) ∧ Below w.heap.size w w' := by
 rw [h.out]; exact split_any s N hN w
theorem made_as (s : Bool) (N : Nat) (z : Int) (hN : N < Bg.lim) (h : Hid (z = Bg.toZ s N)) (w : World) :
    Calls Tryz.prog 136 #[.bool s, .agg (Bg.row 32 N)] w fun e w' => e = .returned (.agg (Bg.zA z)) ∧ Below w.heap.size w w' := by
 rw [h.out]; exact made_z s N hN w
theorem Bg.add_same {s t s1 : Bool} {M N : Nat} (h1 : s1 = (s && decide (M ≠ 0))) (h2 : s1 = (t && decide (N ≠ 0))) : Bg.toZ s M + Bg.toZ t N = Bg.toZ s1 (M + N) := by
 rw [← Bg.toZ_canon s M, ← Bg.toZ_canon t N, ← h1, ← h2]
 cases s1 <;> simp [Bg.toZ] <;> omega
theorem Bg.add_less {s t s1 : Bool} {M N : Nat} (h1 : s1 = (s && decide (M ≠ 0))) (h2 : (!s1) = (t && decide (N ≠ 0))) (hl : M < N) : Bg.toZ s M + Bg.toZ t N = Bg.toZ (!s1) (Bg.dif N M) := by
 exact z9_15
theorem Bg.add_more {s t s1 : Bool} {M N : Nat} (h1 : s1 = (s && decide (M ≠ 0))) (h2 : (!s1) = (t && decide (N ≠ 0))) (hl : ¬ M < N) : Bg.toZ s M + Bg.toZ t N = Bg.toZ s1 (Bg.dif M N) := by
 exact z9_15
def Bg.resV (z : Int) : Value := if z.natAbs < Bg.lim then .tuple #[Bg.iv z, .int .i64 0] else .tuple #[Bg.iv 0, .int .i64 10]
theorem Bg.resV_yes {z : Int} (h : z.natAbs < Bg.lim) : Bg.resV z = .tuple #[.agg (Bg.zA z), .int .i64 0] := by unfold Bg.resV; rw [if_pos h]; rfl
theorem Bg.resV_no {z : Int} (h : ¬ z.natAbs < Bg.lim) : Bg.resV z = .tuple #[.agg (Bg.zA 0), .int .i64 10] := by unfold Bg.resV; rw [if_neg h]; rfl
theorem compare_b (ba bb a b : Nat) (c : Int) (ha : a < Bg.lim) (hb : b < Bg.lim) (hc : Hid (c = Bg.cmp a b)) (w : World) (hA : Blk w ba (Bg.row 32 a)) (hB : Blk w bb (Bg.row 32 b)) :
    Calls Tryz.prog 156 #[.pointer (some ⟨ba, 0, none⟩), .pointer (some ⟨bb, 0, none⟩)] w fun e w' => e = .returned (.int .i64 c) ∧ Below w.heap.size w w' := by
 rw [hc.out]
 refine (compare_any ba bb a b ha hb w hA hB).mono ?_
 rintro e w' ⟨h, n, rfl⟩
 exact ⟨h, below_drewN (Below.refl _ _) n⟩
theorem minus_as (ba bb a b d : Nat) (ha : a < Bg.lim) (hb : b < Bg.lim) (hd : Hid (d = Bg.dif a b)) (w : World) (hA : Blk w ba (Bg.row 32 a)) (hB : Blk w bb (Bg.row 32 b)) :
    Calls Tryz.prog 160 #[.pointer (some ⟨ba, 0, none⟩), .pointer (some ⟨bb, 0, none⟩)] w fun e w' => e = .returned (.agg (Bg.row 32 d)) ∧ Below w.heap.size w w' := by
 rw [hd.out]; exact minus_any ba bb a b ha hb w hA hB
theorem plus_as (ba bb a b c : Nat) (f : Bool) (ha : a < Bg.lim) (hb : b < Bg.lim) (hc : Hid (c = (a + b) % Bg.lim)) (hf : Hid (f = decide (a + b < Bg.lim))) (w : World) (hA : Blk w ba (Bg.row 32 a)) (hB : Blk w bb (Bg.row 32 b)) :
    Calls Tryz.prog 159 #[.pointer (some ⟨ba, 0, none⟩), .pointer (some ⟨bb, 0, none⟩)] w fun e w' => e = .returned (.tuple #[.agg (Bg.row 32 c), .bool f]) ∧ Below w.heap.size w w' := by
 rw [hc.out, hf.out]; exact plus_any ba bb a b ha hb w hA hB
set_option maxRecDepth 20000 in
theorem add_any0 (s t : Bool) (M N : Nat) (hM : M < Bg.lim) (hN : N < Bg.lim) (z : Int) (hzz : Hid (z = Bg.toZ s M + Bg.toZ t N)) (w : World) :
    Calls Tryz.prog 151 #[.agg (Bg.intA s M), .agg (Bg.intA t N)] w fun e w' => e = .returned (Bg.resV z) ∧ Below w.heap.size w w' := by
 have hz := Bg.zero32
 have hzi := Bg.zeroInt
 have hs2 := Bg.intA_size false 0
 obtain ⟨w1, hw1⟩ : ∃ w1, w1 = ((w.alloc (.cells (Bg.intA s M) 33)).alloc (.cells (Bg.intA t N) 33)).alloc (.cells (Bg.intA false 0) 33) := ⟨_, rfl⟩
 have HO0 := own3 w (Bg.intA s M) (Bg.intA t N) (Bg.intA false 0) 33 33 33
 rw [← hw1] at HO0
 have HO := Zi HO0
 clear HO0
 obtain ⟨s1, hs1⟩ := Zh ((s && decide (M ≠ 0)))
 obtain ⟨t1, ht1⟩ := Zh ((t && decide (N ≠ 0)))
 go_enter Tryz.func151, Tryz.ntmps151
 go_upto_region 3 with (first
  | (rw [← hw1]; refine ld_int s M rfl _ rfl _ rfl (HO.out.get Zs) ?_; clear hw1)
  | (refine ld_int t N rfl _ rfl _ rfl (HO.out.get Zs) ?_)
  | (go_at_call 120; with_reducible refine (split_as s s1 M hM hs1 _).mono ?_; rintro e w2 ⟨rfl, hL⟩; have HO := Zi ((HO.out.call hL).alloc (Bg.row 32 M) 167); clear hL)
  | (go_at_call 120; with_reducible refine (split_as t t1 N hN ht1 _).mono ?_; rintro e w3 ⟨rfl, hL⟩; have HO := Zi ((HO.out.call hL).alloc (Bg.row 32 N) 167); clear hL)
  | (refine sn_mag M rfl _ _ rfl rfl rfl ?_)
  | (refine sn_mag N rfl _ _ rfl rfl rfl ?_))
 generalize w3.alloc (.cells (Bg.row 32 N) 167) = w4 at HO ⊢
 have HM : Hid (Blk w4 w2.heap.size (Bg.row 32 M)) := Zi (HO.out.get Zs)
 have HN : Hid (Blk w4 w3.heap.size (Bg.row 32 N)) := Zi (HO.out.get Zs)
 by_cases hst : s1 = t1
 ·subst hst
  obtain ⟨c, hc⟩ := Zh ((M + N) % Bg.lim)
  by_cases hf : M + N < Bg.lim
  ·obtain ⟨f, hf1⟩ := Zh (decide (M + N < Bg.lim))
   have hft : f = true := by rw [hf1.out]; simp [hf]
   subst hft
   have hcl : c < Bg.lim := by rw [hc.out]; exact Nat.mod_lt _ (Bg.ppos 32)
   obtain ⟨v, hv⟩ := Zh (Bg.toZ s1 c)
   have HF := Zi hf
   clear hf
   go_wp2_with (first
    | (go_at_call 159; refine (plus_as w2.heap.size w3.heap.size M N c true hM hN hc hf1 _ HM.out HN.out).mono ?_; rintro e w5 ⟨rfl, hL⟩; have HO := Zi ((HO.out.call hL).alloc (Bg.row 32 c) 167); clear hL)
    | (refine sn_mag c rfl _ _ rfl rfl rfl ?_)
    | (refine ld_mag c rfl _ rfl _ rfl (HO.out.get Zs) ?_)
    | (go_at_call 136; refine (made_as s1 c v hcl hv _).mono ?_; rintro e w6 ⟨rfl, hL⟩; have HO := Zi (HO.out.call hL); clear hL)
    | (refine st_z v _ rfl _ _ rfl _ rfl rfl (HO.out.get (b := w.heap.size + 2) Zs) hs2 ?_; have HR := Zi (HO.out.fin (b := w.heap.size + 2) (c := Bg.intA false 0) Zs Zo (Bg.zA v)); generalize World.setRow _ _ _ = w7 at HR ⊢))
   refine bodyPost_ret (res_cell_tmp rfl _ rfl (lv_z HR.out.1)) rfl ⟨?_, HR.out.2⟩
   have hcm : c = M + N := by rw [hc.out, Nat.mod_eq_of_lt HF.out]
   have hvz : z = v := by rw [hzz.out, hv.out, hcm, Bg.add_same hs1.out ht1.out]
   rw [Bg.resV_yes (by rw [hvz, hv.out, Bg.toZ_abs]; exact hcl), hvz]
   rfl
  ·obtain ⟨f, hf1⟩ := Zh (decide (M + N < Bg.lim))
   have hft : f = false := by rw [hf1.out]; simp [hf]
   subst hft
   have HF := Zi hf
   clear hf
   go_wp2_with (first
    | (go_at_call 159; refine (plus_as w2.heap.size w3.heap.size M N c false hM hN hc hf1 _ HM.out HN.out).mono ?_; rintro e w5 ⟨rfl, hL⟩; have HO := Zi ((HO.out.call hL).alloc (Bg.row 32 c) 167); clear hL)
    | (refine sn_mag c rfl _ _ rfl rfl rfl ?_)
    | (refine st_int false 0 _ rfl _ _ rfl _ rfl rfl (HO.out.get (b := w.heap.size + 2) Zs) hs2 ?_; have HR := Zi (HO.out.fin (b := w.heap.size + 2) (c := Bg.intA false 0) Zs Zo (Bg.intA false 0)); generalize World.setRow _ _ _ = w7 at HR ⊢))
   have HR1 := HR.out.1
   rw [zA_zero] at HR1
   refine bodyPost_ret (res_cell_tmp rfl _ rfl (lv_z HR1)) rfl ⟨?_, HR.out.2⟩
   rw [Bg.resV_no (by rw [hzz.out, Bg.add_same hs1.out ht1.out, Bg.toZ_abs]; exact HF.out)]
   rfl
 ·have htt : t1 = !s1 := by cases s1 <;> cases t1 <;> simp_all
  subst htt
  clear hst
  by_cases hlt : M < N
  ·obtain ⟨c, hc⟩ := Zh (Bg.cmp M N)
   have hcv : c = -1 := by rw [hc.out]; simp [Bg.cmp, hlt]
   subst hcv
   obtain ⟨d, hd⟩ := Zh (Bg.dif N M)
   have hdl : d < Bg.lim := by rw [hd.out]; exact Bg.dif_lt hN hM
   obtain ⟨v, hv⟩ := Zh (Bg.toZ (!s1) d)
   have HF := Zi hlt
   clear hlt
   go_wp2_with (first
    | (go_at_call 156; refine (compare_b w2.heap.size w3.heap.size M N (-1) hM hN hc _ HM.out HN.out).mono ?_; rintro e w5 ⟨rfl, hL⟩; have HO := Zi (HO.out.call hL); clear hL)
    | (go_at_call 160; refine (minus_as w3.heap.size w2.heap.size N M d hN hM hd _ (HO.out.get Zs) (HO.out.get Zs)).mono ?_; rintro e w6 ⟨rfl, hL⟩; have HO := Zi (HO.out.call hL); clear hL)
    | (go_at_call 136; refine (made_as (!s1) d v hdl hv _).mono ?_; rintro e w7 ⟨rfl, hL⟩; have HO := Zi (HO.out.call hL); clear hL)
    | (refine st_z v _ rfl _ _ rfl _ rfl rfl (HO.out.get (b := w.heap.size + 2) Zs) hs2 ?_; have HR := Zi (HO.out.fin (b := w.heap.size + 2) (c := Bg.intA false 0) Zs Zo (Bg.zA v)); generalize World.setRow _ _ _ = w8 at HR ⊢))
   refine bodyPost_ret (res_cell_tmp rfl _ rfl (lv_z HR.out.1)) rfl ⟨?_, HR.out.2⟩
   have hvz : z = v := by rw [hzz.out, hv.out, hd.out, Bg.add_less hs1.out ht1.out HF.out]
   rw [Bg.resV_yes (by rw [hvz, hv.out, Bg.toZ_abs]; exact hdl), hvz]
   rfl
  ·obtain ⟨c, hc⟩ := Zh (Bg.cmp M N)
   have hcv : ¬ c < 0 := by rw [hc.out]; unfold Bg.cmp; rw [if_neg hlt]; split <;> decide
   obtain ⟨d, hd⟩ := Zh (Bg.dif M N)
   have hdl : d < Bg.lim := by rw [hd.out]; exact Bg.dif_lt hM hN
   obtain ⟨v, hv⟩ := Zh (Bg.toZ s1 d)
   have HF := Zi hlt
   clear hlt
   go_wp2_with (first
    | (go_at_call 156; refine (compare_b w2.heap.size w3.heap.size M N c hM hN hc _ HM.out HN.out).mono ?_; rintro e w5 ⟨rfl, hL⟩; have HO := Zi (HO.out.call hL); clear hL)
    | (go_at_call 160; refine (minus_as w2.heap.size w3.heap.size M N d hM hN hd _ (HO.out.get Zs) (HO.out.get Zs)).mono ?_; rintro e w6 ⟨rfl, hL⟩; have HO := Zi (HO.out.call hL); clear hL)
    | (go_at_call 136; refine (made_as s1 d v hdl hv _).mono ?_; rintro e w7 ⟨rfl, hL⟩; have HO := Zi (HO.out.call hL); clear hL)
    | (refine st_z v _ rfl _ _ rfl _ rfl rfl (HO.out.get (b := w.heap.size + 2) Zs) hs2 ?_; have HR := Zi (HO.out.fin (b := w.heap.size + 2) (c := Bg.intA false 0) Zs Zo (Bg.zA v)); generalize World.setRow _ _ _ = w8 at HR ⊢))
   refine bodyPost_ret (res_cell_tmp rfl _ rfl (lv_z HR.out.1)) rfl ⟨?_, HR.out.2⟩
   have hvz : z = v := by rw [hzz.out, hv.out, hd.out, Bg.add_more hs1.out ht1.out HF.out]
   rw [Bg.resV_yes (by rw [hvz, hv.out, Bg.toZ_abs]; exact hdl), hvz]
   rfl
end
section
theorem Bg.toZ_iv (z : Int) : Bg.toZ (decide (z < 0)) z.natAbs = z := by
 unfold Bg.toZ
 by_cases h : z < 0
 ·simp [h]; omega
 ·simp [h]; omega
def Bg.resZ (z : Int) : Int := if z.natAbs < Bg.lim then z else 0
def Bg.resE (z : Int) : Int := if z.natAbs < Bg.lim then 0 else 10
theorem Bg.resV_eq (z : Int) : Bg.resV z = .tuple #[.agg (Bg.zA (Bg.resZ z)), .int .i64 (Bg.resE z)] := by
 unfold Bg.resV Bg.resZ Bg.resE
 by_cases h : z.natAbs < Bg.lim
 ·simp only [if_pos h]; rfl
 ·simp only [if_neg h]; rfl
theorem add_as (s t : Bool) (M N : Nat) (z v e : Int) (hM : M < Bg.lim) (hN : N < Bg.lim) (hzz : Hid (z = Bg.toZ s M + Bg.toZ t N)) (hv : Hid (v = Bg.resZ z)) (he : Hid (e = Bg.resE z)) (w : World) :
    Calls Tryz.prog 151 #[.agg (Bg.intA s M), .agg (Bg.intA t N)] w fun r w' => r = .returned (.tuple #[.agg (Bg.zA v), .int .i64 e]) ∧ Below w.heap.size w w' := by
 rw [hv.out, he.out, ← Bg.resV_eq]; exact add_any0 s t M N hM hN z hzz w
theorem yl_int (s : Bool) (N : Nat) {ops : Array Oper} {S : World → Prop} {o : Oper} {a : Act} (hw : Region.wanted o (yielded ops a.tmps) = true) (x : Operand) (ho : o.op = .load 33 x) (b : Nat) (hx : a.eval x = .pointer (some ⟨b, 0, none⟩)) (hS : ∀ w, S w → Blk w b (Bg.intA s N)) :
    YieldsIf Tryz.prog ops S o (.agg (Bg.intA s N)) a := by
 obtain ⟨fs, hu⟩ := und_int
 have := yieldsIf_load_mid (S := S) hw _ x ho b 0 hx (Bg.intA s N).toList _ (fun w h => (hS w h).range) hu rfl (by rw [Array.length_toList, Bg.intA_size]; exact siz_int)
 rwa [Array.toArray_toList] at this
theorem store_hz (z : Int) (c : Array Value) {md : Region.Mode} {ops : Array Oper} {Q : Exit → Act → World → Prop} {S : World → Prop} {i : Nat} {oi : Oper} {fuel : Nat} {listed : Array Bool} {a : Act} {w : World} (hr : Region.ready md ops listed = [i]) (hi : ops[i]? = some oi) (hd : oi.dst = none)
    (hw : Region.wanted oi (yielded ops a.tmps) = true) (x y : Operand) (ho : oi.op = .store 33 x y) (b : Nat) (hx : a.eval x = .pointer (some ⟨b, 0, none⟩)) (hy : a.eval y = .agg (Bg.zA z)) (hb : Blk w b c) (hc : c.size = 33) (hS : S (w.setRow b (Bg.zA z)))
    (h : wpAnyH Tryz.prog md ops Q S fuel (listed.setIfInBounds i true) a (w.setRow b (Bg.zA z))) : wpAnyH Tryz.prog md ops Q S (fuel + 1) listed a w := by
 obtain ⟨t, hb⟩ := hb
 have e : Bg.zA z = Bg.intA (decide (z < 0)) z.natAbs := by unfold Bg.zA; rfl
 rw [e] at hy hS h
 refine wpAnyH_ready hr Zs (AllReadyH.cons hi (fun K hK => ?_) AllReadyH.nil)
 rw [if_pos hw]
 refine wp_store_row _ x y ho b _ hx hy t _ hb (by rw [Bg.intA_size]; exact siz_int) (by rw [Bg.intA_size, hc]) (Bg.intA_one _ _) ?_
 rw [hd]
 exact hK.out _ _ hS (fun _ => h)
theorem call_h {P : Program} {md : Region.Mode} {ops : Array Oper} {Q : Exit → Act → World → Prop} {S : World → Prop} {i : Nat} {oi : Oper} {d : Tmp} {fuel : Nat} {listed : Array Bool} {a : Act} {w : World} (v : Value) (hr : Region.ready md ops listed = [i]) (hi : ops[i]? = some oi) (hd : oi.dst = some d)
    (hw : Region.wanted oi (yielded ops a.tmps) = true) (f : FuncId) (args : Array Value) (he : ∀ w, (execOp a.eval oi).run P w = .ok (.enter f args) w) (hc : Calls P f args w fun e w' => e = .returned v ∧ Below w.heap.size w w')
    (hS : ∀ w', Below w.heap.size w w' → S w') (h : ∀ w', Below w.heap.size w w' → wpAnyH P md ops Q S fuel (listed.setIfInBounds i true) { a with tmps := a.tmps.setIfInBounds d v } w') : wpAnyH P md ops Q S (fuel + 1) listed a w := by
 refine wpAnyH_ready hr Zs (AllReadyH.cons hi (fun K hK => ?_) AllReadyH.nil)
 rw [if_pos hw]
 unfold Oper.wp
 rw [he]
 rw [Oper.upon_enter]
 refine hc.mono ?_
 rintro e w' ⟨rfl, hb⟩
 rw [hd]
 exact hK.out _ _ (hS w' hb) (fun _ => h w' hb)
end
section
theorem wl_at {P : Program} {ops : Array Oper} {rest : List Oper} {o : Oper} {a : Act} {w : World} {Q : Exit → Act → World → Prop} (h : wpList P ops Q (o :: rest) a w) : wpList P ops Q (o :: rest) a w := h
theorem made_g (s : Bool) (N : Nat) (hN : N < Bg.lim) (w : World) :
    Calls Tryz.prog 136 #[.bool s, .agg (Bg.row 32 N)] w fun e w' => e = .returned (.agg (Bg.zA (Bg.toZ s N))) ∧ Below w.heap.size w w' := made_z s N hN w
theorem times_as (ba bb a b c : Nat) (f : Bool) (ha : a < Bg.lim) (hb : b < Bg.lim) (hc : Hid (c = a * b % Bg.lim)) (hf : Hid (f = decide (a * b < Bg.lim))) (w : World) (hA : Blk w ba (Bg.row 32 a)) (hB : Blk w bb (Bg.row 32 b)) :
    Calls Tryz.prog 157 #[.pointer (some ⟨ba, 0, none⟩), .pointer (some ⟨bb, 0, none⟩)] w fun e w' => e = .returned (.tuple #[.agg (Bg.row 32 c), .bool f]) ∧ Below w.heap.size w w' := by
 rw [hc.out, hf.out]; exact times_any ba bb a b ha hb w hA hB
theorem Bg.mul_same {s t s1 t1 : Bool} {M N : Nat} (h1 : s1 = (s && decide (M ≠ 0))) (h2 : t1 = (t && decide (N ≠ 0))) : Bg.toZ s M * Bg.toZ t N = Bg.toZ (s1 != t1) (M * N) := by
 rw [← Bg.toZ_canon s M, ← Bg.toZ_canon t N, ← h1, ← h2]
 cases s1 <;> cases t1 <;> simp [Bg.toZ, Int.mul_neg, Int.neg_mul]
set_option maxRecDepth 20000 in
theorem mul_any0 (s t : Bool) (M N : Nat) (hM : M < Bg.lim) (hN : N < Bg.lim) (z : Int) (hzz : Hid (z = Bg.toZ s M * Bg.toZ t N)) (w : World) :
    Calls Tryz.prog 118 #[.agg (Bg.intA s M), .agg (Bg.intA t N)] w fun e w' => e = .returned (Bg.resV z) ∧ Below w.heap.size w w' := by
 have hz := Bg.zero32
 have hzi := Bg.zeroInt
 have hs2 := Bg.intA_size false 0
 obtain ⟨w1, hw1⟩ : ∃ w1, w1 = ((w.alloc (.cells (Bg.intA s M) 33)).alloc (.cells (Bg.intA t N) 33)).alloc (.cells (Bg.intA false 0) 33) := ⟨_, rfl⟩
 have HO0 := own3 w (Bg.intA s M) (Bg.intA t N) (Bg.intA false 0) 33 33 33
 rw [← hw1] at HO0
 have HO := Zi HO0
 clear HO0
 obtain ⟨s1, hs1⟩ := Zh ((s && decide (M ≠ 0)))
 obtain ⟨t1, ht1⟩ := Zh ((t && decide (N ≠ 0)))
 obtain ⟨c, hc⟩ := Zh (M * N % Bg.lim)
 obtain ⟨f, hf⟩ := Zh (decide (M * N < Bg.lim))
 have hcl : c < Bg.lim := by rw [hc.out]; exact Nat.mod_lt _ (Bg.ppos 32)
 have hza : Hid (z.natAbs = M * N) := Zi (by rw [hzz.out, Bg.mul_same hs1.out ht1.out, Bg.toZ_abs])
 go_enter Tryz.func118, Tryz.ntmps118
 go_upto_region 4 with (first
  | (rw [← hw1]; (with_reducible apply wl_at; refine ld_int (s) (M) rfl _ rfl _ rfl (by exact HO.out.get Zs) ?_); clear hw1)
  | ((with_reducible apply wl_at; refine ld_int (t) (N) rfl _ rfl _ rfl (by exact HO.out.get Zs) ?_))
  | (go_at_call 120; with_reducible refine (split_as s s1 M hM hs1 _).mono ?_; rintro e w2 ⟨rfl, hL⟩; have HO := Zi ((HO.out.call hL).alloc (Bg.row 32 M) 167); clear hL)
  | (go_at_call 120; with_reducible refine (split_as t t1 N hN ht1 _).mono ?_; rintro e w3 ⟨rfl, hL⟩; have HO := Zi ((HO.out.call hL).alloc (Bg.row 32 N) 167); clear hL)
  | (go_at_call 157; refine (times_as w2.heap.size w3.heap.size M N c f hM hN hc hf _ (HO.out.get Zs) (HO.out.get Zs)).mono ?_; rintro e w5 ⟨rfl, hL⟩; have HO := Zi ((HO.out.call hL).alloc (Bg.row 32 c) 167); clear hL)
  | ((with_reducible apply wl_at; refine sn_mag (M) rfl _ _ rfl rfl rfl ?_))
  | ((with_reducible apply wl_at; refine sn_mag (N) rfl _ _ rfl rfl rfl ?_))
  | ((with_reducible apply wl_at; refine sn_mag (c) rfl _ _ rfl rfl rfl ?_)))
 by_cases hfit : M * N < Bg.lim
 ·have hft : f = true := by rw [hf.out]; simp [hfit]
  subst hft
  have HF := Zi hfit
  clear hfit
  go_wp2_with (first
   | ((with_reducible apply wl_at; refine ld_mag (c) rfl _ rfl _ rfl (by exact HO.out.get Zs) ?_))
   | (go_at_call 136; refine (made_g _ c hcl _).mono ?_; rintro e w6 ⟨rfl, hL⟩; generalize hv : Bg.toZ _ c = v; have HV := Zi hv; clear hv; have HO := Zi (HO.out.call hL); clear hL)
   | ((with_reducible apply wl_at; refine st_z (v) (Bg.intA false 0) rfl _ _ rfl _ rfl rfl (by exact HO.out.get (b := w.heap.size + 2) Zs) (by exact hs2) ?_); have HR := Zi (HO.out.fin (b := w.heap.size + 2) (c := Bg.intA false 0) Zs Zo (Bg.zA v)); generalize World.setRow _ _ _ = w7 at HR ⊢))
  refine bodyPost_ret (res_cell_tmp rfl _ rfl (lv_z HR.out.1)) rfl ⟨?_, HR.out.2⟩
  have hcm : c = M * N := by rw [hc.out, Nat.mod_eq_of_lt HF.out]
  have hvz : z = v := by
   rw [hzz.out, ← HV.out, hcm, Bg.mul_same hs1.out ht1.out]
   clear hs1 ht1 HO
   congr 1
  rw [Bg.resV_yes (by rw [hza.out]; exact HF.out), hvz]
  rfl
 ·have hft : f = false := by rw [hf.out]; simp [hfit]
  subst hft
  have HF := Zi hfit
  clear hfit
  go_wp2_with (first
   | ((with_reducible apply wl_at; refine st_int (false) (0) (Bg.intA false 0) rfl _ _ rfl _ rfl rfl (by exact HO.out.get (b := w.heap.size + 2) Zs) (by exact hs2) ?_); have HR := Zi (HO.out.fin (b := w.heap.size + 2) (c := Bg.intA false 0) Zs Zo (Bg.intA false 0)); generalize World.setRow _ _ _ = w7 at HR ⊢))
  have HR1 := HR.out.1
  rw [zA_zero] at HR1
  refine bodyPost_ret (res_cell_tmp rfl _ rfl (lv_z HR1)) rfl ⟨?_, HR.out.2⟩
  rw [Bg.resV_no (by rw [hza.out]; exact HF.out)]
  rfl
set_option maxRecDepth 20000 in
theorem sign_any (s : Bool) (N : Nat) (hN : N < Bg.lim) (g : Int) (hg : Hid (g = (Bg.toZ s N).sign)) (w : World) :
    Calls Tryz.prog 78 #[.agg (Bg.intA s N)] w fun e w' => e = .returned (.int .i64 g) ∧ Below w.heap.size w w' := by
 have hz := Bg.zero32
 have hL0 : 0 < Bg.lim := Nat.lt_of_le_of_lt (Nat.zero_le _) hN
 obtain ⟨w1, hw1⟩ : ∃ w1, w1 = w.alloc (.cells (Bg.intA s N) 33) := ⟨_, rfl⟩
 have HO0 := (Own.start w).alloc (Bg.intA s N) 33
 rw [← hw1] at HO0
 have HO := Zi HO0
 clear HO0
 obtain ⟨s1, hs1⟩ := Zh ((s && decide (N ≠ 0)))
 go_enter Tryz.func78, Tryz.ntmps78
 go_upto_region 2 with (first
  | (rw [← hw1]; (with_reducible apply wl_at; refine ld_int (s) (N) rfl _ rfl _ rfl (by exact HO.out.get Zs) ?_); clear hw1)
  | (go_at_call 120; refine (split_as s s1 N hN hs1 _).mono ?_; rintro e w2 ⟨rfl, hL⟩; have HO := Zi ((HO.out.call hL).alloc (Bg.row 32 N) 167); clear hL)
  | ((with_reducible apply wl_at; refine sn_mag (N) rfl _ _ rfl rfl rfl ?_)))
 cases s1 with
 | true =>
  go_wp2_with fail
  go_ret
  refine ⟨?_, HO.out.1⟩
  have h := hs1.out
  have hN0 : N ≠ 0 := by intro e; subst e; simp at h
  have hs : s = true := by cases s; exact absurd h Zs; rfl
  have : (Bg.toZ s N).sign = -1 := by rw [hs]; exact Int.sign_eq_neg_one_of_neg (by simp [Bg.toZ]; omega)
  rw [hg.out, this]
  rfl
 | false =>
  by_cases h0 : N = 0
  ·subst h0
   go_wp2_with (first
    | ((with_reducible apply wl_at; refine ld_mag (0) rfl _ rfl _ rfl (by exact HO.out.get Zs) ?_))
    | ((with_reducible apply wl_at; refine ls_cmp .eql (0) (0) rfl _ _ _ rfl (.inl rfl) rfl rfl (hN) (hN) ?_)))
   go_ret
   refine ⟨?_, HO.out.1⟩
   have : (Bg.toZ s 0).sign = 0 := by cases s <;> simp [Bg.toZ]
   rw [hg.out, this]
   rfl
  ·have HF := Zi h0
   go_wp2_with (first
    | ((with_reducible apply wl_at; refine ld_mag (N) rfl _ rfl _ rfl (by exact HO.out.get Zs) ?_))
    | ((with_reducible apply wl_at; refine ls_cmp .eql (N) (0) rfl _ _ _ rfl (.inl rfl) rfl rfl (hN) (hL0) ?_)))
   go_ret
   refine ⟨?_, HO.out.1⟩
   have h := hs1.out
   have h0 := HF.out
   have hs : s = false := by cases s; rfl; exact absurd h (by simp [h0])
   have : (Bg.toZ s N).sign = 1 := by rw [hs]; exact Int.sign_eq_one_of_pos (by simp [Bg.toZ]; omega)
   rw [hg.out, this]
   rfl
end
section
theorem row_two (a b : Nat) (ha : a < 4294967296) (hb : b < 4294967296) : ((Bg.row 32 0).setIfInBounds 0 (.int .u32 (a : Nat))).setIfInBounds 1 (.int .u32 (b : Nat)) = Bg.row 32 (a + b * 4294967296) := by
 rw [Bg.row_set 32 0 0 a ha, Bg.row_set 32 _ 1 b hb]
 congr 1
 have h1 : Bg.setL 0 0 a = a := by rw [Bg.setL_top _ _ _ (Bg.ppos 0), Bg.pw_zero]; omega
 have h2 : Bg.pw 1 = 4294967296 := by rw [show (1 : Nat) = 0 + 1 from rfl, Bg.p32, Bg.pw_zero]
 rw [h1, Bg.setL_top _ _ _ (by rw [h2]; exact ha), h2]
theorem row_two' (U : Nat) (h : U < 18446744073709551616) : ((Bg.row 32 0).setIfInBounds 0 (.int .u32 ((U : Int) % 4294967296))).setIfInBounds 1 (.int .u32 ((U : Int) / 4294967296)) = Bg.row 32 U ∧
    ((Bg.row 32 0).setIfInBounds 0 (.int .u32 ((U : Int) % 4294967296))).setIfInBounds 1 (.int .u32 ((U : Int) / 4294967296 % 4294967296)) = Bg.row 32 U := by
 have hf := row_two (U % 4294967296) (U / 4294967296) (Nat.mod_lt _ Zd) Zo
 have hf2 : U % 4294967296 + U / 4294967296 * 4294967296 = U := by omega
 rw [hf2] at hf
 have e : (U : Int) / 4294967296 % 4294967296 = (U : Int) / 4294967296 := by omega
 rw [e]
 exact ⟨hf, hf⟩
theorem row_ne (n N : Nat) : (Bg.row (n + 1) N = #[]) = False := by
 have := Bg.row_size (n + 1) N
 simp only [eq_iff_iff, iff_false]
 intro e
 rw [e] at this
 simp at this
theorem small_lim {U : Nat} (h : U < 18446744073709551616) : U < Bg.lim := by
 have h2 : Bg.pw 2 = 18446744073709551616 := by rw [show (2 : Nat) = 0 + 1 + 1 from rfl, Bg.p32, Bg.p32, Bg.pw_zero]
 have := Bg.pmono (show 2 ≤ 32 by omega)
 rw [h2] at this
 exact Nat.lt_of_lt_of_le h this
set_option maxRecDepth 20000 in
theorem fromInt_pos (U : Nat) (hU : U < 9223372036854775808) (w : World) :
    Calls Tryz.prog 93 #[.int .i64 (U : Nat)] w fun e w' => e = .returned (.agg (Bg.zA (U : Nat))) ∧ Below w.heap.size w w' := by
 have hz := Bg.zero32
 have hzi := Bg.zeroInt
 have hs2 := Bg.intA_size false 0
 obtain ⟨w1, hw1⟩ : ∃ w1, w1 = w.alloc (.cells (Bg.intA false 0) 33) := ⟨_, rfl⟩
 have HO0 := (Own.start w).alloc (Bg.intA false 0) 33
 rw [← hw1] at HO0
 have HO := Zi HO0
 clear HO0
 have hs1 := Bg.row_size 32 0
 have hne := row_ne 31 0
 have hv : Bg.toZ false U = (U : Int) := by simp [Bg.toZ]
 have hn : ¬ ((U : Int) < 0) := by omega
 have hU2 : U < 18446744073709551616 := by omega
 obtain ⟨hf, hf'⟩ := row_two' U hU2
 go_enter Tryz.func93, Tryz.ntmps93
 go_wp2_with (first
  | (go_at_call 136; refine (made_g _ U (small_lim hU2) _).mono ?_; rintro e w6 ⟨rfl, hL⟩; rw [hv]; have HO := Zi ((hw1 ▸ HO.out).call hL); clear hL)
  | ((with_reducible apply wl_at; refine st_z ((U : Int)) (Bg.intA false 0) rfl _ _ rfl _ rfl rfl (by exact HO.out.get (b := w.heap.size) Zs) (by exact hs2) ?_); have HR := Zi (HO.out.fin (b := w.heap.size) (c := Bg.intA false 0) Zs Zo (Bg.zA U)); generalize World.setRow _ _ _ = w7 at HR ⊢))
 exact z9_16
set_option maxRecDepth 20000 in
theorem fromInt_neg (U : Nat) (hU0 : 0 < U) (hU : U ≤ 9223372036854775808) (w : World) :
    Calls Tryz.prog 93 #[.int .i64 (-(U : Int))] w fun e w' => e = .returned (.agg (Bg.zA (-(U : Int)))) ∧ Below w.heap.size w w' := by
 have hz := Bg.zero32
 have hzi := Bg.zeroInt
 have hs2 := Bg.intA_size false 0
 have hs1 := Bg.row_size 32 0
 have hne := row_ne 31 0
 obtain ⟨w1, hw1⟩ : ∃ w1, w1 = w.alloc (.cells (Bg.intA false 0) 33) := ⟨_, rfl⟩
 have HO0 := (Own.start w).alloc (Bg.intA false 0) 33
 rw [← hw1] at HO0
 have HO := Zi HO0
 clear HO0
 have hn : (-(U : Int) < 0) := by omega
 have hU2 : U < 18446744073709551616 := by omega
 obtain ⟨hf, hf'⟩ := row_two' U hU2
 have hw : IntKind.u64.wrap (-IntKind.u64.wrap (-(U : Int))) = (U : Int) := by
  have h (x : Int) : IntKind.u64.wrap x = x % 18446744073709551616 := by simp [IntKind.wrap, IntKind.bits, IntKind.signed]
  rw [h, h]; omega
 have hv : Bg.toZ true U = -(U : Int) := by simp [Bg.toZ]
 go_enter Tryz.func93, Tryz.ntmps93
 go_wp2_with (first
  | (go_at_call 136; refine (made_g _ U (small_lim hU2) _).mono ?_; rintro e w6 ⟨rfl, hL⟩; rw [hv]; have HO := Zi ((hw1 ▸ HO.out).call hL); clear hL)
  | ((with_reducible apply wl_at; refine st_z (-(U : Int)) (Bg.intA false 0) rfl _ _ rfl _ rfl rfl (by exact HO.out.get (b := w.heap.size) Zs) (by exact hs2) ?_); have HR := Zi (HO.out.fin (b := w.heap.size) (c := Bg.intA false 0) Zs Zo (Bg.zA (-(U : Int)))); generalize World.setRow _ _ _ = w7 at HR ⊢))
 exact z9_16
end
section
theorem grown_refl (w : World) (b : Nat) : w.grownBy w (some b) := World.grownBy.refl w _
theorem grown_cell {a w : World} {b : Nat} (h : a.grownBy w (some b)) (i : Nat) (v : Value) : a.grownBy (w.setCell ⟨b, i, none⟩ v) (some b) :=
 ⟨h.os, h.tape, h.output, by simpa [World.setCell] using h.size, fun k hk hne => (Below.heap_setCell _ _ _ _ (fun e => by subst e; exact hne rfl)).trans (h.block k hk hne)⟩
theorem grown_drewN {a w : World} {b : Nat} (h : a.grownBy w (some b)) (n : Nat) : a.grownBy (w.drewN n) (some b) := ⟨h.os, h.tape, h.output, h.size, h.block⟩
theorem div32_as (x y d q r : Nat) (hx : x < d) (hy : y < 4294967296) (hd : d < 4294967296) (hq : Hid (q = (x * 4294967296 + y) / d)) (hr : Hid (r = (x * 4294967296 + y) % d)) (w : World) :
    Calls Tryz.prog 162 #[.int .u32 (x : Nat), .int .u32 (y : Nat), .int .u32 (d : Nat)] w fun e w' => e = .returned (.tuple #[.int .u32 (q : Nat), .int .u32 (r : Nat)]) ∧ ∃ n, w' = w.drewN n := by
 rw [hq.out, hr.out]; exact div32_any x y d hx hy hd w
set_option maxRecDepth 20000 in
theorem short_any (b N x : Nat) (hN : N < Bg.lim) (hx0 : 0 < x) (hx : x < 4294967296) (w : World) (hB : Blk w b (Bg.row 32 N)) :
    Calls Tryz.prog 121 #[.pointer (some ⟨b, 0, none⟩), .int .u32 (x : Nat)] w fun e w' => e = .returned (.int .u32 (N % x : Nat)) ∧ Blk w' b (Bg.row 32 (N / x)) ∧ w.grownBy w' (some b) := by
 have HB := Zi hB
 have HU := Zi (used_any b N w hB)
 have HNU := Zi (Bg.used_lt hN)
 have hul := Bg.used_le N
 clear hB
 generalize Bg.used N = n at HU HNU hul
 go_enter Tryz.func121, Tryz.ntmps121
 go_wp2_with (go_at_call 161; refine HU.out.mono ?_; rintro e w' ⟨rfl, rfl⟩)
 go_loopw [5, 6] (fun r i wr => ∃ (k q : Nat), k ≤ n ∧ i = .int .i64 ((k : Int) - 1) ∧ r = .int .u32 (q : Nat) ∧ Hid (q = Bg.shR N x k) ∧ Hid (Blk wr b (Bg.row 32 (Bg.shT N x k))) ∧ Hid (w'.grownBy wr (some b))) (fun _ i _ => (intOf i + 1).toNat)
 case atStart => exact ⟨n, 0, by omega, rfl, rfl, Zi (Bg.shR_top HNU.out).symm, Zi (by rw [Bg.shT_top HNU.out]; exact HB.out), Zi (grown_refl _ _)⟩
 case round =>
  clear HB HU
  obtain ⟨k, q, hk, rfl, rfl, HQ, HB, HG⟩ := hrel
  cases k with
  | zero =>
   go_wp2_with fail
   go_ret
   have hd := Bg.sh_done N x
   refine ⟨?_, hd.1 ▸ HB.out, HG.out⟩
   rw [← hd.2, ← HQ.out]
   rfl
  | succ k =>
   have e1 : ((k + 1 : Nat) : Int) - 1 = (k : Int) := by omega
   rw [e1]
   have hk32 : k < 32 := by omega
   have hc := HB.out.limb hk32
   rw [Bg.shT_limb] at hc
   have hf := HB.out.free k
   have hqx : q < x := by rw [HQ.out]; exact Bg.shR_lt _ _ _ hx0
   have hl := Bg.limb_lt N k
   have HS := Zi (Bg.sh_step (N := N) (k := k) hx0)
   obtain ⟨d, hd⟩ := Zh ((q * 4294967296 + Bg.limb N k) / x)
   obtain ⟨r, hr⟩ := Zh ((q * 4294967296 + Bg.limb N k) % x)
   have HX := Zi (div32_as q (Bg.limb N k) x d r hqx hl hx hd hr)
   have hdl : Hid (d < 4294967296) := Zi (by
    rw [hd.out, Nat.div_lt_iff_lt_mul hx0]
    have : (q + 1) * 4294967296 ≤ x * 4294967296 := Nat.mul_le_mul_right _ hqx
    omega)
   go_wp2_with fail
   go_region_with (go_at_call 162; refine (HX.out _).mono ?_; rintro e w3 ⟨rfl, n3, rfl⟩)
   all_goals
    go_wp2_with fail
    go_roundw
    case rel => exact ⟨k, r, by omega, rfl, rfl, Zi (by rw [HS.out.2, ← HQ.out, hr.out]), Zi (by have := (HB.out.drewN (1 + n3)).put k d hdl.out; rw [hd.out, HQ.out, HS.out.1, ← HQ.out, ← hd.out] at this; exact this), Zi (grown_cell (grown_drewN HG.out _) k _)⟩
    case measure => simp [intOf]
end
section
theorem Own.turn {w wc w' : World} {l : List (Nat × Array Value)} {b : Nat} {c : Array Value} (h : Own w wc l) (hg : wc.grownBy w' (some b)) (hb : w.heap.size ≤ b) (hn : ∀ p ∈ l, p.1 ≠ b) (hc : Blk w' b c) : Own w w' ((b, c) :: l) := by
 refine ⟨h.1.grown hg h.1.size (fun k hk => by injection hk with hk; omega), fun p hp => ?_⟩
 rcases List.mem_cons.1 hp with rfl | hp
 ·exact hc
 ·exact (h.2 p hp).turn hg (fun e => hn p hp (by injection e))
theorem Own.less {w wc : World} {l l' : List (Nat × Array Value)} (h : Own w wc l) (hs : ∀ p ∈ l', p ∈ l) : Own w wc l' := ⟨h.1, fun p hp => h.2 p (hs p hp)⟩
theorem Own.row {w wc : World} {l : List (Nat × Array Value)} {b : Nat} {c : Array Value} (h : Own w wc l) (hb : w.heap.size ≤ b) (hn : ∀ p ∈ l, p.1 ≠ b) (hc : Blk wc b c) (c' : Array Value) : Own w (wc.setRow b c') ((b, c') :: l) := by
 refine ⟨below_setRow h.1 hb c', fun p hp => ?_⟩
 rcases List.mem_cons.1 hp with rfl | hp
 ·exact hc.setRow c'
 ·exact (h.2 p hp).farRow (hn p hp) c'
theorem Own.limb {w wc : World} {l : List (Nat × Array Value)} {b n N : Nat} (h : Own w wc l) (hb : w.heap.size ≤ b) (hn : ∀ p ∈ l, p.1 ≠ b) (hc : Blk wc b (Bg.row n N)) (i x : Nat) (hx : x < 4294967296) : Own w (wc.setCell ⟨b, i, none⟩ (.int .u32 (x : Nat))) ((b, Bg.row n (Bg.setL N i x)) :: l) := by
 refine ⟨h.1.setCell (p := ⟨b, i, none⟩) hb _, fun p hp => ?_⟩
 rcases List.mem_cons.1 hp with rfl | hp
 ·exact hc.put i x hx
 ·exact (h.2 p hp).far (hn p hp) _
theorem Bg.pw_one : Bg.pw 1 = 4294967296 := by rw [show (1 : Nat) = 0 + 1 from rfl, Bg.p32, Bg.pw_zero]
theorem Bg.used_one {b : Nat} (h0 : 0 < b) (h : b < 4294967296) : Bg.used b = 1 := by
 have hl := small_lim (show b < 18446744073709551616 by omega)
 have h1 := Bg.used_ge b
 have h2 := Bg.used_zero hl
 rcases Nat.lt_or_ge (Bg.used b) 2 with h3 | h3
 ·omega
 ·exfalso
  rcases h1 with h1 | h1
  ·omega
  ·have := Bg.pmono (show 1 ≤ Bg.used b - 1 by omega)
   rw [Bg.pw_one] at this
   omega
theorem Bg.limb_self {b : Nat} (h : b < 4294967296) : Bg.limb b 0 = b := by
 unfold Bg.limb
 rw [Bg.pw_zero, Nat.div_one, Nat.mod_eq_of_lt h]
theorem st_hm (N : Nat) (c : Array Value) {md : Region.Mode} {ops : Array Oper} {Q : Exit → Act → World → Prop} {S : World → Prop} {i : Nat} {oi : Oper} {fuel : Nat} {listed : Array Bool} {a : Act} {w : World} (hr : Region.ready md ops listed = [i]) (hi : ops[i]? = some oi) (hd : oi.dst = none)
    (hw : Region.wanted oi (yielded ops a.tmps) = true) (x y : Operand) (ho : oi.op = .store 167 x y) (b : Nat) (hx : a.eval x = .pointer (some ⟨b, 0, none⟩)) (hy : a.eval y = .agg (Bg.row 32 N)) (hb : Blk w b c) (hc : c.size = 32)
    (hS : S (w.setRow b (Bg.row 32 N))) (h : wpAnyH Tryz.prog md ops Q S fuel (listed.setIfInBounds i true) a (w.setRow b (Bg.row 32 N))) : wpAnyH Tryz.prog md ops Q S (fuel + 1) listed a w :=
 store_h N c hr hi hd hw x y ho b hx hy hb hc hS h
set_option maxRecDepth 20000 in
theorem divide_less (ba bb a b : Nat) (_hb0 : 0 < b) (ha : a < Bg.lim) (hb : b < Bg.lim) (hlt : a < b) (w : World) (hA : Blk w ba (Bg.row 32 a)) (hB : Blk w bb (Bg.row 32 b)) :
    Calls Tryz.prog 158 #[.pointer (some ⟨ba, 0, none⟩), .pointer (some ⟨bb, 0, none⟩)] w fun e w' => e = .returned (.tuple #[.agg (Bg.row 32 0), .agg (Bg.row 32 a)]) ∧ Below w.heap.size w w' := by
 have hz := Bg.zero32
 have ha1 := hA.lt
 have hb1 := hB.lt
 have hs1 := Bg.row_size 32 0
 obtain ⟨w1, hw1⟩ : ∃ w1, w1 = (w.alloc (.cells (Bg.row 32 0) 167)).alloc (.cells (Bg.row 32 0) 167) := ⟨_, rfl⟩
 have HO0 := own2 w (Bg.row 32 0) (Bg.row 32 0) 167 167
 rw [← hw1] at HO0
 have HO := Zi HO0
 clear HO0
 have HUA := Zi (used_any ba a w1 (hA.below HO.out.1 ha1))
 have HUB := Zi (used_any bb b w1 (hB.below HO.out.1 hb1))
 have HC := Zi (compare_any ba bb a b ha hb w1 (hA.below HO.out.1 ha1) (hB.below HO.out.1 hb1))
 have HA := Zi hA
 have hcm : Bg.cmp a b = -1 := by simp [Bg.cmp, hlt]
 rw [hcm] at HC
 generalize Bg.used a = n at HUA
 generalize Bg.used b = m at HUB
 clear hA hB
 go_enter Tryz.func158, Tryz.ntmps158
 go_wp2_with (first
  | (rw [← hw1]; go_at_call 161; refine HUB.out.mono ?_; rintro e w' ⟨rfl, rfl⟩; clear hw1)
  | (go_at_call 161; refine HUA.out.mono ?_; rintro e w' ⟨rfl, rfl⟩)
  | (go_at_call 156; refine HC.out.mono ?_; rintro e w2 ⟨rfl, n2, rfl⟩; have HO := Zi ((HO.out).call (below_drewN (Below.refl _ _) n2)); have HBA := Zi (HA.out.below HO.out.1 ha1))
  | ((with_reducible apply wl_at; refine ld_mag (a) rfl _ rfl (ba) ?hx HBA.out ?_; (case hx => (first | (simp; done) | (simp [Act.eval]; done) | (simp [Act.eval, Act.put])))))
  | ((with_reducible apply wl_at; refine st_mag (0) (Bg.row 32 0) rfl _ _ rfl (w.heap.size) ?hx ?hy (HO.out.get Zs) hs1 ?_; (case hx => (first | (simp; done) | (simp [Act.eval]; done) | (simp [Act.eval, Act.put]))); (case hy => (first | (simp; done) | (simp [Act.eval]; done) | (simp [Act.eval, Act.put])))); have HO2 := Zi ((HO.out.less (l' := [(w.heap.size + 1, Bg.row 32 0)]) Zs).row (b := w.heap.size) (c := Bg.row 32 0) (Nat.le_refl _) Zs (HO.out.get Zs) (Bg.row 32 0)); generalize World.setRow _ _ _ = w3 at HO2 ⊢)
  | ((with_reducible apply wl_at; refine st_mag (a) (Bg.row 32 0) rfl _ _ rfl (w.heap.size + 1) ?hx ?hy (HO2.out.get Zs) hs1 ?_; (case hx => (first | (simp; done) | (simp [Act.eval]; done) | (simp [Act.eval, Act.put]))); (case hy => (first | (simp; done) | (simp [Act.eval]; done) | (simp [Act.eval, Act.put])))); have HO3 := Zi ((HO2.out.less (l' := [(w.heap.size, Bg.row 32 0)]) Zs).row (b := w.heap.size + 1) (c := Bg.row 32 0) Zo Zs (HO2.out.get Zs) (Bg.row 32 a)); generalize World.setRow _ _ _ = w4 at HO3 ⊢))
 refine bodyPost_ret (res_cell_cell rfl _ (by first | (simp; done) | (simp [Act.put])) (by first | (simp; done) | (simp [Act.put])) (lv_mag (b := w.heap.size) (N := 0) (HO3.out.get Zs)) (lv_mag (b := w.heap.size + 1) (N := a) (HO3.out.get Zs))) rfl ⟨rfl, HO3.out.1⟩
end
section
theorem yl_blk (N : Nat) {ops : Array Oper} {S : World → Prop} {o : Oper} {a : Act} (hw : Region.wanted o (yielded ops a.tmps) = true) (x : Operand) (ho : o.op = .load 167 x) (b : Nat) (hx : a.eval x = .pointer (some ⟨b, 0, none⟩)) (hS : ∀ w, S w → Blk w b (Bg.row 32 N)) :
    YieldsIf Tryz.prog ops S o (.agg (Bg.row 32 N)) a := by
 have := yieldsIf_load_mid (S := S) hw _ x ho b 0 hx (Bg.row 32 N).toList _ (fun w h => (hS w h).range) und_mag rfl (by rw [Array.length_toList, Bg.row_size]; exact siz_mag)
 rwa [Array.toArray_toList] at this
theorem Bg.setL_low (x : Nat) : Bg.setL 0 0 x = x := by rw [Bg.setL_top _ _ _ (Bg.ppos 0), Bg.pw_zero]; omega
set_option maxRecDepth 20000 in
theorem divide_one (ba bb a b : Nat) (hb0 : 0 < b) (ha : a < Bg.lim) (hb32 : b < 4294967296) (hlt : ¬ a < b) (w : World) (hA : Blk w ba (Bg.row 32 a)) (hB : Blk w bb (Bg.row 32 b)) :
    Calls Tryz.prog 158 #[.pointer (some ⟨ba, 0, none⟩), .pointer (some ⟨bb, 0, none⟩)] w fun e w' => e = .returned (.tuple #[.agg (Bg.row 32 (a / b)), .agg (Bg.row 32 (a % b))]) ∧ Below w.heap.size w w' := by
 have hz := Bg.zero32
 have ha1 := hA.lt
 have hb1 := hB.lt
 have hs1 := Bg.row_size 32 0
 have hb := small_lim (show b < 18446744073709551616 by omega)
 obtain ⟨w1, hw1⟩ : ∃ w1, w1 = (w.alloc (.cells (Bg.row 32 0) 167)).alloc (.cells (Bg.row 32 0) 167) := ⟨_, rfl⟩
 have HO0 := own2 w (Bg.row 32 0) (Bg.row 32 0) 167 167
 rw [← hw1] at HO0
 have HO := Zi HO0
 clear HO0
 have HUA := Zi (used_any ba a w1 (hA.below HO.out.1 ha1))
 have HUB := Zi (used_any bb b w1 (hB.below HO.out.1 hb1))
 have HA := Zi hA
 have HB := Zi hB
 obtain ⟨c, hcm⟩ := Zh (Bg.cmp a b)
 have hc0 : ¬ c < 0 := by rw [hcm.out]; unfold Bg.cmp; rw [if_neg hlt]; split <;> decide
 have HC := Zi (compare_b ba bb a b c ha hb hcm w1 (hA.below HO.out.1 ha1) (hB.below HO.out.1 hb1))
 rw [Bg.used_one hb0 hb32] at HUB
 generalize Bg.used a = n at HUA
 obtain ⟨q, hq⟩ := Zh (a / b)
 obtain ⟨r, hr⟩ := Zh (a % b)
 have hrl : r < 4294967296 := by rw [hr.out]; exact Nat.lt_trans (Nat.mod_lt _ hb0) hb32
 have HSh := Zi (fun w3 hw3 => short_any w.heap.size a b ha hb0 hb32 w3 hw3)
 rw [← hq.out, ← hr.out] at HSh
 rw [← hq.out, ← hr.out]
 clear hA hB hlt
 go_enter Tryz.func158, Tryz.ntmps158
 go_upto_region 6 with (first
  | (rw [← hw1]; go_at_call 161; refine HUB.out.mono ?_; rintro e w' ⟨rfl, rfl⟩; clear hw1)
  | (go_at_call 161; refine HUA.out.mono ?_; rintro e w' ⟨rfl, rfl⟩)
  | (go_at_call 156; refine HC.out.mono ?_; rintro e w2 ⟨rfl, hL⟩; have HO := Zi ((HO.out).call hL); have HBA := Zi (HA.out.below HO.out.1 ha1); clear hL)
  | ((with_reducible apply wl_at; refine ld_mag (a) rfl _ rfl (ba) ?hx HBA.out ?_; (case hx => (first | (simp; done) | (simp [Act.eval]; done) | (simp [Act.eval, Act.put])))))
  | ((with_reducible apply wl_at; refine st_mag (a) (Bg.row 32 0) rfl _ _ rfl (w.heap.size) ?hx ?hy (HO.out.get Zs) hs1 ?_; (case hx => (first | (simp; done) | (simp [Act.eval]; done) | (simp [Act.eval, Act.put]))); (case hy => (first | (simp; done) | (simp [Act.eval]; done) | (simp [Act.eval, Act.put])))); have HO2 := Zi ((HO.out.less (l' := [(w.heap.size + 1, Bg.row 32 0)]) Zs).row (b := w.heap.size) (c := Bg.row 32 0) (Nat.le_refl _) Zs (HO.out.get Zs) (Bg.row 32 a)); generalize World.setRow _ _ _ = w3 at HO2 ⊢))
 have hcb := (HB.out.below HO2.out.1 hb1).limb (i := 0) Zd
 rw [Bg.limb_self hb32] at hcb
 go_upto_region 7 with (first
  | (go_at_call 121; refine (HSh.out _ (HO2.out.get Zs)).mono ?_; rintro e w4 ⟨rfl, hBl, hgr⟩; have HO3 := Zi ((HO2.out.less (l' := [(w.heap.size + 1, Bg.row 32 0)]) Zs).turn hgr (Nat.le_refl _) Zs hBl); have hc4 := (HO3.out.get (b := w.heap.size + 1) (c := Bg.row 32 0) Zs).limb (i := 0) Zd; have hf4 := (HO3.out.get (b := w.heap.size + 1) (c := Bg.row 32 0) Zs).free 0; clear hBl hgr))
 have HO4 := Zi ((HO3.out.less (l' := [(w.heap.size, Bg.row 32 q)]) Zs).limb (b := w.heap.size + 1) (n := 32) (N := 0) Zo Zs (HO3.out.get Zs) 0 r hrl)
 rw [Bg.setL_low] at HO4
 generalize w4.setCell ⟨w.heap.size + 1, 0, none⟩ (.int .u32 (r : Nat)) = w5 at HO4 ⊢
 have HD : Own w w5.drew [(w.heap.size + 1, Bg.row 32 r), (w.heap.size, Bg.row 32 q)] := ⟨HO4.out.1.drew, HO4.out.2⟩
 clear hc4 hf4 hcb
 refine wp_region_held_drew (S := fun w' => Own w w' [(w.heap.size + 1, Bg.row 32 r), (w.heap.size, Bg.row 32 q)]) Zk HD (fun hHeld => ?_)
 refine take_h (i := 0) (v := .agg (Bg.row 32 q)) rfl rfl Zk Zk Zk (fun _ _ _ h => h) ?hy1 hHeld ?rest1
 case hy1 => exact yl_blk q Zv _ rfl w.heap.size (by first | (simp; done) | (simp [Act.eval]; done) | (simp [Act.eval, Act.put])) (fun w' h => h.get Zs)
 try simp only [Za, Zy, Zx]
 refine take_h (i := 1) (v := .agg (Bg.row 32 r)) rfl rfl Zk Zk Zk (fun _ _ _ h => h) ?hy2 hHeld ?rest2
 case hy2 => exact yl_blk r Zv _ rfl (w.heap.size + 1) (by first | (simp; done) | (simp [Act.eval]; done) | (simp [Act.eval, Act.put])) (fun w' h => h.get Zs)
 try simp only [Za, Zy, Zx]
 have hn1 : w.heap.size + 1 ≠ w.heap.size := by omega
 have HE : Own w (w5.drew.setRow w.heap.size (Bg.row 32 q)) [(w.heap.size + 1, Bg.row 32 r), (w.heap.size, Bg.row 32 q)] :=
  ((hHeld.less (l' := [(w.heap.size + 1, Bg.row 32 r)]) Zs).row (b := w.heap.size) (c := Bg.row 32 q) (Nat.le_refl _) Zs (hHeld.get Zs) (Bg.row 32 q)).less Zs
 refine st_hm (i := 2) q (Bg.row 32 q) Zk rfl rfl Zv _ _ rfl w.heap.size (by first | (simp; done) | (simp [Act.eval]; done) | (simp [Act.eval, Act.put])) (by first | (simp; done) | (simp [Act.eval]; done) | (simp [Act.eval, Act.put])) (hHeld.get Zs) (Bg.row_size 32 q) HE ?_
 generalize w5.drew.setRow w.heap.size (Bg.row 32 q) = w6 at HE ⊢
 have HF : Own w (w6.setRow (w.heap.size + 1) (Bg.row 32 r)) [(w.heap.size + 1, Bg.row 32 r), (w.heap.size, Bg.row 32 q)] :=
  (HE.less (l' := [(w.heap.size, Bg.row 32 q)]) Zs).row (b := w.heap.size + 1) (c := Bg.row 32 r) Zo Zs (HE.get Zs) (Bg.row 32 r)
 refine st_hm (i := 3) r (Bg.row 32 r) Zk rfl rfl Zv _ _ rfl (w.heap.size + 1) (by first | (simp; done) | (simp [Act.eval]; done) | (simp [Act.eval, Act.put])) (by first | (simp; done) | (simp [Act.eval]; done) | (simp [Act.eval, Act.put])) (HE.get Zs) (Bg.row_size 32 r) HF ?_
 generalize w6.setRow (w.heap.size + 1) (Bg.row 32 r) = w7 at HF ⊢
 refine wpAnyH_done Zk ?_ _
 try simp only [Za, Zy, Zx]
 go_wp2_with fail
 refine bodyPost_ret (res_cell_cell rfl _ (by first | (simp; done) | (simp [Act.put])) (by first | (simp; done) | (simp [Act.put])) (lv_mag (b := w.heap.size) (N := q) (HF.get Zs)) (lv_mag (b := w.heap.size + 1) (N := r) (HF.get Zs))) rfl ⟨rfl, HF.1⟩
end
section
def Bg.DivOk (a b : Nat) : Prop := ∀ (ba bb : Nat) (w : World), Blk w ba (Bg.row 32 a) → Blk w bb (Bg.row 32 b) →
    Calls Tryz.prog 158 #[.pointer (some ⟨ba, 0, none⟩), .pointer (some ⟨bb, 0, none⟩)] w fun e w' => e = .returned (.tuple #[.agg (Bg.row 32 (a / b)), .agg (Bg.row 32 (a % b))]) ∧ Below w.heap.size w w'
theorem Bg.DivOk.small {a b : Nat} (hb0 : 0 < b) (ha : a < Bg.lim) (hb : b < Bg.lim) (hok : b < 4294967296 ∨ a < b) : Bg.DivOk a b := by
 intro ba bb w hA hB
 by_cases hlt : a < b
 ·rw [Nat.div_eq_of_lt hlt, Nat.mod_eq_of_lt hlt]
  exact divide_less ba bb a b hb0 ha hb hlt w hA hB
 ·exact divide_one ba bb a b hb0 ha (hok.resolve_right hlt) hlt w hA hB
theorem div_ok (ba bb a b q r : Nat) (hok : Bg.DivOk a b) (hq : Hid (q = a / b)) (hr : Hid (r = a % b)) (w : World) (hA : Blk w ba (Bg.row 32 a)) (hB : Blk w bb (Bg.row 32 b)) :
    Calls Tryz.prog 158 #[.pointer (some ⟨ba, 0, none⟩), .pointer (some ⟨bb, 0, none⟩)] w fun e w' => e = .returned (.tuple #[.agg (Bg.row 32 q), .agg (Bg.row 32 r)]) ∧ Below w.heap.size w w' := by
 rw [hq.out, hr.out]
 exact hok ba bb w hA hB
theorem gld_mag (N : Nat) {ops : Array Oper} {rest : List Oper} {o : Oper} {a : Act} {w : World} {Q : Exit → Act → World → Prop} (hw : Region.wanted o (yielded ops a.tmps) = true) (x : Operand) (ho : o.op = .load 167 x) (b : Nat) (hx : a.eval x = .pointer (some ⟨b, 0, none⟩)) (hb : Blk w b (Bg.row 32 N))
    (h : wpList Tryz.prog ops Q rest (a.put o.dst (.agg (Bg.row 32 N))) w) : wpList Tryz.prog ops Q (o :: rest) a w := by
 obtain ⟨t, hb⟩ := hb
 refine wpList_step fun K hK => ?_
 rw [if_pos hw]
 exact wp_load_row _ x ho b hx t _ _ _ hb und_mag rfl (by rw [Bg.row_size]; exact siz_mag) (hK _ _ h)
theorem gls_neq (N M : Nat) {ops : Array Oper} {rest : List Oper} {o : Oper} {a : Act} {w : World} {Q : Exit → Act → World → Prop} (hw : Region.wanted o (yielded ops a.tmps) = true) (x y : Operand) (t : TypeId) (ho : o.op = .binOp .neq 167 x y t) (hx : a.eval x = .agg (Bg.row 32 N)) (hy : a.eval y = .agg (Bg.row 32 M)) (hN : N < Bg.lim) (hM : M < Bg.lim) (v : Bool) (hv : v = !decide (N = M))
    (h : wpList Tryz.prog ops Q rest (a.put o.dst (.bool v)) w) : wpList Tryz.prog ops Q (o :: rest) a w := by
 have hr := run_cmp_mag .neq N M hN hM x y w (.inr rfl)
 rw [if_neg Zs, ← hv] at hr
 refine wpList_step fun K hK => ?_
 rw [if_pos hw]
 unfold Oper.wp execOp
 simp only [Sem.run_bind] at hr
 simp only [ho, hx, hy, Sem.run_bind, hr, Result.andThen_ok, Sem.run_pure]
 exact hK _ _ h
theorem row_1 : (Bg.row 32 0).setIfInBounds 0 (.int .u32 1) = Bg.row 32 1 := by
 have := Bg.row_set 32 0 0 1 Zd
 rw [show Bg.setL 0 0 1 = 1 from Bg.setL_low 1] at this
 exact this
def Bg.dmQ (s1 : Bool) (M N : Nat) : Nat := if s1 && decide (M % N ≠ 0) then M / N + 1 else M / N
def Bg.dmR (s1 : Bool) (M N : Nat) : Nat := if s1 && decide (M % N ≠ 0) then N - M % N else M % N
theorem Bg.div_key {A B Q R : Int} (hR : 0 ≤ R) (hRl : R < B.natAbs) (hA : A = R + B * Q) : Q = A / B ∧ R = A % B := by
 have hB : B ≠ 0 := by intro e; subst e; simp at hRl; omega
 subst hA
 have h1 : R % B = R := by
  by_cases hb : B < 0
  ·have e : R % B = R % (-B) := (Int.emod_neg R B).symm
   rw [e]
   exact Int.emod_eq_of_lt hR Zo
  ·exact Int.emod_eq_of_lt hR Zo
 have h2 : R / B = 0 := by
  have h := Int.emod_add_mul_ediv R B
  rw [h1] at h
  have : B * (R / B) = 0 := by omega
  rcases Int.mul_eq_zero.1 this with h | h
  ·exact absurd h hB
  ·exact h
 constructor
 ·rw [Int.add_mul_ediv_left _ _ hB, h2, Int.zero_add]
 ·rw [Int.add_mul_emod_self_left, h1]
theorem Bg.dm_eq {s t s1 t1 : Bool} {M N : Nat} (h0 : 0 < N) (h1 : s1 = (s && decide (M ≠ 0))) (h2 : t1 = (t && decide (N ≠ 0))) :
    Bg.toZ (s1 != t1) (Bg.dmQ s1 M N) = Bg.toZ s M / Bg.toZ t N ∧ (Bg.dmR s1 M N : Int) = Bg.toZ s M % Bg.toZ t N := by
 rw [← Bg.toZ_canon s M, ← Bg.toZ_canon t N, ← h1, ← h2]
 have hd := Nat.div_add_mod M N
 have hlt := Nat.mod_lt M h0
 have hr : Bg.dmR s1 M N < N := by unfold Bg.dmR; split <;> rename_i h <;> simp at h <;> omega
 have hdz : ((N : Int) * (M / N : Nat) + (M % N : Nat) : Int) = M := by exact_mod_cast hd
 refine Bg.div_key Zo (by rw [Bg.toZ_abs]; omega) ?_
 unfold Bg.dmR Bg.dmQ
 generalize M / N = c at *
 generalize M % N = d at *
 by_cases hd0 : d = 0
 ·subst hd0
  cases s1 <;> cases t1 <;> simp [Bg.toZ] <;> grind
 ·cases s1 <;> cases t1 <;> simp [Bg.toZ, hd0] <;> grind
set_option maxRecDepth 20000 in
theorem divMod_any0 (s t : Bool) (M N : Nat) (hM : M < Bg.lim) (hN : N < Bg.lim) (h0 : 0 < N) (hok : Bg.DivOk M N) (x y : Int) (hx : Hid (x = Bg.toZ s M / Bg.toZ t N)) (hy : Hid (y = Bg.toZ s M % Bg.toZ t N)) (w : World) :
    Calls Tryz.prog 119 #[.agg (Bg.intA s M), .agg (Bg.intA t N)] w fun e w' => e = .returned (.tuple #[.agg (Bg.zA x), .agg (Bg.zA y), .int .i64 0]) ∧ Below w.heap.size w w' := by
 have hz := Bg.zero32
 have hzi := Bg.zeroInt
 have hs1z := Bg.row_size 32 0
 have hs2 := Bg.intA_size false 0
 have hL0 : 0 < Bg.lim := Nat.lt_of_le_of_lt (Nat.zero_le _) hN
 obtain ⟨w1, hw1⟩ : ∃ w1, w1 = (((w.alloc (.cells (Bg.intA s M) 33)).alloc (.cells (Bg.intA t N) 33)).alloc (.cells (Bg.intA false 0) 33)).alloc (.cells (Bg.intA false 0) 33) := ⟨_, rfl⟩
 have HO0 := (own3 w (Bg.intA s M) (Bg.intA t N) (Bg.intA false 0) 33 33 33).alloc (Bg.intA false 0) 33
 rw [← hw1, alloc_size, alloc_size, alloc_size, show w.heap.size + 1 + 1 + 1 = w.heap.size + 3 from rfl] at HO0
 have HO := Zi HO0
 clear HO0
 obtain ⟨s1, hs1⟩ := Zh ((s && decide (M ≠ 0)))
 obtain ⟨t1, ht1⟩ := Zh ((t && decide (N ≠ 0)))
 obtain ⟨q, hq⟩ := Zh (M / N)
 obtain ⟨r, hr⟩ := Zh (M % N)
 have hql : q < Bg.lim := by rw [hq.out]; exact Nat.lt_of_le_of_lt (Nat.div_le_self _ _) hM
 have hrl : r < Bg.lim := by rw [hr.out]; exact Nat.lt_trans (Nat.mod_lt _ h0) hN
 have HN0 : Hid (¬ N = 0) := Zi Zo
 go_enter Tryz.func119, Tryz.ntmps119
 go_upto_region 6 with (first
  | (rw [← hw1]; (with_reducible apply wl_at; refine ld_int (s) (M) rfl _ rfl _ rfl (by exact HO.out.get Zs) ?_); clear hw1)
  | ((with_reducible apply wl_at; refine ld_int (t) (N) rfl _ rfl _ rfl (by exact HO.out.get Zs) ?_))
  | (go_at_call 120; with_reducible refine (split_as s s1 M hM hs1 _).mono ?_; rintro e w2 ⟨rfl, hL⟩; have HO := Zi ((HO.out.call hL).alloc (Bg.row 32 M) 167); clear hL)
  | (go_at_call 120; with_reducible refine (split_as t t1 N hN ht1 _).mono ?_; rintro e w3 ⟨rfl, hL⟩; have HO := Zi ((HO.out.call hL).alloc (Bg.row 32 N) 167); clear hL)
  | ((with_reducible apply wl_at; refine sn_mag (M) rfl _ _ rfl rfl rfl ?_))
  | ((with_reducible apply wl_at; refine sn_mag (N) rfl _ _ rfl rfl rfl ?_))
  | ((with_reducible apply wl_at; refine ld_mag (N) rfl _ rfl _ rfl (by exact HO.out.get Zs) ?_))
  | ((with_reducible apply wl_at; refine ls_cmp .eql (N) (0) rfl _ _ _ rfl (.inl rfl) rfl rfl (hN) (hL0) ?_); rw [if_pos rfl, Zf HN0.out])
  | (go_at_call 158; refine (div_ok w2.heap.size w3.heap.size M N q r hok hq hr _ (HO.out.get Zs) (HO.out.get Zs)).mono ?_; rintro e w5 ⟨rfl, hL⟩; have HO := Zi (HO.out.call hL); have H3 : Hid (w.heap.size + 3 < w5.heap.size) := Zi (HO.out.get (b := w.heap.size + 3) (c := Bg.intA false 0) Zs).lt; have H35 : Hid (w3.heap.size < w5.heap.size) := Zi (HO.out.get (b := w3.heap.size) (c := Bg.row 32 N) Zs).lt;
      have HO := Zi ((HO.out.less (l' := [(w3.heap.size, Bg.row 32 N), (w.heap.size + 2, Bg.intA false 0), (w.heap.size + 3, Bg.intA false 0)]) Zs).alloc (Bg.row 32 0) 167); have HO := Zi (HO.out.alloc (Bg.row 32 0) 167); rw [alloc_size] at HO; clear hL)
  | ((with_reducible apply wl_at; refine st_mag (q) (Bg.row 32 0) rfl _ _ rfl _ rfl rfl (by exact HO.out.get (b := w5.heap.size) Zs) (by exact hs1z) ?_); have HO := Zi ((HO.out.less (l' := [(w3.heap.size, Bg.row 32 N), (w.heap.size + 2, Bg.intA false 0), (w.heap.size + 3, Bg.intA false 0), (w5.heap.size + 1, Bg.row 32 0)]) Zs).row (b := w5.heap.size) (c := Bg.row 32 0) (by have := H3.out; omega) (by have := H3.out; have := H35.out; simp; omega) (HO.out.get Zs) (Bg.row 32 q)); generalize World.setRow _ _ _ = w6 at HO ⊢)
  | ((with_reducible apply wl_at; refine st_mag (r) (Bg.row 32 0) rfl _ _ rfl _ rfl rfl (by exact HO.out.get (b := w5.heap.size + 1) Zs) (by exact hs1z) ?_); have HO := Zi ((HO.out.less (l' := [(w3.heap.size, Bg.row 32 N), (w.heap.size + 2, Bg.intA false 0), (w.heap.size + 3, Bg.intA false 0), (w5.heap.size, Bg.row 32 q)]) Zs).row (b := w5.heap.size + 1) (c := Bg.row 32 0) (by have := H3.out; omega) (by have := H3.out; have := H35.out; simp; omega) (HO.out.get Zs) (Bg.row 32 r)); generalize World.setRow _ _ _ = w7 at HO ⊢))
 obtain ⟨Q, hQ⟩ := Zh (Bg.dmQ s1 M N)
 obtain ⟨R, hR⟩ := Zh (Bg.dmR s1 M N)
 simp only [Act.put]
 obtain ⟨up, hup⟩ := Zh ((s1 && decide (r ≠ 0)))
 go_cut [37] (fun v wc => v = .bool up ∧ wc = w7)
 case first =>
  cases s1 with
  | false =>
   go_wp2_with fail
   go_meet
   case rel => exact ⟨by rw [hup.out]; rfl, rfl⟩
  | true =>
   obtain ⟨nz, hnz⟩ := Zh (!decide (r = 0))
   go_wp2_with (first
    | (with_reducible apply wl_at; refine gld_mag r rfl _ rfl _ rfl (by exact HO.out.get Zs) ?_)
    | (with_reducible apply wl_at; refine gls_neq r 0 rfl _ _ _ rfl rfl rfl hrl hL0 nz (by exact hnz.out) ?_))
   go_meet
   case rel => exact ⟨by rw [hup.out, hnz.out]; simp, rfl⟩
 case rest =>
  obtain ⟨rfl, rfl⟩ := hcut
  go_step
  go_cut [] (fun wc => Hid (Own w wc [(w5.heap.size + 1, Bg.row 32 R), (w5.heap.size, Bg.row 32 Q), (w.heap.size + 2, Bg.intA false 0), (w.heap.size + 3, Bg.intA false 0)]))
  case first =>
   have hqd : q = M / N := hq.out
   have hrd : r = M % N := hr.out
   cases up with
   | false =>
    have h := hup.out
    have e1 : Q = q := by rw [hQ.out]; unfold Bg.dmQ; rw [← hrd, ← hqd, ← h]; simp
    have e2 : R = r := by rw [hR.out]; unfold Bg.dmR; rw [← hrd, ← h]; simp
    have HE := Zi (And.intro e1 e2)
    clear h e1 e2 hqd hrd
    go_wp2_with fail
    go_meet
    case rel =>
     rw [HE.out.1, HE.out.2]
     exact Zi (HO.out.less Zs)
   | true =>
    have h := hup.out
    have hrm : M % N ≠ 0 := by rw [← hrd]; intro e; simp [e] at h
    have e1 : Hid (Q = (q + 1) % Bg.lim) := Zi (by rw [hQ.out]; unfold Bg.dmQ; rw [← hrd, ← hqd, ← h, hqd, Nat.mod_eq_of_lt (Bg.quo_up hM hrm)]; simp)
    have e2 : Hid (R = Bg.dif N r) := Zi (by
     have hm := Nat.mod_lt M h0
     rw [← hrd] at hm
     rw [hR.out]
     unfold Bg.dif Bg.dmR
     rw [← hrd, ← h, if_pos (show r ≤ N by omega)]
     simp)
    have h1r := row_1
    have hne := row_ne 31 0
    have h1l : 1 < Bg.lim := small_lim Zd
    obtain ⟨f, hf⟩ := Zh (decide (q + 1 < Bg.lim))
    clear h hrm hqd hrd
    go_wp2_with (first
     | (go_at_call 159; have HO := Zi (HO.out.alloc (Bg.row 32 1) 167); refine (plus_as w5.heap.size wc.heap.size q 1 Q f hql h1l e1 hf _ (HO.out.get Zs) (HO.out.get Zs)).mono ?_; rintro e w8 ⟨rfl, hL⟩; have HO := Zi (HO.out.call hL); clear hL)
     | ((with_reducible apply wl_at; refine st_mag (Q) (Bg.row 32 q) rfl _ _ rfl _ rfl rfl (by exact HO.out.get (b := w5.heap.size) Zs) (by exact Bg.row_size 32 q) ?_); have HO := Zi ((HO.out.less (l' := [(w3.heap.size, Bg.row 32 N), (w.heap.size + 2, Bg.intA false 0), (w.heap.size + 3, Bg.intA false 0), (w5.heap.size + 1, Bg.row 32 r)]) Zs).row (b := w5.heap.size) (c := Bg.row 32 q) (by have := H3.out; omega) (by have := H3.out; have := H35.out; simp; omega) (HO.out.get Zs) (Bg.row 32 Q)); generalize World.setRow _ _ _ = w9 at HO ⊢)
     | (go_at_call 160; refine (minus_as w3.heap.size (w5.heap.size + 1) N r R hN hrl e2 _ (HO.out.get Zs) (HO.out.get Zs)).mono ?_; rintro e w10 ⟨rfl, hL⟩; have HO := Zi (HO.out.call hL); clear hL)
     | ((with_reducible apply wl_at; refine st_mag (R) (Bg.row 32 r) rfl _ _ rfl _ rfl rfl (by exact HO.out.get (b := w5.heap.size + 1) Zs) (by exact Bg.row_size 32 r) ?_); have HO := Zi ((HO.out.less (l' := [(w.heap.size + 2, Bg.intA false 0), (w.heap.size + 3, Bg.intA false 0), (w5.heap.size, Bg.row 32 Q)]) Zs).row (b := w5.heap.size + 1) (c := Bg.row 32 r) (by have := H3.out; omega) (by have := H3.out; have := H35.out; simp; omega) (HO.out.get Zs) (Bg.row 32 R)); generalize World.setRow _ _ _ = w11 at HO ⊢))
    go_meet
    case rel => exact Zi (HO.out.less Zs)
  case rest =>
   clear HO
   have HO := hcut
   have hdm := Bg.dm_eq h0 hs1.out ht1.out
   rw [← hQ.out, ← hR.out, ← hx.out, ← hy.out] at hdm
   have HX := Zi hdm.1
   have HY := Zi hdm.2
   clear hdm
   have hQl : Q < Bg.lim := by
    rw [hQ.out]; unfold Bg.dmQ
    split
    ·rename_i h
     simp at h
     exact Bg.quo_up hM h.2
    ·rw [← hq.out]; exact hql
   have hRl : R < Bg.lim := by
    have hm := Nat.mod_lt M h0
    rw [hR.out]; unfold Bg.dmR
    split <;> omega
   have hy2 : Hid (y = Bg.toZ false R) := Zi (by rw [← HY.out]; simp [Bg.toZ])
   obtain ⟨d, hd⟩ := Zh ((s1 != t1))
   have hx2 : Hid (x = Bg.toZ d Q) := Zi (by rw [hd.out, HX.out])
   go_step
   go_step
   have HD : Own w _ [(w5.heap.size + 1, Bg.row 32 R), (w5.heap.size, Bg.row 32 Q), (w.heap.size + 2, Bg.intA false 0), (w.heap.size + 3, Bg.intA false 0)] := ⟨HO.out.1.drew, HO.out.2⟩
   have hn1 := H3.out
   refine wp_region_held_drew (S := fun w' => Own w w' [(w5.heap.size + 1, Bg.row 32 R), (w5.heap.size, Bg.row 32 Q)]) Zk (HD.less Zs) (fun hHeld => ?_)
   refine take_h (i := 0) (v := .bool s1) rfl rfl Zk Zk Zk (fun _ _ _ h => h) (Or.inl ⟨by rfl, ?hy1x⟩) hHeld ?rest1x
   case hy1x => (intro w hSw; go_simp)
   try simp only [Za, Zy, Zx]
   refine take_h (i := 1) (v := .bool t1) rfl rfl Zk Zk Zk (fun _ _ _ h => h) (Or.inl ⟨by rfl, ?hy2x⟩) hHeld ?rest2x
   case hy2x => (intro w hSw; go_simp)
   try simp only [Za, Zy, Zx]
   refine take_h (i := 2) (v := .bool d) rfl rfl Zk Zk Zk (fun _ _ _ h => h) (Or.inl ⟨by rfl, ?hy3x⟩) hHeld ?rest3x
   case hy3x => (intro w hSw; rw [hd.out]; go_simp; cases s1 <;> cases t1 <;> rfl)
   try simp only [Za, Zy, Zx]
   refine take_h (i := 3) (v := .agg (Bg.row 32 Q)) rfl rfl Zk Zk Zk (fun _ _ _ h => h) ?hy4x hHeld ?rest4x
   case hy4x => exact yl_blk Q Zv _ rfl w5.heap.size rfl (fun w' h => h.get Zs)
   try simp only [Za, Zy, Zx]
   refine take_h (i := 5) (v := .agg (Bg.row 32 R)) rfl rfl Zk Zk Zk (fun _ _ _ h => h) ?hy5x hHeld ?rest5x
   case hy5x => exact yl_blk R Zv _ rfl (w5.heap.size + 1) rfl (fun w' h => h.get Zs)
   try simp only [Za, Zy, Zx]
   refine call_h (i := 4) (.agg (Bg.zA x)) Zk rfl rfl Zv 136 #[.bool d, .agg (Bg.row 32 Q)] (by intro w; go_simp) (made_as d Q x hQl hx2 _) (fun w' hb => hHeld.call hb) (fun w12 hb => ?_)
   have HD2 := HD.call hb
   have hHeld2 := hHeld.call hb
   try simp only [Za, Zy, Zx]
   refine call_h (i := 6) (.agg (Bg.zA y)) Zk rfl rfl Zv 136 #[.bool false, .agg (Bg.row 32 R)] (by intro w; go_simp) (made_as false R y hRl hy2 _) (fun w' hb => hHeld2.call hb) (fun w13 hb2 => ?_)
   have HD3 := HD2.call hb2
   have hHeld3 := hHeld2.call hb2
   try simp only [Za, Zy, Zx]
   have HE := (HD3.less (l' := [(w5.heap.size + 1, Bg.row 32 R), (w5.heap.size, Bg.row 32 Q), (w.heap.size + 3, Bg.intA false 0)]) Zs).row (b := w.heap.size + 2) (c := Bg.intA false 0) Zo (by simp; omega) (HD3.get Zs) (Bg.zA x)
   refine store_hz (i := 7) x (Bg.intA false 0) Zk rfl rfl Zv _ _ rfl (w.heap.size + 2) rfl rfl (HD3.get Zs) hs2 (HE.less Zs) ?_
   generalize w13.setRow (w.heap.size + 2) (Bg.zA x) = w14 at HE ⊢
   have HF := (HE.less (l' := [(w5.heap.size + 1, Bg.row 32 R), (w5.heap.size, Bg.row 32 Q), (w.heap.size + 2, Bg.zA x)]) Zs).row (b := w.heap.size + 3) (c := Bg.intA false 0) Zo (by simp; omega) (HE.get Zs) (Bg.zA y)
   refine store_hz (i := 8) y (Bg.intA false 0) Zk rfl rfl Zv _ _ rfl (w.heap.size + 3) rfl rfl (HE.get Zs) hs2 (HF.less Zs) ?_
   generalize w14.setRow (w.heap.size + 3) (Bg.zA y) = w15 at HF ⊢
   refine take_h (i := 9) (v := .int .i64 0) rfl rfl Zk Zk Zk (fun _ _ _ h => h) (Or.inl ⟨by rfl, ?hy6x⟩) (HF.less Zs) ?rest6x
   case hy6x => (intro w hSw; go_simp)
   refine wpAnyH_done Zk ?_ _
   try simp only [Za, Zy, Zx]
   go_wp2_with fail
   refine bodyPost_ret (res_cell_cell_tmp rfl _ rfl rfl (lv_z (b := w.heap.size + 2) (z := x) (HF.get Zs)) (lv_z (b := w.heap.size + 3) (z := y) (HF.get Zs))) rfl ⟨rfl, HF.1⟩
end
end Go.Proofs.YtiekmabiecalbaaGreatDoor
