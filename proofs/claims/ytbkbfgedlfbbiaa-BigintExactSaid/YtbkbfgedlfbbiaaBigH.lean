/- Adding and subtracting numbers with a sign: bigint's Add and Sub. -/
import Derived.Test.YtbkbfgedlfbbiaaBigG
namespace Go.Proofs.Ytbkbfgedlfbbiaa
open Go.RowKit
/-- What a call knows of the blocks that it has made: these cells, and nothing below has turned. -/
def Own (w wc : World) (l : List (Nat × Array Value)) : Prop := Below w.heap.size w wc ∧ ∀ p ∈ l, Blk wc p.1 p.2
theorem Own.start (w : World) : Own w w [] := ⟨Below.refl _ _, by simp⟩
theorem Own.alloc {w wc : World} {l : List (Nat × Array Value)} (h : Own w wc l) (c : Array Value) (t : TypeId) : Own w (wc.alloc (.cells c t)) ((wc.heap.size, c) :: l) := by
  refine ⟨h.1.alloc h.1.size _, fun p hp => ?_⟩
  rcases List.mem_cons.1 hp with rfl | hp
  · exact Blk.new wc c t
  · exact (h.2 p hp).alloc _
theorem Own.call {w wc w' : World} {l : List (Nat × Array Value)} (h : Own w wc l) (hb : Below wc.heap.size wc w') : Own w w' l :=
  ⟨h.1.trans (hb.mono h.1.size), fun p hp => (h.2 p hp).below hb (h.2 p hp).lt⟩
theorem Own.get {w wc : World} {l : List (Nat × Array Value)} (h : Own w wc l) {b : Nat} {c : Array Value} (hm : (b, c) ∈ l) : Blk wc b c := h.2 _ hm
theorem Own.fin {w wc : World} {l : List (Nat × Array Value)} (h : Own w wc l) {b : Nat} {c : Array Value} (hm : (b, c) ∈ l) (hb : w.heap.size ≤ b) (c' : Array Value) : Blk (wc.setRow b c') b c' ∧ Below w.heap.size w (wc.setRow b c') :=
  ⟨(h.get hm).setRow c', below_setRow h.1 hb c'⟩
theorem own2 (w : World) (c d : Array Value) (t u : TypeId) : Own w ((w.alloc (.cells c t)).alloc (.cells d u)) [(w.heap.size + 1, d), (w.heap.size, c)] := by
  have := ((Own.start w).alloc c t).alloc d u
  rwa [alloc_size] at this
theorem own3 (w : World) (c d e : Array Value) (t u v : TypeId) : Own w (((w.alloc (.cells c t)).alloc (.cells d u)).alloc (.cells e v)) [(w.heap.size + 2, e), (w.heap.size + 1, d), (w.heap.size, c)] := by
  have := (own2 w c d t u).alloc e v
  rwa [alloc_size, alloc_size] at this
theorem split_as (s s1 : Bool) (N : Nat) (hN : N < Bg.lim) (h : Hid (s1 = (s && decide (N ≠ 0)))) (w : World) :
    Calls Try.prog 50 #[.agg (Bg.intA s N)] w fun e w' => e = .returned (.tuple #[.bool s1, .agg (Bg.row 32 N)]) ∧ Below w.heap.size w w' := by
  rw [h.out]; exact split_any s N hN w
theorem made_as (s : Bool) (N : Nat) (z : Int) (hN : N < Bg.lim) (h : Hid (z = Bg.toZ s N)) (w : World) :
    Calls Try.prog 48 #[.bool s, .agg (Bg.row 32 N)] w fun e w' => e = .returned (.agg (Bg.zA z)) ∧ Below w.heap.size w w' := by
  rw [h.out]; exact made_z s N hN w
theorem Bg.add_same {s t s1 : Bool} {M N : Nat} (h1 : s1 = (s && decide (M ≠ 0))) (h2 : s1 = (t && decide (N ≠ 0))) : Bg.toZ s M + Bg.toZ t N = Bg.toZ s1 (M + N) := by
  rw [← Bg.toZ_canon s M, ← Bg.toZ_canon t N, ← h1, ← h2]
  cases s1 <;> simp [Bg.toZ] <;> omega
theorem Bg.add_less {s t s1 : Bool} {M N : Nat} (h1 : s1 = (s && decide (M ≠ 0))) (h2 : (!s1) = (t && decide (N ≠ 0))) (hl : M < N) : Bg.toZ s M + Bg.toZ t N = Bg.toZ (!s1) (Bg.dif N M) := by
  rw [← Bg.toZ_canon s M, ← Bg.toZ_canon t N, ← h1, ← h2]
  unfold Bg.dif
  rw [if_pos (by omega)]
  cases s1 <;> simp [Bg.toZ] <;> omega
theorem Bg.add_more {s t s1 : Bool} {M N : Nat} (h1 : s1 = (s && decide (M ≠ 0))) (h2 : (!s1) = (t && decide (N ≠ 0))) (hl : ¬ M < N) : Bg.toZ s M + Bg.toZ t N = Bg.toZ s1 (Bg.dif M N) := by
  rw [← Bg.toZ_canon s M, ← Bg.toZ_canon t N, ← h1, ← h2]
  unfold Bg.dif
  rw [if_pos (by omega)]
  cases s1 <;> simp [Bg.toZ] <;> omega
/-- A number and no error, or an overflow. -/
def Bg.resV (z : Int) : Value := if z.natAbs < Bg.lim then .tuple #[Bg.iv z, .int .i64 0] else .tuple #[Bg.iv 0, .int .i64 10]
theorem Bg.resV_yes {z : Int} (h : z.natAbs < Bg.lim) : Bg.resV z = .tuple #[.agg (Bg.zA z), .int .i64 0] := by unfold Bg.resV; rw [if_pos h]; rfl
theorem Bg.resV_no {z : Int} (h : ¬ z.natAbs < Bg.lim) : Bg.resV z = .tuple #[.agg (Bg.zA 0), .int .i64 10] := by unfold Bg.resV; rw [if_neg h]; rfl
theorem compare_b (ba bb a b : Nat) (c : Int) (ha : a < Bg.lim) (hb : b < Bg.lim) (hc : Hid (c = Bg.cmp a b)) (w : World) (hA : Blk w ba (Bg.row 32 a)) (hB : Blk w bb (Bg.row 32 b)) :
    Calls Try.prog 59 #[.pointer (some ⟨ba, 0, none⟩), .pointer (some ⟨bb, 0, none⟩)] w fun e w' => e = .returned (.int .i64 c) ∧ Below w.heap.size w w' := by
  rw [hc.out]
  refine (compare_any ba bb a b ha hb w hA hB).mono ?_
  rintro e w' ⟨h, n, rfl⟩
  exact ⟨h, below_drewN (Below.refl _ _) n⟩
theorem minus_as (ba bb a b d : Nat) (ha : a < Bg.lim) (hb : b < Bg.lim) (hd : Hid (d = Bg.dif a b)) (w : World) (hA : Blk w ba (Bg.row 32 a)) (hB : Blk w bb (Bg.row 32 b)) :
    Calls Try.prog 57 #[.pointer (some ⟨ba, 0, none⟩), .pointer (some ⟨bb, 0, none⟩)] w fun e w' => e = .returned (.agg (Bg.row 32 d)) ∧ Below w.heap.size w w' := by
  rw [hd.out]; exact minus_any ba bb a b ha hb w hA hB
theorem plus_as (ba bb a b c : Nat) (f : Bool) (ha : a < Bg.lim) (hb : b < Bg.lim) (hc : Hid (c = (a + b) % Bg.lim)) (hf : Hid (f = decide (a + b < Bg.lim))) (w : World) (hA : Blk w ba (Bg.row 32 a)) (hB : Blk w bb (Bg.row 32 b)) :
    Calls Try.prog 56 #[.pointer (some ⟨ba, 0, none⟩), .pointer (some ⟨bb, 0, none⟩)] w fun e w' => e = .returned (.tuple #[.agg (Bg.row 32 c), .bool f]) ∧ Below w.heap.size w w' := by
  rw [hc.out, hf.out]; exact plus_any ba bb a b ha hb w hA hB
set_option maxRecDepth 20000 in
set_option maxHeartbeats 1000000 in
theorem add_any0 (s t : Bool) (M N : Nat) (hM : M < Bg.lim) (hN : N < Bg.lim) (z : Int) (hzz : Hid (z = Bg.toZ s M + Bg.toZ t N)) (w : World) :
    Calls Try.prog 28 #[.agg (Bg.intA s M), .agg (Bg.intA t N)] w fun e w' => e = .returned (Bg.resV z) ∧ Below w.heap.size w w' := by
  have hz := Bg.zero32
  have hzi := Bg.zeroInt
  have hs2 := Bg.intA_size false 0
  obtain ⟨w1, hw1⟩ : ∃ w1, w1 = ((w.alloc (.cells (Bg.intA s M) 25)).alloc (.cells (Bg.intA t N) 25)).alloc (.cells (Bg.intA false 0) 25) := ⟨_, rfl⟩
  have HO0 := own3 w (Bg.intA s M) (Bg.intA t N) (Bg.intA false 0) 25 25 25
  rw [← hw1] at HO0
  have HO := Lib.hid HO0
  clear HO0
  obtain ⟨s1, hs1⟩ : ∃ s1, Hid (s1 = (s && decide (M ≠ 0))) := ⟨_, rfl⟩
  obtain ⟨t1, ht1⟩ : ∃ t1, Hid (t1 = (t && decide (N ≠ 0))) := ⟨_, rfl⟩
  go_enter Try.func28, Try.ntmps28
  go_upto_region 3 with (first
    | (rw [← hw1]; refine ld_int s M rfl _ rfl _ rfl (HO.out.get (by simp)) ?_; clear hw1)
    | (refine ld_int t N rfl _ rfl _ rfl (HO.out.get (by simp)) ?_)
    | (go_at_call 50; with_reducible refine (split_as s s1 M hM hs1 _).mono ?_; rintro e w2 ⟨rfl, hL⟩; have HO := Lib.hid ((HO.out.call hL).alloc (Bg.row 32 M) 57); clear hL)
    | (go_at_call 50; with_reducible refine (split_as t t1 N hN ht1 _).mono ?_; rintro e w3 ⟨rfl, hL⟩; have HO := Lib.hid ((HO.out.call hL).alloc (Bg.row 32 N) 57); clear hL)
    | (refine sn_mag M rfl _ _ rfl rfl rfl ?_)
    | (refine sn_mag N rfl _ _ rfl rfl rfl ?_))
  generalize w3.alloc (.cells (Bg.row 32 N) 57) = w4 at HO ⊢
  have HM : Hid (Blk w4 w2.heap.size (Bg.row 32 M)) := Lib.hid (HO.out.get (by simp))
  have HN : Hid (Blk w4 w3.heap.size (Bg.row 32 N)) := Lib.hid (HO.out.get (by simp))
  by_cases hst : s1 = t1
  · subst hst
    obtain ⟨c, hc⟩ : ∃ c, Hid (c = (M + N) % Bg.lim) := ⟨_, rfl⟩
    by_cases hf : M + N < Bg.lim
    · obtain ⟨f, hf1⟩ : ∃ f, Hid (f = decide (M + N < Bg.lim)) := ⟨_, rfl⟩
      have hft : f = true := by rw [hf1.out]; simp [hf]
      subst hft
      have hcl : c < Bg.lim := by rw [hc.out]; exact Nat.mod_lt _ (Bg.ppos 32)
      obtain ⟨v, hv⟩ : ∃ v, Hid (v = Bg.toZ s1 c) := ⟨_, rfl⟩
      have HF := Lib.hid hf
      clear hf
      go_wp2_with (first
        | (go_at_call 56; refine (plus_as w2.heap.size w3.heap.size M N c true hM hN hc hf1 _ HM.out HN.out).mono ?_; rintro e w5 ⟨rfl, hL⟩; have HO := Lib.hid ((HO.out.call hL).alloc (Bg.row 32 c) 57); clear hL)
        | (refine sn_mag c rfl _ _ rfl rfl rfl ?_)
        | (refine ld_mag c rfl _ rfl _ rfl (HO.out.get (by simp)) ?_)
        | (go_at_call 48; refine (made_as s1 c v hcl hv _).mono ?_; rintro e w6 ⟨rfl, hL⟩; have HO := Lib.hid (HO.out.call hL); clear hL)
        | (refine st_z v _ rfl _ _ rfl _ rfl rfl (HO.out.get (b := w.heap.size + 2) (by simp)) hs2 ?_; have HR := Lib.hid (HO.out.fin (b := w.heap.size + 2) (c := Bg.intA false 0) (by simp) (by omega) (Bg.zA v)); generalize World.setRow _ _ _ = w7 at HR ⊢))
      refine bodyPost_ret (res_cell_tmp rfl _ rfl (lv_z HR.out.1)) rfl ⟨?_, HR.out.2⟩
      have hcm : c = M + N := by rw [hc.out, Nat.mod_eq_of_lt HF.out]
      have hvz : z = v := by rw [hzz.out, hv.out, hcm, Bg.add_same hs1.out ht1.out]
      rw [Bg.resV_yes (by rw [hvz, hv.out, Bg.toZ_abs]; exact hcl), hvz]
      rfl
    · obtain ⟨f, hf1⟩ : ∃ f, Hid (f = decide (M + N < Bg.lim)) := ⟨_, rfl⟩
      have hft : f = false := by rw [hf1.out]; simp [hf]
      subst hft
      have HF := Lib.hid hf
      clear hf
      go_wp2_with (first
        | (go_at_call 56; refine (plus_as w2.heap.size w3.heap.size M N c false hM hN hc hf1 _ HM.out HN.out).mono ?_; rintro e w5 ⟨rfl, hL⟩; have HO := Lib.hid ((HO.out.call hL).alloc (Bg.row 32 c) 57); clear hL)
        | (refine sn_mag c rfl _ _ rfl rfl rfl ?_)
        | (refine st_int false 0 _ rfl _ _ rfl _ rfl rfl (HO.out.get (b := w.heap.size + 2) (by simp)) hs2 ?_; have HR := Lib.hid (HO.out.fin (b := w.heap.size + 2) (c := Bg.intA false 0) (by simp) (by omega) (Bg.intA false 0)); generalize World.setRow _ _ _ = w7 at HR ⊢))
      have HR1 := HR.out.1
      rw [zA_zero] at HR1
      refine bodyPost_ret (res_cell_tmp rfl _ rfl (lv_z HR1)) rfl ⟨?_, HR.out.2⟩
      rw [Bg.resV_no (by rw [hzz.out, Bg.add_same hs1.out ht1.out, Bg.toZ_abs]; exact HF.out)]
      rfl
  · have htt : t1 = !s1 := by cases s1 <;> cases t1 <;> simp_all
    subst htt
    clear hst
    by_cases hlt : M < N
    · obtain ⟨c, hc⟩ : ∃ c, Hid (c = Bg.cmp M N) := ⟨_, rfl⟩
      have hcv : c = -1 := by rw [hc.out]; simp [Bg.cmp, hlt]
      subst hcv
      obtain ⟨d, hd⟩ : ∃ d, Hid (d = Bg.dif N M) := ⟨_, rfl⟩
      have hdl : d < Bg.lim := by rw [hd.out]; exact Bg.dif_lt hN hM
      obtain ⟨v, hv⟩ : ∃ v, Hid (v = Bg.toZ (!s1) d) := ⟨_, rfl⟩
      have HF := Lib.hid hlt
      clear hlt
      go_wp2_with (first
        | (go_at_call 59; refine (compare_b w2.heap.size w3.heap.size M N (-1) hM hN hc _ HM.out HN.out).mono ?_; rintro e w5 ⟨rfl, hL⟩; have HO := Lib.hid (HO.out.call hL); clear hL)
        | (go_at_call 57; refine (minus_as w3.heap.size w2.heap.size N M d hN hM hd _ (HO.out.get (by simp)) (HO.out.get (by simp))).mono ?_; rintro e w6 ⟨rfl, hL⟩; have HO := Lib.hid (HO.out.call hL); clear hL)
        | (go_at_call 48; refine (made_as (!s1) d v hdl hv _).mono ?_; rintro e w7 ⟨rfl, hL⟩; have HO := Lib.hid (HO.out.call hL); clear hL)
        | (refine st_z v _ rfl _ _ rfl _ rfl rfl (HO.out.get (b := w.heap.size + 2) (by simp)) hs2 ?_; have HR := Lib.hid (HO.out.fin (b := w.heap.size + 2) (c := Bg.intA false 0) (by simp) (by omega) (Bg.zA v)); generalize World.setRow _ _ _ = w8 at HR ⊢))
      refine bodyPost_ret (res_cell_tmp rfl _ rfl (lv_z HR.out.1)) rfl ⟨?_, HR.out.2⟩
      have hvz : z = v := by rw [hzz.out, hv.out, hd.out, Bg.add_less hs1.out ht1.out HF.out]
      rw [Bg.resV_yes (by rw [hvz, hv.out, Bg.toZ_abs]; exact hdl), hvz]
      rfl
    · obtain ⟨c, hc⟩ : ∃ c, Hid (c = Bg.cmp M N) := ⟨_, rfl⟩
      have hcv : ¬ c < 0 := by rw [hc.out]; unfold Bg.cmp; rw [if_neg hlt]; split <;> decide
      obtain ⟨d, hd⟩ : ∃ d, Hid (d = Bg.dif M N) := ⟨_, rfl⟩
      have hdl : d < Bg.lim := by rw [hd.out]; exact Bg.dif_lt hM hN
      obtain ⟨v, hv⟩ : ∃ v, Hid (v = Bg.toZ s1 d) := ⟨_, rfl⟩
      have HF := Lib.hid hlt
      clear hlt
      go_wp2_with (first
        | (go_at_call 59; refine (compare_b w2.heap.size w3.heap.size M N c hM hN hc _ HM.out HN.out).mono ?_; rintro e w5 ⟨rfl, hL⟩; have HO := Lib.hid (HO.out.call hL); clear hL)
        | (go_at_call 57; refine (minus_as w2.heap.size w3.heap.size M N d hM hN hd _ (HO.out.get (by simp)) (HO.out.get (by simp))).mono ?_; rintro e w6 ⟨rfl, hL⟩; have HO := Lib.hid (HO.out.call hL); clear hL)
        | (go_at_call 48; refine (made_as s1 d v hdl hv _).mono ?_; rintro e w7 ⟨rfl, hL⟩; have HO := Lib.hid (HO.out.call hL); clear hL)
        | (refine st_z v _ rfl _ _ rfl _ rfl rfl (HO.out.get (b := w.heap.size + 2) (by simp)) hs2 ?_; have HR := Lib.hid (HO.out.fin (b := w.heap.size + 2) (c := Bg.intA false 0) (by simp) (by omega) (Bg.zA v)); generalize World.setRow _ _ _ = w8 at HR ⊢))
      refine bodyPost_ret (res_cell_tmp rfl _ rfl (lv_z HR.out.1)) rfl ⟨?_, HR.out.2⟩
      have hvz : z = v := by rw [hzz.out, hv.out, hd.out, Bg.add_more hs1.out ht1.out HF.out]
      rw [Bg.resV_yes (by rw [hvz, hv.out, Bg.toZ_abs]; exact hdl), hvz]
      rfl
end Go.Proofs.Ytbkbfgedlfbbiaa
