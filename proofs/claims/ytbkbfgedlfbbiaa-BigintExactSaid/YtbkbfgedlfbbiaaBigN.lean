/- bigint's divide where the divisor has one limb, or is greater than the dividend. -/
import Derived.Test.YtbkbfgedlfbbiaaBigL
namespace Go.Proofs.Ytbkbfgedlfbbiaa
open Go.RowKit
theorem Own.turn {w wc w' : World} {l : List (Nat × Array Value)} {b : Nat} {c : Array Value} (h : Own w wc l) (hg : wc.grownBy w' (some b)) (hb : w.heap.size ≤ b) (hn : ∀ p ∈ l, p.1 ≠ b) (hc : Blk w' b c) : Own w w' ((b, c) :: l) := by
  refine ⟨h.1.grown hg h.1.size (fun k hk => by injection hk with hk; omega), fun p hp => ?_⟩
  rcases List.mem_cons.1 hp with rfl | hp
  · exact hc
  · exact (h.2 p hp).turn hg (fun e => hn p hp (by injection e))
theorem Own.less {w wc : World} {l l' : List (Nat × Array Value)} (h : Own w wc l) (hs : ∀ p ∈ l', p ∈ l) : Own w wc l' := ⟨h.1, fun p hp => h.2 p (hs p hp)⟩
theorem Own.row {w wc : World} {l : List (Nat × Array Value)} {b : Nat} {c : Array Value} (h : Own w wc l) (hb : w.heap.size ≤ b) (hn : ∀ p ∈ l, p.1 ≠ b) (hc : Blk wc b c) (c' : Array Value) : Own w (wc.setRow b c') ((b, c') :: l) := by
  refine ⟨below_setRow h.1 hb c', fun p hp => ?_⟩
  rcases List.mem_cons.1 hp with rfl | hp
  · exact hc.setRow c'
  · exact (h.2 p hp).farRow (hn p hp) c'
theorem Own.limb {w wc : World} {l : List (Nat × Array Value)} {b n N : Nat} (h : Own w wc l) (hb : w.heap.size ≤ b) (hn : ∀ p ∈ l, p.1 ≠ b) (hc : Blk wc b (Bg.row n N)) (i x : Nat) (hx : x < 4294967296) : Own w (wc.setCell ⟨b, i, none⟩ (.int .u32 (x : Nat))) ((b, Bg.row n (Bg.setL N i x)) :: l) := by
  refine ⟨h.1.setCell (p := ⟨b, i, none⟩) hb _, fun p hp => ?_⟩
  rcases List.mem_cons.1 hp with rfl | hp
  · exact hc.put i x hx
  · exact (h.2 p hp).far (hn p hp) _
theorem Bg.pw_one : Bg.pw 1 = 4294967296 := by rw [show (1 : Nat) = 0 + 1 from rfl, Bg.p32, Bg.pw_zero]
theorem Bg.used_one {b : Nat} (h0 : 0 < b) (h : b < 4294967296) : Bg.used b = 1 := by
  have hl := small_lim (show b < 18446744073709551616 by omega)
  have h1 := Bg.used_ge b
  have h2 := Bg.used_zero hl
  rcases Nat.lt_or_ge (Bg.used b) 2 with h3 | h3
  · omega
  · exfalso
    rcases h1 with h1 | h1
    · omega
    · have := Bg.pmono (show 1 ≤ Bg.used b - 1 by omega)
      rw [Bg.pw_one] at this
      omega
theorem Bg.limb_self {b : Nat} (h : b < 4294967296) : Bg.limb b 0 = b := by
  unfold Bg.limb
  rw [Bg.pw_zero, Nat.div_one, Nat.mod_eq_of_lt h]
theorem st_hm (N : Nat) (c : Array Value) {md : Region.Mode} {ops : Array Oper} {Q : Exit → Act → World → Prop} {S : World → Prop} {i : Nat} {oi : Oper} {fuel : Nat} {listed : Array Bool} {a : Act} {w : World} (hr : Region.ready md ops listed = [i]) (hi : ops[i]? = some oi) (hd : oi.dst = none)
    (hw : Region.wanted oi (yielded ops a.tmps) = true) (x y : Operand) (ho : oi.op = .store 57 x y) (b : Nat) (hx : a.eval x = .pointer (some ⟨b, 0, none⟩)) (hy : a.eval y = .agg (Bg.row 32 N)) (hb : Blk w b c) (hc : c.size = 32)
    (hS : S (w.setRow b (Bg.row 32 N))) (h : wpAnyH Try.prog md ops Q S fuel (listed.setIfInBounds i true) a (w.setRow b (Bg.row 32 N))) : wpAnyH Try.prog md ops Q S (fuel + 1) listed a w :=
  store_h N c hr hi hd hw x y ho b hx hy hb hc hS h
set_option maxRecDepth 20000 in
set_option maxHeartbeats 2000000 in
theorem divide_less (ba bb a b : Nat) (_hb0 : 0 < b) (ha : a < Bg.lim) (hb : b < Bg.lim) (hlt : a < b) (w : World) (hA : Blk w ba (Bg.row 32 a)) (hB : Blk w bb (Bg.row 32 b)) :
    Calls Try.prog 55 #[.pointer (some ⟨ba, 0, none⟩), .pointer (some ⟨bb, 0, none⟩)] w fun e w' => e = .returned (.tuple #[.agg (Bg.row 32 0), .agg (Bg.row 32 a)]) ∧ Below w.heap.size w w' := by
  have hz := Bg.zero32
  have ha1 := hA.lt
  have hb1 := hB.lt
  have hs1 := Bg.row_size 32 0
  obtain ⟨w1, hw1⟩ : ∃ w1, w1 = (w.alloc (.cells (Bg.row 32 0) 57)).alloc (.cells (Bg.row 32 0) 57) := ⟨_, rfl⟩
  have HO0 := own2 w (Bg.row 32 0) (Bg.row 32 0) 57 57
  rw [← hw1] at HO0
  have HO := Lib.hid HO0
  clear HO0
  have HUA := Lib.hid (used_any ba a w1 (hA.below HO.out.1 ha1))
  have HUB := Lib.hid (used_any bb b w1 (hB.below HO.out.1 hb1))
  have HC := Lib.hid (compare_any ba bb a b ha hb w1 (hA.below HO.out.1 ha1) (hB.below HO.out.1 hb1))
  have HA := Lib.hid hA
  have hcm : Bg.cmp a b = -1 := by simp [Bg.cmp, hlt]
  rw [hcm] at HC
  generalize Bg.used a = n at HUA
  generalize Bg.used b = m at HUB
  clear hA hB
  go_enter Try.func55, Try.ntmps55
  go_wp2_with (first
    | (rw [← hw1]; go_at_call 67; refine HUB.out.mono ?_; rintro e w' ⟨rfl, rfl⟩; clear hw1)
    | (go_at_call 67; refine HUA.out.mono ?_; rintro e w' ⟨rfl, rfl⟩)
    | (go_at_call 59; refine HC.out.mono ?_; rintro e w2 ⟨rfl, n2, rfl⟩; have HO := Lib.hid ((HO.out).call (below_drewN (Below.refl _ _) n2)); have HBA := Lib.hid (HA.out.below HO.out.1 ha1))
    | ((with_reducible apply wl_at; refine ld_mag (a) rfl _ rfl (ba) ?hx HBA.out ?_; (case hx => (first | (simp; done) | (simp [Act.eval]; done) | (simp [Act.eval, Act.put])))))
    | ((with_reducible apply wl_at; refine st_mag (0) (Bg.row 32 0) rfl _ _ rfl (w.heap.size) ?hx ?hy (HO.out.get (by simp)) hs1 ?_; (case hx => (first | (simp; done) | (simp [Act.eval]; done) | (simp [Act.eval, Act.put]))); (case hy => (first | (simp; done) | (simp [Act.eval]; done) | (simp [Act.eval, Act.put])))); have HO2 := Lib.hid ((HO.out.less (l' := [(w.heap.size + 1, Bg.row 32 0)]) (by simp)).row (b := w.heap.size) (c := Bg.row 32 0) (Nat.le_refl _) (by simp) (HO.out.get (by simp)) (Bg.row 32 0)); generalize World.setRow _ _ _ = w3 at HO2 ⊢)
    | ((with_reducible apply wl_at; refine st_mag (a) (Bg.row 32 0) rfl _ _ rfl (w.heap.size + 1) ?hx ?hy (HO2.out.get (by simp)) hs1 ?_; (case hx => (first | (simp; done) | (simp [Act.eval]; done) | (simp [Act.eval, Act.put]))); (case hy => (first | (simp; done) | (simp [Act.eval]; done) | (simp [Act.eval, Act.put])))); have HO3 := Lib.hid ((HO2.out.less (l' := [(w.heap.size, Bg.row 32 0)]) (by simp)).row (b := w.heap.size + 1) (c := Bg.row 32 0) (by omega) (by simp) (HO2.out.get (by simp)) (Bg.row 32 a)); generalize World.setRow _ _ _ = w4 at HO3 ⊢))
  refine bodyPost_ret (res_cell_cell rfl _ (by first | (simp; done) | (simp [Act.put])) (by first | (simp; done) | (simp [Act.put])) (lv_mag (b := w.heap.size) (N := 0) (HO3.out.get (by simp))) (lv_mag (b := w.heap.size + 1) (N := a) (HO3.out.get (by simp)))) rfl ⟨rfl, HO3.out.1⟩
end Go.Proofs.Ytbkbfgedlfbbiaa
