/- Walks. -/
import Derived.Deep.LoopGhost
import Derived.Test.YtiekmabiecalbaaGreatDoorPa06
import Derived.Test.YtiekmabiecalbaaGreatDoorPa07
namespace Go.Proofs.YtiekmabiecalbaaGreatDoor
set_option maxHeartbeats 16000000
open Go.RowKit
set_option maxRecDepth 8000
section
theorem z9_17 {P : Prop} (h : P := by
 refine wpAnyH_done Zk ?_ _
 go_wp2_with fail
 go_roundg g
 case rel => exact ⟨B, r, by have := Nat.mod_lt A hB1; have := hr.out; omega, by have := Nat.mod_lt A hB1; have := hr.out; omega, Zi (by rw [hr.out, ← HGc.out, Nat.gcd_comm A B, Nat.gcd_rec B A, Nat.gcd_comm]), Zi hBl, HK2⟩
 case measure => omega) : P := h
theorem z9_18 {P : Prop} (h : P := by
 subst e
 have hb2 : (!s == s) = false := by cases s <;> rfl
 simp only [hb2, Bool.false_eq_true, if_false]
 unfold Op.eqFields
 rw [if_pos n2]
 simp only [Sem.run_bind, hp3, hp4, Result.andThen_ok, ha]
 by_cases e2 : N = M <;> simp [e2, Op.eqFields]) : P := h
theorem z9_19 {P : Prop} (h : P := by
 have hb2 : (!s == t) = true := by cases s <;> cases t <;> simp_all
 simp only [hb2, if_true, Sem.run_pure]
 simp [e]) : P := h
theorem z9_20 {P : Prop} (h : P := by
 by_cases e : p = d
 ·subst e; simp
 ·have : ¬ (decide (p < 0) = decide (d < 0) ∧ p.natAbs = d.natAbs) := by
    rintro ⟨h1, h2⟩
    have h3 : (p < 0) ↔ (d < 0) := by simpa using h1
    omega
  rw [Zf this, Zf e]) : P := h
theorem z9_21 {P : Prop} (h : P := by
 rw [run_eql_struct, he, Result.andThen_ok, if_pos rfl]) : P := h
theorem z9_22 {P : Prop} (h : P := by
 rw [run_neq_struct, he, Result.andThen_ok, if_neg Zs]) : P := h
end
section
section
variable {md : Region.Mode} {ops : Array Oper} {Q : Exit → Act → World → Prop} {S : World → Prop} {i : Nat} {oi : Oper} {d : Tmp} {fuel : Nat} {listed : Array Bool} {a : Act} {w : World}
theorem e_ld (N : Nat) (hd : oi.dst = some d) (hw : Region.wanted oi (yielded ops a.tmps) = true) (x : Operand) (ho : oi.op = .load 167 x) (b : Nat) (hx : a.eval x = .pointer (some ⟨b, 0, none⟩)) (hb : Blk w b (Bg.row 32 N)) (hS : S w)
    (h : wpAnyH Tryz.prog md ops Q S fuel (listed.setIfInBounds i true) { a with tmps := a.tmps.setIfInBounds d (.agg (Bg.row 32 N)) } w) :
    ∀ K' : Act → World → Prop, Shut (∀ a w, S w → (S w → wpAnyH Tryz.prog md ops Q S fuel (listed.setIfInBounds i true) a w) → K' a w) → if Region.wanted oi (yielded ops a.tmps) = true then Oper.wp Tryz.prog oi a w K' Q else K' (a.put oi.dst undef) w := by
 intro K hK
 obtain ⟨t, hb⟩ := hb
 rw [if_pos hw]
 refine wp_load_row _ x ho b hx t _ _ _ hb und_mag rfl (by rw [Bg.row_size]; exact siz_mag) ?_
 rw [hd]
 exact hK.out _ _ hS (fun _ => h)
theorem e_st (N : Nat) (c : Array Value) (hd : oi.dst = none) (hw : Region.wanted oi (yielded ops a.tmps) = true) (x y : Operand) (ho : oi.op = .store 167 x y) (b : Nat) (hx : a.eval x = .pointer (some ⟨b, 0, none⟩)) (hy : a.eval y = .agg (Bg.row 32 N)) (hb : Blk w b c) (hc : c.size = 32) (hS : S (w.setRow b (Bg.row 32 N)))
    (h : wpAnyH Tryz.prog md ops Q S fuel (listed.setIfInBounds i true) a (w.setRow b (Bg.row 32 N))) :
    ∀ K' : Act → World → Prop, Shut (∀ a w, S w → (S w → wpAnyH Tryz.prog md ops Q S fuel (listed.setIfInBounds i true) a w) → K' a w) → if Region.wanted oi (yielded ops a.tmps) = true then Oper.wp Tryz.prog oi a w K' Q else K' (a.put oi.dst undef) w := by
 intro K hK
 obtain ⟨t, hb⟩ := hb
 rw [if_pos hw]
 refine wp_store_row _ x y ho b _ hx hy t _ hb (by rw [Bg.row_size]; exact siz_mag) (by rw [Bg.row_size, hc]) (Bg.row_one 32 N) ?_
 rw [hd]
 exact hK.out _ _ hS (fun _ => h)
end
set_option maxRecDepth 20000 in
theorem gcd_any0 (s t : Bool) (M N : Nat) (hM : M < Bg.lim) (hN : N < Bg.lim) (hok : ∀ A B, 0 < B → A < Bg.lim → B ≤ N → Bg.DivOk A B) (z : Int) (hz0 : Hid (z = (Nat.gcd M N : Nat))) (w : World) :
    Calls Tryz.prog 147 #[.agg (Bg.intA s M), .agg (Bg.intA t N)] w fun e w' => e = .returned (.agg (Bg.zA z)) ∧ Below w.heap.size w w' := by
 have hz := Bg.zero32
 have hzi := Bg.zeroInt
 have hs1z := Bg.row_size 32 0
 have hs2 := Bg.intA_size false 0
 have hL0 : 0 < Bg.lim := Nat.lt_of_le_of_lt (Nat.zero_le _) hN
 obtain ⟨w1, hw1⟩ : ∃ w1, w1 = ((w.alloc (.cells (Bg.intA s M) 33)).alloc (.cells (Bg.intA t N) 33)).alloc (.cells (Bg.intA false 0) 33) := ⟨_, rfl⟩
 have HO0 := own3 w (Bg.intA s M) (Bg.intA t N) (Bg.intA false 0) 33 33 33
 rw [← hw1] at HO0
 have HO := Zi HO0
 clear HO0
 obtain ⟨s1, hs1⟩ := Zh ((s && decide (M ≠ 0)))
 obtain ⟨t1, ht1⟩ := Zh ((t && decide (N ≠ 0)))
 go_enter Tryz.func147, Tryz.ntmps147
 go_upto_region 3 with (first
  | (rw [← hw1]; (with_reducible apply wl_at; refine ld_int (s) (M) rfl _ rfl _ rfl (by exact HO.out.get Zs) ?_); clear hw1)
  | ((with_reducible apply wl_at; refine ld_int (t) (N) rfl _ rfl _ rfl (by exact HO.out.get Zs) ?_))
  | (go_at_call 120; with_reducible refine (split_as s s1 M hM hs1 _).mono ?_; rintro e w2 ⟨rfl, hL⟩; have HO := Zi (HO.out.call hL); have H2 : Hid (w.heap.size + 2 < w2.heap.size) := Zi (HO.out.get (b := w.heap.size + 2) (c := Bg.intA false 0) Zs).lt; have HO := Zi (HO.out.alloc (Bg.row 32 M) 167); clear hL)
  | (go_at_call 120; with_reducible refine (split_as t t1 N hN ht1 _).mono ?_; rintro e w3 ⟨rfl, hL⟩; have HO := Zi (HO.out.call hL); have H3 : Hid (w2.heap.size < w3.heap.size) := Zi (HO.out.get (b := w2.heap.size) (c := Bg.row 32 M) Zs).lt; have HO := Zi (HO.out.alloc (Bg.row 32 N) 167); clear hL)
  | ((with_reducible apply wl_at; refine sn_mag (M) rfl _ _ rfl rfl rfl ?_))
  | ((with_reducible apply wl_at; refine sn_mag (N) rfl _ _ rfl rfl rfl ?_)))
 simp only [Act.put]
 generalize w3.alloc (.cells (Bg.row 32 N) 167) = w4 at HO ⊢
 go_loopg [] (N + 1) (fun g wr => ∃ A B : Nat, B + 1 ≤ g ∧ B ≤ N ∧ Hid (Nat.gcd A B = Nat.gcd M N) ∧ Hid (A < Bg.lim) ∧ Hid (Own w wr [(w3.heap.size, Bg.row 32 B), (w2.heap.size, Bg.row 32 A), (w.heap.size + 2, Bg.intA false 0)]))
 case atStart => exact ⟨M, N, by omega, by omega, Zi rfl, Zi hM, Zi (HO.out.less Zs)⟩
 case round =>
  clear HO
  obtain ⟨A, B, hBg, hBN, HGc, HA, HO⟩ := hrel
  cases gk with
  | zero => omega
  | succ g =>
   have hBl : B < Bg.lim := by omega
   by_cases hB0 : B = 0
   ·have HB0 := Zi hB0
    have hv : Hid (z = Bg.toZ false A) := Zi (by rw [hz0.out, ← HGc.out, hB0, Nat.gcd_zero_right]; simp [Bg.toZ])
    clear hB0
    go_wp2_with (first
     | ((with_reducible apply wl_at; refine ld_mag (B) rfl _ rfl (w3.heap.size) ?hx (HO.out.get Zs) ?_; (case hx => (first | (simp; done) | (simp [Act.eval]; done) | (simp [Act.eval, Act.put])))))
     | ((with_reducible apply wl_at; refine ls_cmp .neq (B) (0) rfl _ _ _ rfl (.inr rfl) rfl rfl (hBl) (hL0) ?_); rw [if_neg Zs, HB0.out])
     | ((with_reducible apply wl_at; refine ld_mag (A) rfl _ rfl (w2.heap.size) ?hx (HO.out.get Zs) ?_; (case hx => (first | (simp; done) | (simp [Act.eval]; done) | (simp [Act.eval, Act.put])))))
     | (go_at_call 136; refine (made_as false A z HA.out hv _).mono ?_; rintro e w6 ⟨rfl, hL⟩; have HO := Zi (HO.out.call hL); clear hL)
     | ((with_reducible apply wl_at; refine st_z (z) (Bg.intA false 0) rfl _ _ rfl _ rfl rfl (by exact HO.out.get (b := w.heap.size + 2) Zs) (by exact hs2) ?_); have HR := Zi (HO.out.fin (b := w.heap.size + 2) (c := Bg.intA false 0) Zs Zo (Bg.zA z)); generalize World.setRow _ _ _ = w7 at HR ⊢))
    exact z9_16
   ·have HB0 := Zi hB0
    have hB1 : 0 < B := by omega
    obtain ⟨q, hq⟩ := Zh (A / B)
    obtain ⟨r, hr⟩ := Zh (A % B)
    have hA := HA.out
    have hok2 := hok A B hB1 hA hBN
    clear hB0
    go_upto_region 5 with (first
     | ((with_reducible apply wl_at; refine ld_mag (B) rfl _ rfl (w3.heap.size) ?hx (HO.out.get Zs) ?_; (case hx => (first | (simp; done) | (simp [Act.eval]; done) | (simp [Act.eval, Act.put])))))
     | ((with_reducible apply wl_at; refine ls_cmp .neq (B) (0) rfl _ _ _ rfl (.inr rfl) rfl rfl (hBl) (hL0) ?_); rw [if_neg Zs, Zf HB0.out])
     | (go_at_call 158; refine (div_ok w2.heap.size w3.heap.size A B q r hok2 hq hr _ (HO.out.get Zs) (HO.out.get Zs)).mono ?_; rintro e w5 ⟨rfl, hL⟩; have HO := Zi (HO.out.call hL); have H5 : Hid (w3.heap.size < w5.heap.size) := Zi (HO.out.get (b := w3.heap.size) (c := Bg.row 32 B) Zs).lt; have HO := Zi ((HO.out.alloc (Bg.row 32 0) 167).alloc (Bg.row 32 0) 167); rw [alloc_size] at HO; clear hL)
     | ((with_reducible apply wl_at; refine st_mag (q) (Bg.row 32 0) rfl _ _ rfl (w5.heap.size) ?hx ?hy (HO.out.get Zs) hs1z ?_; (case hx => (first | (simp; done) | (simp [Act.eval]; done) | (simp [Act.eval, Act.put]))); (case hy => (first | (simp; done) | (simp [Act.eval]; done) | (simp [Act.eval, Act.put])))); have HO := Zi ((HO.out.less (l' := [(w3.heap.size, Bg.row 32 B), (w2.heap.size, Bg.row 32 A), (w.heap.size + 2, Bg.intA false 0), (w5.heap.size + 1, Bg.row 32 0)]) Zs).row (b := w5.heap.size) (c := Bg.row 32 0) (by have := H2.out; have := H3.out; have := H5.out; omega) (by have := H2.out; have := H3.out; have := H5.out; simp; omega) (HO.out.get Zs) (Bg.row 32 q)); generalize World.setRow _ _ _ = w6 at HO ⊢)
     | ((with_reducible apply wl_at; refine st_mag (r) (Bg.row 32 0) rfl _ _ rfl (w5.heap.size + 1) ?hx ?hy (HO.out.get Zs) hs1z ?_; (case hx => (first | (simp; done) | (simp [Act.eval]; done) | (simp [Act.eval, Act.put]))); (case hy => (first | (simp; done) | (simp [Act.eval]; done) | (simp [Act.eval, Act.put])))); have HO := Zi ((HO.out.less (l' := [(w3.heap.size, Bg.row 32 B), (w2.heap.size, Bg.row 32 A), (w.heap.size + 2, Bg.intA false 0)]) Zs).row (b := w5.heap.size + 1) (c := Bg.row 32 0) (by have := H2.out; have := H3.out; have := H5.out; omega) (by have := H2.out; have := H3.out; have := H5.out; simp; omega) (HO.out.get Zs) (Bg.row 32 r)); generalize World.setRow _ _ _ = w7 at HO ⊢))
    simp only [Act.put]
    have K0 : Own w w7.drew [(w5.heap.size + 1, Bg.row 32 r), (w3.heap.size, Bg.row 32 B), (w2.heap.size, Bg.row 32 A), (w.heap.size + 2, Bg.intA false 0)] := ⟨HO.out.1.drew, HO.out.2⟩
    have K1 : Own w (w7.drew.setRow w2.heap.size (Bg.row 32 B)) [(w2.heap.size, Bg.row 32 B), (w5.heap.size + 1, Bg.row 32 r), (w3.heap.size, Bg.row 32 B), (w.heap.size + 2, Bg.intA false 0)] :=
     (K0.less (l' := [(w5.heap.size + 1, Bg.row 32 r), (w3.heap.size, Bg.row 32 B), (w.heap.size + 2, Bg.intA false 0)]) Zs).row (b := w2.heap.size) (c := Bg.row 32 A) (by have := H2.out; omega) (by have := H2.out; have := H3.out; have := H5.out; simp; omega) (K0.get Zs) _
    have K2 : Own w ((w7.drew.setRow w2.heap.size (Bg.row 32 B)).setRow w3.heap.size (Bg.row 32 r)) [(w3.heap.size, Bg.row 32 r), (w2.heap.size, Bg.row 32 B), (w.heap.size + 2, Bg.intA false 0)] :=
     (K1.less (l' := [(w2.heap.size, Bg.row 32 B), (w.heap.size + 2, Bg.intA false 0)]) Zs).row (b := w3.heap.size) (c := Bg.row 32 B) (by have := H2.out; have := H3.out; omega) (by have := H2.out; have := H3.out; have := H5.out; simp; omega) (K1.get Zs) _
    have HK2 := Zi K2
    have hsB := Bg.row_size 32 B
    have hsA := Bg.row_size 32 A
    refine wp_region_held_drew (S := fun _ => True) Zk trivial (fun _ => ?_)
    generalize w7.drew = w8 at K0 K1 K2 HK2 ⊢
    refine wpAnyH_ready (rs := [0, 1]) Zk Zs (AllReadyH.cons rfl (e_ld B rfl Zv _ rfl w3.heap.size (by simp [Act.eval]) (K0.get Zs) trivial ?o0) (AllReadyH.cons rfl (e_ld r rfl Zv _ rfl (w5.heap.size + 1) (by simp [Act.eval]) (K0.get Zs) trivial ?o1) AllReadyH.nil))
    case o0 =>
     try simp only [Za, Zy, Zx]
     refine wpAnyH_ready (rs := [1, 2]) Zk Zs (AllReadyH.cons rfl (e_ld r rfl Zv _ rfl (w5.heap.size + 1) (by simp [Act.eval]) (K0.get Zs) trivial ?o01) (AllReadyH.cons rfl (e_st B (Bg.row 32 A) rfl Zv _ _ rfl w2.heap.size (by simp [Act.eval]) (by simp [Act.eval]) (K0.get Zs) hsA trivial ?o02) AllReadyH.nil))
     case o01 =>
      try simp only [Za, Zy, Zx]
      refine wpAnyH_ready (rs := [2]) Zk Zs (AllReadyH.cons rfl (e_st B (Bg.row 32 A) rfl Zv _ _ rfl w2.heap.size (by simp [Act.eval]) (by simp [Act.eval]) (K0.get Zs) hsA trivial ?o012) AllReadyH.nil)
      refine wpAnyH_ready (rs := [3]) Zk Zs (AllReadyH.cons rfl (e_st r (Bg.row 32 B) rfl Zv _ _ rfl w3.heap.size (by simp [Act.eval]) (by simp [Act.eval]) (K1.get Zs) hsB trivial ?o0123) AllReadyH.nil)
      exact z9_17
     case o02 =>
      refine wpAnyH_ready (rs := [1]) Zk Zs (AllReadyH.cons rfl (e_ld r rfl Zv _ rfl (w5.heap.size + 1) (by simp [Act.eval]) (K1.get Zs) trivial ?o021) AllReadyH.nil)
      try simp only [Za, Zy, Zx]
      refine wpAnyH_ready (rs := [3]) Zk Zs (AllReadyH.cons rfl (e_st r (Bg.row 32 B) rfl Zv _ _ rfl w3.heap.size (by simp [Act.eval]) (by simp [Act.eval]) (K1.get Zs) hsB trivial ?o0213) AllReadyH.nil)
      exact z9_17
    case o1 =>
     try simp only [Za, Zy, Zx]
     refine wpAnyH_ready (rs := [0]) Zk Zs (AllReadyH.cons rfl (e_ld B rfl Zv _ rfl w3.heap.size (by simp [Act.eval]) (K0.get Zs) trivial ?o10) AllReadyH.nil)
     try simp only [Za, Zy, Zx]
     refine wpAnyH_ready (rs := [2]) Zk Zs (AllReadyH.cons rfl (e_st B (Bg.row 32 A) rfl Zv _ _ rfl w2.heap.size (by simp [Act.eval]) (by simp [Act.eval]) (K0.get Zs) hsA trivial ?o102) AllReadyH.nil)
     refine wpAnyH_ready (rs := [3]) Zk Zs (AllReadyH.cons rfl (e_st r (Bg.row 32 B) rfl Zv _ _ rfl w3.heap.size (by simp [Act.eval]) (by simp [Act.eval]) (K1.get Zs) hsB trivial ?o1023) AllReadyH.nil)
     exact z9_17
end
section
theorem Bg.cmp_sign (x y : Int) (hs : x.sign = y.sign) : x.sign * Bg.cmp x.natAbs y.natAbs = (x - y).sign := by
 unfold Bg.cmp
 rcases Int.lt_trichotomy x 0 with h1 | h1 | h1
 ·have e : x.sign = -1 := Int.sign_eq_neg_one_of_neg h1
  have h2 : y < 0 := by rw [e] at hs; exact Int.sign_eq_neg_one_iff_neg.1 hs.symm
  rw [e]
  rcases Int.lt_trichotomy x y with h | h | h
  ·rw [Int.sign_eq_neg_one_of_neg (show x - y < 0 by omega)]
   rw [if_neg Zo, if_pos Zo]; rfl
  ·subst h; simp
  ·rw [Int.sign_eq_one_of_pos (show 0 < x - y by omega)]
   rw [if_pos Zo]; rfl
 ·subst h1
  have h2 : y = 0 := Int.sign_eq_zero_iff_zero.1 hs.symm
  subst h2
  simp
 ·have e : x.sign = 1 := Int.sign_eq_one_of_pos h1
  have h2 : 0 < y := by rw [e] at hs; exact Int.sign_eq_one_iff_pos.1 hs.symm
  rw [e]
  rcases Int.lt_trichotomy x y with h | h | h
  ·rw [Int.sign_eq_neg_one_of_neg (show x - y < 0 by omega)]
   rw [if_pos Zo]; rfl
  ·subst h; simp
  ·rw [Int.sign_eq_one_of_pos (show 0 < x - y by omega)]
   rw [if_neg Zo, if_pos Zo]; rfl
theorem Bg.cmp_other (x y : Int) (hs : x.sign ≠ y.sign) : (x - y).sign = if x.sign < y.sign then -1 else 1 := by
 rcases Int.lt_trichotomy x 0 with h1 | h1 | h1 <;> rcases Int.lt_trichotomy y 0 with h2 | h2 | h2
 all_goals
  first
   | (exfalso; apply hs; simp [Int.sign_eq_neg_one_of_neg, Int.sign_eq_one_of_pos, h1, h2]; done)
   | (rw [Int.sign_eq_neg_one_of_neg (show x - y < 0 by omega)]; simp [Int.sign_eq_neg_one_of_neg, Int.sign_eq_one_of_pos, h1, h2]; done)
   | (rw [Int.sign_eq_one_of_pos (show 0 < x - y by omega)]; simp [Int.sign_eq_neg_one_of_neg, Int.sign_eq_one_of_pos, h1, h2]; done)
set_option maxRecDepth 20000 in
theorem cmp_any0 (s t : Bool) (M N : Nat) (hM : M < Bg.lim) (hN : N < Bg.lim) (g : Int) (hg : Hid (g = (Bg.toZ s M - Bg.toZ t N).sign)) (w : World) :
    Calls Tryz.prog 114 #[.agg (Bg.intA s M), .agg (Bg.intA t N)] w fun e w' => e = .returned (.int .i64 g) ∧ Below w.heap.size w w' := by
 have hz := Bg.zero32
 obtain ⟨w1, hw1⟩ : ∃ w1, w1 = (w.alloc (.cells (Bg.intA s M) 33)).alloc (.cells (Bg.intA t N) 33) := ⟨_, rfl⟩
 have HO0 := own2 w (Bg.intA s M) (Bg.intA t N) 33 33
 rw [← hw1] at HO0
 have HO := Zi HO0
 clear HO0
 obtain ⟨s1, hs1⟩ := Zh ((s && decide (M ≠ 0)))
 obtain ⟨t1, ht1⟩ := Zh ((t && decide (N ≠ 0)))
 obtain ⟨a, ha⟩ := Zh ((Bg.toZ s M).sign)
 obtain ⟨b, hb⟩ := Zh ((Bg.toZ t N).sign)
 obtain ⟨c, hc⟩ := Zh (Bg.cmp M N)
 have hav : a = -1 ∨ a = 0 ∨ a = 1 := by
  rw [ha.out]
  rcases Int.lt_trichotomy (Bg.toZ s M) 0 with h | h | h
  ·exact .inl (Int.sign_eq_neg_one_of_neg h)
  ·right; left; rw [h]; rfl
  ·right; right; exact Int.sign_eq_one_of_pos h
 have hcv : c = -1 ∨ c = 0 ∨ c = 1 := by
  rw [hc.out]; unfold Bg.cmp
  split
  ·exact .inl rfl
  ·split
   ·exact .inr (.inr rfl)
   ·exact .inr (.inl rfl)
 go_enter Tryz.func114, Tryz.ntmps114
 go_wp2_with fail
 rw [← hw1]
 clear hw1
 have HD : Own w w1.drew _ := ⟨HO.out.1.drew, HO.out.2⟩
 refine wp_region_held_drew (S := fun w' => Own w w' [(w.heap.size + 1, Bg.intA t N), (w.heap.size, Bg.intA s M)]) Zk HD (fun hHeld => ?_)
 refine take_h (i := 0) (v := .agg (Bg.intA s M)) rfl rfl Zk Zk Zk (fun _ _ _ h => h) ?hy1 hHeld ?rest1
 case hy1 => exact yl_int s M Zv _ rfl _ rfl (fun w' h => h.get Zs)
 try simp only [Za, Zy, Zx]
 refine take_h (i := 2) (v := .agg (Bg.intA t N)) rfl rfl Zk Zk Zk (fun _ _ _ h => h) ?hy2 hHeld ?rest2
 case hy2 => exact yl_int t N Zv _ rfl _ rfl (fun w' h => h.get Zs)
 try simp only [Za, Zy, Zx]
 refine call_h (i := 1) (.int .i64 a) Zk rfl rfl Zv 78 #[.agg (Bg.intA s M)] (by intro w; go_simp) (sign_any s M hM a ha _) (fun w' hb => hHeld.call hb) (fun w2 hb => ?_)
 have hHeld2 := hHeld.call hb
 try simp only [Za, Zy, Zx]
 refine call_h (i := 3) (.int .i64 b) Zk rfl rfl Zv 78 #[.agg (Bg.intA t N)] (by intro w; go_simp) (sign_any t N hN b ‹_› _) (fun w' hb => hHeld2.call hb) (fun w3 hb2 => ?_)
 have hHeld3 := hHeld2.call hb2
 try simp only [Za, Zy, Zx]
 refine take_h (i := 4) (v := .int .i64 a) rfl rfl Zk Zk Zk (fun _ _ _ h => h) (Or.inl ⟨by rfl, ?hy5⟩) hHeld3 ?rest5
 case hy5 => (intro w hSw; go_simp)
 try simp only [Za, Zy, Zx]
 refine take_h (i := 5) (v := .int .i64 b) rfl rfl Zk Zk Zk (fun _ _ _ h => h) (Or.inl ⟨by rfl, ?hy6⟩) hHeld3 ?rest6
 case hy6 => (intro w hSw; go_simp)
 refine wpAnyH_done Zk ?_ _
 try simp only [Za, Zy, Zx]
 clear HO hb hb2 hHeld hHeld2 HD
 have HO := Zi hHeld3
 clear hHeld3
 by_cases hab : a = b
 ·subst hab
  have HE : Hid (g = a * c) := Zi (by
   have h := Bg.cmp_sign (Bg.toZ s M) (Bg.toZ t N) (by rw [← ha.out, ‹Hid (a = (Bg.toZ t N).sign)›.out])
   rw [Bg.toZ_abs, Bg.toZ_abs, ← ha.out, ← hc.out] at h
   rw [hg.out, h])
  go_wp2_with (first
   | ((with_reducible apply wl_at; refine ld_int (s) (M) rfl _ rfl _ rfl (by exact HO.out.get (b := w.heap.size) Zs) ?_))
   | (go_at_call 120; with_reducible refine (split_as s s1 M hM hs1 _).mono ?_; rintro e w4 ⟨rfl, hL⟩; have HO := Zi ((HO.out.call hL).alloc (Bg.row 32 M) 167); clear hL)
   | ((with_reducible apply wl_at; refine ld_int (t) (N) rfl _ rfl _ rfl (by exact HO.out.get (b := w.heap.size + 1) Zs) ?_))
   | (go_at_call 120; with_reducible refine (split_as t t1 N hN ht1 _).mono ?_; rintro e w5 ⟨rfl, hL⟩; have HO := Zi ((HO.out.call hL).alloc (Bg.row 32 N) 167); clear hL)
   | ((with_reducible apply wl_at; refine sn_mag (M) rfl _ _ rfl rfl rfl ?_))
   | ((with_reducible apply wl_at; refine sn_mag (N) rfl _ _ rfl rfl rfl ?_))
   | (go_at_call 156; refine (compare_b w4.heap.size w5.heap.size M N c hM hN hc _ (HO.out.get Zs) (HO.out.get Zs)).mono ?_; rintro e w6 ⟨rfl, hL⟩; have HO := Zi (HO.out.call hL); clear hL))
  go_ret
  refine ⟨congrArg Ending.returned (congrArg (Value.int IntKind.i64) ?_), HO.out.1⟩
  rw [HE.out]
  rcases hav with h | h | h <;> rcases hcv with k | k | k <;> rw [h, k] <;> kernel_rfl
 ·have HE : Hid (g = if a < b then -1 else 1) := Zi (by
    rw [hg.out, Bg.cmp_other _ _ (by rw [← ha.out, ← ‹Hid (b = (Bg.toZ t N).sign)›.out]; exact hab), ← ha.out, ← ‹Hid (b = (Bg.toZ t N).sign)›.out])
  by_cases hlt : a < b
  ·have HL := Zi hlt
   go_wp2_with fail
   go_ret
   refine ⟨?_, HO.out.1⟩
   rw [HE.out, if_pos HL.out]
   rfl
  ·have HL := Zi hlt
   go_wp2_with fail
   go_ret
   refine ⟨?_, HO.out.1⟩
   rw [HE.out, if_neg (show ¬ a < b by have := HL.out; omega)]
   rfl
end
section
theorem bitLenAux_le : ∀ (f x : Nat), Lib.bitLenAux f x ≤ f
 | 0, _ => Nat.le_refl _
 | f + 1, x => by
  unfold Lib.bitLenAux
  have := bitLenAux_le f (x / 2)
  split <;> omega
theorem bitLen_32 {x : Nat} (h : x < 4294967296) : Lib.bitLen x ≤ 32 := by
 unfold Lib.bitLen
 rw [Lib.bitLenAux_fuel 32 x h 64 Zd]
 exact bitLenAux_le 32 x
theorem bitLen_pos {x : Nat} (h : x ≠ 0) : 1 ≤ Lib.bitLen x := by
 unfold Lib.bitLen Lib.bitLenAux
 rw [if_neg h]
 omega
def Bg.bl (N : Nat) : Nat := if Bg.used N = 0 then 0 else 32 * (Bg.used N - 1) + Lib.bitLen (Bg.limb N (Bg.used N - 1))
theorem Bg.top_limb (N : Nat) : ∀ k, Bg.top k N = 0 ∨ Bg.limb N (Bg.top k N - 1) ≠ 0
 | 0 => .inl rfl
 | k + 1 => by
  by_cases h : Bg.limb N k = 0
  ·rw [Bg.top_down h]; exact Bg.top_limb N k
  ·rw [Bg.top_stop h]; right; simpa using h
set_option maxRecDepth 20000 in
theorem bits_any (b N : Nat) (w : World) (hB : Blk w b (Bg.row 32 N)) :
    Calls Tryz.prog 221 #[.pointer (some ⟨b, 0, none⟩)] w fun e w' => e = .returned (.int .i64 (Bg.bl N : Nat)) ∧ w' = w := by
 have HB := Zi hB
 have HU := Zi (used_any b N w hB)
 have hu := Bg.used_le N
 obtain ⟨n, hn⟩ : ∃ n, n = Bg.used N := ⟨_, rfl⟩
 rw [← hn] at HU hu
 have HN := Zi hn
 clear hn hB
 by_cases h0 : n = 0
 ·subst h0
  go_enter Tryz.func221, Tryz.ntmps221
  go_wp2_with (go_at_call 161; refine HU.out.mono ?_; rintro e w' ⟨rfl, rfl⟩)
  go_ret
  refine ⟨?_, rfl⟩
  unfold Bg.bl
  rw [if_pos HN.out.symm]
  rfl
 ·obtain ⟨k, rfl⟩ : ∃ k, n = k + 1 := ⟨n - 1, by omega⟩
  have hc := HB.out.limb (i := k) Zo
  have hl := Bg.limb_lt N k
  have h4 := bitLen_32 hl
  have HL := Zi (len32_any (Bg.limb N k : Nat) w Zo Zo)
  have e2 : ((Bg.limb N k : Nat) : Int).toNat = Bg.limb N k := by omega
  rw [e2] at HL
  obtain ⟨m, hm⟩ : ∃ m, m = Lib.bitLen (Bg.limb N k) := ⟨_, rfl⟩
  rw [← hm] at HL h4
  have HM := Zi hm
  clear hm e2
  have e1 : (((k + 1 : Nat) : Int) - 1) = (k : Int) := by omega
  have hk0 : (0 : Int) ≤ (k : Int) := by omega
  have hk1 : (k : Int) < 32 := by omega
  have hne : ¬ (((k + 1 : Nat) : Int) = 0) := by omega
  obtain ⟨K, hK⟩ : ∃ K, K = k + 1 := ⟨_, rfl⟩
  go_enter Tryz.func221, Tryz.ntmps221
  go_wp2_with (first
   | (go_at_call 161; refine HU.out.mono ?_; rintro e w' ⟨rfl, rfl⟩)
   | (go_at_call 186; refine HL.out.mono ?_; rintro e w' ⟨rfl, rfl⟩))
  go_ret
  refine ⟨congrArg Ending.returned (congrArg (Value.int IntKind.i64) ?_), rfl⟩
  unfold Bg.bl
  rw [← HN.out, if_neg h0, show k + 1 - 1 = k from rfl, ← HM.out]
  omega
end
section
def Bg.fits64 (z : Int) : Bool := decide (-9223372036854775808 ≤ z) && decide (z < 9223372036854775808)
theorem Bg.two_limbs {N : Nat} (h : N < 18446744073709551616) : N = Bg.limb N 1 * 4294967296 + Bg.limb N 0 := by
 unfold Bg.limb
 rw [Bg.pw_one, Bg.pw_zero]
 omega
end
section
theorem zA_int (z : Int) : Bg.zA z = Bg.intA (decide (z < 0)) z.natAbs := by unfold Bg.zA; rfl
theorem fromInt_z (n : Int) (h1 : -9223372036854775808 ≤ n) (h2 : n < 9223372036854775808) (w : World) :
    Calls Tryz.prog 93 #[.int .i64 n] w fun e w' => e = .returned (.agg (Bg.zA n)) ∧ Below w.heap.size w w' := by
 by_cases h : n < 0
 ·obtain ⟨U, rfl⟩ : ∃ U : Nat, n = -(U : Int) := ⟨n.natAbs, by omega⟩
  exact fromInt_neg U Zo Zo w
 ·obtain ⟨U, rfl⟩ : ∃ U : Nat, n = (U : Int) := ⟨n.natAbs, by omega⟩
  exact fromInt_pos U Zo w
theorem divMod_z (p d x y : Int) (hp : p.natAbs < Bg.lim) (hd : d.natAbs < Bg.lim) (h0 : d ≠ 0) (hok : Bg.DivOk p.natAbs d.natAbs) (hx : Hid (x = p / d)) (hy : Hid (y = p % d)) (w : World) :
    Calls Tryz.prog 119 #[.agg (Bg.zA p), .agg (Bg.zA d)] w fun e w' => e = .returned (.tuple #[.agg (Bg.zA x), .agg (Bg.zA y), .int .i64 0]) ∧ Below w.heap.size w w' := by
 rw [zA_int p, zA_int d]
 exact divMod_any0 _ _ _ _ hp hd Zo hok x y (Zi (by rw [Bg.toZ_iv, Bg.toZ_iv]; exact hx.out)) (Zi (by rw [Bg.toZ_iv, Bg.toZ_iv]; exact hy.out)) w
theorem neg_z (p y : Int) (hp : p.natAbs < Bg.lim) (hy : Hid (y = -p)) (w : World) :
    Calls Tryz.prog 107 #[.agg (Bg.zA p)] w fun e w' => e = .returned (.agg (Bg.zA y)) ∧ Below w.heap.size w w' := by
 have := neg_any (decide (p < 0)) p.natAbs hp w
 rw [Bg.toZ_iv] at this
 rw [zA_int p, hy.out]
 exact this
theorem add_z (p d v e z : Int) (hp : p.natAbs < Bg.lim) (hd : d.natAbs < Bg.lim) (hz : Hid (z = p + d)) (hv : Hid (v = Bg.resZ z)) (he : Hid (e = Bg.resE z)) (w : World) :
    Calls Tryz.prog 151 #[.agg (Bg.zA p), .agg (Bg.zA d)] w fun r w' => r = .returned (.tuple #[.agg (Bg.zA v), .int .i64 e]) ∧ Below w.heap.size w w' := by
 rw [zA_int p, zA_int d]
 exact add_as _ _ _ _ z v e hp hd (Zi (by rw [Bg.toZ_iv, Bg.toZ_iv]; exact hz.out)) hv he w
theorem mul_z (p d v e z : Int) (hp : p.natAbs < Bg.lim) (hd : d.natAbs < Bg.lim) (hz : Hid (z = p * d)) (hv : Hid (v = Bg.resZ z)) (he : Hid (e = Bg.resE z)) (w : World) :
    Calls Tryz.prog 118 #[.agg (Bg.zA p), .agg (Bg.zA d)] w fun r w' => r = .returned (.tuple #[.agg (Bg.zA v), .int .i64 e]) ∧ Below w.heap.size w w' := by
 rw [zA_int p, zA_int d, hv.out, he.out, ← Bg.resV_eq]
 exact mul_any0 _ _ _ _ hp hd z (Zi (by rw [Bg.toZ_iv, Bg.toZ_iv]; exact hz.out)) w
theorem cmp_z (p d g : Int) (hp : p.natAbs < Bg.lim) (hd : d.natAbs < Bg.lim) (hg : Hid (g = (p - d).sign)) (w : World) :
    Calls Tryz.prog 114 #[.agg (Bg.zA p), .agg (Bg.zA d)] w fun r w' => r = .returned (.int .i64 g) ∧ Below w.heap.size w w' := by
 rw [zA_int p, zA_int d]
 exact cmp_any0 _ _ _ _ hp hd g (Zi (by rw [Bg.toZ_iv, Bg.toZ_iv]; exact hg.out)) w
theorem eq_arr (N M : Nat) (hN : N < Bg.lim) (hM : M < Bg.lim) (d : Nat) (W : World) :
    (Op.equalIn (d + 2) 31 (.agg (Bg.row 32 N)) (.agg (Bg.row 32 M))).run Tryz.prog W = .ok (decide (N = M)) W := by
 obtain ⟨i, hi⟩ := u32_info
 rw [run_equalIn_array W (d + 1) _ _ und_arr hi, u32_cells, eq_items N M 32 W d _ Zs]
 congr 1
 by_cases e : N = M
 ·simp [e]
 ·exact z9_5
theorem intA_mag (s : Bool) (N : Nat) : (Bg.intA s N).extract 1 33 = Bg.row 32 N := by
 apply Array.ext_getElem?
 intro j
 rw [Array.getElem?_extract]
 by_cases hj : j < 32
 ·rw [if_pos (by rw [Bg.intA_size]; omega), Nat.add_comm 1 j, Bg.intA_at s N j hj, Bg.row_at 32 N j hj]
 ·rw [if_neg (by rw [Bg.intA_size]; omega), Array.getElem?_eq_none (by rw [Bg.row_size]; omega)]
theorem eq_int (s t : Bool) (N M : Nat) (hN : N < Bg.lim) (hM : M < Bg.lim) (W : World) :
    (Op.equalIn 10000 33 (.agg (Bg.intA s N)) (.agg (Bg.intA t M))).run Tryz.prog W = .ok (decide (s = t ∧ N = M)) W := by
 have hb : ∀ a b : Bool, (Op.equalIn 9999 4 (.bool a) (.bool b)).run Tryz.prog W = .ok (a == b) W := fun a b => run_equalIn_bool' (P := Tryz.prog) W 9998 4 a b Tryz.underlying4
 have ha : (Op.equalIn 9999 31 (.agg (Bg.row 32 N)) (.agg (Bg.row 32 M))).run Tryz.prog W = .ok (decide (N = M)) W := eq_arr N M hN hM 9997 W
 have h1 := intA_mag s N
 have h2 := intA_mag t M
 have h3 := Bg.intA_neg s N
 have h4 := Bg.intA_neg t M
 have h5 := Bg.intA_size s N
 have h6 := Bg.intA_size t M
 have hp : Tryz.prog.stoodInHeld 33 = false := by kernel_rfl
 rw [run_equalIn_agg W 9999 33 _ _ Zk hp]
 have hf : (Tryz.prog.fieldsOf 33).toList.map (fun f => (decide (f.name ≠ "_"), f.type, f.offset)) = [(true, 4, 0), (true, 31, 1)] := by kernel_rfl
 generalize (Tryz.prog.fieldsOf 33).toList = l at hf ⊢
 cases l with
 | nil => simp at hf
 | cons f1 l =>
  cases l with
  | nil => simp at hf
  | cons f2 l =>
   cases l with
   | cons _ _ => simp at hf
   | nil =>
    simp only [List.map_cons, List.map_nil, List.cons.injEq, Prod.mk.injEq, and_true, decide_eq_true_eq] at hf
    obtain ⟨⟨n1, t1, o1⟩, n2, t2, o2⟩ := hf
    have hp1 : (part f1.type (Bg.intA s N) f1.offset).run Tryz.prog W = .ok (.bool s) W := by rw [t1, o1]; simp [part, h3]
    have hp2 : (part f1.type (Bg.intA t M) f1.offset).run Tryz.prog W = .ok (.bool t) W := by rw [t1, o1]; simp [part, h4]
    have hp3 : (part f2.type (Bg.intA s N) f2.offset).run Tryz.prog W = .ok (.agg (Bg.row 32 N)) W := by rw [t2, o2]; simp [part, h1]
    have hp4 : (part f2.type (Bg.intA t M) f2.offset).run Tryz.prog W = .ok (.agg (Bg.row 32 M)) W := by rw [t2, o2]; simp [part, h2]
    rw [← t1] at hb
    rw [← t2] at ha
    unfold Op.eqFields
    rw [if_pos n1]
    simp only [Sem.run_bind, hp1, hp2, Result.andThen_ok, hb]
    by_cases e : s = t
    ·exact z9_18
    ·exact z9_19
theorem run_cmp_z (op : BinOp) (p d : Int) (hp : p.natAbs < Bg.lim) (hd : d.natAbs < Bg.lim) (x y : Operand) (w : World) (h : op = .eql ∨ op = .neq) :
    (do eqGuard op 33 x y (.agg (Bg.zA p)) (.agg (Bg.zA d)); binOp op 33 (.agg (Bg.zA p)) (.agg (Bg.zA d)) : Sem Value).run Tryz.prog w = .ok (.bool (if op = .eql then decide (p = d) else !decide (p = d))) w := by
 have hm : Tryz.prog.eqGuardType Tryz.prog.depth 33 = false := by kernel_rfl
 have he : (Op.equalIn 10000 33 (.agg (Bg.zA p)) (.agg (Bg.zA d))).run Tryz.prog w = .ok (decide (p = d)) w := by
  rw [zA_int, zA_int, eq_int _ _ _ _ hp hd]
  congr 1
  exact z9_20
 simp only [Sem.run_bind, run_eqGuard_agg w op _ x y _ _ hm, Result.andThen_ok]
 rcases h with rfl | rfl
 ·exact z9_21
 ·exact z9_22
theorem gls_cmpz (op : BinOp) (p d : Int) (v : Bool) (he : op = .eql ∨ op = .neq) (hv : v = if op = .eql then decide (p = d) else !decide (p = d)) (hp : p.natAbs < Bg.lim) (hd : d.natAbs < Bg.lim) {ops : Array Oper} {rest : List Oper} {o : Oper} {a : Act} {w : World} {Q : Exit → Act → World → Prop} (hw : Region.wanted o (yielded ops a.tmps) = true) (x y : Operand) (t : TypeId) (ho : o.op = .binOp op 33 x y t) (hx : a.eval x = .agg (Bg.zA p)) (hy : a.eval y = .agg (Bg.zA d))
    (h : wpList Tryz.prog ops Q rest (a.put o.dst (.bool v)) w) : wpList Tryz.prog ops Q (o :: rest) a w := by
 have hr := run_cmp_z op p d hp hd x y w he
 rw [← hv] at hr
 refine wpList_step fun K hK => ?_
 rw [if_pos hw]
 unfold Oper.wp execOp
 simp only [Sem.run_bind] at hr
 simp only [ho, hx, hy, Sem.run_bind, hr, Result.andThen_ok, Sem.run_pure]
 exact hK _ _ h
end
section
@[irreducible] def Bg.p2 (k : Nat) : Nat := 2 ^ k
theorem Bg.p2_add (i j : Nat) : Bg.p2 (i + j) = Bg.p2 i * Bg.p2 j := by unfold Bg.p2; rw [Nat.pow_add]
theorem Bg.p2_pos (i : Nat) : 0 < Bg.p2 i := by unfold Bg.p2; exact Nat.two_pow_pos _
theorem Bg.p2_mono {i j : Nat} (h : i ≤ j) : Bg.p2 i ≤ Bg.p2 j := by unfold Bg.p2; exact Nat.pow_le_pow_right Zd h
theorem Bg.p2_zero : Bg.p2 0 = 1 := by unfold Bg.p2; rfl
theorem Bg.p2_succ (i : Nat) : Bg.p2 (i + 1) = 2 * Bg.p2 i := by unfold Bg.p2; rw [Nat.pow_succ]; omega
theorem Bg.p2_pw (i : Nat) : Bg.p2 (32 * i) = Bg.pw i := by unfold Bg.p2 Bg.pw; rfl
theorem Bg.p2_lim : Bg.p2 1024 = Bg.lim := Bg.p2_pw 32
theorem bla_bounds : ∀ (f x : Nat), x < 2 ^ f → x < 2 ^ Lib.bitLenAux f x ∧ (x ≠ 0 → 2 ^ (Lib.bitLenAux f x - 1) ≤ x)
 | 0, x, h => by
  have : x = 0 := by simpa using h
  subst this
  simp [Lib.bitLenAux]
 | f + 1, x, h => by
  unfold Lib.bitLenAux
  by_cases h0 : x = 0
  ·subst h0; simp
  ·rw [if_neg h0]
   obtain ⟨a, b⟩ := bla_bounds f (x / 2) (by rw [Nat.pow_succ] at h; omega)
   refine ⟨by rw [Nat.add_comm, Nat.pow_succ]; omega, fun _ => ?_⟩
   by_cases h1 : x / 2 = 0
   ·have e : x = 1 := by omega
    subst e
    have : Lib.bitLenAux f (1 / 2) = 0 := by cases f <;> simp [Lib.bitLenAux]
    rw [this]
    decide
   ·have c := b h1
    have hp : 1 ≤ Lib.bitLenAux f (x / 2) := by
     by_cases hz : Lib.bitLenAux f (x / 2) = 0
     ·rw [hz] at a; simp at a; omega
     ·omega
    rw [show 1 + Lib.bitLenAux f (x / 2) - 1 = (Lib.bitLenAux f (x / 2) - 1) + 1 from by omega, Nat.pow_succ]
    omega
theorem bitLen_bounds {x : Nat} (h : x < 4294967296) : x < Bg.p2 (Lib.bitLen x) ∧ (x ≠ 0 → Bg.p2 (Lib.bitLen x - 1) ≤ x) := by
 have := bla_bounds 32 x h
 rw [← Lib.bitLenAux_fuel 32 x h 64 Zd] at this
 unfold Bg.p2 Lib.bitLen
 exact this
theorem Bg.bl_zero : Bg.bl 0 = 0 := by
 unfold Bg.bl
 rw [if_pos]
 exact (Bg.used_zero (Bg.ppos 32)).2 rfl
theorem Bg.bl_bounds {N : Nat} (hN : N < Bg.lim) : N < Bg.p2 (Bg.bl N) ∧ (N ≠ 0 → 1 ≤ Bg.bl N ∧ Bg.p2 (Bg.bl N - 1) ≤ N) := by
 have h1 := Bg.used_lt hN
 have h2 := Bg.used_ge N
 unfold Bg.bl
 by_cases h0 : Bg.used N = 0
 ·rw [if_pos h0]
  rw [h0, Bg.pw_zero] at h1
  rw [Bg.p2_zero]
  omega
 ·rw [if_neg h0]
  obtain ⟨k, hk⟩ : ∃ k, Bg.used N = k + 1 := ⟨Bg.used N - 1, by omega⟩
  rw [hk] at h1 h2 ⊢
  rw [show k + 1 - 1 = k from rfl] at *
  have h3 : Bg.pw k ≤ N := h2.resolve_left Zo
  have hp := Bg.ppos k
  have hq : N / Bg.pw k < 4294967296 := by
   rw [Nat.div_lt_iff_lt_mul hp, Nat.mul_comm, ← Bg.p32]; exact h1
  have hl : Bg.limb N k = N / Bg.pw k := by unfold Bg.limb; exact Nat.mod_eq_of_lt hq
  have hn : N / Bg.pw k ≠ 0 := by
   have := Nat.div_pos h3 hp
   omega
  rw [hl]
  obtain ⟨b1, b2⟩ := bitLen_bounds hq
  have b3 := b2 hn
  have b4 := bitLen_pos hn
  have d1 := Nat.div_add_mod N (Bg.pw k)
  have d2 := Nat.mod_lt N hp
  generalize N / Bg.pw k = l at b1 b2 b3 b4 d1 ⊢
  generalize Lib.bitLen l = m at b1 b2 b3 b4 ⊢
  refine ⟨?_, fun _ => ⟨by omega, ?_⟩⟩
  ·rw [Bg.p2_add, Bg.p2_pw]
   have : Bg.pw k * (l + 1) ≤ Bg.pw k * Bg.p2 m := Nat.mul_le_mul_left _ b1
   rw [Nat.mul_add, Nat.mul_one] at this
   omega
  ·rw [show 32 * k + m - 1 = 32 * k + (m - 1) from by omega, Bg.p2_add, Bg.p2_pw]
   have : Bg.pw k * Bg.p2 (m - 1) ≤ Bg.pw k * l := Nat.mul_le_mul_left _ b3
   omega
theorem Bg.p2_lt_imp {i j : Nat} (h : Bg.p2 i < Bg.p2 j) : i < j := by
 by_cases hc : i < j
 ·exact hc
 ·have := Bg.p2_mono (show j ≤ i by omega)
  omega
theorem Bg.bl_le {N k : Nat} (hN : N < Bg.lim) (h : N < Bg.p2 k) : Bg.bl N ≤ k := by
 by_cases h0 : N = 0
 ·subst h0; rw [Bg.bl_zero]; omega
 ·obtain ⟨_, b⟩ := Bg.bl_bounds hN
  obtain ⟨b1, b2⟩ := b h0
  have := Bg.p2_lt_imp (Nat.lt_of_le_of_lt b2 h)
  omega
theorem Bg.bl_1024 {N : Nat} (hN : N < Bg.lim) : Bg.bl N ≤ 1024 := Bg.bl_le hN (by rw [Bg.p2_lim]; exact hN)
set_option maxRecDepth 20000 in
theorem bits_num (s : Bool) (N : Nat) (n : Int) (hN : N < Bg.lim) (hn : Hid (n = (Bg.bl N : Int))) (w : World) :
    Calls Tryz.prog 196 #[.agg (Bg.intA s N)] w fun e w' => e = .returned (.int .i64 n) ∧ Below w.heap.size w w' := by
 have hz := Bg.zero32
 obtain ⟨w1, hw1⟩ : ∃ w1, w1 = w.alloc (.cells (Bg.intA s N) 33) := ⟨_, rfl⟩
 have HO0 := (Own.start w).alloc (Bg.intA s N) 33
 rw [← hw1] at HO0
 have HO := Zi HO0
 clear HO0
 obtain ⟨s1, hs1⟩ := Zh ((s && decide (N ≠ 0)))
 go_enter Tryz.func196, Tryz.ntmps196
 go_upto_region 2 with (first
  | (rw [← hw1]; (with_reducible apply wl_at; refine ld_int (s) (N) rfl _ rfl _ rfl (by exact HO.out.get Zs) ?_); clear hw1)
  | (go_at_call 120; refine (split_as s s1 N hN hs1 _).mono ?_; rintro e w2 ⟨rfl, hL⟩; have HO := Zi ((HO.out.call hL).alloc (Bg.row 32 N) 167); clear hL)
  | ((with_reducible apply wl_at; refine sn_mag (N) rfl _ _ rfl rfl rfl ?_)))
 simp only [Act.put]
 generalize hw3 : w2.alloc (.cells (Bg.row 32 N) 167) = w3 at HO ⊢
 clear hw3
 have HBits := Zi (bits_any w2.heap.size N w3 (HO.out.get Zs))
 rw [← hn.out] at HBits
 go_wp2_with (go_at_call 221; refine HBits.out.mono ?_; rintro e w' ⟨rfl, rfl⟩)
 go_ret
 exact ⟨rfl, HO.out.1⟩
theorem sign_z (p g : Int) (hp : p.natAbs < Bg.lim) (hg : Hid (g = p.sign)) (w : World) :
    Calls Tryz.prog 78 #[.agg (Bg.zA p)] w fun e w' => e = .returned (.int .i64 g) ∧ Below w.heap.size w w' := by
 rw [zA_int p]
 exact sign_any _ _ hp g (Zi (by rw [Bg.toZ_iv]; exact hg.out)) w
end
end Go.Proofs.YtiekmabiecalbaaGreatDoor
