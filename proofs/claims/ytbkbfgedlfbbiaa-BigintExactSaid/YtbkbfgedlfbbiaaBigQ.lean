/- bigint's Gcd. -/
import Derived.Test.YtbkbfgedlfbbiaaBigP
import Derived.Deep.LoopGhost
namespace Go.Proofs.Ytbkbfgedlfbbiaa
open Go.RowKit
section
variable {md : Region.Mode} {ops : Array Oper} {Q : Exit → Act → World → Prop} {S : World → Prop} {i : Nat} {oi : Oper} {d : Tmp} {fuel : Nat} {listed : Array Bool} {a : Act} {w : World}
theorem e_ld (N : Nat) (hd : oi.dst = some d) (hw : Region.wanted oi (yielded ops a.tmps) = true) (x : Operand) (ho : oi.op = .load 57 x) (b : Nat) (hx : a.eval x = .pointer (some ⟨b, 0, none⟩)) (hb : Blk w b (Bg.row 32 N)) (hS : S w)
    (h : wpAnyH Try.prog md ops Q S fuel (listed.setIfInBounds i true) { a with tmps := a.tmps.setIfInBounds d (.agg (Bg.row 32 N)) } w) :
    ∀ K' : Act → World → Prop, Shut (∀ a w, S w → (S w → wpAnyH Try.prog md ops Q S fuel (listed.setIfInBounds i true) a w) → K' a w) → if Region.wanted oi (yielded ops a.tmps) = true then Oper.wp Try.prog oi a w K' Q else K' (a.put oi.dst undef) w := by
  intro K hK
  obtain ⟨t, hb⟩ := hb
  rw [if_pos hw]
  refine wp_load_row _ x ho b hx t _ _ _ hb und_mag rfl (by rw [Bg.row_size]; exact siz_mag) ?_
  rw [hd]
  exact hK.out _ _ hS (fun _ => h)
theorem e_st (N : Nat) (c : Array Value) (hd : oi.dst = none) (hw : Region.wanted oi (yielded ops a.tmps) = true) (x y : Operand) (ho : oi.op = .store 57 x y) (b : Nat) (hx : a.eval x = .pointer (some ⟨b, 0, none⟩)) (hy : a.eval y = .agg (Bg.row 32 N)) (hb : Blk w b c) (hc : c.size = 32) (hS : S (w.setRow b (Bg.row 32 N)))
    (h : wpAnyH Try.prog md ops Q S fuel (listed.setIfInBounds i true) a (w.setRow b (Bg.row 32 N))) :
    ∀ K' : Act → World → Prop, Shut (∀ a w, S w → (S w → wpAnyH Try.prog md ops Q S fuel (listed.setIfInBounds i true) a w) → K' a w) → if Region.wanted oi (yielded ops a.tmps) = true then Oper.wp Try.prog oi a w K' Q else K' (a.put oi.dst undef) w := by
  intro K hK
  obtain ⟨t, hb⟩ := hb
  rw [if_pos hw]
  refine wp_store_row _ x y ho b _ hx hy t _ hb (by rw [Bg.row_size]; exact siz_mag) (by rw [Bg.row_size, hc]) (Bg.row_one 32 N) ?_
  rw [hd]
  exact hK.out _ _ hS (fun _ => h)
end
set_option maxRecDepth 20000 in
set_option maxHeartbeats 2000000 in
theorem gcd_any0 (s t : Bool) (M N : Nat) (hM : M < Bg.lim) (hN : N < Bg.lim) (hok : ∀ A B, 0 < B → A < Bg.lim → B ≤ N → Bg.DivOk A B) (z : Int) (hz0 : Hid (z = (Nat.gcd M N : Nat))) (w : World) :
    Calls Try.prog 23 #[.agg (Bg.intA s M), .agg (Bg.intA t N)] w fun e w' => e = .returned (.agg (Bg.zA z)) ∧ Below w.heap.size w w' := by
  have hz := Bg.zero32
  have hzi := Bg.zeroInt
  have hs1z := Bg.row_size 32 0
  have hs2 := Bg.intA_size false 0
  have hL0 : 0 < Bg.lim := Nat.lt_of_le_of_lt (Nat.zero_le _) hN
  obtain ⟨w1, hw1⟩ : ∃ w1, w1 = ((w.alloc (.cells (Bg.intA s M) 25)).alloc (.cells (Bg.intA t N) 25)).alloc (.cells (Bg.intA false 0) 25) := ⟨_, rfl⟩
  have HO0 := own3 w (Bg.intA s M) (Bg.intA t N) (Bg.intA false 0) 25 25 25
  rw [← hw1] at HO0
  have HO := Lib.hid HO0
  clear HO0
  obtain ⟨s1, hs1⟩ : ∃ s1, Hid (s1 = (s && decide (M ≠ 0))) := ⟨_, rfl⟩
  obtain ⟨t1, ht1⟩ : ∃ t1, Hid (t1 = (t && decide (N ≠ 0))) := ⟨_, rfl⟩
  go_enter Try.func23, Try.ntmps23
  go_upto_region 3 with (first
    | (rw [← hw1]; (with_reducible apply wl_at; refine ld_int (s) (M) rfl _ rfl _ rfl (by exact HO.out.get (by simp)) ?_); clear hw1)
    | ((with_reducible apply wl_at; refine ld_int (t) (N) rfl _ rfl _ rfl (by exact HO.out.get (by simp)) ?_))
    | (go_at_call 50; with_reducible refine (split_as s s1 M hM hs1 _).mono ?_; rintro e w2 ⟨rfl, hL⟩; have HO := Lib.hid (HO.out.call hL); have H2 : Hid (w.heap.size + 2 < w2.heap.size) := Lib.hid (HO.out.get (b := w.heap.size + 2) (c := Bg.intA false 0) (by simp)).lt; have HO := Lib.hid (HO.out.alloc (Bg.row 32 M) 57); clear hL)
    | (go_at_call 50; with_reducible refine (split_as t t1 N hN ht1 _).mono ?_; rintro e w3 ⟨rfl, hL⟩; have HO := Lib.hid (HO.out.call hL); have H3 : Hid (w2.heap.size < w3.heap.size) := Lib.hid (HO.out.get (b := w2.heap.size) (c := Bg.row 32 M) (by simp)).lt; have HO := Lib.hid (HO.out.alloc (Bg.row 32 N) 57); clear hL)
    | ((with_reducible apply wl_at; refine sn_mag (M) rfl _ _ rfl rfl rfl ?_))
    | ((with_reducible apply wl_at; refine sn_mag (N) rfl _ _ rfl rfl rfl ?_)))
  simp only [Act.put]
  generalize w3.alloc (.cells (Bg.row 32 N) 57) = w4 at HO ⊢
  go_loopg [] (N + 1) (fun g wr => ∃ A B : Nat, B + 1 ≤ g ∧ B ≤ N ∧ Hid (Nat.gcd A B = Nat.gcd M N) ∧ Hid (A < Bg.lim) ∧ Hid (Own w wr [(w3.heap.size, Bg.row 32 B), (w2.heap.size, Bg.row 32 A), (w.heap.size + 2, Bg.intA false 0)]))
  case atStart => exact ⟨M, N, by omega, by omega, Lib.hid rfl, Lib.hid hM, Lib.hid (HO.out.less (by simp))⟩
  case round =>
    clear HO
    obtain ⟨A, B, hBg, hBN, HGc, HA, HO⟩ := hrel
    cases gk with
    | zero => omega
    | succ g =>
      have hBl : B < Bg.lim := by omega
      by_cases hB0 : B = 0
      · have HB0 := Lib.hid hB0
        have hv : Hid (z = Bg.toZ false A) := Lib.hid (by rw [hz0.out, ← HGc.out, hB0, Nat.gcd_zero_right]; simp [Bg.toZ])
        clear hB0
        go_wp2_with (first
          | ((with_reducible apply wl_at; refine ld_mag (B) rfl _ rfl (w3.heap.size) ?hx (HO.out.get (by simp)) ?_; (case hx => (first | (simp; done) | (simp [Act.eval]; done) | (simp [Act.eval, Act.put])))))
          | ((with_reducible apply wl_at; refine ls_cmp .neq (B) (0) rfl _ _ _ rfl (.inr rfl) rfl rfl (hBl) (hL0) ?_); rw [if_neg (by simp), HB0.out])
          | ((with_reducible apply wl_at; refine ld_mag (A) rfl _ rfl (w2.heap.size) ?hx (HO.out.get (by simp)) ?_; (case hx => (first | (simp; done) | (simp [Act.eval]; done) | (simp [Act.eval, Act.put])))))
          | (go_at_call 48; refine (made_as false A z HA.out hv _).mono ?_; rintro e w6 ⟨rfl, hL⟩; have HO := Lib.hid (HO.out.call hL); clear hL)
          | ((with_reducible apply wl_at; refine st_z (z) (Bg.intA false 0) rfl _ _ rfl _ rfl rfl (by exact HO.out.get (b := w.heap.size + 2) (by simp)) (by exact hs2) ?_); have HR := Lib.hid (HO.out.fin (b := w.heap.size + 2) (c := Bg.intA false 0) (by simp) (by omega) (Bg.zA z)); generalize World.setRow _ _ _ = w7 at HR ⊢))
        refine bodyPost_ret (res_cell rfl _ rfl (lv_z HR.out.1)) rfl ⟨rfl, HR.out.2⟩
      · have HB0 := Lib.hid hB0
        have hB1 : 0 < B := by omega
        obtain ⟨q, hq⟩ : ∃ q, Hid (q = A / B) := ⟨_, rfl⟩
        obtain ⟨r, hr⟩ : ∃ r, Hid (r = A % B) := ⟨_, rfl⟩
        have hA := HA.out
        have hok2 := hok A B hB1 hA hBN
        clear hB0
        go_upto_region 5 with (first
          | ((with_reducible apply wl_at; refine ld_mag (B) rfl _ rfl (w3.heap.size) ?hx (HO.out.get (by simp)) ?_; (case hx => (first | (simp; done) | (simp [Act.eval]; done) | (simp [Act.eval, Act.put])))))
          | ((with_reducible apply wl_at; refine ls_cmp .neq (B) (0) rfl _ _ _ rfl (.inr rfl) rfl rfl (hBl) (hL0) ?_); rw [if_neg (by simp), decide_eq_false HB0.out])
          | (go_at_call 55; refine (div_ok w2.heap.size w3.heap.size A B q r hok2 hq hr _ (HO.out.get (by simp)) (HO.out.get (by simp))).mono ?_; rintro e w5 ⟨rfl, hL⟩; have HO := Lib.hid (HO.out.call hL); have H5 : Hid (w3.heap.size < w5.heap.size) := Lib.hid (HO.out.get (b := w3.heap.size) (c := Bg.row 32 B) (by simp)).lt; have HO := Lib.hid ((HO.out.alloc (Bg.row 32 0) 57).alloc (Bg.row 32 0) 57); rw [alloc_size] at HO; clear hL)
          | ((with_reducible apply wl_at; refine st_mag (q) (Bg.row 32 0) rfl _ _ rfl (w5.heap.size) ?hx ?hy (HO.out.get (by simp)) hs1z ?_; (case hx => (first | (simp; done) | (simp [Act.eval]; done) | (simp [Act.eval, Act.put]))); (case hy => (first | (simp; done) | (simp [Act.eval]; done) | (simp [Act.eval, Act.put])))); have HO := Lib.hid ((HO.out.less (l' := [(w3.heap.size, Bg.row 32 B), (w2.heap.size, Bg.row 32 A), (w.heap.size + 2, Bg.intA false 0), (w5.heap.size + 1, Bg.row 32 0)]) (by simp)).row (b := w5.heap.size) (c := Bg.row 32 0) (by have := H2.out; have := H3.out; have := H5.out; omega) (by have := H2.out; have := H3.out; have := H5.out; simp; omega) (HO.out.get (by simp)) (Bg.row 32 q)); generalize World.setRow _ _ _ = w6 at HO ⊢)
          | ((with_reducible apply wl_at; refine st_mag (r) (Bg.row 32 0) rfl _ _ rfl (w5.heap.size + 1) ?hx ?hy (HO.out.get (by simp)) hs1z ?_; (case hx => (first | (simp; done) | (simp [Act.eval]; done) | (simp [Act.eval, Act.put]))); (case hy => (first | (simp; done) | (simp [Act.eval]; done) | (simp [Act.eval, Act.put])))); have HO := Lib.hid ((HO.out.less (l' := [(w3.heap.size, Bg.row 32 B), (w2.heap.size, Bg.row 32 A), (w.heap.size + 2, Bg.intA false 0)]) (by simp)).row (b := w5.heap.size + 1) (c := Bg.row 32 0) (by have := H2.out; have := H3.out; have := H5.out; omega) (by have := H2.out; have := H3.out; have := H5.out; simp; omega) (HO.out.get (by simp)) (Bg.row 32 r)); generalize World.setRow _ _ _ = w7 at HO ⊢))
        simp only [Act.put]
        have K0 : Own w w7.drew [(w5.heap.size + 1, Bg.row 32 r), (w3.heap.size, Bg.row 32 B), (w2.heap.size, Bg.row 32 A), (w.heap.size + 2, Bg.intA false 0)] := ⟨HO.out.1.drew, HO.out.2⟩
        have K1 : Own w (w7.drew.setRow w2.heap.size (Bg.row 32 B)) [(w2.heap.size, Bg.row 32 B), (w5.heap.size + 1, Bg.row 32 r), (w3.heap.size, Bg.row 32 B), (w.heap.size + 2, Bg.intA false 0)] :=
          (K0.less (l' := [(w5.heap.size + 1, Bg.row 32 r), (w3.heap.size, Bg.row 32 B), (w.heap.size + 2, Bg.intA false 0)]) (by simp)).row (b := w2.heap.size) (c := Bg.row 32 A) (by have := H2.out; omega) (by have := H2.out; have := H3.out; have := H5.out; simp; omega) (K0.get (by simp)) _
        have K2 : Own w ((w7.drew.setRow w2.heap.size (Bg.row 32 B)).setRow w3.heap.size (Bg.row 32 r)) [(w3.heap.size, Bg.row 32 r), (w2.heap.size, Bg.row 32 B), (w.heap.size + 2, Bg.intA false 0)] :=
          (K1.less (l' := [(w2.heap.size, Bg.row 32 B), (w.heap.size + 2, Bg.intA false 0)]) (by simp)).row (b := w3.heap.size) (c := Bg.row 32 B) (by have := H2.out; have := H3.out; omega) (by have := H2.out; have := H3.out; have := H5.out; simp; omega) (K1.get (by simp)) _
        have HK2 := Lib.hid K2
        have hsB := Bg.row_size 32 B
        have hsA := Bg.row_size 32 A
        refine wp_region_held_drew (S := fun _ => True) (by kernel_rfl) trivial (fun _ => ?_)
        generalize w7.drew = w8 at K0 K1 K2 HK2 ⊢
        refine wpAnyH_ready (rs := [0, 1]) (by kernel_rfl) (by simp) (AllReadyH.cons rfl (e_ld B rfl (by rfl) _ rfl w3.heap.size (by simp [Act.eval]) (K0.get (by simp)) trivial ?o0) (AllReadyH.cons rfl (e_ld r rfl (by rfl) _ rfl (w5.heap.size + 1) (by simp [Act.eval]) (K0.get (by simp)) trivial ?o1) AllReadyH.nil))
        case o0 =>
          try simp only [List.setIfInBounds_toArray, List.set_cons_zero, List.set_cons_succ]
          refine wpAnyH_ready (rs := [1, 2]) (by kernel_rfl) (by simp) (AllReadyH.cons rfl (e_ld r rfl (by rfl) _ rfl (w5.heap.size + 1) (by simp [Act.eval]) (K0.get (by simp)) trivial ?o01) (AllReadyH.cons rfl (e_st B (Bg.row 32 A) rfl (by rfl) _ _ rfl w2.heap.size (by simp [Act.eval]) (by simp [Act.eval]) (K0.get (by simp)) hsA trivial ?o02) AllReadyH.nil))
          case o01 =>
            try simp only [List.setIfInBounds_toArray, List.set_cons_zero, List.set_cons_succ]
            refine wpAnyH_ready (rs := [2]) (by kernel_rfl) (by simp) (AllReadyH.cons rfl (e_st B (Bg.row 32 A) rfl (by rfl) _ _ rfl w2.heap.size (by simp [Act.eval]) (by simp [Act.eval]) (K0.get (by simp)) hsA trivial ?o012) AllReadyH.nil)
            refine wpAnyH_ready (rs := [3]) (by kernel_rfl) (by simp) (AllReadyH.cons rfl (e_st r (Bg.row 32 B) rfl (by rfl) _ _ rfl w3.heap.size (by simp [Act.eval]) (by simp [Act.eval]) (K1.get (by simp)) hsB trivial ?o0123) AllReadyH.nil)
            refine wpAnyH_done (by kernel_rfl) ?_ _
            go_wp2_with fail
            go_roundg g
            case rel => exact ⟨B, r, by have := Nat.mod_lt A hB1; have := hr.out; omega, by have := Nat.mod_lt A hB1; have := hr.out; omega, Lib.hid (by rw [hr.out, ← HGc.out, Nat.gcd_comm A B, Nat.gcd_rec B A, Nat.gcd_comm]), Lib.hid hBl, HK2⟩
            case measure => omega
          case o02 =>
            refine wpAnyH_ready (rs := [1]) (by kernel_rfl) (by simp) (AllReadyH.cons rfl (e_ld r rfl (by rfl) _ rfl (w5.heap.size + 1) (by simp [Act.eval]) (K1.get (by simp)) trivial ?o021) AllReadyH.nil)
            try simp only [List.setIfInBounds_toArray, List.set_cons_zero, List.set_cons_succ]
            refine wpAnyH_ready (rs := [3]) (by kernel_rfl) (by simp) (AllReadyH.cons rfl (e_st r (Bg.row 32 B) rfl (by rfl) _ _ rfl w3.heap.size (by simp [Act.eval]) (by simp [Act.eval]) (K1.get (by simp)) hsB trivial ?o0213) AllReadyH.nil)
            refine wpAnyH_done (by kernel_rfl) ?_ _
            go_wp2_with fail
            go_roundg g
            case rel => exact ⟨B, r, by have := Nat.mod_lt A hB1; have := hr.out; omega, by have := Nat.mod_lt A hB1; have := hr.out; omega, Lib.hid (by rw [hr.out, ← HGc.out, Nat.gcd_comm A B, Nat.gcd_rec B A, Nat.gcd_comm]), Lib.hid hBl, HK2⟩
            case measure => omega
        case o1 =>
          try simp only [List.setIfInBounds_toArray, List.set_cons_zero, List.set_cons_succ]
          refine wpAnyH_ready (rs := [0]) (by kernel_rfl) (by simp) (AllReadyH.cons rfl (e_ld B rfl (by rfl) _ rfl w3.heap.size (by simp [Act.eval]) (K0.get (by simp)) trivial ?o10) AllReadyH.nil)
          try simp only [List.setIfInBounds_toArray, List.set_cons_zero, List.set_cons_succ]
          refine wpAnyH_ready (rs := [2]) (by kernel_rfl) (by simp) (AllReadyH.cons rfl (e_st B (Bg.row 32 A) rfl (by rfl) _ _ rfl w2.heap.size (by simp [Act.eval]) (by simp [Act.eval]) (K0.get (by simp)) hsA trivial ?o102) AllReadyH.nil)
          refine wpAnyH_ready (rs := [3]) (by kernel_rfl) (by simp) (AllReadyH.cons rfl (e_st r (Bg.row 32 B) rfl (by rfl) _ _ rfl w3.heap.size (by simp [Act.eval]) (by simp [Act.eval]) (K1.get (by simp)) hsB trivial ?o1023) AllReadyH.nil)
          refine wpAnyH_done (by kernel_rfl) ?_ _
          go_wp2_with fail
          go_roundg g
          case rel => exact ⟨B, r, by have := Nat.mod_lt A hB1; have := hr.out; omega, by have := Nat.mod_lt A hB1; have := hr.out; omega, Lib.hid (by rw [hr.out, ← HGc.out, Nat.gcd_comm A B, Nat.gcd_rec B A, Nat.gcd_comm]), Lib.hid hBl, HK2⟩
          case measure => omega
end Go.Proofs.Ytbkbfgedlfbbiaa
