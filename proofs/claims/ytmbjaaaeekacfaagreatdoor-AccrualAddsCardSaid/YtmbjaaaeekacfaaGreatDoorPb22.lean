/- Walks, and plain facts for them. -/
import Derived.Test.YtmbjaaaeekacfaaGreatDoorPb20
import Derived.Test.YtmbjaaaeekacfaaGreatDoorPb21
namespace Go.Proofs.YtmbjaaaeekacfaaGreatDoor
set_option maxRecDepth 8000
open Go.RowKit
theorem Tx.ns_app (a b : ByteArray) : Tx.ns (a ++ b) = Tx.ns a ++ Tx.ns b := by
 unfold Tx.ns
 rw [ByteArray.data_append, Array.toList_append, List.map_append]
theorem Tx.ns_ext (s : ByteArray) (i j : Nat) : Tx.ns (s.extract i j) = ((Tx.ns s).take j).drop i := by
 unfold Tx.ns
 rw [ByteArray.data_extract, Array.toList_extract, List.extract_eq_take_drop, List.map_take, List.map_drop, List.drop_take]
theorem Tx.ns_at {s : ByteArray} {L : List Nat} (h : Tx.ns s = L) {k c : Nat} (hc : L[k]? = some c) : ∃ h : k < s.size, s[k].toNat = c := by
 have h1 : k < L.length := (List.getElem?_eq_some_iff.1 hc).1
 have h2 : k < s.size := by rw [← Tx.ns_len, h]; exact h1
 refine ⟨h2, ?_⟩
 have h3 := Tx.ns_get s h2
 rw [h, hc] at h3
 exact (Option.some.inj h3).symm
def Ac.Dgs (L : List Nat) : Prop := ∀ c ∈ L, Tx.isd c
def Ac.Dot (R : List Nat) : Prop := R = [] ∨ ∃ F, R = 46 :: F
set_option maxHeartbeats 1000000 in
theorem digits_any (s : ByteArray) (W R : List Nat) (h : Hid (Tx.ns s = W ++ R)) (hW : Hid (Ac.Dgs W)) (hR : Hid (Ac.Dot R)) (hs : s.size ≤ 400) (w : World) :
    Calls Tryz.prog 185 #[.string s] w fun e w' => e = .returned (.int .i64 (W.length : Nat)) ∧ w = w' := by
 have hsz : s.size = W.length + R.length := by rw [← Tx.ns_len, h.out, List.length_append]
 go_enter Tryz.func185, Tryz.ntmps185
 go_wp2
 go_loopw [3] (fun i wr => wr = w ∧ ∃ k : Nat, i = .int .i64 (k : Nat) ∧ k ≤ W.length) (fun i _ => W.length - (intOf i).toNat)
 case atStart => exact ⟨by trivial, 0, rfl, by omega⟩
 case round =>
  obtain ⟨rfl, k, rfl, hk⟩ := hrel
  by_cases hlt : k < W.length
  ·have hc : (W ++ R)[k]? = some W[k] := by rw [List.getElem?_append_left hlt, List.getElem?_eq_getElem hlt]
   obtain ⟨hks, hv⟩ := Tx.ns_at h.out hc
   have hd := hW.out _ (List.getElem_mem hlt)
   rw [← hv] at hd
   have h2 : (k : Int) < s.size := by omega
   have h3 : (48 : Int) ≤ (s[k].toNat : Nat) := by have := hd.1; omega
   have h4 : ((s[k].toNat : Nat) : Int) ≤ 57 := by have := hd.2; omega
   clear hc hv hd
   go_wp2
   go_roundw
   case rel => exact ⟨by trivial, k + 1, by go_num, by omega⟩
   case measure => simp [intOf]; omega
  ·obtain rfl : k = W.length := by omega
   rcases hR.out with hr | ⟨F, hr⟩
   ·have h2 : ¬ (W.length : Int) < s.size := by rw [hsz, hr]; simp
    clear hsz hr hlt
    go_wp2
    go_ret
    exact ⟨rfl, rfl⟩
   ·have hc : (W ++ R)[W.length]? = some 46 := by rw [hr, List.getElem?_append_right (Nat.le_refl _), Nat.sub_self]; rfl
    obtain ⟨hks, hv⟩ := Tx.ns_at h.out hc
    have h2 : (W.length : Int) < s.size := by omega
    have h3 : ¬ (48 : Int) ≤ (s[W.length].toNat : Nat) := by omega
    clear hc hv hr hlt
    go_wp2
    go_ret
    exact ⟨rfl, rfl⟩
structure Ac.Wh (W : List Nat) : Prop where
 dg : Ac.Dgs W
 pos : 0 < W.length
 top : 1 < W.length → W[0]? ≠ some 48
 len : W.length ≤ 320
theorem Ac.ten_lim : 10 ^ 22 < Bg.lim := by
 have h := Bg.p2_mono (show 80 ≤ 1024 by decide)
 rw [Bg.p2_lim] at h
 have e : Bg.p2 80 = 1208925819614629174706176 := by unfold Bg.p2; rfl
 omega
theorem Ac.dgs_len {s : ByteArray} {L : List Nat} (h : Tx.ns s = L) : s.size = L.length := by rw [← Tx.ns_len, h]
set_option maxRecDepth 20000 in
set_option maxHeartbeats 8000000 in
theorem rread_any (s : ByteArray) (W R : List Nat) (h : Hid (Tx.ns s = W ++ R)) (hW : Hid (Ac.Wh W)) (hR : Hid (R = [] ∨ ∃ F, R = 46 :: F ∧ Ac.Dgs F ∧ 0 < F.length ∧ F.length ≤ 6)) (g : Bool) (hg : Hid (g = decide (W.length ≤ 15))) (w : World) :
    Calls Tryz.prog 156 #[.string s, .int .i64 6, .bool true] w fun e w' => (∃ n d : Int, e = .returned (.tuple #[.agg (Bg.rZ n d), .bool g])) ∧ Below w.heap.size w w' := by
 have HW := Lib.hid hW.out
 have HM := Mem.start w
 have zr := za_rat
 have zi := za_int
 have sz := sa_rz 0 0 (c := Bg.rZ 0 0) (rZ_size 0 0)
 have hsz : s.size = W.length + R.length := by rw [← Tx.ns_len, h.out, List.length_append]
 have hRl : R.length ≤ 7 := by
  rcases hR.out with hr | ⟨F, hr, _, _, hf⟩
  ·rw [hr]; decide
  ·rw [hr, List.length_cons]; omega
 have hWl := hW.out.len
 have hWp := hW.out.pos
 have hss : s.size ≤ 400 := by omega
 obtain ⟨n, hn⟩ : ∃ n, Hid (n = W.length) := ⟨_, Lib.hid rfl⟩
 have hc0 : (W ++ R)[0]? = some W[0] := by rw [List.getElem?_append_left hWp, List.getElem?_eq_getElem hWp]
 obtain ⟨hk0, hv0⟩ := Tx.ns_at h.out hc0
 have hd0 := hW.out.dg _ (List.getElem_mem hWp)
 have hp0 : (0 : Int) < s.size := by omega
 have h45 : (((s[0].toNat : Nat) : Int) == 45) = false := beq_eq_false_iff_ne.2 (by have := hd0.1; omega)
 have hDot : Ac.Dot R := by
  rcases hR.out with hr | ⟨F, hr, _⟩
  ·exact .inl hr
  ·exact .inr ⟨F, hr⟩
 have DG := fun w => below_eq (digits_any s W R h (Lib.hid hW.out.dg) (Lib.hid hDot) hss w)
 rw [← hn.out] at DG hsz hWl hWp hg
 have hn0 : ((n : Int) == 0) = false := beq_eq_false_iff_ne.2 (by omega)
 have hn2 : Hid (1 < n → ¬ ((s[0].toNat : Nat) : Int) = 48) := Lib.hid (by
  intro h1 h2
  rw [hn.out] at h1
  refine hW.out.top h1 ?_
  rw [List.getElem?_eq_getElem hW.out.pos]
  congr 1
  omega)
 clear hc0 hv0 hd0 hDot
 go_enter Tryz.func156, Tryz.ntmps156
 by_cases h15 : n ≤ 15
 case neg =>
  obtain rfl : g = false := by rw [hg.out]; exact decide_eq_false h15
  have h15i : (15 : Int) < n := by omega
  clear h15 hWl hg
  go_upto_region 6 with (first | (go_at_call 185; ((with_reducible refine (DG _).mono ?_); rintro e9 w2 ⟨rfl, hL⟩; replace HM := HM.call hL; clear hL)) | (first | ((with_reducible refine g_ld ?_); refine a_ld HM ?_) | ((with_reducible refine g_st ?_); refine a_st HM ?_; clear HM; intro w1 HM) | ((with_reducible refine g_al ?_); refine a_al HM ?_; clear HM; intro bk w1 HM) | ((with_reducible refine g_bld ?_); refine a_bld ?_)))
  obtain ⟨b6, rfl⟩ := HM.nm0
  have ez : (Value.agg Tryz.zeroCells27) = .agg (Bg.rZ 0 0) := by kernel_rfl
  have sz0 := sz
  rw [← ez] at sz0
  go_wp2_with (first | ((with_reducible refine g_ld ?_); refine a_ld HM ?_) | ((with_reducible refine g_st ?_); refine a_st HM ?_; clear HM; intro w1 HM) | ((with_reducible refine g_al ?_); refine a_al HM ?_; clear HM; intro bk w1 HM) | ((with_reducible refine g_bld ?_); refine a_bld ?_))
  refine bodyPost_ret (r_ct (b := b6) (k := 0) rfl rfl (HM.get (by ((repeat (first | exact Look.here | refine Look.there ?_)); done))) (la_rz 0 0)) rfl (by exact ⟨⟨_, _, rfl⟩, HM.low⟩)
 case pos =>
  obtain rfl : g = true := by rw [hg.out]; exact decide_eq_true h15
  have h15i : ¬ (15 : Int) < n := by omega
  obtain ⟨a, ha⟩ : ∃ a, Hid (a = s.extract 0 n) := ⟨_, Lib.hid rfl⟩
  obtain ⟨b, hb⟩ : ∃ a, Hid (a = s.extract n s.size) := ⟨_, Lib.hid rfl⟩
  have haW : Tx.ns a = W := by
   rw [ha.out, Tx.ns_ext, h.out, hn.out, List.drop_zero, List.take_left]
  have hbR : Tx.ns b = R := by
   rw [hb.out, Tx.ns_ext, h.out, hn.out, List.take_of_length_le (by rw [List.length_append, ← hn.out]; omega), List.drop_left]
  have has : a.size = n := by rw [Ac.dgs_len haW, hn.out]
  have hbs : b.size = R.length := Ac.dgs_len hbR
  have HA := Lib.hid haW
  have HB := Lib.hid hbR
  clear haW hbR
  by_cases h1 : 1 < n
  case' pos =>
   have h1i : (1 : Int) < n := by omega
   have h48 : (((s[0].toNat : Nat) : Int) == 48) = false := beq_eq_false_iff_ne.2 (hn2.out h1)
   clear h1 h15 hg
   go_upto_region 7 with (first | (go_at_call 185; ((with_reducible refine (DG _).mono ?_); rintro e9 w2 ⟨rfl, hL⟩; replace HM := HM.call hL; clear hL)) | (first | ((with_reducible refine g_ld ?_); refine a_ld HM ?_) | ((with_reducible refine g_st ?_); refine a_st HM ?_; clear HM; intro w1 HM) | ((with_reducible refine g_al ?_); refine a_al HM ?_; clear HM; intro bk w1 HM) | ((with_reducible refine g_bld ?_); refine a_bld ?_)))
   clear h48 h1i
  case' neg =>
   have h1i : ¬ (1 : Int) < n := by omega
   clear h1 h15 hg
   go_upto_region 7 with (first | (go_at_call 185; ((with_reducible refine (DG _).mono ?_); rintro e9 w2 ⟨rfl, hL⟩; replace HM := HM.call hL; clear hL)) | (first | ((with_reducible refine g_ld ?_); refine a_ld HM ?_) | ((with_reducible refine g_st ?_); refine a_st HM ?_; clear HM; intro w1 HM) | ((with_reducible refine g_al ?_); refine a_al HM ?_; clear HM; intro bk w1 HM) | ((with_reducible refine g_bld ?_); refine a_bld ?_)))
   clear h1i
  all_goals
   obtain ⟨b6, rfl⟩ := HM.nm0
   clear DG h45 hn0 h15i hn2 hp0
   refine start_M [] HM (by kernel_rfl) (fun w0x H9 => ?_)
   replace HM := H9; clear H9
   refine k_mv 0 (heldE HM) ?_
   refine k_mv 1 (heldE HM) ?_
   refine t_pure (i := 2) (v := .string a) rfl rfl (by kernel_rfl) (fun _ _ _ h => h) (heldE HM) (by rfl) ?_ ?_; (focus ((rw [ha.out]; intro w9; first | (go_simp; done) | (go_simp; rfl) | (go_simp; intro h9; omega)))); ((try simp only [List.setIfInBounds_toArray]); (try simp only [List.set_cons_succ]); (try simp only [List.set_cons_zero]))
   refine k_mv 3 (heldE HM) ?_
   refine k_mv 4 (heldE HM) ?_
   refine t_pure (i := 5) (v := .string b) rfl rfl (by kernel_rfl) (fun _ _ _ h => h) (heldE HM) (by rfl) ?_ ?_; (focus ((rw [hb.out]; intro w9; first | (go_simp; done) | (go_simp; rfl) | (go_simp; intro h9; omega)))); ((try simp only [List.setIfInBounds_toArray]); (try simp only [List.set_cons_succ]); (try simp only [List.set_cons_zero]))
   refine k_mv 6 (heldE HM) ?_
   refine k_mv 7 (heldE HM) ?_
   refine wpAnyL_done (by kernel_rfl) ?_ _
   go_upto_region 8 with fail
   rcases hR.out with hr | ⟨F, hr, hF, hF1, hF6⟩
   case' inl =>
    have hb0 : b.size = 0 := by rw [hbs, hr]; rfl
    have hc6 : b.size ≤ 6 := by omega
    have HC : Hid (Ac.Dgs (Tx.ns b)) := Lib.hid (by rw [HB.out, hr]; intro c hc; cases hc)
    clear hbs hr
    go_upto_region 16 with (first | ((with_reducible refine g_ld ?_); refine a_ld HM ?_) | ((with_reducible refine g_st ?_); refine a_st HM ?_; clear HM; intro w1 HM) | ((with_reducible refine g_al ?_); refine a_al HM ?_; clear HM; intro bk w1 HM) | ((with_reducible refine g_bld ?_); refine a_bld ?_))
    obtain ⟨c, hc⟩ : ∃ c, c = b := ⟨_, rfl⟩
    rw [← hc] at HC hc6 ⊢
    obtain ⟨q, hq⟩ : ∃ q : Rat, Hid (q = ((Ac.p10 0 : Int) : Rat)) := ⟨_, Lib.hid rfl⟩
    have hql : q.num.natAbs < Bg.lim := by rw [hq.out, Ac.p10_num]; exact small_lim (by decide)
    have PW : ∀ w, Calls Tryz.prog 144 #[.int .i64 0] w fun e w' => e = .returned (.agg (Rt.qA q)) ∧ Below w.heap.size w w' := fun w => by rw [hq.out]; exact rpower_any 0 (by decide) w
    clear hq hc hb0
   case' inr =>
    obtain ⟨m, hm⟩ : ∃ m, Hid (m = F.length) := ⟨_, Lib.hid rfl⟩
    have hb0 : b.size = m + 1 := by rw [hbs, hr, hm.out]; rfl
    obtain ⟨hkb, hvb⟩ := Tx.ns_at HB.out (k := 0) (c := 46) (by rw [hr]; rfl)
    obtain ⟨c, hc⟩ : ∃ c, Hid (c = b.extract 1 (m + 1)) := ⟨_, Lib.hid rfl⟩
    have hcF : Tx.ns c = F := by
     rw [hc.out, Tx.ns_ext, HB.out, hr, List.take_of_length_le (by rw [List.length_cons, hm.out]; omega)]; rfl
    have hcs : c.size = m := by rw [Ac.dgs_len hcF, hm.out]
    have HC : Hid (Ac.Dgs (Tx.ns c)) := Lib.hid (by rw [hcF]; exact hF)
    have DG := fun w => below_eq (digits_any c F [] (Lib.hid (by rw [hcF, List.append_nil])) (Lib.hid hF) (Lib.hid (.inl rfl)) (by rw [hcs, hm.out]; omega) w)
    have h46 : (((b[0].toNat : Nat) : Int) != 46) = false := by
     have e : ((b[0].toNat : Nat) : Int) = 46 := by omega
     rw [e]; rfl
    have hbp : (0 : Int) < b.size := by omega
    rw [← hm.out] at DG hF1 hF6
    have hc0 : ((m : Int) == 0) = false := beq_eq_false_iff_ne.2 (by omega)
    have hc6i : ¬ (6 : Int) < m := by omega
    have hc6 : c.size ≤ 6 := by omega
    clear hbs hr hF hcF hvb
    go_upto_region 13 with (first | ((with_reducible refine g_ld ?_); refine a_ld HM ?_) | ((with_reducible refine g_st ?_); refine a_st HM ?_; clear HM; intro w1 HM) | ((with_reducible refine g_al ?_); refine a_al HM ?_; clear HM; intro bk w1 HM) | ((with_reducible refine g_bld ?_); refine a_bld ?_))
    rw [← hc.out]
    go_upto_region 16 with (first | (go_at_call 185; ((with_reducible refine (DG _).mono ?_); rintro e9 w2 ⟨rfl, hL⟩; replace HM := HM.call hL; clear hL)) | (first | ((with_reducible refine g_ld ?_); refine a_ld HM ?_) | ((with_reducible refine g_st ?_); refine a_st HM ?_; clear HM; intro w1 HM) | ((with_reducible refine g_al ?_); refine a_al HM ?_; clear HM; intro bk w1 HM) | ((with_reducible refine g_bld ?_); refine a_bld ?_)))
    obtain ⟨q, hq⟩ : ∃ q : Rat, Hid (q = ((Ac.p10 m : Int) : Rat)) := ⟨_, Lib.hid rfl⟩
    have hql : q.num.natAbs < Bg.lim := by rw [hq.out, Ac.p10_num]; exact Ac.lim_of (Ac.p10_bits (show m ≤ 9 by omega)) (by decide)
    have PW : ∀ w, Calls Tryz.prog 144 #[.int .i64 (m : Nat)] w fun e w' => e = .returned (.agg (Rt.qA q)) ∧ Below w.heap.size w w' := fun w => by rw [hq.out]; exact rpower_any m (by omega) w
    clear hq hc DG h46 hc0
   all_goals
    obtain ⟨t, ht⟩ : ∃ t, t = a ++ c := ⟨_, rfl⟩
    have hts : t.size ≤ 21 := by rw [ht, ByteArray.size_append]; omega
    have htd : Ac.Dgs (Tx.ns t) := by
     rw [ht, Tx.ns_app, HA.out]
     intro d hd
     rcases List.mem_append.1 hd with hd | hd
     ·exact HW.out.dg d hd
     ·exact HC.out d hd
    have HT := Lib.hid htd
    have ha15 : a.size ≤ 15 := by omega
    clear htd
    go_upto_region 18 with (first | ((with_reducible refine g_ld ?_); refine a_ld HM ?_) | ((with_reducible refine g_st ?_); refine a_st HM ?_; clear HM; intro w1 HM) | ((with_reducible refine g_al ?_); refine a_al HM ?_; clear HM; intro bk w1 HM) | ((with_reducible refine g_bld ?_); refine a_bld ?_))
    rw [← ht]
    clear ht HC ha15 hc6
    obtain ⟨b13, rfl⟩ := HM.nm0
    go_wp2_with fail
    go_loopw [15] (fun i wr => ∃ (k X : Nat), i = .int .i64 (k : Nat) ∧ k ≤ t.size ∧ Hid (X < 10 ^ k) ∧ Mem w [] [(b13, Bg.zA (X : Nat)), (b6, Bg.rZ 0 0)] wr) (fun i _ => t.size - (intOf i).toNat)
    case atStart => exact ⟨0, 0, rfl, by omega, Lib.hid (by decide), HM⟩
    case round =>
     clear HM
     obtain ⟨k, X, rfl, hk, HX, HM⟩ := hrel
     have hp : 10 ^ k ≤ 10 ^ 21 := Nat.pow_le_pow_right (by decide) (by omega)
     have hX0 := HX.out
     have l22 := Ac.ten_lim
     have lX : ((X : Nat) : Int).natAbs < Bg.lim := by rw [Int.natAbs_natCast]; omega
     by_cases hlt : k < t.size
     ·have hlt2 : (k : Int) < t.size := by omega
      have hd := HT.out _ (List.mem_of_getElem? (Tx.ns_get t hlt))
      have h3 : (48 : Int) ≤ (t[k].toNat : Nat) := by have := hd.1; omega
      have h4 : ((t[k].toNat : Nat) : Int) ≤ 57 := by have := hd.2; omega
      obtain ⟨z1, hz1⟩ : ∃ x, Hid (x = ((X : Nat) : Int) * 10) := ⟨_, Lib.hid rfl⟩
      obtain ⟨z2, hz2⟩ : ∃ x, Hid (x = z1 + (((t[k].toNat : Nat) : Int) - 48)) := ⟨_, Lib.hid rfl⟩
      have hb1 : z1.natAbs < Bg.lim := by rw [hz1.out]; omega
      have hb2 : z2.natAbs < Bg.lim := by rw [hz2.out, hz1.out]; omega
      obtain ⟨Y, hY⟩ : ∃ Y : Nat, Hid (z2 = (Y : Nat)) := ⟨z2.toNat, Lib.hid (by rw [hz2.out, hz1.out]; omega)⟩
      have HY : Hid (Y < 10 ^ (k + 1)) := Lib.hid (by
       have e1 := hY.out
       rw [hz2.out, hz1.out] at e1
       rw [Nat.pow_succ]
       omega)
      have l10 : (10 : Int).natAbs < Bg.lim := small_lim (by decide)
      have lc : (((t[k].toNat : Nat) : Int) - 48).natAbs < Bg.lim := small_lim (by omega)
      have hwr : Hid (IntKind.i64.wrap (IntKind.u8.wrap (((t[k].toNat : Nat) : Int) - 48)) = ((t[k].toNat : Nat) : Int) - 48) := Lib.hid (by
       rw [IntWalk.u8_in _ (by omega), IntWalk.i64_in _ (by omega)])
      clear hd l22 hp hX0
      go_upto_region 21 with (first | ((with_reducible refine g_ld ?_); refine a_ld HM ?_) | ((with_reducible refine g_st ?_); refine a_st HM ?_; clear HM; intro w1 HM) | ((with_reducible refine g_al ?_); refine a_al HM ?_; clear HM; intro bk w1 HM) | ((with_reducible refine g_bld ?_); refine a_bld ?_))
      go_cut [16, 17] (fun p e wc => ∃ b16, p = .pointer (some ⟨b16, 0, none⟩) ∧ e = .int .i64 0 ∧ Mem w [] [(b16, Bg.zA z1), (b13, Bg.zA (X : Nat)), (b6, Bg.rZ 0 0)] wc)
      case first =>
       refine start_M [7] HM (by kernel_rfl) (fun w0x H9 => ?_)
       replace HM := H9; clear H9
       refine k_ld 0 [2, 3, 4, 5, 7, 8] (heldE HM) ?_
       refine j_two 1 6 ?_ ?_
       ·refine j_call1 (v := ?_) HM ?_ ?_; rotate_left 1; (focus (with_reducible (first | exact rfromInt_z 10 (by omega) (by omega) _ | exact rmul_zz _ _ z1 z1 0 lX l10 hz1 (Lib.hid (Ac.resZ hb1)) (Lib.hid (Ac.resE hb1)) _))); clear HM; intro w1 HM
        refine ⟨(heldE HM), ?_⟩
        refine j_two 2 6 ?_ ?_
        ·refine j_call2 (v := ?_) HM ?_ ?_; rotate_left 1; (focus (with_reducible (first | exact rfromInt_z 10 (by omega) (by omega) _ | exact rmul_zz _ _ z1 z1 0 lX l10 hz1 (Lib.hid (Ac.resZ hb1)) (Lib.hid (Ac.resE hb1)) _))); clear HM; intro w1 HM
         refine ⟨(heldE HM), ?_⟩
         refine k_mv 3 (heldE HM) ?_
         refine k_ext 4 (heldE HM) ?_
         refine k_ext 5 (heldE HM) ?_
         refine j_one 6 fun K9 hK9 => ?_
         refine j_al HM ?_; clear HM; intro bk w1 HM
         refine hK9 _ _ (heldE HM) ?_; clear hK9 K9
         refine j_one 7 fun K9 hK9 => ?_
         refine j_st HM ?_; clear HM; intro w1 HM
         refine hK9 _ _ heldN ?_; clear hK9 K9
         refine k_mv 8 heldN ?_
         refine wpAnyL_done (by kernel_rfl) ?_ _
         (go_wp2_with fail; go_meet; (case rel => exact ⟨_, rfl, rfl, HM.pick⟩))
        ·refine j_al HM ?_; clear HM; intro bk w1 HM
         refine ⟨(heldE HM), ?_⟩
         refine j_one 2 fun K9 hK9 => ?_
         refine j_call2 (v := ?_) HM ?_ ?_; rotate_left 1; (focus (with_reducible (first | exact rfromInt_z 10 (by omega) (by omega) _ | exact rmul_zz _ _ z1 z1 0 lX l10 hz1 (Lib.hid (Ac.resZ hb1)) (Lib.hid (Ac.resE hb1)) _))); clear HM; intro w1 HM
         refine hK9 _ _ (heldE HM) ?_; clear hK9 K9
         refine k_mv 3 (heldE HM) ?_
         refine k_ext 4 (heldE HM) ?_
         refine k_ext 5 (heldE HM) ?_
         refine j_one 7 fun K9 hK9 => ?_
         refine j_st HM ?_; clear HM; intro w1 HM
         refine hK9 _ _ heldN ?_; clear hK9 K9
         refine k_mv 8 heldN ?_
         refine wpAnyL_done (by kernel_rfl) ?_ _
         (go_wp2_with fail; go_meet; (case rel => exact ⟨_, rfl, rfl, HM.pick⟩))
       ·refine j_al HM ?_; clear HM; intro bk w1 HM
        refine ⟨(heldE HM), ?_⟩
        refine j_one 1 fun K9 hK9 => ?_
        refine j_call1 (v := ?_) HM ?_ ?_; rotate_left 1; (focus (with_reducible (first | exact rfromInt_z 10 (by omega) (by omega) _ | exact rmul_zz _ _ z1 z1 0 lX l10 hz1 (Lib.hid (Ac.resZ hb1)) (Lib.hid (Ac.resE hb1)) _))); clear HM; intro w1 HM
        refine hK9 _ _ (heldE HM) ?_; clear hK9 K9
        refine j_one 2 fun K9 hK9 => ?_
        refine j_call2 (v := ?_) HM ?_ ?_; rotate_left 1; (focus (with_reducible (first | exact rfromInt_z 10 (by omega) (by omega) _ | exact rmul_zz _ _ z1 z1 0 lX l10 hz1 (Lib.hid (Ac.resZ hb1)) (Lib.hid (Ac.resE hb1)) _))); clear HM; intro w1 HM
        refine hK9 _ _ (heldE HM) ?_; clear hK9 K9
        refine k_mv 3 (heldE HM) ?_
        refine k_ext 4 (heldE HM) ?_
        refine k_ext 5 (heldE HM) ?_
        refine j_one 7 fun K9 hK9 => ?_
        refine j_st HM ?_; clear HM; intro w1 HM
        refine hK9 _ _ heldN ?_; clear hK9 K9
        refine k_mv 8 heldN ?_
        refine wpAnyL_done (by kernel_rfl) ?_ _
        (go_wp2_with fail; go_meet; (case rel => exact ⟨_, rfl, rfl, HM.pick⟩))
      case rest =>
       clear HM
       obtain ⟨b16, rfl, rfl, HM⟩ := hcut
       go_upto_region 22 with fail
       have s2 := sa_z z2 (c := Bg.zA (X : Nat)) (zA_size X)
       refine start_M [11] HM (by kernel_rfl) (fun w0x H9 => ?_)
       replace HM := H9; clear H9
       refine k_ld 0 [7, 8, 9, 10, 11] (heldE HM) ?_
       refine k_mv 1 (heldE HM) ?_
       refine k_mv 2 (heldE HM) ?_
       refine k_pv 3 (heldE HM) ?_
       refine k_sub 4 (heldE HM) ?_
       refine k_cv 5 (heldE HM) ?_
       refine j_one 6 fun K9 hK9 => ?_
       refine j_call1 (v := ?_) HM ?_ ?_; rotate_left 1; (focus (with_reducible (first | exact rfromInt_w _ _ hwr (by omega) (by omega) _ | exact radd_zz _ _ z2 z2 0 hb1 lc hz2 (Lib.hid (Ac.resZ hb2)) (Lib.hid (Ac.resE hb2)) _))); clear HM; intro w1 HM
       refine hK9 _ _ (heldE HM) ?_; clear hK9 K9
       refine j_one 7 fun K9 hK9 => ?_
       refine j_call2 (v := ?_) HM ?_ ?_; rotate_left 1; (focus (with_reducible (first | exact rfromInt_w _ _ hwr (by omega) (by omega) _ | exact radd_zz _ _ z2 z2 0 hb1 lc hz2 (Lib.hid (Ac.resZ hb2)) (Lib.hid (Ac.resE hb2)) _))); clear HM; intro w1 HM
       refine hK9 _ _ (heldE HM) ?_; clear hK9 K9
       refine k_mv 8 (heldE HM) ?_
       refine k_ext 9 (heldE HM) ?_
       refine k_ext 10 (heldE HM) ?_
       refine j_one 11 fun K9 hK9 => ?_
       refine j_st HM ?_; clear HM; intro w1 HM
       refine hK9 _ _ heldN ?_; clear hK9 K9
       refine wpAnyL_done (by kernel_rfl) ?_ _
       go_wp2_with (first | ((with_reducible refine g_ld ?_); refine a_ld HM ?_) | ((with_reducible refine g_st ?_); refine a_st HM ?_; clear HM; intro w1 HM) | ((with_reducible refine g_al ?_); refine a_al HM ?_; clear HM; intro bk w1 HM) | ((with_reducible refine g_bld ?_); refine a_bld ?_))
       go_roundw
       case rel => exact ⟨k + 1, Y, by go_num, by omega, HY, by rw [hY.out] at HM; exact HM.pick⟩
       case measure => simp [intOf]; omega
     ·obtain rfl : k = t.size := by omega
      obtain ⟨n9, d9, e9, hr9⟩ : ∃ n d e : Int, Hid ((n, d, e) = Rt.mk ((X : Nat) : Int) q.num) := ⟨_, _, _, Lib.hid rfl⟩
      have MK := fun w => rmake_z _ _ n9 d9 e9 lX hql hr9 w
      have sq := sa_rz n9 d9 (c := Bg.rZ 0 0) (rZ_size 0 0)
      have lq := la_rz n9 d9
      have fq := fa_qnum q
      clear hX0 hp l22
      go_upto_region 27 with (first | ((with_reducible refine g_ld ?_); refine a_ld HM ?_) | ((with_reducible refine g_st ?_); refine a_st HM ?_; clear HM; intro w1 HM) | ((with_reducible refine g_al ?_); refine a_al HM ?_; clear HM; intro bk w1 HM) | ((with_reducible refine g_bld ?_); refine a_bld ?_))
      go_cut [18] (fun p wc => ∃ b18, p = .pointer (some ⟨b18, 0, none⟩) ∧ Mem w [] [(b18, Bg.rZ n9 d9), (b6, Bg.rZ 0 0)] wc)
      case first =>
       refine start_M [9] HM (by kernel_rfl) (fun w0x H9 => ?_)
       replace HM := H9; clear H9
       refine k_ld 0 [4, 5, 6, 7, 9, 10] (heldE HM) ?_
       refine k_mv 1 (heldE HM) ?_
       refine j_two 2 8 ?_ ?_
       ·refine j_call1 (v := ?_) HM ?_ ?_; rotate_left 1; (focus (with_reducible (first | exact PW _ | exact MK _))); clear HM; intro w1 HM
        refine ⟨(heldE HM), ?_⟩
        refine t_pure (i := 3) (v := .agg (Bg.zA q.num)) rfl rfl (by kernel_rfl) (fun _ _ _ h => h) (heldE HM) (by rfl) ?_ ?_; (focus (refine h_fld rfl ?_ Rt.und (by kernel_rfl) fq; ((conv => lhs; whnf) <;> rfl))); ((try simp only [List.setIfInBounds_toArray]); (try simp only [List.set_cons_succ]); (try simp only [List.set_cons_zero]))
        refine j_two 4 8 ?_ ?_
        ·refine j_call2 (v := ?_) HM ?_ ?_; rotate_left 1; (focus (with_reducible (first | exact PW _ | exact MK _))); clear HM; intro w1 HM
         refine ⟨(heldE HM), ?_⟩
         refine k_mv 5 (heldE HM) ?_
         refine k_ext 6 (heldE HM) ?_
         refine k_ext 7 (heldE HM) ?_
         refine j_one 8 fun K9 hK9 => ?_
         refine j_al HM ?_; clear HM; intro bk w1 HM
         refine hK9 _ _ (heldE HM) ?_; clear hK9 K9
         refine j_one 9 fun K9 hK9 => ?_
         refine j_st HM ?_; clear HM; intro w1 HM
         refine hK9 _ _ heldN ?_; clear hK9 K9
         refine k_mv 10 heldN ?_
         refine wpAnyL_done (by kernel_rfl) ?_ _
         (go_wp2_with fail; go_meet; (case rel => exact ⟨_, rfl, HM.pick⟩))
        ·refine j_al HM ?_; clear HM; intro bk w1 HM
         refine ⟨(heldE HM), ?_⟩
         refine j_one 4 fun K9 hK9 => ?_
         refine j_call2 (v := ?_) HM ?_ ?_; rotate_left 1; (focus (with_reducible (first | exact PW _ | exact MK _))); clear HM; intro w1 HM
         refine hK9 _ _ (heldE HM) ?_; clear hK9 K9
         refine k_mv 5 (heldE HM) ?_
         refine k_ext 6 (heldE HM) ?_
         refine k_ext 7 (heldE HM) ?_
         refine j_one 9 fun K9 hK9 => ?_
         refine j_st HM ?_; clear HM; intro w1 HM
         refine hK9 _ _ heldN ?_; clear hK9 K9
         refine k_mv 10 heldN ?_
         refine wpAnyL_done (by kernel_rfl) ?_ _
         (go_wp2_with fail; go_meet; (case rel => exact ⟨_, rfl, HM.pick⟩))
       ·refine j_al HM ?_; clear HM; intro bk w1 HM
        refine ⟨(heldE HM), ?_⟩
        refine j_one 2 fun K9 hK9 => ?_
        refine j_call1 (v := ?_) HM ?_ ?_; rotate_left 1; (focus (with_reducible (first | exact PW _ | exact MK _))); clear HM; intro w1 HM
        refine hK9 _ _ (heldE HM) ?_; clear hK9 K9
        refine t_pure (i := 3) (v := .agg (Bg.zA q.num)) rfl rfl (by kernel_rfl) (fun _ _ _ h => h) (heldE HM) (by rfl) ?_ ?_; (focus (refine h_fld rfl ?_ Rt.und (by kernel_rfl) fq; ((conv => lhs; whnf) <;> rfl))); ((try simp only [List.setIfInBounds_toArray]); (try simp only [List.set_cons_succ]); (try simp only [List.set_cons_zero]))
        refine j_one 4 fun K9 hK9 => ?_
        refine j_call2 (v := ?_) HM ?_ ?_; rotate_left 1; (focus (with_reducible (first | exact PW _ | exact MK _))); clear HM; intro w1 HM
        refine hK9 _ _ (heldE HM) ?_; clear hK9 K9
        refine k_mv 5 (heldE HM) ?_
        refine k_ext 6 (heldE HM) ?_
        refine k_ext 7 (heldE HM) ?_
        refine j_one 9 fun K9 hK9 => ?_
        refine j_st HM ?_; clear HM; intro w1 HM
        refine hK9 _ _ heldN ?_; clear hK9 K9
        refine k_mv 10 heldN ?_
        refine wpAnyL_done (by kernel_rfl) ?_ _
        (go_wp2_with fail; go_meet; (case rel => exact ⟨_, rfl, HM.pick⟩))
      case rest =>
       clear HM
       obtain ⟨b18, rfl, HM⟩ := hcut
       go_step
       go_wp2_with (first | ((with_reducible refine g_ld ?_); refine a_ld HM ?_) | ((with_reducible refine g_st ?_); refine a_st HM ?_; clear HM; intro w1 HM) | ((with_reducible refine g_al ?_); refine a_al HM ?_; clear HM; intro bk w1 HM) | ((with_reducible refine g_bld ?_); refine a_bld ?_))
       refine bodyPost_ret (r_ct (b := b6) (k := 0) rfl rfl (HM.get (by ((repeat (first | exact Look.here | refine Look.there ?_)); done))) (la_rz _ _)) rfl (by exact ⟨⟨_, _, rfl⟩, HM.low⟩)
end Go.Proofs.YtmbjaaaeekacfaaGreatDoor
namespace Go.Proofs.YtmbjaaaeekacfaaGreatDoor
set_option maxRecDepth 8000
open Go.RowKit
theorem Ac.txt_wh {N : Nat} (h : N < Bg.lim) : Ac.Wh (Tx.ns (Tx.txt false N)) := by
 have hs := Tx.txt_size h
 have hl := Tx.ns_len (Tx.txt false N)
 refine ⟨?_, by omega, ?_, by omega⟩
 ·unfold Tx.txt
  by_cases h0 : N = 0
  ·rw [if_pos h0, Tx.ns_str _ (by decide)]
   intro c hc
   rw [List.mem_singleton.1 hc]; decide
  ·rw [if_neg h0, if_neg Bool.false_ne_true]
   have hd : ∀ c ∈ (Tx.dig N).reverse, c < 10 := fun c hc => Tx.dig_lt N c (by simpa using hc)
   rw [Tx.ns_str _ hd]
   intro c hc
   obtain ⟨d, hd2, rfl⟩ := List.mem_map.1 hc
   have := hd d hd2
   exact ⟨by omega, by omega⟩
 ·intro h1 h2
  by_cases h0 : N = 0
  ·rw [hl, h0] at h1
   exact absurd h1 (by decide)
  ·unfold Tx.txt at h2
   rw [if_neg h0, if_neg Bool.false_ne_true] at h2
   have hd : ∀ c ∈ (Tx.dig N).reverse, c < 10 := fun c hc => Tx.dig_lt N c (by simpa using hc)
   rw [Tx.ns_str _ hd] at h2
   obtain ⟨c, l, e, hc⟩ := Tx.dig_head h0
   rw [e] at h2
   have h3 : c + 48 = 48 := by injection h2
   exact hc (by omega)
structure Ac.Wr (s : ByteArray) (n : Nat) : Prop where
 ex : ∃ W F, Tx.ns s = W ++ 46 :: F ∧ Ac.Wh W ∧ W.length = n ∧ Ac.Dgs F ∧ F.length ≤ 6
theorem Ac.dgs_take {L : List Nat} (h : Ac.Dgs L) (k : Nat) : Ac.Dgs (L.take k) := fun c hc => h c (List.mem_of_mem_take hc)
theorem Ac.dgs_drop {L : List Nat} (h : Ac.Dgs L) (k : Nat) : Ac.Dgs (L.drop k) := fun c hc => h c (List.mem_of_mem_drop hc)
def Ac.Pad (T0 T : ByteArray) : Prop := Ac.Dgs (Tx.ns T) ∧ (T = T0 ∨ (T.size ≤ 7 ∧ T0.size ≤ 6))
theorem Ac.Pad.step {T0 T : ByteArray} (h : Ac.Pad T0 T) (h6 : T.size ≤ 6) : Ac.Pad T0 (({ data := #[48] } : ByteArray) ++ T) := by
 refine ⟨?_, .inr ⟨?_, ?_⟩⟩
 ·rw [Tx.ns_app]
  intro c hc
  rcases List.mem_append.1 hc with hc | hc
  ·have : c = 48 := List.mem_singleton.1 hc
   subst this; decide
  ·exact h.1 c hc
 ·rw [ByteArray.size_append]
  show 1 + T.size ≤ 7
  omega
 ·rcases h.2 with rfl | ⟨_, h2⟩
  ·exact h6
  ·exact h2
theorem Ac.Pad.done {T0 T : ByteArray} {m : Nat} (h : Ac.Pad T0 T) (h0 : Ac.Wh (Tx.ns T0)) (hm : T.size = m + 6) (hm0 : 0 < m) : Ac.Wr (T.extract 0 m ++ ({ data := #[46] } : ByteArray) ++ T.extract m (m + 6)) (Ac.wl T0.size) := by
 have hl := Tx.ns_len T
 refine ⟨(Tx.ns T).take m, (Tx.ns T).drop m, ?_, ⟨Ac.dgs_take h.1 m, ?_, ?_, ?_⟩, ?_, Ac.dgs_drop h.1 m, ?_⟩
 ·rw [Tx.ns_app, Tx.ns_app, Tx.ns_ext, Tx.ns_ext, List.drop_zero, List.take_of_length_le (by omega : (Tx.ns T).length ≤ m + 6), List.append_assoc]; rfl
 ·rw [List.length_take]; omega
 ·intro h1
  rw [List.length_take] at h1
  rcases h.2 with rfl | ⟨h7, _⟩
  ·rw [List.getElem?_take_of_lt (by omega)]
   exact h0.top (by omega)
  ·omega
 ·rw [List.length_take]
  have := h0.len
  have hl0 := Tx.ns_len T0
  rcases h.2 with rfl | ⟨h7, _⟩ <;> omega
 ·rw [List.length_take]
  unfold Ac.wl
  rcases h.2 with rfl | ⟨h7, h8⟩
  ·rw [if_neg (by omega)]; omega
  ·rw [if_pos h8]; omega
 ·rw [List.length_drop]; omega
set_option maxHeartbeats 4000000 in
theorem written_any (l : Int) (T0 : ByteArray) (hl : l.natAbs < Bg.lim) (h0 : 0 ≤ l) (hT : Hid (T0 = Tx.txt false l.natAbs)) (w : World) :
    Calls Tryz.prog 155 #[.agg (Bg.zA l), .int .i64 6] w fun e w' => (∃ s : ByteArray, e = .returned (.string s) ∧ Hid (Ac.Wr s (Ac.wl T0.size)) ∧ s.size ≤ 400) ∧ Below w.heap.size w w' := by
 have HM := Mem.start w
 have k0 := la_z l
 have hT0 := Tx.txt_size hl
 have hW := Ac.txt_wh hl
 have FM := fun w => rbformat_any false l.natAbs hl w
 have ezn : Bg.intA false l.natAbs = Bg.zA l := by rw [zA_int, decide_eq_false (by omega)]
 rw [ezn, ← hT.out] at FM
 rw [← hT.out] at hT0 hW
 have AB := fun w => rabs_z l l hl (Lib.hid (by omega)) w
 obtain ⟨g, hg⟩ : ∃ g, Hid (g = l.sign) := ⟨_, Lib.hid rfl⟩
 have SG := fun w => rsign_z l g hl hg w
 have hg0 : ¬ g < 0 := by
  rw [hg.out]
  rcases Int.lt_trichotomy l 0 with h | h | h
  ·omega
  ·rw [h]; decide
  ·rw [Int.sign_eq_one_of_pos h]; decide
 have HW := Lib.hid hW
 clear hW ezn hT
 go_enter Tryz.func155, Tryz.ntmps155
 go_wp2_with (first | (go_at_call 58; ((with_reducible refine (AB _).mono ?_); rintro e9 w2 ⟨rfl, hL⟩; replace HM := HM.call hL; clear hL)) | (go_at_call 184; ((with_reducible refine (FM _).mono ?_); rintro e9 w2 ⟨rfl, hL⟩; replace HM := HM.call hL; clear hL)) | (first | ((with_reducible refine g_ld ?_); refine a_ld HM ?_) | ((with_reducible refine g_bx ?_); refine a_bx HM ?_; clear HM; intro bk w1 HM)))
 obtain ⟨b2, rfl⟩ := HM.nm0
 go_loopw [5] (fun s wr => ∃ T : ByteArray, s = .string T ∧ T.size ≤ 309 ∧ 0 < T.size ∧ Hid (Ac.Pad T0 T) ∧ Mem w [] [(b2, Bg.zA l)] wr) (fun s _ => match s with | .string T => 10 - T.size | _ => 0)
 case atStart => exact ⟨T0, rfl, hT0.2, by omega, Lib.hid ⟨HW.out.dg, .inl rfl⟩, HM⟩
 case round =>
  clear HM
  obtain ⟨T, rfl, hT9, hTp, HP, HM⟩ := hrel
  by_cases h6 : T.size ≤ 6
  ·have h6i : (T.size : Int) ≤ 6 := by omega
   have hsz : (({ data := #[48] } : ByteArray) ++ T).size = 1 + T.size := by rw [ByteArray.size_append]; rfl
   have HP2 := Lib.hid (HP.out.step h6)
   go_wp2_with (first | ((with_reducible refine g_ld ?_); refine a_ld HM ?_) | ((with_reducible refine g_bx ?_); refine a_bx HM ?_; clear HM; intro bk w1 HM))
   go_roundw
   case rel => exact ⟨_, rfl, by rw [hsz]; omega, by rw [hsz]; omega, HP2, HM⟩
   case measure => show 10 - (({ data := #[48] } : ByteArray) ++ T).size < 10 - T.size; rw [hsz]; omega
  ·obtain ⟨m, hm⟩ : ∃ m, T.size = m + 6 := ⟨T.size - 6, by omega⟩
   have h6i : ¬ (T.size : Int) ≤ 6 := by omega
   obtain ⟨-, p1, p2⟩ := point6 T m hm
   have HD := Lib.hid (HP.out.done HW.out hm (by omega))
   clear h6
   go_upto_region 5 with fail
   refine start_M [] HM (by kernel_rfl) (fun w0x H9 => ?_)
   replace HM := H9; clear H9
   refine k_mv 0 (heldE HM) ?_
   refine k_mv 1 (heldE HM) ?_
   refine k_pv 2 (heldE HM) ?_
   refine k_mv 3 (heldE HM) ?_
   refine k_sub 4 (heldE HM) ?_
   refine t_pure (i := 5) (v := .string (T.extract 0 m)) rfl rfl (by kernel_rfl) (fun _ _ _ h => h) (heldE HM) (by rfl) ?_ ?_; (focus ((intro w9; first | (go_simp; done) | (go_simp; rfl) | (go_simp; intro h9; omega)))); ((try simp only [List.setIfInBounds_toArray]); (try simp only [List.set_cons_succ]); (try simp only [List.set_cons_zero]))
   refine t_pure (i := 6) (v := .string (T.extract 0 m ++ { data := #[46] })) rfl rfl (by kernel_rfl) (fun _ _ _ h => h) (heldE HM) (by rfl) ?_ ?_; (focus ((intro w9; first | (go_simp; done) | (go_simp; rfl) | (go_simp; intro h9; omega) | (go_simp; omega) | (go_simp; rw [if_neg (by simp only [ByteArray.size_append]; omega)])))); ((try simp only [List.setIfInBounds_toArray]); (try simp only [List.set_cons_succ]); (try simp only [List.set_cons_zero]))
   refine k_mv 7 (heldE HM) ?_
   refine k_mv 8 (heldE HM) ?_
   refine k_pv 9 (heldE HM) ?_
   refine k_mv 10 (heldE HM) ?_
   refine k_sub 11 (heldE HM) ?_
   refine t_pure (i := 12) (v := .string (T.extract m (m + 6))) rfl rfl (by kernel_rfl) (fun _ _ _ h => h) (heldE HM) (by rfl) ?_ ?_; (focus ((intro w9; first | (go_simp; done) | (go_simp; rfl) | (go_simp; intro h9; omega)))); ((try simp only [List.setIfInBounds_toArray]); (try simp only [List.set_cons_succ]); (try simp only [List.set_cons_zero]))
   refine t_pure (i := 13) (v := .string (T.extract 0 m ++ { data := #[46] } ++ T.extract m (m + 6))) rfl rfl (by kernel_rfl) (fun _ _ _ h => h) (heldE HM) (by rfl) ?_ ?_; (focus ((intro w9; first | (go_simp; done) | (go_simp; rfl) | (go_simp; intro h9; omega) | (go_simp; omega) | (go_simp; rw [if_neg (by simp only [ByteArray.size_append]; omega)])))); ((try simp only [List.setIfInBounds_toArray]); (try simp only [List.set_cons_succ]); (try simp only [List.set_cons_zero]))
   refine k_mv 14 (heldE HM) ?_
   refine wpAnyL_done (by kernel_rfl) ?_ _
   have hsl : (T.extract 0 m ++ ({ data := #[46] } : ByteArray) ++ T.extract m (m + 6)).size ≤ 400 := by
    rw [ByteArray.size_append, ByteArray.size_append, p1, p2]
    show m + 1 + 6 ≤ 400
    omega
   generalize T.extract 0 m ++ ({ data := #[46] } : ByteArray) ++ T.extract m (m + 6) = s at *
   go_wp2_with (first | (go_at_call 60; ((with_reducible refine (SG _).mono ?_); rintro e9 w2 ⟨rfl, hL⟩; replace HM := HM.call hL; clear hL)) | (first | ((with_reducible refine g_ld ?_); refine a_ld HM ?_) | ((with_reducible refine g_bx ?_); refine a_bx HM ?_; clear HM; intro bk w1 HM)))
   go_ret
   exact ⟨⟨_, rfl, HD, hsl⟩, HM.low⟩
end Go.Proofs.YtmbjaaaeekacfaaGreatDoor
