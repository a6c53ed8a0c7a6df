/- Walks, and plain facts for them. -/
import Derived.Test.YtckhdiljihhdmaaGreatPc35
namespace Go.Proofs.YtckhdiljihhdmaaGreat
set_option maxRecDepth 8000
open Go.RowKit
theorem lk_fit0 : Rt.Fit (0 : Rat) := Rt.fit_zero
theorem lk_pair {w : World} {sa sb : Value} {XA XB : List Xp} (h1 : RdX w sa XA) (h2 : RdX w sb XB) {q : Nat} (hq : q < 2) : ∃ (s : Value) (X : List Xp), [XA, XB][q]? = some X ∧ [sa, sb][q]? = some s ∧ RdX w s X ∧ (q = 0 ∧ X = XA ∨ q = 1 ∧ X = XB) := by
 match q, hq with
 | 0, _ => exact ⟨sa, XA, rfl, rfl, h1, .inl ⟨rfl, rfl⟩⟩
 | 1, _ => exact ⟨sb, XB, rfl, rfl, h2, .inr ⟨rfl, rfl⟩⟩
theorem la_xps {l : List Value} {i : Nat} {v : Value} (h : l[i]? = some v) : LA 29 (rowsOf (l.map vc)) i v := by
 refine LA.one (by kernel_rfl) ?_
 have := rows_at (n := 1) (l := l.map vc) (by intro c hc; obtain ⟨x, _, rfl⟩ := List.mem_map.1 hc; rfl) (k := i) (c := vc v) (by rw [List.getElem?_map, h]; rfl) (j := 0) (by decide)
 rw [Nat.one_mul, Nat.add_zero] at this
 rw [this]; rfl
set_option maxRecDepth 100000 in
set_option maxHeartbeats 8000000 in
theorem ladds_any (A : Option Addr) (xs : List Int) (c0 : Nat) (ai an am : Int) (W : World) (hI : IntsAt W A xs) (hxl : xs.length ≤ 9223372036854775807) (_ : -9223372036854775808 ≤ ai) (_ : ai < 9223372036854775808) (_ : -9223372036854775808 ≤ an) (_ : an < 9223372036854775808) (_ : -9223372036854775808 ≤ am) (_ : am < 9223372036854775808) :
    Calls Tryz.prog 6 #[.slice A xs.length c0, .int .i64 ai, .int .i64 an, .int .i64 am] W fun e w' => e = .returned (.bool true) ∧ Below W.heap.size W w' := by
 have HM := Mem.start W
 have HI := Lib.hid hI
 have zn := za_nest
 clear hI
 go_enter Tryz.func6, Tryz.ntmps6
 go_upto_region 2 with (first | (go_at_call 16; (with_reducible refine (snew_any _ _ _ _).mono ?_); rintro e9 w2 ⟨tb, rfl, HM1⟩; replace HM := HM.join HM1; clear HM1) | (first | ((with_reducible refine g_ld ?_); refine a_ld HM ?_) | ((with_reducible refine g_st ?_); refine a_st HM ?_; clear HM; intro w1 HM) | ((with_reducible refine g_al ?_); refine a_al HM ?_; clear HM; intro bk w1 HM)))
 replace HM : Mem W [] [(tb, #[Value.slice A xs.length c0, Value.int IntKind.i64 0])] w2 := HM
 have HC : Hid (TapeC W 0 #[.slice A xs.length c0, .int .i64 0]) := ⟨A, xs, c0, 0, rfl, by omega, by omega, HI.out, hxl⟩
 clear HI
 go_upto_region 3 with (first | (go_at_call 17; refine (snest_any 4 false tb 0 _ [] W _ HM HC (by omega) (by omega)).mono ?_; rintro e9 w2 ⟨n, bu, bh, U, H, rb, c1, rfl, hn, hUL, hRL, HMD, HC1, HM1⟩; replace HM := HM1; replace HC := HC1; clear HM1 HC1) | ((with_reducible refine g_st ?_); refine a_st (v := .agg #[_, _]) HM ?_ (hv := sa_nest _ _ rfl rfl); clear HM; intro w1 HM) | (first | ((with_reducible refine g_ld ?_); refine a_ld HM ?_) | ((with_reducible refine g_st ?_); refine a_st HM ?_; clear HM; intro w1 HM) | ((with_reducible refine g_al ?_); refine a_al HM ?_; clear HM; intro bk w1 HM)))
 obtain ⟨b10, rfl⟩ := HM.nm0
 have n0 := la_n0 (.slice (some ⟨bu, 0, none⟩) n n) (.slice (some ⟨bh, 0, none⟩) n n)
 have n2 := la_nest (.slice (some ⟨bu, 0, none⟩) n n) (.slice (some ⟨bh, 0, none⟩) n n)
 go_upto_region 4 with (first | (go_at_call 18; refine (holdings_any n tb _ c1 ((b10, #[.slice (some ⟨bu, 0, none⟩) n n, .slice (some ⟨bh, 0, none⟩) n n]) :: (bu, rowsOf (U.map ic)) :: (bh, rowsOf ((rv n rb).map vc)) :: (NR rb H ++ [])) W _ HM.pick HC (by omega) (by omega)).mono ?_; rintro e9 w2 ⟨sl, L, rfl, HL, hLL, HLA, HL3, HM1⟩; replace HM := HM1; clear HM1) | (first | ((with_reducible refine g_ld ?_); refine a_ld HM ?_) | ((with_reducible refine g_st ?_); refine a_st HM ?_; clear HM; intro w1 HM) | ((with_reducible refine g_al ?_); refine a_al HM ?_; clear HM; intro bk w1 HM)))
 subst hUL
 have hN : RdN w2 (.slice (some ⟨bu, 0, none⟩) U.length U.length) (.slice (some ⟨bh, 0, none⟩) U.length U.length) U H := rdN_own HM rfl HMD.out.good.sh.2 hRL HMD.out.lens (by simp) (by simp) (fun q hq => by simp [hq])
 have HN := Lib.hid hN
 have HBX : Hid (Rbk w2 b10 #[.slice (some ⟨bu, 0, none⟩) U.length U.length, .slice (some ⟨bh, 0, none⟩) U.length U.length]) := Lib.hid (HM.get (by ((repeat (first | exact Look.here | refine Look.there ?_)); done))).rbk
 have HB2 := Lib.hid HM.low
 clear hN HM hRL HC HL3
 have HM := Mem.start w2
 by_cases h0 : U.length = 0
 ·have h1 : ((U.length : Int) == 0) = true := by rw [h0]; rfl
  go_wp2_with (first | (go_at_call 7; ((with_reducible refine (awake36_any _).mono ?_); rintro e9 w2 ⟨rfl, hL⟩; replace HM := HM.call hL; clear hL)) | (first | ((with_reducible refine g_ld ?_); refine a_ld HM ?_) | ((with_reducible refine g_st ?_); refine a_st HM ?_; clear HM; intro w1 HM) | ((with_reducible refine g_al ?_); refine a_al HM ?_; clear HM; intro bk w1 HM)))
  go_ret
  exact ⟨rfl, below_seq HB2.out HM.low⟩
 have h1 : ((U.length : Int) == 0) = false := beq_eq_false_iff_ne.2 (by omega)
 obtain ⟨m, hm, HZ⟩ := Sc.md_nat ai (n := U.length) (by omega)
 have hm1 : (m : Int) < U.length := by omega
 obtain ⟨u, hu⟩ : ∃ u, U[m]? = some u := ⟨_, List.getElem?_eq_getElem hm⟩
 have HU := Lib.hid (Ns.gu_at hu)
 have hu0 := HMD.out.good.ok.u0 m hm
 have hu1 := HMD.out.small m hm
 rw [HU.out] at hu0 hu1
 obtain ⟨bU, offU, csU, e, HBU, ku⟩ := HN.out.u.at_ hu
 injection e with e
 injection e with e1 e2
 subst e1 e2
 rw [Nat.zero_add] at ku
 obtain ⟨z, hz⟩ : ∃ z, Hid (z = Sc.md an (u + 1)) := ⟨_, Lib.hid rfl⟩
 obtain ⟨hz0, hz1⟩ := Sc.md_in (v := an) (n := u + 1) (by omega)
 rw [← hz.out] at hz0 hz1
 obtain ⟨y, hy⟩ : ∃ y, Hid (y = Sc.md am (u - z + 1)) := ⟨_, Lib.hid rfl⟩
 obtain ⟨hy0, hy1⟩ := Sc.md_in (v := am) (n := u - z + 1) (by omega)
 rw [← hy.out] at hy0 hy1
 have hck : Lk.chk U H L = 0 := Lk.chk_ok HMD.out.good.good hLL HLA.out
 have hnc := Ns.not_circ HMD.out.good.ok.h0 (HMD.out.out rfl)
 have HG := Lib.hid HMD.out.good
 have HNC := Lib.hid hnc
 have HUG : Hid (u = Ns.gu U m) := Lib.hid HU.out.symm
 have hr1 : Hid (0 = Lk.lerr U H L m z) := Lib.hid (Lk.lerr_ok hck hm hz0 (by rw [HU.out]; omega) hnc).symm
 have hr2 : Hid (0 = Lk.lerr U H L m y) := Lib.hid (Lk.lerr_ok hck hm hy0 (by rw [HU.out]; omega) hnc).symm
 have hr3 : Hid (0 = Lk.lerr U H L m (z + y)) := Lib.hid (Lk.lerr_ok hck hm (by omega) (by rw [HU.out]; omega) hnc).symm
 have S1 := Lib.hid fun w' hB => look_any _ _ sl U H L m z w' (HN.out.below hB) (HL.out.below hB) 0 hr1
 have S2 := Lib.hid fun w' hB => look_any _ _ sl U H L m y w' (HN.out.below hB) (HL.out.below hB) 0 hr2
 have S3 := Lib.hid fun w' hB => look_any _ _ sl U H L m (z + y) w' (HN.out.below hB) (HL.out.below hB) 0 hr3
 rw [Lk.xps_ok hck hm hz0 (by rw [HU.out]; omega) hnc] at S1
 rw [Lk.xps_ok hck hm hy0 (by rw [HU.out]; omega) hnc] at S2
 rw [Lk.xps_ok hck hm (by omega) (by rw [HU.out]; omega) hnc] at S3
 obtain ⟨XA, hXA⟩ : ∃ X, Hid (X = Lk.exps U H L m z (Lk.names L)) := ⟨_, Lib.hid rfl⟩
 obtain ⟨XB, hXB⟩ : ∃ X, Hid (X = Lk.exps U H L m y (Lk.names L)) := ⟨_, Lib.hid rfl⟩
 obtain ⟨XC, hXC⟩ : ∃ X, Hid (X = Lk.exps U H L m (z + y) (Lk.names L)) := ⟨_, Lib.hid rfl⟩
 rw [← hXA.out] at S1
 rw [← hXB.out] at S2
 rw [← hXC.out] at S3
 have hLA : XA.length ≤ XC.length := by rw [hXA.out, hXC.out]; exact Lk.exps_le hz0 (by omega) _
 have hLB : XB.length ≤ XC.length := by rw [hXB.out, hXC.out]; exact Lk.exps_le hy0 (by omega) _
 have hLC : XC.length ≤ 512 := by
  rw [hXC.out]
  exact Nat.le_trans (Lk.exps_len U H L m (z + y) _) (Lk.names_len HLA.out (by have := HMD.out.good.sh.1; omega))
 have hL0 : ¬ 0 < z + y → XC.length = 0 := fun h => by
  have e : z + y = 0 := by omega
  rw [hXC.out, e, Lk.exps_nil]; rfl
 have HL0 := Lib.hid hL0
 have HFX : Hid (∀ s : List UInt8, Rt.Fit (Lk.ex U H L m z s) ∧ Rt.Fit (Lk.ex U H L m y s) ∧ Rt.Fit (Lk.ex U H L m (z + y) s)) := Lib.hid (fun s =>
  ⟨Lk.ex_fit HG.out hnc hLL HLA.out hm hz0 (by rw [HU.out]; omega) s, Lk.ex_fit HG.out hnc hLL HLA.out hm hy0 (by rw [HU.out]; omega) s, Lk.ex_fit HG.out hnc hLL HLA.out hm (by omega) (by rw [HU.out]; omega) s⟩)
 have HFA : Hid (∀ x ∈ XA, Rt.Fit x.q) := Lib.hid (fun x hx => by
  rw [hXA.out] at hx
  obtain ⟨s, _, _, rfl⟩ := Lk.exps_mem hx
  exact (HFX.out s).1)
 have HFB : Hid (∀ x ∈ XB, Rt.Fit x.q) := Lib.hid (fun x hx => by
  rw [hXB.out] at hx
  obtain ⟨s, _, _, rfl⟩ := Lk.exps_mem hx
  exact (HFX.out s).2.1)
 clear hr1 hr2 hr3 hck hu HU HMD HL HLA hLL hnc HG HNC HUG hL0
 go_upto_region 9 with (first | (go_at_call 19; (with_reducible refine (smod_any ai U.length m _ (by omega) (by omega) HZ).mono ?_); rintro e9 w9 ⟨rfl, rfl⟩) | (go_at_call 19; (with_reducible refine (smod_any an (u + 1) z _ (by omega) (by omega) hz).mono ?_); rintro e9 w9 ⟨rfl, rfl⟩) | (go_at_call 19; (with_reducible refine (smod_any am (u - z + 1) y _ (by omega) (by omega) hy).mono ?_); rintro e9 w9 ⟨rfl, rfl⟩) | (first | ((with_reducible refine g_ld ?_); refine a_ld HM ?_) | ((with_reducible refine g_st ?_); refine a_st HM ?_; clear HM; intro w1 HM) | ((with_reducible refine g_al ?_); refine a_al HM ?_; clear HM; intro bk w1 HM)))
 go_upto_region 10 with (first | (go_at_call 8; refine (S1.out _ HM.low).mono ?_; rintro e9 w3 ⟨s1, rfl, HX1, hL1⟩; replace HM := HM.call hL1; clear hL1) | (first | ((with_reducible refine g_ld ?_); refine a_ld HM ?_) | ((with_reducible refine g_st ?_); refine a_st HM ?_; clear HM; intro w1 HM) | ((with_reducible refine g_al ?_); refine a_al HM ?_; clear HM; intro bk w1 HM)))
 go_upto_region 11 with (first | (go_at_call 8; refine (S2.out _ HM.low).mono ?_; rintro e9 w4 ⟨s2, rfl, HX2, hL2⟩; replace HM := HM.call hL2) | (first | ((with_reducible refine g_ld ?_); refine a_ld HM ?_) | ((with_reducible refine g_st ?_); refine a_st HM ?_; clear HM; intro w1 HM) | ((with_reducible refine g_al ?_); refine a_al HM ?_; clear HM; intro bk w1 HM)))
 have HY1 : Hid (RdX w4 s1 XA) := Lib.hid (HX1.out.below hL2)
 clear HX1 hL2
 go_upto_region 12 with (first | (go_at_call 8; refine (S3.out _ HM.low).mono ?_; rintro e9 w5 ⟨s3, rfl, HX3, hL3⟩; replace HM := HM.call hL3) | (first | ((with_reducible refine g_ld ?_); refine a_ld HM ?_) | ((with_reducible refine g_st ?_); refine a_st HM ?_; clear HM; intro w1 HM) | ((with_reducible refine g_al ?_); refine a_al HM ?_; clear HM; intro bk w1 HM)))
 have HZ1 : Hid (RdX w5 s1 XA) := Lib.hid (HY1.out.below hL3)
 have HZ2 : Hid (RdX w5 s2 XB) := Lib.hid (HX2.out.below hL3)
 have HB5 := Lib.hid (below_seq HB2.out HM.low)
 clear HX2 HY1 hL3 HM HBX HBU S1 S2 S3 ku HN HB2 n0 n2
 have HM := Mem.start w5
 obtain ⟨A3, c3, rfl⟩ := HX3.out.form
 obtain ⟨A1, c1', rfl⟩ := HZ1.out.form
 obtain ⟨A2, c2', rfl⟩ := HZ2.out.form
 have zr := Ex.za
 have s0 := Ex.sa0 0
 have I0 := fun w => int_ex 0 0 (by decide) (by decide) (Lib.hid rfl) w
 have elx : elemB 64 29 1 24 = true := by kernel_rfl
 go_wp2_with (first | ((with_reducible refine g_ld ?_); refine a_ld HM ?_) | ((with_reducible refine g_st ?_); refine a_st HM ?_; clear HM; intro w1 HM) | ((with_reducible refine g_al ?_); refine a_al HM ?_; clear HM; intro bk w1 HM))
 go_loopw [18] (fun kv wr => ∃ k : Nat, kv = .int .i64 (k : Nat) ∧ k ≤ XC.length ∧ Mem w5 [] [] wr) (fun kv _ => XC.length - (intOf kv).toNat)
 case atStart => exact ⟨0, rfl, by omega, HM⟩
 case round =>
  clear HM
  obtain ⟨k, rfl, hk, HM⟩ := hrel
  by_cases hkt : k < XC.length
  ·have hkt1 : (k : Int) < XC.length := by omega
   obtain ⟨xc, hxc⟩ : ∃ x, XC[k]? = some x := ⟨_, List.getElem?_eq_getElem hkt⟩
   obtain ⟨b3, off3, cs3, rfl, HB3, -, kc0, kc1⟩ := HX3.out.at_ hxc
   obtain ⟨s, hs, hne, hxe⟩ : ∃ s, s ∈ Lk.names L ∧ Lk.ex U H L m (z + y) s ≠ 0 ∧ xc = ⟨Lk.bs s, Lk.ex U H L m (z + y) s⟩ := by
    have := List.mem_of_getElem? hxc
    rw [hXC.out] at this
    exact Lk.exps_mem this
   have hxl : xc.nm.toList = s := by rw [hxe]; exact Lk.bs_list s
   have hxq : xc.q = Lk.ex U H L m z s + Lk.ex U H L m y s := by rw [hxe, ← Lk.ex_add]
   have fxq : Rt.Fit xc.q := by rw [hxe]; exact (HFX.out s).2.2
   have HXL := Lib.hid hxl
   have HXQ := Lib.hid hxq
   have HES1 : Hid (∀ j, Lk.es s 0 (XA.take j) = 0 ∨ Lk.es s 0 (XA.take j) = Lk.ex U H L m z s) := Lib.hid (fun j => by
    rw [hXA.out]
    rcases Lk.es_exps_take (U := U) (Hs := H) (L := L) (i := m) (n := z) (Lk.names_nodup L) s 0 j with h | h
    ·exact .inl h
    ·exact .inr (by rw [h, Rat.zero_add]))
   have HE1 : Hid (Lk.es s 0 XA = Lk.ex U H L m z s) := Lib.hid (by rw [hXA.out, Lk.es_exps (Lk.names_nodup L) hs, Rat.zero_add])
   have HES2 : Hid (∀ j, Lk.es s (Lk.es s 0 XA) (XB.take j) = Lk.ex U H L m z s ∨ Lk.es s (Lk.es s 0 XA) (XB.take j) = xc.q) := Lib.hid (fun j => by
    rw [HE1.out, hXB.out, hxq]
    exact Lk.es_exps_take (Lk.names_nodup L) s _ j)
   have HE2 : Hid (Lk.es s (Lk.es s 0 XA) XB = xc.q) := Lib.hid (by rw [HE1.out, hXB.out, hxq, Lk.es_exps (Lk.names_nodup L) hs])
   clear hxc hs hne hxe hxl hxq
   go_upto_region 18 with (first | (go_at_call 20; ((with_reducible refine (I0 _).mono ?_); rintro e9 w2 ⟨rfl, hL⟩; replace HM := HM.call hL; clear hL)) | (first | ((with_reducible refine g_ld ?_); refine a_ld HM ?_) | ((with_reducible refine g_st ?_); refine a_st HM ?_; clear HM; intro w1 HM) | ((with_reducible refine g_al ?_); refine a_al HM ?_; clear HM; intro bk w1 HM)))
   obtain ⟨b19, rfl⟩ := HM.nm0
   go_wp2_with (first | ((with_reducible refine g_bs2 ?_); refine a_bs2 HM ?_; clear HM; intro bx w1 HM) | (first | ((with_reducible refine g_ld ?_); refine a_ld HM ?_) | ((with_reducible refine g_st ?_); refine a_st HM ?_; clear HM; intro w1 HM) | ((with_reducible refine g_al ?_); refine a_al HM ?_; clear HM; intro bk w1 HM)))
   obtain ⟨b105, rfl⟩ := HM.nm0
   go_loopw [107] (fun qv wr => ∃ (q : Nat) (S : Rat), qv = .int .i64 (q : Nat) ∧ q ≤ 2 ∧ Hid (S = if q = 0 then 0 else if q = 1 then Lk.es s 0 XA else Lk.es s (Lk.es s 0 XA) XB) ∧ Rt.Fit S ∧ Mem w5 [] [(b105, rowsOf [#[.slice A1 XA.length c1'], #[.slice A2 XB.length c2']]), (b19, Ex.A (.ok S))] wr) (fun qv _ => 2 - (intOf qv).toNat)
   case atStart => exact ⟨0, 0, rfl, by omega, Lib.hid rfl, lk_fit0, HM⟩
   case round =>
    clear HM
    obtain ⟨q, S0, rfl, hq, HS0, fS0, HM⟩ := hrel
    by_cases hqt : q < 2
    ·have hqt1 : (q : Int) < 2 := by omega
     obtain ⟨sx, X, hX, hsx, hRX, hXX⟩ := lk_pair HZ1.out HZ2.out hqt
     have HRX := Lib.hid hRX
     obtain ⟨Ax, cx, rfl⟩ := hRX.form
     have kx := la_xps hsx
     have hXL : X.length ≤ 512 := by rcases hXX with ⟨_, rfl⟩ | ⟨_, rfl⟩ <;> omega
     have HFS : Hid (∀ j, Rt.Fit (Lk.es s S0 (X.take j))) := Lib.hid (fun j => by
      rcases hXX with ⟨rfl, rfl⟩ | ⟨rfl, rfl⟩
      ·have e : S0 = 0 := HS0.out
       rw [e]
       rcases HES1.out j with h | h <;> rw [h]
       ·exact lk_fit0
       ·exact (HFX.out s).1
      ·have e : S0 = Lk.es s 0 XA := HS0.out
       rw [e]
       rcases HES2.out j with h | h <;> rw [h]
       ·exact (HFX.out s).1
       ·exact fxq)
     have HFQ : Hid (∀ x ∈ X, Rt.Fit x.q) := Lib.hid (by
      rcases hXX with ⟨rfl, rfl⟩ | ⟨rfl, rfl⟩
      ·exact HFA.out
      ·exact HFB.out)
     have HNEXT : Hid (Lk.es s S0 X = if q + 1 = 0 then 0 else if q + 1 = 1 then Lk.es s 0 XA else Lk.es s (Lk.es s 0 XA) XB) := Lib.hid (by
      rcases hXX with ⟨rfl, rfl⟩ | ⟨rfl, rfl⟩
      ·rw [HS0.out]; rfl
      ·rw [HS0.out]; rfl)
     clear hX hsx hRX hXX
     go_wp2_with (first | ((with_reducible refine g_ld ?_); refine a_ld HM ?_) | ((with_reducible refine g_st ?_); refine a_st HM ?_; clear HM; intro w1 HM) | ((with_reducible refine g_al ?_); refine a_al HM ?_; clear HM; intro bk w1 HM))
     go_loopw [22] (fun jv wr => ∃ (j : Nat) (S : Rat), jv = .int .i64 (j : Nat) ∧ j ≤ X.length ∧ Hid (S = Lk.es s S0 (X.take j)) ∧ Mem w5 [] [(b105, rowsOf [#[.slice A1 XA.length c1'], #[.slice A2 XB.length c2']]), (b19, Ex.A (.ok S))] wr) (fun jv _ => X.length - (intOf jv).toNat)
     case atStart => exact ⟨0, S0, rfl, by omega, Lib.hid rfl, HM⟩
     case round =>
      clear HM
      obtain ⟨j, S, rfl, hj, HS, HM⟩ := hrel
      by_cases hjt : j < X.length
      ·have hjt1 : (j : Int) < X.length := by omega
       obtain ⟨x, hx⟩ : ∃ x, X[j]? = some x := ⟨_, List.getElem?_eq_getElem hjt⟩
       obtain ⟨b4, off4, cs4, rfl, HB4, -, kx0, kx1⟩ := HRX.out.at_ hx
       have est := Lk.es_step (s := s) (a := S0) hx
       have fS : Rt.Fit S := by rw [HS.out]; exact HFS.out j
       go_upto_region 24 with (first | ((with_reducible refine g_ld ?_); refine a_ld HM ?_) | ((with_reducible refine g_st ?_); refine a_st HM ?_; clear HM; intro w1 HM) | ((with_reducible refine g_al ?_); refine a_al HM ?_; clear HM; intro bk w1 HM))
       cases hg : (x.nm.toList == xc.nm.toList) with
       | true =>
        obtain ⟨S2, hS2⟩ : ∃ S2, Hid (S2 = S + x.q) := ⟨_, Lib.hid rfl⟩
        have hS2e : S2 = Lk.es s S0 (X.take (j + 1)) := by rw [hS2.out, est, ← HXL.out, hg, if_pos rfl, HXL.out, HS.out]
        have fS2 : Rt.Fit S2 := by rw [hS2e]; exact HFS.out _
        have HS2E := Lib.hid hS2e
        have fxx : Rt.Fit x.q := HFQ.out x (List.mem_of_getElem? hx)
        have AD := fun w => add_ex (.ok S) (.ok x.q) fS fxx (.ok S2) (Lib.hid (Ex.add_eq hS2.out fS2)) w
        have k8 := Ex.laA S
        have s8 := Ex.saA S S2
        clear est hx hS2e
        refine start_M [] HM (by kernel_rfl) (fun w0x H9 => ?_)
        replace HM := H9; clear H9
        refine k_mv 0 (heldE HM) ?_
        refine k_mv 1 (heldE HM) ?_
        refine k_ia 2 (heldE HM) ?_
        refine k_fa 3 (heldE HM) ?_
        refine k_ld 4 [] (heldE HM) ?_
        refine k_mv 5 (heldE HM) ?_
        refine k_mv 6 (heldE HM) ?_
        refine k_ia 7 (heldE HM) ?_
        refine k_fa 8 (heldE HM) ?_
        refine k_ld 9 [] (heldE HM) ?_
        refine t_pure (i := 10) (v := .bool true) rfl rfl (by kernel_rfl) (fun _ _ _ h => h) (heldE HM) (by rfl) ?_ ?_; (focus ((intro w9; first | (go_simp; done) | (go_simp; rfl)))); ((try simp only [List.setIfInBounds_toArray]); (try simp only [List.set_cons_succ]); (try simp only [List.set_cons_zero]))
        refine wpAnyL_done (by kernel_rfl) ?_ _
        go_upto_region 25 with (first | ((with_reducible refine g_ld ?_); refine a_ld HM ?_) | ((with_reducible refine g_st ?_); refine a_st HM ?_; clear HM; intro w1 HM) | ((with_reducible refine g_al ?_); refine a_al HM ?_; clear HM; intro bk w1 HM))
        refine start_M [8] HM (by kernel_rfl) (fun w0x H9 => ?_)
        replace HM := H9; clear H9
        refine k_ld 0 [7, 8] (heldE HM) ?_
        refine k_mv 1 (heldE HM) ?_
        refine k_mv 2 (heldE HM) ?_
        refine k_ia 3 (heldE HM) ?_
        refine k_fa 4 (heldE HM) ?_
        refine k_ld 5 [6, 7, 8] (heldE HM) ?_
        refine j_one 6 fun K9 hK9 => ?_
        refine j_call1 (v := ?_) HM ?_ ?_; rotate_left 1; (focus (with_reducible (first | exact of_ex _ _ | exact AD _))); clear HM; intro w1 HM
        refine hK9 _ _ (heldE HM) ?_; clear hK9 K9
        refine j_one 7 fun K9 hK9 => ?_
        refine j_call2 (v := ?_) HM ?_ ?_; rotate_left 1; (focus (with_reducible (first | exact of_ex _ _ | exact AD _))); clear HM; intro w1 HM
        refine hK9 _ _ (heldE HM) ?_; clear hK9 K9
        refine j_one 8 fun K9 hK9 => ?_
        refine j_st HM ?_; clear HM; intro w1 HM
        refine hK9 _ _ heldN ?_; clear hK9 K9
        refine wpAnyL_done (by kernel_rfl) ?_ _
        go_wp2_with fail
        go_roundw
        case rel => exact ⟨j + 1, S2, by go_num, by omega, HS2E, HM.pick⟩
        case measure => simp [intOf]; omega
       | false =>
        have HS2E : Hid (S = Lk.es s S0 (X.take (j + 1))) := Lib.hid (by rw [est, ← HXL.out, hg, if_neg (by decide), HXL.out]; exact HS.out)
        clear est hx
        refine start_M [] HM (by kernel_rfl) (fun w0x H9 => ?_)
        replace HM := H9; clear H9
        refine k_mv 0 (heldE HM) ?_
        refine k_mv 1 (heldE HM) ?_
        refine k_ia 2 (heldE HM) ?_
        refine k_fa 3 (heldE HM) ?_
        refine k_ld 4 [] (heldE HM) ?_
        refine k_mv 5 (heldE HM) ?_
        refine k_mv 6 (heldE HM) ?_
        refine k_ia 7 (heldE HM) ?_
        refine k_fa 8 (heldE HM) ?_
        refine k_ld 9 [] (heldE HM) ?_
        refine t_pure (i := 10) (v := .bool false) rfl rfl (by kernel_rfl) (fun _ _ _ h => h) (heldE HM) (by rfl) ?_ ?_; (focus ((intro w9; first | (go_simp; done) | (go_simp; rfl)))); ((try simp only [List.setIfInBounds_toArray]); (try simp only [List.set_cons_succ]); (try simp only [List.set_cons_zero]))
        refine wpAnyL_done (by kernel_rfl) ?_ _
        go_wp2_with (first | ((with_reducible refine g_ld ?_); refine a_ld HM ?_) | ((with_reducible refine g_st ?_); refine a_st HM ?_; clear HM; intro w1 HM) | ((with_reducible refine g_al ?_); refine a_al HM ?_; clear HM; intro bk w1 HM))
        go_roundw
        case rel => exact ⟨j + 1, S, by go_num, by omega, HS2E, HM.pick⟩
        case measure => simp [intOf]; omega
      ·obtain rfl : j = X.length := by omega
       rw [List.take_length] at HS
       have HNX : Hid (S = if q + 1 = 0 then 0 else if q + 1 = 1 then Lk.es s 0 XA else Lk.es s (Lk.es s 0 XA) XB) := Lib.hid (HS.out.trans HNEXT.out)
       have fS : Rt.Fit S := by have := HFS.out X.length; rw [List.take_length, ← HS.out] at this; exact this
       go_wp2_with (first | ((with_reducible refine g_ld ?_); refine a_ld HM ?_) | ((with_reducible refine g_st ?_); refine a_st HM ?_; clear HM; intro w1 HM) | ((with_reducible refine g_al ?_); refine a_al HM ?_; clear HM; intro bk w1 HM))
       go_roundw
       case rel => exact ⟨q + 1, S, by go_num, by omega, HNX, fS, HM.pick⟩
       case measure => simp [intOf]; omega
    ·obtain rfl : q = 2 := by omega
     obtain rfl : S0 = xc.q := HS0.out.trans HE2.out
     have kE := Ex.lae xc.q
     have kV := Ex.lav xc.q
     go_upto_region 27 with (first | ((with_reducible refine g_ld ?_); refine a_ld HM ?_) | ((with_reducible refine g_st ?_); refine a_st HM ?_; clear HM; intro w1 HM) | ((with_reducible refine g_al ?_); refine a_al HM ?_; clear HM; intro bk w1 HM))
     refine start_M [] HM (by kernel_rfl) (fun w0x H9 => ?_)
     replace HM := H9; clear H9
     refine k_fa 0 (heldE HM) ?_
     refine k_ld 1 [] (heldE HM) ?_
     refine k_bin 2 (heldE HM) ?_
     refine k_mv 3 (heldE HM) ?_
     refine k_fa 4 (heldE HM) ?_
     refine k_ld 5 [] (heldE HM) ?_
     refine k_mv 6 (heldE HM) ?_
     refine k_mv 7 (heldE HM) ?_
     refine k_ia 8 (heldE HM) ?_
     refine k_fa 9 (heldE HM) ?_
     refine k_ld 10 [] (heldE HM) ?_
     refine t_eq (i := 11) (v := ?_) [] rfl rfl rfl (by kernel_rfl) (fun _ _ _ h => h) (heldE HM) ?_ ?_; rotate_left 1; (focus ((refine y_cmpq .neq (xc.q) (xc.q) false (.inr rfl) (by simp) (fxq) (fxq) (x := ?_) (y := ?_) (t := ?_) ?_ ?_ ?_ ?_; rotate_left 3; (focus rfl); (focus rfl); (focus ((conv => lhs; whnf) <;> rfl)); ((conv => lhs; whnf) <;> rfl)))); ((try simp only [List.setIfInBounds_toArray]); (try simp only [List.set_cons_succ]); (try simp only [List.set_cons_zero]))
     refine k_pick 12 (heldE HM) ?_
     refine wpAnyL_done (by kernel_rfl) ?_ _
     go_wp2_with (first | ((with_reducible refine g_ld ?_); refine a_ld HM ?_) | ((with_reducible refine g_st ?_); refine a_st HM ?_; clear HM; intro w1 HM) | ((with_reducible refine g_al ?_); refine a_al HM ?_; clear HM; intro bk w1 HM))
     go_roundw
     case rel => exact ⟨k + 1, by go_num, by omega, HM.pick⟩
     case measure => simp [intOf]; omega
  ·obtain rfl : k = XC.length := by omega
   have g1 : decide ((XA.length : Int) ≤ XC.length) = true := decide_eq_true (by omega)
   have g2 : decide ((XB.length : Int) ≤ XC.length) = true := decide_eq_true (by omega)
   by_cases hp : 0 < z + y
   ·have g3 : decide (0 < z + y) = true := decide_eq_true hp
    go_wp2_with (first | (go_at_call 7; ((with_reducible refine (awake36_any _).mono ?_); rintro e9 w2 ⟨rfl, hL⟩; replace HM := HM.call hL; clear hL)) | (first | ((with_reducible refine g_ld ?_); refine a_ld HM ?_) | ((with_reducible refine g_st ?_); refine a_st HM ?_; clear HM; intro w1 HM) | ((with_reducible refine g_al ?_); refine a_al HM ?_; clear HM; intro bk w1 HM)))
    go_ret
    exact ⟨rfl, below_seq HB5.out HM.low⟩
   ·have g3 : decide (0 < z + y) = false := decide_eq_false hp
    have g4 := HL0.out (by omega)
    have g6 : XA.length = 0 := by omega
    have g7 : XB.length = 0 := by omega
    clear hLA hLB hLC g1 g2
    go_wp2_with (first | (go_at_call 7; ((with_reducible refine (awake36_any _).mono ?_); rintro e9 w2 ⟨rfl, hL⟩; replace HM := HM.call hL; clear hL)) | (first | ((with_reducible refine g_ld ?_); refine a_ld HM ?_) | ((with_reducible refine g_st ?_); refine a_st HM ?_; clear HM; intro w1 HM) | ((with_reducible refine g_al ?_); refine a_al HM ?_; clear HM; intro bk w1 HM)))
    go_ret
    exact ⟨rfl, below_seq HB5.out HM.low⟩
end Go.Proofs.YtckhdiljihhdmaaGreat
