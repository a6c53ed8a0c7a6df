/- MaterialityOfMadePrices, walked. -/
import Derived.Test.YteamjgifohamgaaGreatMtP
namespace Go.Proofs.YteamjgifohamgaaGreat
set_option maxRecDepth 8000
open Go.RowKit
theorem Sc.lim {v z : Int} {lo hi : Rat} (h0 : 0 ≤ v) (h1 : v < 100) (h2 : 0 ≤ z) (h3 : z < 100) (hl : lo = Rat.divInt v 1000) (hh : hi = Rat.divInt (v + z) 1000) : 0 ≤ lo ∧ lo ≤ hi ∧ hi ≤ 1 := by
  rw [Rat.divInt_eq_div] at hl hh
  have a0 : (0 : Rat) ≤ (v : Rat) := Rat.intCast_nonneg.2 h0
  have a1 : (0 : Rat) ≤ (z : Rat) := Rat.intCast_nonneg.2 h2
  have a2 : (v : Rat) ≤ ((100 : Int) : Rat) := Rat.intCast_le_intCast.2 (by omega)
  have a3 : (z : Rat) ≤ ((100 : Int) : Rat) := Rat.intCast_le_intCast.2 (by omega)
  rw [Rat.intCast_add] at hh
  have e1 : ((100 : Int) : Rat) = 100 := rfl
  have e2 : ((1000 : Int) : Rat) = 1000 := rfl
  rw [e1] at a2 a3
  rw [e2] at hl hh
  subst hl hh
  refine ⟨by grind, by grind, by grind⟩
set_option maxHeartbeats 8000000 in
theorem mprices_any (A : Option Addr) (xs : List Int) (c0 : Nat) (q : Int) (W : World) (hI : IntsAt W A xs) (hxl : xs.length ≤ 9223372036854775807) (_ : -9223372036854775808 ≤ q) (_ : q < 9223372036854775808) :
    Calls Tryz.prog 3 #[.slice A xs.length c0, .int .i64 q] W fun e w' => e = .returned (.bool true) ∧ Below W.heap.size W w' := by
  have HM := Mem.start W
  have HI := Lib.hid hI
  have zr := za_rat
  have el := Mt.el
  clear hI
  have NW : ∀ w, Calls Tryz.prog 4 #[.slice A xs.length c0] w fun e w' => ∃ b, e = .returned (.pointer (some ⟨b, 0, none⟩)) ∧ Mem w [] [(b, #[.slice A xs.length c0, .int .i64 0])] w' := by
    intro w
    have HM := Mem.start w
    go_enter Tryz.func4, Tryz.ntmps4
    go_wp2_with (first | fail | (first | ((with_reducible refine g_ld ?_); refine a_ld HM ?_) | ((with_reducible refine g_st ?_); refine a_st HM ?_; clear HM; intro w1 HM) | ((with_reducible refine g_al ?_); refine a_al HM ?_; clear HM; intro bk w1 HM) | ((with_reducible refine g_bx ?_); refine a_bx HM ?_; clear HM; intro bk w1 HM) | ((with_reducible refine g_bld ?_); refine a_bld ?_)))
    go_ret
    exact ⟨_, rfl, HM⟩
  go_enter Tryz.func3, Tryz.ntmps3
  go_upto_region 3 with (first | (go_at_call 4; (with_reducible refine (NW _).mono ?_); rintro e9 w2 ⟨tb, rfl, HM1⟩; replace HM := HM.join HM1; clear HM1) | (first | ((with_reducible refine g_ld ?_); refine a_ld HM ?_) | ((with_reducible refine g_st ?_); refine a_st HM ?_; clear HM; intro w1 HM) | ((with_reducible refine g_al ?_); refine a_al HM ?_; clear HM; intro bk w1 HM) | ((with_reducible refine g_bx ?_); refine a_bx HM ?_; clear HM; intro bk w1 HM) | ((with_reducible refine g_bld ?_); refine a_bld ?_)))
  replace HM : Mem W [] [(tb, #[Value.slice A xs.length c0, Value.int IntKind.i64 0])] w2 := HM
  have HC : Hid (TapeC W 0 #[.slice A xs.length c0, .int .i64 0]) := ⟨A, xs, c0, 0, rfl, by omega, by omega, HI.out, hxl⟩
  have H0 : Hid (Below W.heap.size W W) := Below.refl _ _
  have hle : ∀ b ∈ ([] : List Nat), W.heap.size ≤ b := by simp
  clear HI NW
  go_wp2_with fail
  (refine (snext_any W tb _ _ _ (HM.tp (by ((repeat (first | exact Look.here | refine Look.there ?_)); done)) HC.out H0.out hle) (by omega) (by omega) (by omega)).mono ?_; rintro e9 w2 ⟨v, rfl, hv0, hv1, ⟨c1, hb1, hc1, -, -⟩, hg⟩; replace HM := HM.put (c' := c1) (by (repeat (first | exact At.here | apply At.there))) hb1 (Only.of_grown hg); clear hg hb1; replace HC := Lib.hid hc1; clear hc1)
  obtain ⟨v, rfl⟩ : ∃ k : Nat, v = k := ⟨v.toNat, by omega⟩
  go_wp2_with fail
  go_loopw [6, 7] (fun sv nv wr => ∃ (L : List Mt.D) (B : List (Nat × Array Value)) (k j : Nat) (c1 : Array Value), nv = .int .i64 (j : Nat) ∧ j + k ≤ 7 ∧ L.length ≤ k ∧ Hid (∀ d ∈ L, Mt.Good d) ∧ Hid (SlAt 135 sv (L.map Mt.c) B) ∧ Hid (TapeC W (1 + 10 * k) c1) ∧ Mem W [] ((tb, c1) :: B) wr) (fun _ nv _ => (intOf nv).toNat)
  case atStart => exact ⟨[], [], 0, v, c1, rfl, by omega, by simp, Lib.hid (by simp), Lib.hid .nil, HC, HM⟩
  case round =>
    clear HM HC c1
    obtain ⟨L, B, k, j, c1, rfl, hjk, hLk, HG, HS, HC, HM⟩ := hrel
    by_cases hj : j = 0
    · subst hj
      go_wp2_with fail
      (refine (snext_any W tb _ _ _ (HM.tp (by ((repeat (first | exact Look.here | refine Look.there ?_)); done)) HC.out H0.out hle) (by omega) (by omega) (by omega)).mono ?_; rintro e9 w2 ⟨u, rfl, hu0, hu1, ⟨c1, hb1, hc1, -, -⟩, hg⟩; replace HM := HM.put (c' := c1) (by (repeat (first | exact At.here | apply At.there))) hb1 (Only.of_grown hg); clear hg hb1; replace HC := Lib.hid hc1; clear hc1)
      obtain ⟨p, hp⟩ : ∃ p, Hid (p = Sc.md q 100) := ⟨_, Lib.hid rfl⟩
      obtain ⟨p0, p1⟩ := Sc.md_in (v := q) (n := 100) (by decide)
      rw [← hp.out] at p0 p1
      obtain ⟨lo, hlo⟩ : ∃ y, Hid (y = Rat.divInt u 1000) := ⟨_, Lib.hid rfl⟩
      obtain ⟨hi, hhi⟩ : ∃ y, Hid (y = Rat.divInt (u + p) 1000) := ⟨_, Lib.hid rfl⟩
      obtain ⟨ze, hze⟩ : ∃ q, Hid (q = Rat.divInt 0 1) := ⟨_, Lib.hid rfl⟩
      obtain ⟨l0, l1, l2⟩ := Sc.lim hu0 hu1 p0 p1 hlo.out hhi.out
      have z0 : ze = 0 := hze.out.trans Mt.i0
      have small : ∀ {n : Int}, 0 ≤ n → n < 1000 → Rt.Fit (Rat.divInt n 1000) := fun {n} h1 h2 => (Rt.Bd.divInt (i := 11) (j := 10) (by decide) (Bg.p2_small 11 2048 (by unfold Bg.p2; rfl) (by omega)) (Bg.p2_small 10 1024 (by unfold Bg.p2; rfl) (by omega))).fit
      have fl : Rt.Fit lo := by rw [hlo.out]; exact small hu0 (by omega)
      have fh : Rt.Fit hi := by rw [hhi.out]; exact small (by omega) (by omega)
      have fz : Rt.Fit ze := by rw [hze.out]; exact Mt.fit_i 0 (by decide) (by decide)
      have R1 := fun w => sratio_any u 1000 lo (by omega) (by omega) (by decide) (by decide) hlo w
      have R2 := fun w => sratio_any (u + p) 1000 hi (by omega) (by omega) (by decide) (by decide) hhi w
      have R3 := fun w => sratio_any 0 1 ze (by decide) (by decide) (by decide) (by decide) hze w
      have SM := fun w => (smod_any q 100 p w (by decide) (by decide) hp)
      have hL12 : L.length ≤ 12 := by omega
      obtain ⟨A6, cap6, rfl⟩ : ∃ A cap, u6 = .slice A L.length cap := by
        obtain ⟨A, cap, e, _⟩ := HS.out.val
        rw [List.length_map] at e
        exact ⟨A, cap, e⟩
      obtain ⟨KL, hKL⟩ : ∃ K, Hid (K = Mt.kept lo L) := ⟨_, Lib.hid rfl⟩
      obtain ⟨KH, hKH⟩ : ∃ K, Hid (K = Mt.kept hi L) := ⟨_, Lib.hid rfl⟩
      have hkl : KL.length ≤ 12 := by have := Mt.kept_le lo L; rw [hKL.out]; omega
      have hkh : KH.length ≤ 100 := by have := Mt.kept_le hi L; rw [hKH.out]; omega
      have e1 : Hid ((KL, (0 : Int)) = Mt.mat (some lo) L) := Lib.hid (by rw [Mt.mat_good HG.out l0 (Rat.le_trans l1 l2), hKL.out])
      have e2 : Hid ((KH, (0 : Int)) = Mt.mat (some hi) L) := Lib.hid (by rw [Mt.mat_good HG.out (Rat.le_trans l0 l1) l2, hKH.out])
      have e3 : Hid ((KH, (0 : Int)) = Mt.mat (some hi) KL) := Lib.hid (by rw [hKL.out, Mt.mat_good (Mt.good_kept HG.out) (Rat.le_trans l0 l1) l2, Mt.kept_kept l1 HG.out, hKH.out])
      have e4 : Hid ((L, (0 : Int)) = Mt.mat (some ze) L) := Lib.hid (by rw [z0, Mt.mat_good HG.out (by decide) (by decide), Mt.kept_zero HG.out])
      obtain ⟨v1, t1, e5, hf⟩ : ∃ v t e2, Hid ((v, t, e2) = Mt.fst3 KL 0) := ⟨_, _, _, Lib.hid rfl⟩
      have M1 := fun w h => material_any (.slice A6 L.length cap6) L (some lo) (Rt.qA lo) w ⟨fl, rfl⟩ h hL12 KL 0 e1
      have M2 := fun w h => rmaterial_any (.slice A6 L.length cap6) L (some lo) (Rt.qA lo) w ⟨fl, rfl⟩ h hL12 KL 0 e1
      have M3 := fun sv w h => material_any sv KL (some hi) (Rt.qA hi) w ⟨fh, rfl⟩ h hkl KH 0 e3
      have M4 := fun w h => material_any (.slice A6 L.length cap6) L (some hi) (Rt.qA hi) w ⟨fh, rfl⟩ h hL12 KH 0 e2
      have M5 := fun w h => material_any (.slice A6 L.length cap6) L (some ze) (Rt.qA ze) w ⟨fz, rfl⟩ h hL12 L 0 e4
      have F1 := fun w h => first_any (.slice A6 L.length cap6) L (some lo) (Rt.qA lo) w ⟨fl, rfl⟩ h hL12 KL 0 e1 v1 t1 e5 hf
      have F2 := fun w h => rfirst_any (.slice A6 L.length cap6) L (some lo) (Rt.qA lo) w ⟨fl, rfl⟩ h hL12 KL 0 e1 v1 t1 e5 hf
      have s1 := sa_q lo (rZ_size 0 0)
      have s2 := sa_q hi (rZ_size 0 0)
      have k1 := la_q lo
      have k2 := la_q hi
      clear hlo hhi hze l0 l1 l2 z0 small hKL hKH e1 e2 e3 e4 hf HG
      go_upto_region 12 with (first | first | (go_at_call 11; ((with_reducible refine (R1 _).mono ?_); rintro e9 w2 ⟨rfl, hL⟩; replace HM := HM.call hL; clear hL)) | (go_at_call 11; ((with_reducible refine (R2 _).mono ?_); rintro e9 w2 ⟨rfl, hL⟩; replace HM := HM.call hL; clear hL)) | (go_at_call 12; ((with_reducible refine (SM _).mono ?_); rintro e9 w2 ⟨rfl, rfl⟩)) | (first | ((with_reducible refine g_ld ?_); refine a_ld HM ?_) | ((with_reducible refine g_st ?_); refine a_st HM ?_; clear HM; intro w1 HM) | ((with_reducible refine g_al ?_); refine a_al HM ?_; clear HM; intro bk w1 HM) | ((with_reducible refine g_bx ?_); refine a_bx HM ?_; clear HM; intro bk w1 HM) | ((with_reducible refine g_bld ?_); refine a_bld ?_)))
      obtain ⟨bh, rfl⟩ := HM.nm0
      obtain ⟨bl, rfl⟩ := HM.nm1
      go_upto_region 13 with (first | (go_at_call 13; (with_reducible refine (M1 _ (HS.out.rd HM (fun p hp => by simp [hp]))).mono ?_); rintro e9 w2 ⟨g1, B1, rfl, HS1, HM1⟩; replace HM : Mem W [] (_ :: _ :: _ :: (B ++ B1)) w2 := (HM.join HM1).swapA; clear HM1) | (first | ((with_reducible refine g_ld ?_); refine a_ld HM ?_) | ((with_reducible refine g_st ?_); refine a_st HM ?_; clear HM; intro w1 HM) | ((with_reducible refine g_al ?_); refine a_al HM ?_; clear HM; intro bk w1 HM) | ((with_reducible refine g_bx ?_); refine a_bx HM ?_; clear HM; intro bk w1 HM) | ((with_reducible refine g_bld ?_); refine a_bld ?_)))
      go_upto_region 14 with (first | (go_at_call 14; (with_reducible refine (M2 _ (HS.out.rd HM (fun p hp => by simp [hp]))).mono ?_); rintro e9 w2 ⟨g2, B2, rfl, HS2, HM1⟩; replace HM : Mem W [] (_ :: _ :: _ :: ((B ++ B1) ++ B2)) w2 := (HM.join HM1).swapA; clear HM1) | (first | ((with_reducible refine g_ld ?_); refine a_ld HM ?_) | ((with_reducible refine g_st ?_); refine a_st HM ?_; clear HM; intro w1 HM) | ((with_reducible refine g_al ?_); refine a_al HM ?_; clear HM; intro bk w1 HM) | ((with_reducible refine g_bx ?_); refine a_bx HM ?_; clear HM; intro bk w1 HM) | ((with_reducible refine g_bld ?_); refine a_bld ?_)))
      go_upto_region 15 with (first | (go_at_call 13; (with_reducible refine (M3 _ _ (HS1.out.rd HM (fun p hp => by simp [hp]))).mono ?_); rintro e9 w2 ⟨g3, B3, rfl, HS3, HM1⟩; replace HM : Mem W [] (_ :: _ :: _ :: (((B ++ B1) ++ B2) ++ B3)) w2 := (HM.join HM1).swapA; clear HM1) | (first | ((with_reducible refine g_ld ?_); refine a_ld HM ?_) | ((with_reducible refine g_st ?_); refine a_st HM ?_; clear HM; intro w1 HM) | ((with_reducible refine g_al ?_); refine a_al HM ?_; clear HM; intro bk w1 HM) | ((with_reducible refine g_bx ?_); refine a_bx HM ?_; clear HM; intro bk w1 HM) | ((with_reducible refine g_bld ?_); refine a_bld ?_)))
      go_upto_region 16 with (first | (go_at_call 13; (with_reducible refine (M4 _ (HS.out.rd HM (fun p hp => by simp [hp]))).mono ?_); rintro e9 w2 ⟨g4, B4, rfl, HS4, HM1⟩; replace HM : Mem W [] (_ :: _ :: _ :: ((((B ++ B1) ++ B2) ++ B3) ++ B4)) w2 := (HM.join HM1).swapA; clear HM1) | (first | ((with_reducible refine g_ld ?_); refine a_ld HM ?_) | ((with_reducible refine g_st ?_); refine a_st HM ?_; clear HM; intro w1 HM) | ((with_reducible refine g_al ?_); refine a_al HM ?_; clear HM; intro bk w1 HM) | ((with_reducible refine g_bx ?_); refine a_bx HM ?_; clear HM; intro bk w1 HM) | ((with_reducible refine g_bld ?_); refine a_bld ?_)))
      go_upto_region 17 with (first | first | (go_at_call 11; ((with_reducible refine (R3 _).mono ?_); rintro e9 w2 ⟨rfl, hL⟩; replace HM := HM.call hL; clear hL)) | (go_at_call 13; (with_reducible refine (M5 _ (HS.out.rd HM (fun p hp => by simp [hp]))).mono ?_); rintro e9 w2 ⟨g5, B5, rfl, HS5, HM1⟩; replace HM : Mem W [] (_ :: _ :: _ :: (((((B ++ B1) ++ B2) ++ B3) ++ B4) ++ B5)) w2 := (HM.join HM1).swapA; clear HM1) | (first | ((with_reducible refine g_ld ?_); refine a_ld HM ?_) | ((with_reducible refine g_st ?_); refine a_st HM ?_; clear HM; intro w1 HM) | ((with_reducible refine g_al ?_); refine a_al HM ?_; clear HM; intro bk w1 HM) | ((with_reducible refine g_bx ?_); refine a_bx HM ?_; clear HM; intro bk w1 HM) | ((with_reducible refine g_bld ?_); refine a_bld ?_)))
      clear R1 R2 R3 SM M1 M2 M3 M4 M5
      go_wp2_with (first | first
        | (go_at_call 15; ((with_reducible refine (F1 _ (HS.out.rd HM (fun p hp => by simp [hp]))).mono ?_); rintro e9 w2 ⟨rfl, hL⟩; replace HM := HM.call hL; clear hL))
        | (go_at_call 16; ((with_reducible refine (F2 _ (HS.out.rd HM (fun p hp => by simp [hp]))).mono ?_); rintro e9 w2 ⟨rfl, hL⟩; replace HM := HM.call hL; clear hL))
        | (go_at_call 17; ((with_reducible refine (dsame_any _ _ KL _ (HS1.out.rd HM (fun p hp => by simp [hp])) (HS2.out.rd HM (fun p hp => by simp [hp])) (by omega)).mono ?_); rintro e9 w2 ⟨rfl, hL⟩; replace HM := HM.call hL; clear hL))
        | (go_at_call 17; ((with_reducible refine (dsame_any _ _ KH _ (HS3.out.rd HM (fun p hp => by simp [hp])) (HS4.out.rd HM (fun p hp => by simp [hp])) hkh).mono ?_); rintro e9 w2 ⟨rfl, hL⟩; replace HM := HM.call hL; clear hL))
        | (go_at_call 17; ((with_reducible refine (dsame_any _ _ L _ (HS5.out.rd HM (fun p hp => by simp [hp])) (HS.out.rd HM (fun p hp => by simp [hp])) (by omega)).mono ?_); rintro e9 w2 ⟨rfl, hL⟩; replace HM := HM.call hL; clear hL))
        | (go_at_call 18; ((with_reducible refine (mawake_any _).mono ?_); rintro e9 w2 ⟨rfl, hL⟩; replace HM := HM.call hL; clear hL)) | (first | ((with_reducible refine g_ld ?_); refine a_ld HM ?_) | ((with_reducible refine g_st ?_); refine a_st HM ?_; clear HM; intro w1 HM) | ((with_reducible refine g_al ?_); refine a_al HM ?_; clear HM; intro bk w1 HM) | ((with_reducible refine g_bx ?_); refine a_bx HM ?_; clear HM; intro bk w1 HM) | ((with_reducible refine g_bld ?_); refine a_bld ?_)))
      go_ret
      exact ⟨rfl, HM.low⟩
    · have hj1 : (0 : Int) < j := by omega
      go_wp2_with (first | fail | (first | ((with_reducible refine g_ld ?_); refine a_ld HM ?_) | ((with_reducible refine g_st ?_); refine a_st HM ?_; clear HM; intro w1 HM) | ((with_reducible refine g_al ?_); refine a_al HM ?_; clear HM; intro bk w1 HM) | ((with_reducible refine g_bx ?_); refine a_bx HM ?_; clear HM; intro bk w1 HM) | ((with_reducible refine g_bld ?_); refine a_bld ?_)))
      (refine (sprice_any W tb _ _ (HM.tp (by ((repeat (first | exact Look.here | refine Look.there ?_)); done)) HC.out H0.out hle) (by omega)).mono ?_; rintro e9 w2 ⟨x, rfl, hx, ⟨c1, hb1, hc1, -, -⟩, hg⟩; replace HM := HM.put (c' := c1) (by (repeat (first | exact At.here | apply At.there))) hb1 (Only.of_grown hg); clear hg hb1; replace HC := Lib.hid hc1; clear hc1)
      have sx := sa_q x (rZ_size 0 0)
      have kx := la_q x
      go_wp2_with (first | (go_at_call 8; ((with_reducible refine (of_ex x _).mono ?_); rintro e9 w2 ⟨rfl, hL⟩; replace HM := HM.call hL; clear hL)) | (first | ((with_reducible refine g_ld ?_); refine a_ld HM ?_) | ((with_reducible refine g_st ?_); refine a_st HM ?_; clear HM; intro w1 HM) | ((with_reducible refine g_al ?_); refine a_al HM ?_; clear HM; intro bk w1 HM) | ((with_reducible refine g_bx ?_); refine a_bx HM ?_; clear HM; intro bk w1 HM) | ((with_reducible refine g_bld ?_); refine a_bld ?_)))
      (refine (snext_any W tb _ _ _ (HM.tp (by ((repeat (first | exact Look.here | refine Look.there ?_)); done)) HC.out H0.out hle) (by omega) (by omega) (by omega)).mono ?_; rintro e9 w2 ⟨u, rfl, hu0, hu1, ⟨c1, hb1, hc1, -, -⟩, hg⟩; replace HM := HM.put (c' := c1) (by (repeat (first | exact At.here | apply At.there))) hb1 (Only.of_grown hg); clear hg hb1; replace HC := Lib.hid hc1; clear hc1)
      obtain ⟨y, hy⟩ : ∃ y, Hid (y = Rat.divInt (900 + u) 1000) := ⟨_, Lib.hid rfl⟩
      have by_ : Rt.Bd y 11 10 := by rw [hy.out]; exact Sc.k_bd (by omega) (by omega)
      have hy0 : 0 < y := by rw [hy.out]; exact Sc.divInt_pos (by omega) (by omega)
      have bx := hx.bd
      have fx := bx.fit
      have fy := by_.fit
      obtain ⟨z, hz⟩ : ∃ z, Hid (z = x * y) := ⟨_, Lib.hid rfl⟩
      have fz : Rt.Fit z := by rw [hz.out]; exact (bx.mul by_).fit
      have hm : Ex.ok z = Ex.mul (.ok x) (.ok y) := by
        show _ = Ex.mk (x * y)
        rw [← hz.out, Ex.mk_ok fz]
      have M := fun w => mul_ex (.ok x) (.ok y) fx fy (.ok z) (Lib.hid hm) w
      have F := Ex.fv (qA_size z) 0
      have O := fun w => over_ex (900 + u) 1000 y (by omega) (by omega) (by decide) (by decide) (by decide) hy w
      have sz := sa_q z (rZ_size 0 0)
      have kz := la_q z
      clear hm
      go_upto_region 8 with (first | first | (go_at_call 9; ((with_reducible refine (O _).mono ?_); rintro e9 w2 ⟨rfl, hL⟩; replace HM := HM.call hL; clear hL)) | (go_at_call 7; ((with_reducible refine (M _).mono ?_); rintro e9 w2 ⟨rfl, hL⟩; replace HM := HM.call hL; clear hL)) | ((with_reducible refine g_fld ?_); refine a_fld ?_ F) | (first | ((with_reducible refine g_ld ?_); refine a_ld HM ?_) | ((with_reducible refine g_st ?_); refine a_st HM ?_; clear HM; intro w1 HM) | ((with_reducible refine g_al ?_); refine a_al HM ?_; clear HM; intro bk w1 HM) | ((with_reducible refine g_bx ?_); refine a_bx HM ?_; clear HM; intro bk w1 HM) | ((with_reducible refine g_bld ?_); refine a_bld ?_)))
      obtain ⟨b9, rfl⟩ := HM.nm0
      obtain ⟨b8, rfl⟩ := HM.nm1
      clear M F O
      by_cases he : z = x
      · go_wp2_with (first | ((with_reducible refine g_bin ?_); refine a_cmpq .neq (z) (x) false (.inr rfl) (by simp [he]) (fz) (fx) ?_) | (first | ((with_reducible refine g_ld ?_); refine a_ld HM ?_) | ((with_reducible refine g_st ?_); refine a_st HM ?_; clear HM; intro w1 HM) | ((with_reducible refine g_al ?_); refine a_al HM ?_; clear HM; intro bk w1 HM) | ((with_reducible refine g_bx ?_); refine a_bx HM ?_; clear HM; intro bk w1 HM) | ((with_reducible refine g_bld ?_); refine a_bld ?_)))
        go_roundw
        case rel => exact ⟨L, B, k + 1, j - 1, _, by go_num, by omega, by omega, HG, HS, Lib.hid (HC.out.mono (by omega)), HM.pick⟩
        case measure => simp [intOf]; omega
      · go_upto_region 9 with (first | ((with_reducible refine g_bin ?_); refine a_cmpq .neq (z) (x) true (.inr rfl) (by simp [he]) (fz) (fx) ?_) | (first | ((with_reducible refine g_ld ?_); refine a_ld HM ?_) | ((with_reducible refine g_st ?_); refine a_st HM ?_; clear HM; intro w1 HM) | ((with_reducible refine g_al ?_); refine a_al HM ?_; clear HM; intro bk w1 HM) | ((with_reducible refine g_bx ?_); refine a_bx HM ?_; clear HM; intro bk w1 HM) | ((with_reducible refine g_bld ?_); refine a_bld ?_)))
        have hGd : ∀ d : Mt.D, d.ow = some x → d.oi = some z → Mt.Good d := fun d h1 h2 => Mt.good_of hx by_ hy0 (fun e => he (hz.out.trans e.symm)) h1 (by rw [h2, hz.out])
        have HGD := Lib.hid hGd
        have hcap : ∀ d : Mt.D, ((L.map Mt.c).length + [Mt.c d].length) * (568 + 1) ≤ 140737488355328 := fun d => by rw [List.length_map]; simp; omega
        have HCAP := Lib.hid hcap
        clear hGd hcap
        refine start_M2 [] HM ((Sub.keep (Sub.keep Sub.nil))) (by kernel_rfl) (fun w0x H9 => ?_)
        replace HM := H9; clear H9
        refine k_mv 0 (heldE HM) ?_
        refine k_mv 1 (heldE HM) ?_
        refine k_mv 3 (heldE HM) ?_
        refine k_ld 5 [] (heldE HM) ?_
        refine k_ld 6 [] (heldE HM) ?_
        refine j_one 2 fun K9 hK9 => ?_
        refine o_callg (snext_any W tb _ 60 _ (HM.tp (by ((repeat (first | exact Look.here | refine Look.there ?_)); done)) HC.out H0.out hle) (by omega) (by omega) (by omega)) rfl ?_ ?_; (focus (refine h_call2 (ts := ?_) (x1 := ?_) (x2 := ?_) ?_ (by kernel_rfl) ?_ ?_; rotate_left 3; (focus rfl); (focus rfl); rfl)); rintro e9 w1 ⟨v1, rfl, hv2, hv3, ⟨c1, hb1, hc1, -, -⟩, hg9⟩; replace HM := HM.put (c' := c1) (by (repeat (first | exact At.here | apply At.there))) hb1 (Only.of_grown hg9); clear hg9 hb1; replace HC := Lib.hid hc1; clear hc1; refine ⟨_, rfl, ?_⟩
        refine hK9 _ _ (heldE HM) ?_; clear hK9 K9; ((try simp only [List.setIfInBounds_toArray]); (try simp only [List.set_cons_succ]); (try simp only [List.set_cons_zero]))
        refine j_one 4 fun K9 hK9 => ?_
        refine o_callg (sname_any W tb _ _ (HM.tp (by ((repeat (first | exact Look.here | refine Look.there ?_)); done)) HC.out H0.out hle) (by omega)) rfl ?_ ?_; (focus (refine h_call1 (ts := ?_) (x1 := ?_) ?_ (by kernel_rfl) ?_; rotate_left 2; (focus rfl); rfl)); rintro e9 w1 ⟨s, rfl, hs5, ⟨c1, hb1, hc1, -, -⟩, hg9⟩; replace HM := HM.put (c' := c1) (by (repeat (first | exact At.here | apply At.there))) hb1 (Only.of_grown hg9); clear hg9 hb1; replace HC := Lib.hid hc1; clear hc1; (obtain ⟨d, hd⟩ : ∃ d, Hid (d = Mt.mk v1 Mt.alpha s x z fx fz) := ⟨_, Lib.hid rfl⟩); (have hBd : ∀ w, (Instr.build 42 #[(0, .int .i64 v1), (1, .string { data := #[97, 108, 112, 104, 97] }), (2, .string s), (3, .agg (Rt.qA x)), (4, .agg (Rt.qA z))]).run Tryz.prog w = .ok (.agg (Mt.c d)) w := fun w => by rw [hd.out]; exact Mt.build (Mt.mk v1 Mt.alpha s x z fx fz) w); (have hsd := Mt.c_size d); refine ⟨_, rfl, ?_⟩
        refine hK9 _ _ (heldE HM) ?_; clear hK9 K9; ((try simp only [List.setIfInBounds_toArray]); (try simp only [List.set_cons_succ]); (try simp only [List.set_cons_zero]))
        refine t_pure (i := 7) (v := (.agg (Mt.c d))) rfl rfl (by kernel_rfl) (fun _ _ _ h => h) (heldE HM) (by rfl) ?_ ?_; (focus (exact h_bl5 rfl (by (conv => lhs; whnf) <;> rfl) (by (conv => lhs; whnf) <;> rfl) (by (conv => lhs; whnf) <;> rfl) (by (conv => lhs; whnf) <;> rfl) (by (conv => lhs; whnf) <;> rfl) hBd)); ((try simp only [List.setIfInBounds_toArray]); (try simp only [List.set_cons_succ]); (try simp only [List.set_cons_zero]))
        refine j_one 8 fun K9 hK9 => ?_
        refine j_bs1 (c0 := Mt.c d) HM ?_; clear HM; intro b7 w1 HM
        refine hK9 _ _ (heldE HM) ?_; clear hK9 K9; ((try simp only [List.setIfInBounds_toArray]); (try simp only [List.set_cons_succ]); (try simp only [List.set_cons_zero]))
        refine j_one 9 fun K9 hK9 => ?_
        refine j_app (m := [Mt.c d]) (F := fun L9 => (b9, Rt.qA z) :: (b8, Rt.qA x) :: (tb, c1) :: L9) HM HS.out ((SlAt.made1 b7 hsd).rd HM (by simp)) ?_ (Mt.c_ones [d]) (hlen := HCAP.out d); clear HM; intro s9 B9 w1 HS9 HM
        refine hK9 _ _ (heldE HM) ?_; clear hK9 K9; ((try simp only [List.setIfInBounds_toArray]); (try simp only [List.set_cons_succ]); (try simp only [List.set_cons_zero]))
        refine k_mv 10 (heldE HM) ?_
        refine wpAnyL_done (by kernel_rfl) ?_ _
        go_wp2_with fail
        go_roundw
        case rel => exact ⟨L ++ [d], B9, k + 1, j - 1, _, by go_num, by omega, by simp; omega, Lib.hid (by
            intro y hy
            rcases List.mem_append.1 hy with hy | hy
            · exact HG.out y hy
            · rw [List.mem_singleton.1 hy]; exact HGD.out d (by rw [hd.out]; rfl) (by rw [hd.out]; rfl)), Lib.hid (by rw [List.map_append]; exact HS9), Lib.hid (HC.out.mono (by omega)), HM.pick⟩
        case measure => simp [intOf]; omega
end Go.Proofs.YteamjgifohamgaaGreat
