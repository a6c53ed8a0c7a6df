/- Comparing, adding and subtracting magnitudes: bigint's compare, plus, minus. -/
import Derived.Test.YtbkbfgedlfbbiaaBigC
import Derived.Test.YtbkbfgedlfbbiaaBits
import Derived.Deep.RegionWith
namespace Go.Proofs.Ytbkbfgedlfbbiaa
open Go.RowKit
theorem beq_zero (q : Nat) : ((q : Int) == 0) = decide (q = 0) := by
  by_cases h : q = 0 <;> simp [h]
theorem drew_two (w : World) (n m : Nat) : (w.drewN n).drewN m = w.drewN (n + m) := by simp [World.drewN, Nat.add_assoc]
set_option maxRecDepth 20000 in
set_option maxHeartbeats 1000000 in
theorem compare_any (ba bb a b : Nat) (ha : a < Bg.lim) (hb : b < Bg.lim) (w : World) (hA : Blk w ba (Bg.row 32 a)) (hB : Blk w bb (Bg.row 32 b)) :
    Calls Try.prog 59 #[.pointer (some ⟨ba, 0, none⟩), .pointer (some ⟨bb, 0, none⟩)] w fun e w' => e = .returned (.int .i64 (Bg.cmp a b)) ∧ ∃ n, w' = w.drewN n := by
  have HA := Lib.hid hA
  have HB := Lib.hid hB
  clear hA hB
  go_enter Try.func59, Try.ntmps59
  go_wp2_with fail
  go_loopw [5] (fun i wr => ∃ k : Nat, k ≤ 32 ∧ i = .int .i64 (k - 1) ∧ Hid (a / Bg.pw k = b / Bg.pw k) ∧ ∃ n, wr = w.drewN n) (fun i _ => (intOf i + 1).toNat)
  case atStart => exact ⟨32, by omega, rfl, Lib.hid (by rw [Nat.div_eq_of_lt (show a < Bg.pw 32 from ha), Nat.div_eq_of_lt (show b < Bg.pw 32 from hb)]), 0, rfl⟩
  case round =>
    obtain ⟨k, hk, rfl, HE, n, rfl⟩ := hrel
    cases k with
    | zero =>
      go_wp2_with fail
      go_ret
      refine ⟨?_, n, rfl⟩
      rw [Bg.cmp_same HE.out]
      rfl
    | succ k =>
      have e1 : ((k + 1 : Nat) : Int) - 1 = (k : Int) := by omega
      rw [e1]
      have hca := HA.out.limb (i := k) (by omega)
      have hcb := HB.out.limb (i := k) (by omega)
      have hk0 : (0 : Int) ≤ (k : Int) := by omega
      have hk1 : (k : Int) < 32 := by omega
      have hk2 : k < 32 := by omega
      rcases Nat.lt_trichotomy (Bg.limb a k) (Bg.limb b k) with hl | hl | hl
      · have HR := Lib.hid (Bg.cmp_lt HE.out hl)
        go_wp2_with fail
        go_quiet (fail)
        go_wp2_with fail
        go_ret
        refine ⟨?_, _, drew_two _ _ _⟩
        rw [HR.out]
        rfl
      · have HR := Lib.hid (Bg.cmp_eq HE.out hl)
        rw [hl] at hca
        clear hl
        go_wp2_with fail
        go_quiet (fail)
        go_wp2_with fail
        go_quiet (fail)
        go_wp2_with fail
        go_roundw
        case rel => exact ⟨k, by omega, rfl, HR, _, rfl⟩
        case measure => simp [intOf]
      · have HR := Lib.hid (Bg.cmp_gt HE.out hl)
        have hn : ¬ Bg.limb a k < Bg.limb b k := by omega
        go_wp2_with fail
        go_quiet (fail)
        go_wp2_with fail
        go_quiet (fail)
        go_wp2_with fail
        go_ret
        refine ⟨?_, ?hw⟩
        case hw => exact ⟨_, by rw [drew_two, drew_two]⟩
        rw [HR.out]
        rfl
set_option maxRecDepth 20000 in
set_option maxHeartbeats 1000000 in
theorem plus_any (ba bb a b : Nat) (ha : a < Bg.lim) (hb : b < Bg.lim) (w : World) (hA : Blk w ba (Bg.row 32 a)) (hB : Blk w bb (Bg.row 32 b)) :
    Calls Try.prog 56 #[.pointer (some ⟨ba, 0, none⟩), .pointer (some ⟨bb, 0, none⟩)] w fun e w' => e = .returned (.tuple #[Bg.magV ((a + b) % Bg.lim), .bool (decide (a + b < Bg.lim))]) ∧ Below w.heap.size w w' := by
  have hz := Bg.zero32
  have ha1 := hA.lt
  have hb1 := hB.lt
  have HA := Lib.hid hA
  have HB := Lib.hid hB
  obtain ⟨w1, hw1⟩ : ∃ w1, w1 = (w.alloc (.cells (Bg.row 32 0) 57)).alloc (.cells (Bg.row 32 0) 57) := ⟨_, rfl⟩
  have HR := Lib.hid ((Blk.new w (Bg.row 32 0) 57).alloc (.cells (Bg.row 32 0) 57))
  have HC := Lib.hid (Blk.new (w.alloc (.cells (Bg.row 32 0) 57)) (Bg.row 32 0) 57)
  have HL := Lib.hid ((below_new w (.cells (Bg.row 32 0) 57)).alloc (by simp) (.cells (Bg.row 32 0) 57))
  rw [alloc_size] at HC
  rw [← hw1] at HR HC HL
  clear hA hB
  go_enter Try.func56, Try.ntmps56
  go_wp2_with fail
  rw [← hw1]
  clear hw1
  go_loopw [7, 9] (fun c i wr => ∃ (k q s : Nat), k ≤ 32 ∧ i = .int .i64 k ∧ c = .int .u32 q ∧ Hid (Bg.AddSt a b k s q) ∧ Hid (Blk wr (w.heap.size + 1) (Bg.row 32 s)) ∧ Hid (Blk wr w.heap.size (Bg.row 32 0)) ∧ Hid (Below w.heap.size w wr)) (fun _ i _ => 32 - (intOf i).toNat)
  case atStart => exact ⟨0, 0, 0, by omega, rfl, rfl, Lib.hid (Bg.AddSt.zero a b), HC, HR, HL⟩
  case round =>
    obtain ⟨k, q, s, hk, rfl, rfl, HS, HC, HR, HL⟩ := hrel
    by_cases hlt : k < 32
    · have hca := (HA.out.below HL.out ha1).limb hlt
      have hcb := (HB.out.below HL.out hb1).limb hlt
      have hcc := HC.out.limb hlt
      have hf := HC.out.free k
      have hq := HS.out.le
      have HX := Lib.hid (add32_any (Bg.limb a k) (Bg.limb b k) q (Bg.limb_lt _ _) (Bg.limb_lt _ _) hq)
      go_wp2_with fail
      go_region_with (go_at_call 71; refine (HX.out _).mono ?_; rintro e w' ⟨rfl, rfl⟩)
      all_goals
        go_wp2_with fail
        go_roundw
        case rel => exact ⟨k + 1, _, _, by omega, by go_num, rfl, Lib.hid HS.out.step, Lib.hid (HC.out.put k _ (Nat.mod_lt _ (by decide))).drew, Lib.hid (HR.out.far (by simp) _).drew, Lib.hid (HL.out.setCell (by simp) _).drew⟩
        case measure => simp [intOf]; omega
    · obtain rfl : k = 32 := by omega
      have hd := HS.out.done ha hb
      have hs2 := Bg.row_size 32 0
      have HG := Lib.hid (below_setRow HL.out (g := w.heap.size) (Nat.le_refl _) (Bg.row 32 s))
      have HF := Lib.hid (HR.out.setRow (Bg.row 32 s))
      have hq : decide (q = 0) = decide (a + b < Bg.lim) := by simp only [hd.2]
      have HQ := Lib.hid hq
      have HD := Lib.hid hd.1
      clear hd hq hlt
      go_wp2_with (first
        | (refine ld_mag s rfl _ rfl _ rfl HC.out ?_)
        | (refine st_mag s _ rfl _ _ rfl _ rfl rfl HR.out hs2 ?_; generalize World.setRow _ _ _ = w3 at HF HG ⊢))
      refine bodyPost_ret (res_cell_tmp rfl _ rfl (lv_mag HF.out)) rfl ⟨?_, HG.out⟩
      rw [← HD.out, ← HQ.out]
      rw [← beq_zero]
      rfl
end Go.Proofs.Ytbkbfgedlfbbiaa
