/- Subtracting magnitudes: bigint's minus; the document's compare, sum, difference. -/
import Derived.Test.YtbkbfgedlfbbiaaBigD
namespace Go.Proofs.Ytbkbfgedlfbbiaa
open Go.RowKit
set_option maxRecDepth 20000 in
set_option maxHeartbeats 1000000 in
theorem minus_any (ba bb a b : Nat) (ha : a < Bg.lim) (hb : b < Bg.lim) (w : World) (hA : Blk w ba (Bg.row 32 a)) (hB : Blk w bb (Bg.row 32 b)) :
    Calls Try.prog 57 #[.pointer (some ⟨ba, 0, none⟩), .pointer (some ⟨bb, 0, none⟩)] w fun e w' => e = .returned (Bg.magV (Bg.dif a b)) ∧ Below w.heap.size w w' := by
  have hz := Bg.zero32
  have ha1 := hA.lt
  have hb1 := hB.lt
  have HA := Lib.hid hA
  have HB := Lib.hid hB
  obtain ⟨w1, hw1⟩ : ∃ w1, w1 = (w.alloc (.cells (Bg.row 32 0) 57)).alloc (.cells (Bg.row 32 0) 57) := ⟨_, rfl⟩
  have HR := Lib.hid ((Blk.new w (Bg.row 32 0) 57).alloc (.cells (Bg.row 32 0) 57))
  have HC := Lib.hid (Blk.new (w.alloc (.cells (Bg.row 32 0) 57)) (Bg.row 32 0) 57)
  have HL := Lib.hid ((below_new w (.cells (Bg.row 32 0) 57)).alloc (by simp) (.cells (Bg.row 32 0) 57))
  rw [alloc_size] at HC
  rw [← hw1] at HR HC HL
  clear hA hB
  go_enter Try.func57, Try.ntmps57
  go_wp2_with fail
  rw [← hw1]
  clear hw1
  go_loopw [6, 8] (fun c i wr => ∃ (k q s : Nat), k ≤ 32 ∧ i = .int .i64 k ∧ c = .int .u32 q ∧ Hid (Bg.SubSt a b k s q) ∧ Hid (Blk wr (w.heap.size + 1) (Bg.row 32 s)) ∧ Hid (Blk wr w.heap.size (Bg.row 32 0)) ∧ Hid (Below w.heap.size w wr)) (fun _ i _ => 32 - (intOf i).toNat)
  case atStart => exact ⟨0, 0, 0, by omega, rfl, rfl, Lib.hid (Bg.SubSt.zero a b), HC, HR, HL⟩
  case round =>
    obtain ⟨k, q, s, hk, rfl, rfl, HS, HC, HR, HL⟩ := hrel
    by_cases hlt : k < 32
    · have hca := (HA.out.below HL.out ha1).limb hlt
      have hcb := (HB.out.below HL.out hb1).limb hlt
      have hcc := HC.out.limb hlt
      have hf := HC.out.free k
      have hq := HS.out.le
      have HX := Lib.hid (sub32_any (Bg.limb a k) (Bg.limb b k) q (Bg.limb_lt _ _) (Bg.limb_lt _ _) hq)
      have HY := Lib.hid (HS.out.step (Nat.mod_lt _ (by decide)) (Bg.brw_le _ _ _) (Bg.brw_eq (Bg.limb a k) (Bg.limb b k) q (Bg.limb_lt _ _) (Bg.limb_lt _ _) hq))
      have HM := Lib.hid (Nat.mod_lt (Bg.limb a k + 4294967296 - Bg.limb b k + 4294967296 - q) (show 4294967296 > 0 by decide))
      generalize (Bg.limb a k + 4294967296 - Bg.limb b k + 4294967296 - q) % 4294967296 = d at HX HY HM
      generalize Bg.brw (Bg.limb a k) (Bg.limb b k) q = q2 at HX HY
      go_wp2_with fail
      go_region_with (go_at_call 70; refine (HX.out _).mono ?_; rintro e w' ⟨rfl, rfl⟩)
      all_goals
        go_wp2_with fail
        go_roundw
        case rel => exact ⟨k + 1, q2, _, by omega, by go_num, rfl, HY, Lib.hid (HC.out.put k d HM.out).drew, Lib.hid (HR.out.far (by simp) _).drew, Lib.hid (HL.out.setCell (by simp) _).drew⟩
        case measure => simp [intOf]; omega
    · obtain rfl : k = 32 := by omega
      have HD := Lib.hid (HS.out.done ha hb)
      have hs2 := Bg.row_size 32 0
      have HG := Lib.hid (below_setRow HL.out (g := w.heap.size) (Nat.le_refl _) (Bg.row 32 s))
      have HF := Lib.hid (HR.out.setRow (Bg.row 32 s))
      clear hlt
      go_wp2_with (first
        | (refine ld_mag s rfl _ rfl _ rfl HC.out ?_)
        | (refine st_mag s _ rfl _ _ rfl _ rfl rfl HR.out hs2 ?_; generalize World.setRow _ _ _ = w3 at HF HG ⊢))
      refine bodyPost_ret (res_cell rfl _ rfl (lv_mag HF.out)) rfl ⟨?_, HG.out⟩
      rw [← HD.out]
      rfl
end Go.Proofs.Ytbkbfgedlfbbiaa
