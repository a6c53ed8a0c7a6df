/- bigint's divide where the divisor has one limb. -/
import Derived.Test.YtbkbfgedlfbbiaaBigN
namespace Go.Proofs.Ytbkbfgedlfbbiaa
open Go.RowKit
theorem yl_blk (N : Nat) {ops : Array Oper} {S : World → Prop} {o : Oper} {a : Act} (hw : Region.wanted o (yielded ops a.tmps) = true) (x : Operand) (ho : o.op = .load 57 x) (b : Nat) (hx : a.eval x = .pointer (some ⟨b, 0, none⟩)) (hS : ∀ w, S w → Blk w b (Bg.row 32 N)) :
    YieldsIf Try.prog ops S o (.agg (Bg.row 32 N)) a := by
  have := yieldsIf_load_mid (S := S) hw _ x ho b 0 hx (Bg.row 32 N).toList _ (fun w h => (hS w h).range) und_mag rfl (by rw [Array.length_toList, Bg.row_size]; exact siz_mag)
  rwa [Array.toArray_toList] at this
theorem Bg.setL_low (x : Nat) : Bg.setL 0 0 x = x := by rw [Bg.setL_top _ _ _ (Bg.ppos 0), Bg.pw_zero]; omega
set_option maxRecDepth 20000 in
set_option maxHeartbeats 2000000 in
theorem divide_one (ba bb a b : Nat) (hb0 : 0 < b) (ha : a < Bg.lim) (hb32 : b < 4294967296) (hlt : ¬ a < b) (w : World) (hA : Blk w ba (Bg.row 32 a)) (hB : Blk w bb (Bg.row 32 b)) :
    Calls Try.prog 55 #[.pointer (some ⟨ba, 0, none⟩), .pointer (some ⟨bb, 0, none⟩)] w fun e w' => e = .returned (.tuple #[.agg (Bg.row 32 (a / b)), .agg (Bg.row 32 (a % b))]) ∧ Below w.heap.size w w' := by
  have hz := Bg.zero32
  have ha1 := hA.lt
  have hb1 := hB.lt
  have hs1 := Bg.row_size 32 0
  have hb := small_lim (show b < 18446744073709551616 by omega)
  obtain ⟨w1, hw1⟩ : ∃ w1, w1 = (w.alloc (.cells (Bg.row 32 0) 57)).alloc (.cells (Bg.row 32 0) 57) := ⟨_, rfl⟩
  have HO0 := own2 w (Bg.row 32 0) (Bg.row 32 0) 57 57
  rw [← hw1] at HO0
  have HO := Lib.hid HO0
  clear HO0
  have HUA := Lib.hid (used_any ba a w1 (hA.below HO.out.1 ha1))
  have HUB := Lib.hid (used_any bb b w1 (hB.below HO.out.1 hb1))
  have HA := Lib.hid hA
  have HB := Lib.hid hB
  obtain ⟨c, hcm⟩ : ∃ c, Hid (c = Bg.cmp a b) := ⟨_, rfl⟩
  have hc0 : ¬ c < 0 := by rw [hcm.out]; unfold Bg.cmp; rw [if_neg hlt]; split <;> decide
  have HC := Lib.hid (compare_b ba bb a b c ha hb hcm w1 (hA.below HO.out.1 ha1) (hB.below HO.out.1 hb1))
  rw [Bg.used_one hb0 hb32] at HUB
  generalize Bg.used a = n at HUA
  obtain ⟨q, hq⟩ : ∃ q, Hid (q = a / b) := ⟨_, rfl⟩
  obtain ⟨r, hr⟩ : ∃ r, Hid (r = a % b) := ⟨_, rfl⟩
  have hrl : r < 4294967296 := by rw [hr.out]; exact Nat.lt_trans (Nat.mod_lt _ hb0) hb32
  have HSh := Lib.hid (fun w3 hw3 => short_any w.heap.size a b ha hb0 hb32 w3 hw3)
  rw [← hq.out, ← hr.out] at HSh
  rw [← hq.out, ← hr.out]
  clear hA hB hlt
  go_enter Try.func55, Try.ntmps55
  go_upto_region 6 with (first
    | (rw [← hw1]; go_at_call 67; refine HUB.out.mono ?_; rintro e w' ⟨rfl, rfl⟩; clear hw1)
    | (go_at_call 67; refine HUA.out.mono ?_; rintro e w' ⟨rfl, rfl⟩)
    | (go_at_call 59; refine HC.out.mono ?_; rintro e w2 ⟨rfl, hL⟩; have HO := Lib.hid ((HO.out).call hL); have HBA := Lib.hid (HA.out.below HO.out.1 ha1); clear hL)
    | ((with_reducible apply wl_at; refine ld_mag (a) rfl _ rfl (ba) ?hx HBA.out ?_; (case hx => (first | (simp; done) | (simp [Act.eval]; done) | (simp [Act.eval, Act.put])))))
    | ((with_reducible apply wl_at; refine st_mag (a) (Bg.row 32 0) rfl _ _ rfl (w.heap.size) ?hx ?hy (HO.out.get (by simp)) hs1 ?_; (case hx => (first | (simp; done) | (simp [Act.eval]; done) | (simp [Act.eval, Act.put]))); (case hy => (first | (simp; done) | (simp [Act.eval]; done) | (simp [Act.eval, Act.put])))); have HO2 := Lib.hid ((HO.out.less (l' := [(w.heap.size + 1, Bg.row 32 0)]) (by simp)).row (b := w.heap.size) (c := Bg.row 32 0) (Nat.le_refl _) (by simp) (HO.out.get (by simp)) (Bg.row 32 a)); generalize World.setRow _ _ _ = w3 at HO2 ⊢))
  have hcb := (HB.out.below HO2.out.1 hb1).limb (i := 0) (by decide)
  rw [Bg.limb_self hb32] at hcb
  go_upto_region 7 with (first
    | (go_at_call 51; refine (HSh.out _ (HO2.out.get (by simp))).mono ?_; rintro e w4 ⟨rfl, hBl, hgr⟩; have HO3 := Lib.hid ((HO2.out.less (l' := [(w.heap.size + 1, Bg.row 32 0)]) (by simp)).turn hgr (Nat.le_refl _) (by simp) hBl); have hc4 := (HO3.out.get (b := w.heap.size + 1) (c := Bg.row 32 0) (by simp)).limb (i := 0) (by decide); have hf4 := (HO3.out.get (b := w.heap.size + 1) (c := Bg.row 32 0) (by simp)).free 0; clear hBl hgr))
  have HO4 := Lib.hid ((HO3.out.less (l' := [(w.heap.size, Bg.row 32 q)]) (by simp)).limb (b := w.heap.size + 1) (n := 32) (N := 0) (by omega) (by simp) (HO3.out.get (by simp)) 0 r hrl)
  rw [Bg.setL_low] at HO4
  generalize w4.setCell ⟨w.heap.size + 1, 0, none⟩ (.int .u32 (r : Nat)) = w5 at HO4 ⊢
  have HD : Own w w5.drew [(w.heap.size + 1, Bg.row 32 r), (w.heap.size, Bg.row 32 q)] := ⟨HO4.out.1.drew, HO4.out.2⟩
  clear hc4 hf4 hcb
  refine wp_region_held_drew (S := fun w' => Own w w' [(w.heap.size + 1, Bg.row 32 r), (w.heap.size, Bg.row 32 q)]) (by kernel_rfl) HD (fun hHeld => ?_)
  refine take_h (i := 0) (v := .agg (Bg.row 32 q)) rfl rfl (by kernel_rfl) (by kernel_rfl) (by kernel_rfl) (fun _ _ _ h => h) ?hy1 hHeld ?rest1
  case hy1 => exact yl_blk q (by rfl) _ rfl w.heap.size (by first | (simp; done) | (simp [Act.eval]; done) | (simp [Act.eval, Act.put])) (fun w' h => h.get (by simp))
  try simp only [List.setIfInBounds_toArray, List.set_cons_zero, List.set_cons_succ]
  refine take_h (i := 1) (v := .agg (Bg.row 32 r)) rfl rfl (by kernel_rfl) (by kernel_rfl) (by kernel_rfl) (fun _ _ _ h => h) ?hy2 hHeld ?rest2
  case hy2 => exact yl_blk r (by rfl) _ rfl (w.heap.size + 1) (by first | (simp; done) | (simp [Act.eval]; done) | (simp [Act.eval, Act.put])) (fun w' h => h.get (by simp))
  try simp only [List.setIfInBounds_toArray, List.set_cons_zero, List.set_cons_succ]
  have hn1 : w.heap.size + 1 ≠ w.heap.size := by omega
  have HE : Own w (w5.drew.setRow w.heap.size (Bg.row 32 q)) [(w.heap.size + 1, Bg.row 32 r), (w.heap.size, Bg.row 32 q)] :=
    ((hHeld.less (l' := [(w.heap.size + 1, Bg.row 32 r)]) (by simp)).row (b := w.heap.size) (c := Bg.row 32 q) (Nat.le_refl _) (by simp) (hHeld.get (by simp)) (Bg.row 32 q)).less (by simp)
  refine st_hm (i := 2) q (Bg.row 32 q) (by kernel_rfl) rfl rfl (by rfl) _ _ rfl w.heap.size (by first | (simp; done) | (simp [Act.eval]; done) | (simp [Act.eval, Act.put])) (by first | (simp; done) | (simp [Act.eval]; done) | (simp [Act.eval, Act.put])) (hHeld.get (by simp)) (Bg.row_size 32 q) HE ?_
  generalize w5.drew.setRow w.heap.size (Bg.row 32 q) = w6 at HE ⊢
  have HF : Own w (w6.setRow (w.heap.size + 1) (Bg.row 32 r)) [(w.heap.size + 1, Bg.row 32 r), (w.heap.size, Bg.row 32 q)] :=
    (HE.less (l' := [(w.heap.size, Bg.row 32 q)]) (by simp)).row (b := w.heap.size + 1) (c := Bg.row 32 r) (by omega) (by simp) (HE.get (by simp)) (Bg.row 32 r)
  refine st_hm (i := 3) r (Bg.row 32 r) (by kernel_rfl) rfl rfl (by rfl) _ _ rfl (w.heap.size + 1) (by first | (simp; done) | (simp [Act.eval]; done) | (simp [Act.eval, Act.put])) (by first | (simp; done) | (simp [Act.eval]; done) | (simp [Act.eval, Act.put])) (HE.get (by simp)) (Bg.row_size 32 r) HF ?_
  generalize w6.setRow (w.heap.size + 1) (Bg.row 32 r) = w7 at HF ⊢
  refine wpAnyH_done (by kernel_rfl) ?_ _
  try simp only [List.setIfInBounds_toArray, List.set_cons_zero, List.set_cons_succ]
  go_wp2_with fail
  refine bodyPost_ret (res_cell_cell rfl _ (by first | (simp; done) | (simp [Act.put])) (by first | (simp; done) | (simp [Act.put])) (lv_mag (b := w.heap.size) (N := q) (HF.get (by simp))) (lv_mag (b := w.heap.size + 1) (N := r) (HF.get (by simp)))) rfl ⟨rfl, HF.1⟩
end Go.Proofs.Ytbkbfgedlfbbiaa
