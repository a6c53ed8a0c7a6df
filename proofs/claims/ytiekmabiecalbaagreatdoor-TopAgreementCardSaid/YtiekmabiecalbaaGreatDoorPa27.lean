/- Walks. -/
import Derived.Test.YtiekmabiecalbaaGreatDoorPa20
namespace Go.Proofs.YtiekmabiecalbaaGreatDoor
set_option maxHeartbeats 16000000
open Go.RowKit
set_option maxRecDepth 8000
section
theorem z9_80 {P : Prop} (h : P := by
 clear he
 go_wp2_with (first | ((with_reducible refine g_ld ?_); refine a_ld HM ?_) | ((with_reducible refine g_st ?_); refine a_st HM ?_; clear HM; intro w1 HM) | ((with_reducible refine g_al ?_); refine a_al HM ?_; clear HM; intro bk w1 HM) | ((with_reducible refine g_bx ?_); refine a_bx HM ?_; clear HM; intro bk w1 HM))
 go_ret2
 exact ⟨⟨_, 0, rfl⟩, HM.low⟩) : P := h
end
section
theorem Tx.txt_neg {n : Nat} (h : n ≠ 0) : Tx.txt true n = ({ data := #[45] } : ByteArray) ++ Tx.txt false n := by
 unfold Tx.txt; rw [if_neg h, if_neg h, if_pos rfl, if_neg Bool.false_ne_true]
theorem Tx.cut_m (s : ByteArray) : Tx.cut (({ data := #[45] } : ByteArray) ++ s) = (s, true) := by
 unfold Tx.cut
 have e : (({ data := #[45] } : ByteArray) ++ s).data.toList = 45 :: s.data.toList := by rw [ByteArray.data_append]; simp
 rw [e]
 simp [Lib.trimPrefix, Lib.hasPrefix]
theorem Ac.lo_neg {x : Rat} (h : x.num < 0) : Ac.lo x 6 < 0 := Int.ediv_neg_of_neg_of_pos (Int.mul_neg_of_neg_of_pos h (by have := Ac.p10_pos 6; omega)) (Ac.den_pos x)
theorem text_neg (x : Rat) (hx : Rt.Fit x) (h0 : x.num < 0) (w : World) :
    Calls Tryz.prog 41 #[.agg (Rt.qA x), .int .i64 6] w fun r w' => (∃ (s : ByteArray) (e : Int), r = .returned (.tuple #[.string s, .int .i64 e])) ∧ Below w.heap.size w w' := by
 have HM := Mem.start w
 have zi := za_int
 have k0 := la_q x
 have CK := fun w => check_6 x hx w
 have SC := fun w => scaled_6 x hx w
 have hlo := Ac.lim_of (Ac.lo_lim hx (n := 6) Zd) (show 511 ≤ 1024 by decide)
 have hre := Ac.lim_of (Ac.re_lim hx 6) (show 480 ≤ 1024 by decide)
 have hl0 := Ac.lo_neg h0
 generalize Ac.lo x 6 = l at *
 generalize Ac.re x 6 = r at *
 have sl := sa_z l (c := Bg.zA 0) (zA_size 0)
 have sr := sa_z r (c := Bg.zA 0) (zA_size 0)
 obtain ⟨g, hg⟩ := Zh (r.sign)
 have SR := fun w => sign_z r g hre hg w
 by_cases hr0 : r = 0
 case neg =>
  have hg0 : (g == 0) = false := Zb (by
   rw [hg.out]
   intro e
   exact hr0 (Int.sign_eq_zero_iff_zero.1 e))
  clear hr0
  go_enter Tryz.func41, Tryz.ntmps41
  go_wp2_with (first | (go_at_call 76; (with_reducible refine Zc HM (CK _) ?_; clear HM; intro w2 HM)) | (go_at_call 77; (with_reducible refine Zc HM (SC _) ?_; clear HM; intro w2 HM)) | (go_at_call 78; (with_reducible refine Zc HM (SR _) ?_; clear HM; intro w2 HM)) | (first | ((with_reducible refine g_ld ?_); refine a_ld HM ?_) | ((with_reducible refine g_st ?_); refine a_st HM ?_; clear HM; intro w1 HM) | ((with_reducible refine g_al ?_); refine a_al HM ?_; clear HM; intro bk w1 HM) | ((with_reducible refine g_bx ?_); refine a_bx HM ?_; clear HM; intro bk w1 HM)))
  go_ret2
  exact ⟨⟨_, 32, rfl⟩, HM.low⟩
 case pos =>
 subst hr0
 obtain rfl : g = 0 := hg.out
 obtain ⟨n, hn⟩ : ∃ n : Nat, l = -(n : Int) := ⟨l.natAbs, by omega⟩
 have hn0 : n ≠ 0 := by omega
 have hab : l.natAbs = n := by omega
 rw [hab] at hlo
 have FM := fun w => bformat_any true n hlo w
 have ezn : Bg.intA true n = Bg.zA l := by rw [zA_int, hab, Zt hl0]
 rw [ezn, Tx.txt_neg hn0] at FM
 have hsz := Tx.txt_size hlo
 have hct := Tx.cut_m (Tx.txt false n)
 generalize Tx.txt false n = T at *
 obtain ⟨hs1, hs2⟩ := hsz
 have CP := fun w => belt (cp_any _ T true (Zi hct.symm) w)
 have PT := fun w => point_any T hs1 Zo w
 have hwb : Ac.wl T.size ≤ 309 := by unfold Ac.wl; split <;> omega
 have HWB := Zi hwb
 generalize ({ data := #[45] } : ByteArray) ++ T = U at *
 clear hct ezn hg hl0 h0 hwb hn hab hn0
 go_enter Tryz.func41, Tryz.ntmps41
 go_upto_region 9 with (first | (go_at_call 76; (with_reducible refine Zc HM (CK _) ?_; clear HM; intro w2 HM)) | (go_at_call 77; (with_reducible refine Zc HM (SC _) ?_; clear HM; intro w2 HM)) | (go_at_call 78; (with_reducible refine Zc HM (SR _) ?_; clear HM; intro w2 HM)) | (go_at_call 79; (with_reducible refine Zc HM (FM _) ?_; clear HM; intro w2 HM)) | (go_at_call 56; (with_reducible refine Zc HM (CP _) ?_; clear HM; intro w2 HM)) | (go_at_call 80; refine (PT _).mono ?_; rintro e9 w2 ⟨⟨a, b, rfl, HA, hb⟩, hL⟩; replace HM := HM.call hL; clear hL) | (first | ((with_reducible refine g_ld ?_); refine a_ld HM ?_) | ((with_reducible refine g_st ?_); refine a_st HM ?_; clear HM; intro w1 HM) | ((with_reducible refine g_al ?_); refine a_al HM ?_; clear HM; intro bk w1 HM) | ((with_reducible refine g_bx ?_); refine a_bx HM ?_; clear HM; intro bk w1 HM)))
 by_cases h15 : 15 < a.size
 ·have h16 : (15 : Int) < a.size := by omega
  clear h15
  go_wp2_with (first | ((with_reducible refine g_ld ?_); refine a_ld HM ?_) | ((with_reducible refine g_st ?_); refine a_st HM ?_; clear HM; intro w1 HM) | ((with_reducible refine g_al ?_); refine a_al HM ?_; clear HM; intro bk w1 HM) | ((with_reducible refine g_bx ?_); refine a_bx HM ?_; clear HM; intro bk w1 HM))
  go_ret2
  exact ⟨⟨_, 32, rfl⟩, HM.low⟩
 ·have h16 : ¬ (15 : Int) < a.size := by omega
  have ha : a.size ≤ 309 := by rw [HA.out]; exact HWB.out
  have TR := fun w => below_eq (tr_any b Zo w)
  clear h15
  go_upto_region 12 with (first | (go_at_call 81; refine (TR _).mono ?_; rintro e9 w2 ⟨⟨c, rfl, hc⟩, hL⟩; replace HM := HM.call hL; clear hL) | (first | ((with_reducible refine g_ld ?_); refine a_ld HM ?_) | ((with_reducible refine g_st ?_); refine a_st HM ?_; clear HM; intro w1 HM) | ((with_reducible refine g_al ?_); refine a_al HM ?_; clear HM; intro bk w1 HM) | ((with_reducible refine g_bx ?_); refine a_bx HM ?_; clear HM; intro bk w1 HM)))
  have hc6 : c.size ≤ 6 := by omega
  by_cases he : c.toList = []
  ·have h1 : c.toList.isEmpty = true := by rw [he]; rfl
   exact z9_80
  ·have h1 : c.toList.isEmpty = false := by cases h : c.toList with | nil => exact absurd h he | cons a l => rfl
   exact z9_80
end
section
structure Ac.Wm (p : List Nat) (s : ByteArray) : Prop where
 ex : ∃ W F, Tx.ns s = p ++ (W ++ 46 :: F) ∧ Ac.Wh W ∧ Ac.Dgs F ∧ F.length ≤ 6
structure Ac.Rm (p : List Nat) (s : ByteArray) (W R : List Nat) : Prop where
 eq : Tx.ns s = p ++ (W ++ R)
 wh : Ac.Wh W
 rest : R = [] ∨ ∃ F, R = 46 :: F ∧ Ac.Dgs F ∧ 0 < F.length ∧ F.length ≤ 6
def Jb.tx : Option Rat → Int → Prop
 | none, e => e ≠ 0
 | some x, e => 0 ≤ x.num → Ac.Yes e (Ac.Txt x)
theorem text_o (o : Option Rat) (c : Array Value) (hv : Rt.Vc o c) (w : World) :
    Calls Tryz.prog 41 #[.agg c, .int .i64 6] w fun r w' => (∃ (s : ByteArray) (e : Int), r = .returned (.tuple #[.string s, .int .i64 e]) ∧ Hid (Jb.tx o e)) ∧ Below w.heap.size w w' := by
 cases o with
 | some x =>
  obtain ⟨hx, rfl⟩ := hv
  by_cases h : 0 ≤ x.num
  ·refine (text_any x hx h w).mono ?_
   rintro e w' ⟨⟨s, e, rfl, HE, _⟩, hL⟩
   exact ⟨⟨s, e, rfl, Zi fun _ => HE.out⟩, hL⟩
  ·refine (text_neg x hx Zo w).mono ?_
   rintro e w' ⟨⟨s, e, rfl⟩, hL⟩
   exact ⟨⟨s, e, rfl, Zi fun h2 => absurd h2 h⟩, hL⟩
 | none =>
  obtain ⟨s, M, t, N, hM, hN, hb, rfl⟩ := hv
  have HM := Mem.start w
  have k0 := la_rat s M t N
  have V := fun w => valid_n s M t N false hM hN (Zi hb.symm) w
  have CK : ∀ w, Calls Tryz.prog 76 #[.agg (Bg.ratA s M t N), .int .i64 6] w fun e w' => e = .returned (.int .i64 20) ∧ Below w.heap.size w w' := fun w => by
   have HM := Mem.start w
   go_enter Tryz.func76, Tryz.ntmps76
   go_wp2_with (first | (go_at_call 106; (with_reducible refine Zc HM (V _) ?_; clear HM; intro w2 HM)) | (first | ((with_reducible refine g_ld ?_); refine a_ld HM ?_) | ((with_reducible refine g_st ?_); refine a_st HM ?_; clear HM; intro w1 HM) | ((with_reducible refine g_al ?_); refine a_al HM ?_; clear HM; intro bk w1 HM) | ((with_reducible refine g_bx ?_); refine a_bx HM ?_; clear HM; intro bk w1 HM)))
   go_ret
   exact ⟨rfl, HM.low⟩
  clear hb
  go_enter Tryz.func41, Tryz.ntmps41
  go_wp2_with (first | (go_at_call 76; (with_reducible refine Zc HM (CK _) ?_; clear HM; intro w2 HM)) | (first | ((with_reducible refine g_ld ?_); refine a_ld HM ?_) | ((with_reducible refine g_st ?_); refine a_st HM ?_; clear HM; intro w1 HM) | ((with_reducible refine g_al ?_); refine a_al HM ?_; clear HM; intro bk w1 HM) | ((with_reducible refine g_bx ?_); refine a_bx HM ?_; clear HM; intro bk w1 HM)))
  go_ret2
  exact ⟨⟨_, 20, rfl, Zi (show (20 : Int) ≠ 0 by decide)⟩, HM.low⟩
end
end Go.Proofs.YtiekmabiecalbaaGreatDoor
