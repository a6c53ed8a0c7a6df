/- The chapter's examples. -/
import Derived.Test.YtnfojnlcclccbaaEngC
import Derived.Test.YtnfojnlcclccbaaBigU
namespace Go.Proofs.Ytnfojnlcclccbaa
set_option maxRecDepth 8000
open Go.RowKit
theorem lim_small {z : Int} (h : z.natAbs < 18446744073709551616) : z.natAbs < Bg.lim := small_lim h
set_option maxRecDepth 20000 in
set_option maxHeartbeats 4000000 in
theorem known_any (w : World) : Calls Try.prog 8 #[] w fun e w' => e = .returned (.bool true) ∧ Below w.heap.size w w' := by
  have hzi := Bg.zeroInt
  have hs2 := Bg.intA_size false 0
  have HO := Lib.hid (Own.start w)
  have l7 : ((-7 : Int)).natAbs < Bg.lim := lim_small (by decide)
  have l3 : ((3 : Int)).natAbs < Bg.lim := lim_small (by decide)
  have lm3 : ((-3 : Int)).natAbs < Bg.lim := lim_small (by decide)
  have l2 : ((2 : Int)).natAbs < Bg.lim := lim_small (by decide)
  have l12 : ((-12 : Int)).natAbs < Bg.lim := lim_small (by decide)
  have l18 : ((18 : Int)).natAbs < Bg.lim := lim_small (by decide)
  have l6 : ((6 : Int)).natAbs < Bg.lim := lim_small (by decide)
  have l0 : ((0 : Int)).natAbs < Bg.lim := lim_small (by decide)
  go_enter Try.func8, Try.ntmps8
  go_upto_region 5 with (first
    | (go_at_call 25; refine (fromInt_z _ (by decide) (by decide) _).mono ?_; rintro e w2 ⟨rfl, hL⟩; have HO := Lib.hid (HO.out.call hL); clear hL)
    | (go_at_call 24; refine (divMod_z (-7) 3 (-3) 2 l7 l3 (by decide) (.small (by decide) l7 l3 (.inl (by decide))) (Lib.hid (by decide)) (Lib.hid (by decide)) _).mono ?_; rintro e w5 ⟨rfl, hL⟩; have HO := Lib.hid (HO.out.call hL); have HW : Hid (w.heap.size ≤ w5.heap.size) := Lib.hid HO.out.1.size; have HO := Lib.hid ((HO.out.alloc (Bg.intA false 0) 25).alloc (Bg.intA false 0) 25); rw [alloc_size] at HO; clear hL)
    | ((with_reducible apply wl_at; refine st_z (-3) (Bg.intA false 0) rfl _ _ rfl _ rfl rfl (by exact HO.out.get (b := w5.heap.size) (by simp)) (by exact hs2) ?_); have HO := Lib.hid ((HO.out.less (l' := [(w5.heap.size + 1, Bg.intA false 0)]) (by simp)).row (b := w5.heap.size) (c := Bg.intA false 0) HW.out (by simp) (HO.out.get (by simp)) (Bg.zA (-3))); generalize World.setRow _ _ _ = w6 at HO ⊢)
    | ((with_reducible apply wl_at; refine st_z (2) (Bg.intA false 0) rfl _ _ rfl _ rfl rfl (by exact HO.out.get (b := w5.heap.size + 1) (by simp)) (by exact hs2) ?_); have HO := Lib.hid ((HO.out.less (l' := [(w5.heap.size, Bg.zA (-3))]) (by simp)).row (b := w5.heap.size + 1) (c := Bg.intA false 0) (by have := HW.out; omega) (by simp) (HO.out.get (by simp)) (Bg.zA 2)); generalize World.setRow _ _ _ = w7 at HO ⊢)
    | (with_reducible apply wl_at; refine ld_z (-3) rfl _ rfl w5.heap.size ?hx (HO.out.get (by simp)) ?_; (case hx => (first | (simp; done) | (simp [Act.eval]; done))))
    | (with_reducible apply wl_at; refine ld_z 2 rfl _ rfl (w5.heap.size + 1) ?hx (HO.out.get (by simp)) ?_; (case hx => (first | (simp; done) | (simp [Act.eval]; done))))
    | (go_at_call 26; with_reducible refine (toInt_z (-3) (-3) true lm3 (Lib.hid (by decide)) (Lib.hid (by decide)) _).mono ?_; rintro e w8 ⟨rfl, hL⟩; have HO := Lib.hid (HO.out.call hL); clear hL)
    | (go_at_call 26; with_reducible refine (toInt_z 2 2 true l2 (Lib.hid (by decide)) (Lib.hid (by decide)) _).mono ?_; rintro e w9 ⟨rfl, hL⟩; have HO := Lib.hid (HO.out.call hL); clear hL)
    | (go_at_call 5; refine (parse_007 _).mono ?_; rintro e w10 ⟨rfl, hL⟩; have HO := Lib.hid (HO.out.call hL); have HW2 : Hid (w.heap.size ≤ w10.heap.size) := Lib.hid HO.out.1.size; have HO := Lib.hid (HO.out.alloc (Bg.intA false 0) 25); clear hL)
    | ((with_reducible apply wl_at; refine st_z (0) (Bg.intA false 0) rfl _ _ rfl _ rfl rfl (by exact HO.out.get (b := w10.heap.size) (by simp)) (by exact hs2) ?_); have HO := Lib.hid (HO.out.fin (b := w10.heap.size) (c := Bg.intA false 0) (by simp) HW2.out (Bg.zA 0)).2; generalize World.setRow _ _ _ = w11 at HO ⊢))
  go_wp2_with (first
    | (go_at_call 25; refine (fromInt_z _ (by decide) (by decide) _).mono ?_; rintro e w12 ⟨rfl, hL⟩; have HO := Lib.hid (HO.out.trans (hL.mono HO.out.size)); clear hL)
    | (go_at_call 27; refine (gcd_z (-12) 18 6 l12 l18 (fun A B h0 hA hB => .small h0 hA (Nat.lt_of_le_of_lt hB l18) (.inl (by have : B ≤ 18 := hB; omega))) (Lib.hid (by decide)) _).mono ?_; rintro e w13 ⟨rfl, hL⟩; have HO := Lib.hid (HO.out.trans (hL.mono HO.out.size)); clear hL)
    | (with_reducible apply wl_at; refine gls_cmpz .eql 6 6 true (.inl rfl) (by decide) l6 l6 rfl _ _ _ rfl rfl rfl ?_)
    | (go_at_call 28; refine (neg_z 0 0 l0 (Lib.hid rfl) _).mono ?_; rintro e w14 ⟨rfl, hL⟩; have HO := Lib.hid (HO.out.trans (hL.mono HO.out.size)); clear hL)
    | (go_at_call 7; rw [← zA_zero]; refine (format_0 false _).mono ?_; rintro e w15 ⟨rfl, hL⟩; have HO := Lib.hid (HO.out.trans (hL.mono HO.out.size)); clear hL))
  go_ret
  refine ⟨?_, HO.out⟩
  rfl
end Go.Proofs.Ytnfojnlcclccbaa
