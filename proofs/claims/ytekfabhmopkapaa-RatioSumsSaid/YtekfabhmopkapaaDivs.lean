/- bigint's divide for all magnitudes, and DivMod and Gcd of any two numbers. -/
import Derived.Test.YtekfabhmopkapaaKnA
import Derived.Test.YtekfabhmopkapaaEngC
namespace Go.Proofs.Ytekfabhmopkapaa
set_option maxRecDepth 8000
open Go.RowKit
theorem divOk_any {a b : Nat} (h0 : 0 < b) (ha : a < Bg.lim) (hb : b < Bg.lim) : Bg.DivOk a b := by
  by_cases hs : b < 4294967296 ∨ a < b
  · exact Bg.DivOk.small h0 ha hb hs
  · intro ba bb w hA hB
    exact divide_long ba bb a b ha hb (by omega) (by omega) w hA hB
theorem divMod_f (p d x y : Int) (hp : p.natAbs < Bg.lim) (hd : d.natAbs < Bg.lim) (h0 : d ≠ 0) (hx : Hid (x = p / d)) (hy : Hid (y = p % d)) (w : World) :
    Calls Try.prog 78 #[.agg (Bg.zA p), .agg (Bg.zA d)] w fun e w' => e = .returned (.tuple #[.agg (Bg.zA x), .agg (Bg.zA y), .int .i64 0]) ∧ Below w.heap.size w w' :=
  divMod_z p d x y hp hd h0 (divOk_any (by omega) hp hd) hx hy w
theorem gcd_f (p d z : Int) (hp : p.natAbs < Bg.lim) (hd : d.natAbs < Bg.lim) (hz : Hid (z = (Nat.gcd p.natAbs d.natAbs : Nat))) (w : World) :
    Calls Try.prog 51 #[.agg (Bg.zA p), .agg (Bg.zA d)] w fun e w' => e = .returned (.agg (Bg.zA z)) ∧ Below w.heap.size w w' :=
  gcd_z p d z hp hd (fun _ _ h0 hA hB => divOk_any h0 hA (Nat.lt_of_le_of_lt hB hd)) hz w
set_option maxRecDepth 20000 in
set_option maxHeartbeats 2000000 in
theorem divMod_zero (s t : Bool) (M : Nat) (hM : M < Bg.lim) (w : World) :
    Calls Try.prog 78 #[.agg (Bg.intA s M), .agg (Bg.intA t 0)] w fun e w' => e = .returned (.tuple #[.agg (Bg.zA 0), .agg (Bg.zA 0), .int .i64 11]) ∧ Below w.heap.size w w' := by
  have hz := Bg.zero32
  have hL0 : 0 < Bg.lim := Nat.lt_of_le_of_lt (Nat.zero_le _) hM
  obtain ⟨s1, hs1⟩ : ∃ s1, Hid (s1 = (s && decide (M ≠ 0))) := ⟨_, rfl⟩
  obtain ⟨t1, ht1⟩ : ∃ t1, Hid (t1 = (t && decide ((0 : Nat) ≠ 0))) := ⟨_, rfl⟩
  have HM := Mem.start w
  go_enter Try.func78, Try.ntmps78
  go_wp2_with (first | first
    | (go_at_call 75; ((with_reducible refine (split_as s s1 M hM hs1 _).mono ?_); rintro e9 w2 ⟨rfl, hL⟩; replace HM := HM.call hL; clear hL))
    | (go_at_call 75; ((with_reducible refine (split_as t t1 0 hL0 ht1 _).mono ?_); rintro e9 w2 ⟨rfl, hL⟩; replace HM := HM.call hL; clear hL))
    | ((with_reducible apply wl_at; refine ls_cmp .eql (0) (0) rfl _ _ _ rfl (.inl rfl) rfl rfl (hL0) (hL0) ?_); rw [if_pos rfl, decide_eq_true rfl]) | (first | ((with_reducible refine g_ld ?_); refine a_ld HM ?_) | ((with_reducible refine g_st ?_); refine a_st HM ?_; clear HM; intro w1 HM) | ((with_reducible refine g_al ?_); refine a_al HM ?_; clear HM; intro bk w1 HM) | ((with_reducible refine g_bx ?_); refine a_bx HM ?_; clear HM; intro bk w1 HM) | ((with_reducible refine g_bld ?_); refine a_bld ?_)))
  refine bodyPost_ret (r_cct rfl rfl rfl (HM.get (by ((repeat (first | exact Look.here | refine Look.there ?_)); done))) (la_z _) (HM.get (by ((repeat (first | exact Look.here | refine Look.there ?_)); done))) (la_z _)) rfl ⟨rfl, HM.low⟩
theorem divMod_zz (p : Int) (hp : p.natAbs < Bg.lim) (w : World) :
    Calls Try.prog 78 #[.agg (Bg.zA p), .agg (Bg.zA 0)] w fun e w' => e = .returned (.tuple #[.agg (Bg.zA 0), .agg (Bg.zA 0), .int .i64 11]) ∧ Below w.heap.size w w' := by
  have h := divMod_zero (decide (p < 0)) false p.natAbs hp w
  rw [← zA_int p, zA_zero] at h
  exact h
theorem divMod_zi (p d : Int) (hp : p.natAbs < Bg.lim) (h0 : Hid (d = 0)) (w : World) :
    Calls Try.prog 78 #[.agg (Bg.zA p), .agg (Bg.zA d)] w fun e w' => e = .returned (.tuple #[.agg (Bg.zA 0), .agg (Bg.zA 0), .int .i64 11]) ∧ Below w.heap.size w w' := by
  rw [h0.out]; exact divMod_zz p hp w
end Go.Proofs.Ytekfabhmopkapaa
