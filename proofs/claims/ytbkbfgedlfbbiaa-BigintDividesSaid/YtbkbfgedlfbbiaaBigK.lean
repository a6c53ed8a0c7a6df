/- bigint's FromInt. -/
import Derived.Test.YtbkbfgedlfbbiaaBigJ
namespace Go.Proofs.Ytbkbfgedlfbbiaa
open Go.RowKit
theorem row_two (a b : Nat) (ha : a < 4294967296) (hb : b < 4294967296) : ((Bg.row 32 0).setIfInBounds 0 (.int .u32 (a : Nat))).setIfInBounds 1 (.int .u32 (b : Nat)) = Bg.row 32 (a + b * 4294967296) := by
  rw [Bg.row_set 32 0 0 a ha, Bg.row_set 32 _ 1 b hb]
  congr 1
  have h1 : Bg.setL 0 0 a = a := by rw [Bg.setL_top _ _ _ (Bg.ppos 0), Bg.pw_zero]; omega
  have h2 : Bg.pw 1 = 4294967296 := by rw [show (1 : Nat) = 0 + 1 from rfl, Bg.p32, Bg.pw_zero]
  rw [h1, Bg.setL_top _ _ _ (by rw [h2]; exact ha), h2]
theorem row_two' (U : Nat) (h : U < 18446744073709551616) : ((Bg.row 32 0).setIfInBounds 0 (.int .u32 ((U : Int) % 4294967296))).setIfInBounds 1 (.int .u32 ((U : Int) / 4294967296)) = Bg.row 32 U ∧
    ((Bg.row 32 0).setIfInBounds 0 (.int .u32 ((U : Int) % 4294967296))).setIfInBounds 1 (.int .u32 ((U : Int) / 4294967296 % 4294967296)) = Bg.row 32 U := by
  have hf := row_two (U % 4294967296) (U / 4294967296) (Nat.mod_lt _ (by decide)) (by omega)
  have hf2 : U % 4294967296 + U / 4294967296 * 4294967296 = U := by omega
  rw [hf2] at hf
  have e : (U : Int) / 4294967296 % 4294967296 = (U : Int) / 4294967296 := by omega
  rw [e]
  exact ⟨hf, hf⟩
theorem row_ne (n N : Nat) : (Bg.row (n + 1) N = #[]) = False := by
  have := Bg.row_size (n + 1) N
  simp only [eq_iff_iff, iff_false]
  intro e
  rw [e] at this
  simp at this
theorem small_lim {U : Nat} (h : U < 18446744073709551616) : U < Bg.lim := by
  have h2 : Bg.pw 2 = 18446744073709551616 := by rw [show (2 : Nat) = 0 + 1 + 1 from rfl, Bg.p32, Bg.p32, Bg.pw_zero]
  have := Bg.pmono (show 2 ≤ 32 by omega)
  rw [h2] at this
  exact Nat.lt_of_lt_of_le h this
set_option maxRecDepth 20000 in
set_option maxHeartbeats 1000000 in
theorem fromInt_pos (U : Nat) (hU : U < 9223372036854775808) (w : World) :
    Calls Try.prog 36 #[.int .i64 (U : Nat)] w fun e w' => e = .returned (.agg (Bg.zA (U : Nat))) ∧ Below w.heap.size w w' := by
  have hz := Bg.zero32
  have hzi := Bg.zeroInt
  have hs2 := Bg.intA_size false 0
  obtain ⟨w1, hw1⟩ : ∃ w1, w1 = w.alloc (.cells (Bg.intA false 0) 25) := ⟨_, rfl⟩
  have HO0 := (Own.start w).alloc (Bg.intA false 0) 25
  rw [← hw1] at HO0
  have HO := Lib.hid HO0
  clear HO0
  have hs1 := Bg.row_size 32 0
  have hne := row_ne 31 0
  have hv : Bg.toZ false U = (U : Int) := by simp [Bg.toZ]
  have hn : ¬ ((U : Int) < 0) := by omega
  have hU2 : U < 18446744073709551616 := by omega
  obtain ⟨hf, hf'⟩ := row_two' U hU2
  go_enter Try.func36, Try.ntmps36
  go_wp2_with (first
    | (go_at_call 48; refine (made_g _ U (small_lim hU2) _).mono ?_; rintro e w6 ⟨rfl, hL⟩; rw [hv]; have HO := Lib.hid ((hw1 ▸ HO.out).call hL); clear hL)
    | ((with_reducible apply wl_at; refine st_z ((U : Int)) (Bg.intA false 0) rfl _ _ rfl _ rfl rfl (by exact HO.out.get (b := w.heap.size) (by simp)) (by exact hs2) ?_); have HR := Lib.hid (HO.out.fin (b := w.heap.size) (c := Bg.intA false 0) (by simp) (by omega) (Bg.zA U)); generalize World.setRow _ _ _ = w7 at HR ⊢))
  refine bodyPost_ret (res_cell rfl _ rfl (lv_z HR.out.1)) rfl ⟨rfl, HR.out.2⟩
set_option maxRecDepth 20000 in
set_option maxHeartbeats 1000000 in
theorem fromInt_neg (U : Nat) (hU0 : 0 < U) (hU : U ≤ 9223372036854775808) (w : World) :
    Calls Try.prog 36 #[.int .i64 (-(U : Int))] w fun e w' => e = .returned (.agg (Bg.zA (-(U : Int)))) ∧ Below w.heap.size w w' := by
  have hz := Bg.zero32
  have hzi := Bg.zeroInt
  have hs2 := Bg.intA_size false 0
  have hs1 := Bg.row_size 32 0
  have hne := row_ne 31 0
  obtain ⟨w1, hw1⟩ : ∃ w1, w1 = w.alloc (.cells (Bg.intA false 0) 25) := ⟨_, rfl⟩
  have HO0 := (Own.start w).alloc (Bg.intA false 0) 25
  rw [← hw1] at HO0
  have HO := Lib.hid HO0
  clear HO0
  have hn : (-(U : Int) < 0) := by omega
  have hU2 : U < 18446744073709551616 := by omega
  obtain ⟨hf, hf'⟩ := row_two' U hU2
  have hw : IntKind.u64.wrap (-IntKind.u64.wrap (-(U : Int))) = (U : Int) := by
    have h (x : Int) : IntKind.u64.wrap x = x % 18446744073709551616 := by simp [IntKind.wrap, IntKind.bits, IntKind.signed]
    rw [h, h]; omega
  have hv : Bg.toZ true U = -(U : Int) := by simp [Bg.toZ]
  go_enter Try.func36, Try.ntmps36
  go_wp2_with (first
    | (go_at_call 48; refine (made_g _ U (small_lim hU2) _).mono ?_; rintro e w6 ⟨rfl, hL⟩; rw [hv]; have HO := Lib.hid ((hw1 ▸ HO.out).call hL); clear hL)
    | ((with_reducible apply wl_at; refine st_z (-(U : Int)) (Bg.intA false 0) rfl _ _ rfl _ rfl rfl (by exact HO.out.get (b := w.heap.size) (by simp)) (by exact hs2) ?_); have HR := Lib.hid (HO.out.fin (b := w.heap.size) (c := Bg.intA false 0) (by simp) (by omega) (Bg.zA (-(U : Int)))); generalize World.setRow _ _ _ = w7 at HR ⊢))
  refine bodyPost_ret (res_cell rfl _ rfl (lv_z HR.out.1)) rfl ⟨rfl, HR.out.2⟩
end Go.Proofs.Ytbkbfgedlfbbiaa
