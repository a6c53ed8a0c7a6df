/- bigint's Mul and Sign. -/
import Derived.Test.YtbkbfgedlfbbiaaBigI
namespace Go.Proofs.Ytbkbfgedlfbbiaa
open Go.RowKit
theorem wl_at {P : Program} {ops : Array Oper} {rest : List Oper} {o : Oper} {a : Act} {w : World} {Q : Exit → Act → World → Prop} (h : wpList P ops Q (o :: rest) a w) : wpList P ops Q (o :: rest) a w := h
theorem made_g (s : Bool) (N : Nat) (hN : N < Bg.lim) (w : World) :
    Calls Try.prog 48 #[.bool s, .agg (Bg.row 32 N)] w fun e w' => e = .returned (.agg (Bg.zA (Bg.toZ s N))) ∧ Below w.heap.size w w' := made_z s N hN w
theorem times_as (ba bb a b c : Nat) (f : Bool) (ha : a < Bg.lim) (hb : b < Bg.lim) (hc : Hid (c = a * b % Bg.lim)) (hf : Hid (f = decide (a * b < Bg.lim))) (w : World) (hA : Blk w ba (Bg.row 32 a)) (hB : Blk w bb (Bg.row 32 b)) :
    Calls Try.prog 58 #[.pointer (some ⟨ba, 0, none⟩), .pointer (some ⟨bb, 0, none⟩)] w fun e w' => e = .returned (.tuple #[.agg (Bg.row 32 c), .bool f]) ∧ Below w.heap.size w w' := by
  rw [hc.out, hf.out]; exact times_any ba bb a b ha hb w hA hB
theorem Bg.mul_same {s t s1 t1 : Bool} {M N : Nat} (h1 : s1 = (s && decide (M ≠ 0))) (h2 : t1 = (t && decide (N ≠ 0))) : Bg.toZ s M * Bg.toZ t N = Bg.toZ (s1 != t1) (M * N) := by
  rw [← Bg.toZ_canon s M, ← Bg.toZ_canon t N, ← h1, ← h2]
  cases s1 <;> cases t1 <;> simp [Bg.toZ, Int.mul_neg, Int.neg_mul]
set_option maxRecDepth 20000 in
set_option maxHeartbeats 1000000 in
theorem mul_any0 (s t : Bool) (M N : Nat) (hM : M < Bg.lim) (hN : N < Bg.lim) (z : Int) (hzz : Hid (z = Bg.toZ s M * Bg.toZ t N)) (w : World) :
    Calls Try.prog 27 #[.agg (Bg.intA s M), .agg (Bg.intA t N)] w fun e w' => e = .returned (Bg.resV z) ∧ Below w.heap.size w w' := by
  have hz := Bg.zero32
  have hzi := Bg.zeroInt
  have hs2 := Bg.intA_size false 0
  obtain ⟨w1, hw1⟩ : ∃ w1, w1 = ((w.alloc (.cells (Bg.intA s M) 25)).alloc (.cells (Bg.intA t N) 25)).alloc (.cells (Bg.intA false 0) 25) := ⟨_, rfl⟩
  have HO0 := own3 w (Bg.intA s M) (Bg.intA t N) (Bg.intA false 0) 25 25 25
  rw [← hw1] at HO0
  have HO := Lib.hid HO0
  clear HO0
  obtain ⟨s1, hs1⟩ : ∃ s1, Hid (s1 = (s && decide (M ≠ 0))) := ⟨_, rfl⟩
  obtain ⟨t1, ht1⟩ : ∃ t1, Hid (t1 = (t && decide (N ≠ 0))) := ⟨_, rfl⟩
  obtain ⟨c, hc⟩ : ∃ c, Hid (c = M * N % Bg.lim) := ⟨_, rfl⟩
  obtain ⟨f, hf⟩ : ∃ f, Hid (f = decide (M * N < Bg.lim)) := ⟨_, rfl⟩
  have hcl : c < Bg.lim := by rw [hc.out]; exact Nat.mod_lt _ (Bg.ppos 32)
  have hza : Hid (z.natAbs = M * N) := Lib.hid (by rw [hzz.out, Bg.mul_same hs1.out ht1.out, Bg.toZ_abs])
  go_enter Try.func27, Try.ntmps27
  go_upto_region 4 with (first
    | (rw [← hw1]; (with_reducible apply wl_at; refine ld_int (s) (M) rfl _ rfl _ rfl (by exact HO.out.get (by simp)) ?_); clear hw1)
    | ((with_reducible apply wl_at; refine ld_int (t) (N) rfl _ rfl _ rfl (by exact HO.out.get (by simp)) ?_))
    | (go_at_call 50; with_reducible refine (split_as s s1 M hM hs1 _).mono ?_; rintro e w2 ⟨rfl, hL⟩; have HO := Lib.hid ((HO.out.call hL).alloc (Bg.row 32 M) 57); clear hL)
    | (go_at_call 50; with_reducible refine (split_as t t1 N hN ht1 _).mono ?_; rintro e w3 ⟨rfl, hL⟩; have HO := Lib.hid ((HO.out.call hL).alloc (Bg.row 32 N) 57); clear hL)
    | (go_at_call 58; refine (times_as w2.heap.size w3.heap.size M N c f hM hN hc hf _ (HO.out.get (by simp)) (HO.out.get (by simp))).mono ?_; rintro e w5 ⟨rfl, hL⟩; have HO := Lib.hid ((HO.out.call hL).alloc (Bg.row 32 c) 57); clear hL)
    | ((with_reducible apply wl_at; refine sn_mag (M) rfl _ _ rfl rfl rfl ?_))
    | ((with_reducible apply wl_at; refine sn_mag (N) rfl _ _ rfl rfl rfl ?_))
    | ((with_reducible apply wl_at; refine sn_mag (c) rfl _ _ rfl rfl rfl ?_)))
  by_cases hfit : M * N < Bg.lim
  · have hft : f = true := by rw [hf.out]; simp [hfit]
    subst hft
    have HF := Lib.hid hfit
    clear hfit
    go_wp2_with (first
      | ((with_reducible apply wl_at; refine ld_mag (c) rfl _ rfl _ rfl (by exact HO.out.get (by simp)) ?_))
      | (go_at_call 48; refine (made_g _ c hcl _).mono ?_; rintro e w6 ⟨rfl, hL⟩; generalize hv : Bg.toZ _ c = v; have HV := Lib.hid hv; clear hv; have HO := Lib.hid (HO.out.call hL); clear hL)
      | ((with_reducible apply wl_at; refine st_z (v) (Bg.intA false 0) rfl _ _ rfl _ rfl rfl (by exact HO.out.get (b := w.heap.size + 2) (by simp)) (by exact hs2) ?_); have HR := Lib.hid (HO.out.fin (b := w.heap.size + 2) (c := Bg.intA false 0) (by simp) (by omega) (Bg.zA v)); generalize World.setRow _ _ _ = w7 at HR ⊢))
    refine bodyPost_ret (res_cell_tmp rfl _ rfl (lv_z HR.out.1)) rfl ⟨?_, HR.out.2⟩
    have hcm : c = M * N := by rw [hc.out, Nat.mod_eq_of_lt HF.out]
    have hvz : z = v := by
      rw [hzz.out, ← HV.out, hcm, Bg.mul_same hs1.out ht1.out]
      clear hs1 ht1 HO
      congr 1
    rw [Bg.resV_yes (by rw [hza.out]; exact HF.out), hvz]
    rfl
  · have hft : f = false := by rw [hf.out]; simp [hfit]
    subst hft
    have HF := Lib.hid hfit
    clear hfit
    go_wp2_with (first
      | ((with_reducible apply wl_at; refine st_int (false) (0) (Bg.intA false 0) rfl _ _ rfl _ rfl rfl (by exact HO.out.get (b := w.heap.size + 2) (by simp)) (by exact hs2) ?_); have HR := Lib.hid (HO.out.fin (b := w.heap.size + 2) (c := Bg.intA false 0) (by simp) (by omega) (Bg.intA false 0)); generalize World.setRow _ _ _ = w7 at HR ⊢))
    have HR1 := HR.out.1
    rw [zA_zero] at HR1
    refine bodyPost_ret (res_cell_tmp rfl _ rfl (lv_z HR1)) rfl ⟨?_, HR.out.2⟩
    rw [Bg.resV_no (by rw [hza.out]; exact HF.out)]
    rfl
set_option maxRecDepth 20000 in
set_option maxHeartbeats 1000000 in
theorem sign_any (s : Bool) (N : Nat) (hN : N < Bg.lim) (g : Int) (hg : Hid (g = (Bg.toZ s N).sign)) (w : World) :
    Calls Try.prog 24 #[.agg (Bg.intA s N)] w fun e w' => e = .returned (.int .i64 g) ∧ Below w.heap.size w w' := by
  have hz := Bg.zero32
  have hL0 : 0 < Bg.lim := Nat.lt_of_le_of_lt (Nat.zero_le _) hN
  obtain ⟨w1, hw1⟩ : ∃ w1, w1 = w.alloc (.cells (Bg.intA s N) 25) := ⟨_, rfl⟩
  have HO0 := (Own.start w).alloc (Bg.intA s N) 25
  rw [← hw1] at HO0
  have HO := Lib.hid HO0
  clear HO0
  obtain ⟨s1, hs1⟩ : ∃ s1, Hid (s1 = (s && decide (N ≠ 0))) := ⟨_, rfl⟩
  go_enter Try.func24, Try.ntmps24
  go_upto_region 2 with (first
    | (rw [← hw1]; (with_reducible apply wl_at; refine ld_int (s) (N) rfl _ rfl _ rfl (by exact HO.out.get (by simp)) ?_); clear hw1)
    | (go_at_call 50; refine (split_as s s1 N hN hs1 _).mono ?_; rintro e w2 ⟨rfl, hL⟩; have HO := Lib.hid ((HO.out.call hL).alloc (Bg.row 32 N) 57); clear hL)
    | ((with_reducible apply wl_at; refine sn_mag (N) rfl _ _ rfl rfl rfl ?_)))
  cases s1 with
  | true =>
    go_wp2_with fail
    go_ret
    refine ⟨?_, HO.out.1⟩
    have h := hs1.out
    have hN0 : N ≠ 0 := by intro e; subst e; simp at h
    have hs : s = true := by cases s; exact absurd h (by simp); rfl
    have : (Bg.toZ s N).sign = -1 := by rw [hs]; exact Int.sign_eq_neg_one_of_neg (by simp [Bg.toZ]; omega)
    rw [hg.out, this]
    rfl
  | false =>
    by_cases h0 : N = 0
    · subst h0
      go_wp2_with (first
        | ((with_reducible apply wl_at; refine ld_mag (0) rfl _ rfl _ rfl (by exact HO.out.get (by simp)) ?_))
        | ((with_reducible apply wl_at; refine ls_cmp .eql (0) (0) rfl _ _ _ rfl (.inl rfl) rfl rfl (hN) (hN) ?_)))
      go_ret
      refine ⟨?_, HO.out.1⟩
      have : (Bg.toZ s 0).sign = 0 := by cases s <;> simp [Bg.toZ]
      rw [hg.out, this]
      rfl
    · have HF := Lib.hid h0
      go_wp2_with (first
        | ((with_reducible apply wl_at; refine ld_mag (N) rfl _ rfl _ rfl (by exact HO.out.get (by simp)) ?_))
        | ((with_reducible apply wl_at; refine ls_cmp .eql (N) (0) rfl _ _ _ rfl (.inl rfl) rfl rfl (hN) (hL0) ?_)))
      go_ret
      refine ⟨?_, HO.out.1⟩
      have h := hs1.out
      have h0 := HF.out
      have hs : s = false := by cases s; rfl; exact absurd h (by simp [h0])
      have : (Bg.toZ s N).sign = 1 := by rw [hs]; exact Int.sign_eq_one_of_pos (by simp [Bg.toZ]; omega)
      rw [hg.out, this]
      rfl
end Go.Proofs.Ytbkbfgedlfbbiaa
