/- The elimination of the program, walked. -/
import Derived.Test.YtadnddffdedjgaaSyC
namespace Go.Proofs.Ytadnddffdedjgaa
set_option maxRecDepth 8000
open Go.RowKit
section
variable {md : Region.Mode} {ops : Array Oper} {Q : Exit → Act → World → Prop} {K : List Nat} {w0 w : World} {X : List Nat} {L L' : List (Nat × Array Value)} {i : Nat} {oi : Oper} {d : Tmp} {fuel : Nat} {listed : Array Bool} {a : Act}
theorem heldF (HM : Mem w0 X L' w) (hs : Sub L L' := by first | exact Sub.refl _ | (repeat (first | exact Sub.nil | exact Sub.refl _ | refine Sub.keep ?_ | refine Sub.skip ?_))) : Held (fun _ => True) (fun w' => Mem w0 X L w') K listed w := ⟨trivial, fun _ => HM.less hs⟩
end
section
variable {md : Region.Mode} {ops : Array Oper} {Q : Exit → Act → World → Prop} {S2 : World → Prop} {K : List Nat} {w0 w : World} {X : List Nat} {L L' : List (Nat × Array Value)} {oi : Oper} {d : Tmp} {fuel : Nat} {listed : Array Bool} {a a2 : Act} {b k : Nat} {c c' : Array Value} {T T2 : TypeId} {x y : Operand} {v vx vy : Value}
variable {R : Act → World → Prop}
theorem j_call5 {f : FuncId} {ts : Array TypeId} {x1 x2 x3 x4 x5 : Operand} {v1 v2 v3 v4 v5 : Value} (HM : Mem w0 X L w) (hc : Calls Try.prog f #[v1, v2, v3, v4, v5] w fun e w' => e = .returned v ∧ Below w.heap.size w w') (h : ∀ w', Mem w0 X L w' → R a2 w') (hd : oi.dst = some d := by rfl) (ho : oi.op = .call { callee := .value (.func f), args := #[x1, x2, x3, x4, x5], argTypes := ts } := by rfl) (hf : goF f = true := by kernel_rfl) (h1 : a.eval x1 = v1 := by (conv => lhs; whnf) <;> rfl) (h2 : a.eval x2 = v2 := by (conv => lhs; whnf) <;> rfl) (h3 : a.eval x3 = v3 := by (conv => lhs; whnf) <;> rfl) (h4 : a.eval x4 = v4 := by (conv => lhs; whnf) <;> rfl) (h5 : a.eval x5 = v5 := by (conv => lhs; whnf) <;> rfl) (ha : ({ a with tmps := a.tmps.setIfInBounds d v } : Act) = a2 := by ((try simp only [List.setIfInBounds_toArray, List.set_cons_succ, List.set_cons_zero]) <;> rfl)) : Oper.wp Try.prog oi a w R Q := o_call hc HM hd (h_call ho hf (by simp [h1, h2, h3, h4, h5])) fun w9 h9 => ha ▸ h w9 h9
end
set_option maxHeartbeats 4000000 in
theorem solve_any (n : Nat) (Z0 : Nat → Nat → Int) (bs : Nat) (W w : World) (R : List (Nat × Array Value)) (HM : Mem W [] ((bs, Sy.cells n Z0) :: R) w) (hn : n ≤ 8) (hE : Mx.Ent (Ns.ext n Z0) n (1000000000000000 : Nat)) (hN : Mx.Ns n (Ns.ext n Z0)) :
    Calls Try.prog 55 #[.pointer (some ⟨bs, 0, none⟩)] w fun e w' => ∃ f Z', e = .returned (.tuple #[.agg (So.arr f n), .bool true]) ∧ Mem W [] ((bs, Sy.cells n Z') :: R) w' ∧ Hid (Mx.Solves n (Ns.ext n Z0) f ∧ ∀ i, i < n → Rt.Fit (f i)) := by
  have HEN := Lib.hid hE
  have HNS := Lib.hid hN
  have za := za_arr8 fun _ => 0
  have zi := za_int
  have zq := za_rat
  have n0 := la_syn n Z0
  have F1 := fun w => fromInt_z 1 (by decide) (by decide) w
  have hst : Mx.Gz n (n + 1) (Ns.ext n Z0) 0 0 false Z0 1 := Mx.Gz.start Ns.ext_unit (fun i j hi hj => by unfold Ns.ext; rw [if_pos (by omega)])
  have HG := Lib.hid hst
  clear hE hN hst
  go_enter Try.func55, Try.ntmps55
  go_upto_region 3 with (first | (go_at_call 54; ((with_reducible refine (F1 _).mono ?_); rintro e9 w2 ⟨rfl, hL⟩; replace HM := HM.call hL; clear hL)) | (first | ((with_reducible refine g_ld ?_); refine a_ld HM ?_) | ((with_reducible refine g_st ?_); refine a_st HM ?_; clear HM; intro w1 HM) | ((with_reducible refine g_al ?_); refine a_al HM ?_; clear HM; intro bk w1 HM) | ((with_reducible refine g_bx ?_); refine a_bx HM ?_; clear HM; intro bk w1 HM) | ((with_reducible refine g_bld ?_); refine a_bld ?_)))
  obtain ⟨b5, rfl⟩ := HM.nm0
  obtain ⟨b4, rfl⟩ := HM.nm1
  obtain ⟨b2, rfl⟩ := HM.nm2
  clear F1
  go_wp2_with (first | fail | (first | ((with_reducible refine g_ld ?_); refine a_ld HM ?_) | ((with_reducible refine g_st ?_); refine a_st HM ?_; clear HM; intro w1 HM) | ((with_reducible refine g_al ?_); refine a_al HM ?_; clear HM; intro bk w1 HM) | ((with_reducible refine g_bx ?_); refine a_bx HM ?_; clear HM; intro bk w1 HM) | ((with_reducible refine g_bld ?_); refine a_bld ?_)))
  go_loopw [19] (fun kv wr => ∃ (k : Nat) (m : Bool) (Z : Nat → Nat → Int) (last : Int), kv = .int .i64 (k : Nat) ∧ k ≤ n ∧ Hid (Mx.Gz n (n + 1) (Ns.ext n Z0) k 0 m Z last) ∧ Mem W [] ((b5, Bg.zA last) :: (b4, So.arr (fun _ => 0) 0) :: (b2, So.arr (fun _ => 0) 0) :: (bs, Sy.cells n Z) :: R) wr) (fun kv _ => n - (intOf kv).toNat)
  case atStart => exact ⟨0, false, Z0, 1, rfl, by omega, HG, HM⟩
  case round =>
    clear HM HG n0
    obtain ⟨k, m, Z, last, rfl, hk, HG, HM⟩ := hrel
    by_cases hlt : k < n
    · have hlt1 : (k : Int) < n := by omega
      have hk8 : (k : Int) < 8 := by omega
      have P := fun w HM => pivot_any n k Z bs W w ((b5, Bg.zA last) :: (b4, So.arr (fun _ => 0) 0) :: (b2, So.arr (fun _ => 0) 0) :: R) HM hn hlt (Lib.hid fun i h1 h2 => HG.out.bound HEN.out hn hk (by omega) h2 (by omega) (by omega))
      go_wp2_with (first | fail | (first | ((with_reducible refine g_ld ?_); refine a_ld HM ?_) | ((with_reducible refine g_st ?_); refine a_st HM ?_; clear HM; intro w1 HM) | ((with_reducible refine g_al ?_); refine a_al HM ?_; clear HM; intro bk w1 HM) | ((with_reducible refine g_bx ?_); refine a_bx HM ?_; clear HM; intro bk w1 HM) | ((with_reducible refine g_bld ?_); refine a_bld ?_)))
      refine (P _ HM.pick).mono ?_
      rintro e9 w2 ⟨b, Z1, rfl, HM2, HP⟩
      replace HM := HM2.pick (K := (b5, Bg.zA last) :: (b4, So.arr (fun _ => 0) 0) :: (b2, So.arr (fun _ => 0) 0) :: (bs, Sy.cells n Z1) :: R)
      clear HM2 P
      rcases HP.out with ⟨rfl, hp⟩ | ⟨rfl, _, hz⟩
      case inr => exact (HG.out.pivot HNS.out (by omega) hlt (by omega) hz).elim
      obtain ⟨⟨m', hg⟩, h0⟩ := Sy.piv HG.out hlt hp
      have HG1 := Lib.hid hg
      have HP0 := Lib.hid h0
      clear HP HG hp hg h0
      have k1 := la_sy n Z1 (i := k) (j := k) (by omega) (by omega)
      have n1 := la_syn n Z1
      obtain ⟨p, hp⟩ : ∃ p, Hid (p = Z1 k k) := ⟨_, Lib.hid rfl⟩
      rw [← hp.out] at k1
      have sp := sa_z p (zA_size 0)
      have hw9 : n + 1 ≤ 9 := by omega
      go_upto_region 9 with (first | fail | (first | ((with_reducible refine g_ld ?_); refine a_ld HM ?_) | ((with_reducible refine g_st ?_); refine a_st HM ?_; clear HM; intro w1 HM) | ((with_reducible refine g_al ?_); refine a_al HM ?_; clear HM; intro bk w1 HM) | ((with_reducible refine g_bx ?_); refine a_bx HM ?_; clear HM; intro bk w1 HM) | ((with_reducible refine g_bld ?_); refine a_bld ?_)))
      obtain ⟨b7, rfl⟩ := HM.nm0
      go_wp2_with (first | fail | (first | ((with_reducible refine g_ld ?_); refine a_ld HM ?_) | ((with_reducible refine g_st ?_); refine a_st HM ?_; clear HM; intro w1 HM) | ((with_reducible refine g_al ?_); refine a_al HM ?_; clear HM; intro bk w1 HM) | ((with_reducible refine g_bx ?_); refine a_bx HM ?_; clear HM; intro bk w1 HM) | ((with_reducible refine g_bld ?_); refine a_bld ?_)))
      go_loopw [39] (fun iv wr => ∃ i : Nat, iv = .int .i64 (i : Nat) ∧ i ≤ n ∧ Mem W [] ((b7, Bg.zA p) :: (b5, Bg.zA last) :: (b4, So.arr (fun _ => 0) 0) :: (b2, So.arr (fun _ => 0) 0) :: (bs, Sy.cells n (Sy.pt n Z1 k last i 0)) :: R) wr) (fun iv _ => n - (intOf iv).toNat)
      case atStart => exact ⟨0, rfl, by omega, by rw [Sy.pt_start]; exact HM⟩
      case round =>
        clear HM n1 k1
        obtain ⟨i, rfl, hi, HM⟩ := hrel
        by_cases hit : i < n
        · have hit1 : (i : Int) < n := by omega
          have hi8 : (i : Int) < 8 := by omega
          by_cases hik : i = k
          · subst hik
            go_wp2_with (first | fail | (first | ((with_reducible refine g_ld ?_); refine a_ld HM ?_) | ((with_reducible refine g_st ?_); refine a_st HM ?_; clear HM; intro w1 HM) | ((with_reducible refine g_al ?_); refine a_al HM ?_; clear HM; intro bk w1 HM) | ((with_reducible refine g_bx ?_); refine a_bx HM ?_; clear HM; intro bk w1 HM) | ((with_reducible refine g_bld ?_); refine a_bld ?_)))
            go_roundw
            case rel => exact ⟨i + 1, by go_num, by omega, by rw [← Sy.pt_skip]; exact HM⟩
            case measure => simp [intOf]; omega
          · have hik1 : ¬ (i : Int) = k := by omega
            have k1 := la_sy n (Sy.pt n Z1 k last i 0) (i := i) (j := k) (by omega) (by omega)
            rw [Sy.pt_at (by omega)] at k1
            have n1 := la_syn n (Sy.pt n Z1 k last i 0)
            obtain ⟨fv, hfv⟩ : ∃ f, Hid (f = Z1 i k) := ⟨_, Lib.hid rfl⟩
            rw [← hfv.out] at k1
            have sp := sa_z fv (zA_size 0)
            go_upto_region 14 with (first | fail | (first | ((with_reducible refine g_ld ?_); refine a_ld HM ?_) | ((with_reducible refine g_st ?_); refine a_st HM ?_; clear HM; intro w1 HM) | ((with_reducible refine g_al ?_); refine a_al HM ?_; clear HM; intro bk w1 HM) | ((with_reducible refine g_bx ?_); refine a_bx HM ?_; clear HM; intro bk w1 HM) | ((with_reducible refine g_bld ?_); refine a_bld ?_)))
            obtain ⟨b9, rfl⟩ := HM.nm0
            go_wp2_with (first | fail | (first | ((with_reducible refine g_ld ?_); refine a_ld HM ?_) | ((with_reducible refine g_st ?_); refine a_st HM ?_; clear HM; intro w1 HM) | ((with_reducible refine g_al ?_); refine a_al HM ?_; clear HM; intro bk w1 HM) | ((with_reducible refine g_bx ?_); refine a_bx HM ?_; clear HM; intro bk w1 HM) | ((with_reducible refine g_bld ?_); refine a_bld ?_)))
            go_loopw [58] (fun jv wr => ∃ j : Nat, jv = .int .i64 (j : Nat) ∧ j ≤ n + 1 ∧ Mem W [] ((b9, Bg.zA fv) :: (b7, Bg.zA p) :: (b5, Bg.zA last) :: (b4, So.arr (fun _ => 0) 0) :: (b2, So.arr (fun _ => 0) 0) :: (bs, Sy.cells n (Sy.pt n Z1 k last i j)) :: R) wr) (fun jv _ => n + 1 - (intOf jv).toNat)
            case atStart => exact ⟨0, rfl, by omega, HM⟩
            case round =>
              clear HM k1 n1
              obtain ⟨j, rfl, hj, HM⟩ := hrel
              by_cases hjt : j < n + 1
              · have hjt1 : (j : Int) < n + 1 := by omega
                have hj9 : (j : Int) < 9 := by omega
                obtain ⟨x, hx⟩ : ∃ x, Hid (x = Z1 i j) := ⟨_, Lib.hid rfl⟩
                obtain ⟨y, hy⟩ : ∃ y, Hid (y = Z1 k j) := ⟨_, Lib.hid rfl⟩
                obtain ⟨q, hq⟩ : ∃ q, Hid (q = Mx.nx Z1 k last i j) := ⟨_, Lib.hid rfl⟩
                have l1 := la_sy n (Sy.pt n Z1 k last i j) (i := i) (j := j) (by omega) (by omega)
                have l2 := la_sy n (Sy.pt n Z1 k last i j) (i := k) (j := j) (by omega) (by omega)
                rw [Sy.pt_at (Nat.le_refl _), ← hx.out] at l1
                rw [Sy.pt_row, ← hy.out] at l2
                have s1 := sa_sy n (Sy.pt n Z1 k last i j) (i := i) (j := j) q (by omega) (by omega)
                rw [hq.out, Sy.pt_set, ← hq.out] at s1
                have B := fun r c (hr : r < n) (hc : c < n + 1) => HG1.out.bound HEN.out hn hk (Nat.zero_le r) hr (Nat.zero_le c) hc
                have M := fun w => sminus_any p x fv y last q (by rw [hp.out]; exact B _ _ hlt (by omega)) (by rw [hx.out]; exact B _ _ hit hjt) (by rw [hfv.out]; exact B _ _ hit (by omega)) (by rw [hy.out]; exact B _ _ hlt hjt) (HG1.out.bound_last HEN.out hn hk) HG1.out.last_ne (Lib.hid (by rw [hq.out, hp.out, hx.out, hfv.out, hy.out]; unfold Mx.nx; rw [if_neg hik])) w
                clear B
                go_upto_region 17 with (first | fail | (first | ((with_reducible refine g_ld ?_); refine a_ld HM ?_) | ((with_reducible refine g_st ?_); refine a_st HM ?_; clear HM; intro w1 HM) | ((with_reducible refine g_al ?_); refine a_al HM ?_; clear HM; intro bk w1 HM) | ((with_reducible refine g_bx ?_); refine a_bx HM ?_; clear HM; intro bk w1 HM) | ((with_reducible refine g_bld ?_); refine a_bld ?_)))
                refine start_M [27] HM (by kernel_rfl) (fun w0x H9 => ?_)
                replace HM := H9; clear H9
                refine k_mv 0 (heldE HM) ?_
                refine k_mv 1 (heldE HM) ?_
                refine k_mv 2 (heldE HM) ?_
                refine k_ld 3 [22, 26, 27] (heldE HM) ?_
                refine k_mv 4 (heldE HM) ?_
                refine k_mv 5 (heldE HM) ?_
                refine k_mv 6 (heldE HM) ?_
                refine k_pv 7 (heldE HM) ?_
                refine k_fa 8 (heldE HM) ?_
                refine k_ia 9 (heldE HM) ?_
                refine k_ia 10 (heldE HM) ?_
                refine k_ld 11 [22, 26, 27] (heldE HM) ?_
                refine k_ld 12 [22, 26, 27] (heldE HM) ?_
                refine k_mv 13 (heldE HM) ?_
                refine k_mv 14 (heldE HM) ?_
                refine k_mv 15 (heldE HM) ?_
                refine k_pv 16 (heldE HM) ?_
                refine k_fa 17 (heldE HM) ?_
                refine k_ia 18 (heldE HM) ?_
                refine k_ia 19 (heldE HM) ?_
                refine k_ld 20 [22, 26, 27] (heldE HM) ?_
                refine k_ld 21 [22, 26, 27] (heldE HM) ?_
                refine k_pv 23 (heldE HM) ?_
                refine k_fa 24 (heldE HM) ?_
                refine k_ia 25 (heldE HM) ?_
                refine j_one 22 fun K9 hK9 => ?_
                refine j_call5 (v := ?_) HM ?_ ?_; rotate_left 1; (focus (with_reducible (exact M _))); clear HM; intro w1 HM
                refine hK9 _ _ (heldE HM) ?_; clear hK9 K9
                refine k_ia 26 (heldE HM) ?_
                refine j_one 27 fun K9 hK9 => ?_
                refine j_st HM ?_; clear HM; intro w1 HM
                refine hK9 _ _ heldN ?_; clear hK9 K9
                refine wpAnyL_done (by kernel_rfl) ?_ _
                go_wp2_with fail
                go_roundw
                case rel => exact ⟨j + 1, by go_num, by omega, HM⟩
                case measure => simp [intOf]; omega
              · obtain rfl : j = n + 1 := by omega
                go_wp2_with (first | fail | (first | ((with_reducible refine g_ld ?_); refine a_ld HM ?_) | ((with_reducible refine g_st ?_); refine a_st HM ?_; clear HM; intro w1 HM) | ((with_reducible refine g_al ?_); refine a_al HM ?_; clear HM; intro bk w1 HM) | ((with_reducible refine g_bx ?_); refine a_bx HM ?_; clear HM; intro bk w1 HM) | ((with_reducible refine g_bld ?_); refine a_bld ?_)))
                go_roundw
                case rel => exact ⟨i + 1, by go_num, by omega, by rw [← Sy.pt_next]; exact HM.pick⟩
                case measure => simp [intOf]; omega
        · obtain rfl : i = n := by omega
          have HGN : Hid (Mx.Gz i (i + 1) (Ns.ext i Z0) (k + 1) 0 m' (Sy.pt i Z1 k last i 0) p) := Lib.hid (by
            rw [hp.out]
            exact HG1.out.step HEN.out (by omega) hlt (by omega) HP0.out (by omega) (fun r c _ hr _ hc => by unfold Sy.pt; rw [if_pos (by omega)]))
          have sl := sa_z p (zA_size last)
          go_wp2_with (first | fail | (first | ((with_reducible refine g_ld ?_); refine a_ld HM ?_) | ((with_reducible refine g_st ?_); refine a_st HM ?_; clear HM; intro w1 HM) | ((with_reducible refine g_al ?_); refine a_al HM ?_; clear HM; intro bk w1 HM) | ((with_reducible refine g_bx ?_); refine a_bx HM ?_; clear HM; intro bk w1 HM) | ((with_reducible refine g_bld ?_); refine a_bld ?_)))
          go_roundw
          case rel => exact ⟨k + 1, m', _, p, by go_num, by omega, HGN, HM.pick⟩
          case measure => simp [intOf]; omega
    · obtain rfl : k = n := by omega
      have n1 := la_syn k Z
      have HL0 := Lib.hid HG.out.last_ne
      obtain ⟨f, hf⟩ : ∃ f : Nat → Rat, Hid (f = fun i => Rat.divInt (Z i k) last) := ⟨_, Lib.hid rfl⟩
      have hfit : ∀ i, i < k → Rt.Fit (f i) := fun i hi => by
        rw [hf.out]
        have h1 := HG.out.bound HEN.out hn hk (Nat.zero_le i) hi (Nat.zero_le k) (by omega)
        have h2 := HG.out.bound_last HEN.out hn hk
        have := Sy.big_416
        exact (Rt.Bd.divInt (i := 416) (j := 416) HL0.out (by omega) (by omega)).fit
      have HFT := Lib.hid hfit
      have HSV : Hid (Mx.Solves k (Ns.ext k Z0) f) := Lib.hid (by
        have := HG.out.solves
        rw [hf.out]
        intro r hr
        rw [← this r hr]
        exact Mx.sm_congr fun c _ => by
          show _ * Rat.divInt (Z c k) last = _ * ((Z c k : Rat) / last)
          rw [Rat.divInt_eq_div])
      rw [So.arr_same (fun _ => 0) f] at HM
      replace HM : Mem W [] ((b4, So.arr f 0) :: (b2, So.arr f 0) :: (bs, Sy.cells k Z) :: R) _ := HM.pick
      clear hfit HNS
      go_wp2_with (first | fail | (first | ((with_reducible refine g_ld ?_); refine a_ld HM ?_) | ((with_reducible refine g_st ?_); refine a_st HM ?_; clear HM; intro w1 HM) | ((with_reducible refine g_al ?_); refine a_al HM ?_; clear HM; intro bk w1 HM) | ((with_reducible refine g_bx ?_); refine a_bx HM ?_; clear HM; intro bk w1 HM) | ((with_reducible refine g_bld ?_); refine a_bld ?_)))
      go_loopw [96] (fun iv wr => ∃ i : Nat, iv = .int .i64 (i : Nat) ∧ i ≤ k ∧ Mem W [] ((b4, So.arr f i) :: (b2, So.arr f 0) :: (bs, Sy.cells k Z) :: R) wr) (fun iv _ => k - (intOf iv).toNat)
      case atStart => exact ⟨0, rfl, by omega, HM⟩
      case round =>
        clear HM
        obtain ⟨i, rfl, hi, HM⟩ := hrel
        by_cases hit : i < k
        · have hit1 : (i : Int) < k := by omega
          have hi8 : (i : Int) < 8 := by omega
          have hk9 : (k : Int) < 9 := by omega
          have hi9 : (i : Int) < 9 := by omega
          obtain ⟨x, hx⟩ : ∃ x, Hid (x = Z i k) := ⟨_, Lib.hid rfl⟩
          obtain ⟨u, hu⟩ : ∃ u, Hid (u = f i) := ⟨_, Lib.hid rfl⟩
          have l1 := la_sy k Z (i := i) (j := k) (by omega) (by omega)
          have l2 := la_sy k Z (i := i) (j := i) (by omega) (by omega)
          rw [HG.out.diag (by omega) hit] at l2
          rw [← hx.out] at l1
          have b1 := HG.out.bound HEN.out hn hk (Nat.zero_le i) hit (Nat.zero_le k) (by omega)
          have b2' := HG.out.bound_last HEN.out hn hk
          have b416 := Sy.big_416
          have b480 := Bg.p2_mono (i := 416) (j := 480) (by omega)
          have MK := fun w => make_q x last u HL0.out (by rw [hx.out]; omega) (by omega) (Lib.hid (by rw [hu.out, hf.out, hx.out])) w
          have s1 := sa_arr8i f (i := i) (by omega)
          rw [← hu.out] at s1
          have s2 := sa_q u (rZ_size 0 0)
          have k2 := la_q u
          clear b1 b2' b416 b480
          go_upto_region 25 with (first | fail | (first | ((with_reducible refine g_ld ?_); refine a_ld HM ?_) | ((with_reducible refine g_st ?_); refine a_st HM ?_; clear HM; intro w1 HM) | ((with_reducible refine g_al ?_); refine a_al HM ?_; clear HM; intro bk w1 HM) | ((with_reducible refine g_bx ?_); refine a_bx HM ?_; clear HM; intro bk w1 HM) | ((with_reducible refine g_bld ?_); refine a_bld ?_)))
          go_cut [12, 13] (fun p e wc => ∃ b12, p = .pointer (some ⟨b12, 0, none⟩) ∧ e = .int .i64 0 ∧ Mem W [] ((b12, Rt.qA u) :: (b4, So.arr f i) :: (b2, So.arr f 0) :: (bs, Sy.cells k Z) :: R) wc)
          case first =>
            refine start_M [24] HM (by kernel_rfl) (fun w0x H9 => ?_)
            replace HM := H9; clear H9
            refine k_mv 0 (heldF HM) ?_
            refine k_mv 1 (heldF HM) ?_
            refine k_mv 2 (heldF HM) ?_
            refine k_pv 3 (heldF HM) ?_
            refine k_fa 4 (heldF HM) ?_
            refine k_ld 5 [9, 10, 19, 20, 21, 22, 24, 25] (heldF HM) ?_
            refine k_pv 6 (heldF HM) ?_
            refine k_fa 7 (heldF HM) ?_
            refine k_ia 8 (heldF HM) ?_
            refine k_ia 9 (heldF HM) ?_
            refine k_ld 10 [19, 20, 21, 22, 24, 25] (heldF HM) ?_
            refine k_mv 11 (heldF HM) ?_
            refine k_mv 12 (heldF HM) ?_
            refine k_mv 13 (heldF HM) ?_
            refine k_pv 14 (heldF HM) ?_
            refine k_fa 15 (heldF HM) ?_
            refine k_ia 16 (heldF HM) ?_
            refine k_ia 17 (heldF HM) ?_
            refine k_ld 18 [19, 20, 21, 22, 24, 25] (heldF HM) ?_
            refine j_two 19 23 ?_ ?_
            · refine j_call2 (v := ?_) HM ?_ ?_; rotate_left 1; (focus (with_reducible (exact MK _))); clear HM; intro w1 HM
              refine ⟨(heldF HM), ?_⟩
              refine k_mv 20 (heldF HM) ?_
              refine k_ext 21 (heldF HM) ?_
              refine k_ext 22 (heldF HM) ?_
              refine j_one 23 fun K9 hK9 => ?_
              refine j_al HM ?_; clear HM; intro bk w1 HM
              refine hK9 _ _ (heldF HM) ?_; clear hK9 K9
              refine j_one 24 fun K9 hK9 => ?_
              refine j_st HM ?_; clear HM; intro w1 HM
              refine hK9 _ _ heldN ?_; clear hK9 K9
              refine k_mv 25 heldN ?_
              refine wpAnyL_done (by kernel_rfl) ?_ _
              (go_wp2_with fail; go_meet; (case rel => exact ⟨_, rfl, rfl, HM⟩))
            · refine j_al HM ?_; clear HM; intro bk w1 HM
              refine ⟨(heldF HM), ?_⟩
              refine j_one 19 fun K9 hK9 => ?_
              refine j_call2 (v := ?_) HM ?_ ?_; rotate_left 1; (focus (with_reducible (exact MK _))); clear HM; intro w1 HM
              refine hK9 _ _ (heldF HM) ?_; clear hK9 K9
              refine k_mv 20 (heldF HM) ?_
              refine k_ext 21 (heldF HM) ?_
              refine k_ext 22 (heldF HM) ?_
              refine j_one 24 fun K9 hK9 => ?_
              refine j_st HM ?_; clear HM; intro w1 HM
              refine hK9 _ _ heldN ?_; clear hK9 K9
              refine k_mv 25 heldN ?_
              refine wpAnyL_done (by kernel_rfl) ?_ _
              (go_wp2_with fail; go_meet; (case rel => exact ⟨_, rfl, rfl, HM⟩))
          case rest =>
            clear HM
            obtain ⟨b12, rfl, rfl, HM⟩ := hcut
            go_step
            go_wp2_with (first | fail | (first | ((with_reducible refine g_ld ?_); refine a_ld HM ?_) | ((with_reducible refine g_st ?_); refine a_st HM ?_; clear HM; intro w1 HM) | ((with_reducible refine g_al ?_); refine a_al HM ?_; clear HM; intro bk w1 HM) | ((with_reducible refine g_bx ?_); refine a_bx HM ?_; clear HM; intro bk w1 HM) | ((with_reducible refine g_bld ?_); refine a_bld ?_)))
            go_roundw
            case rel => exact ⟨i + 1, by go_num, by omega, HM.pick⟩
            case measure => simp [intOf]; omega
        · obtain rfl : i = k := by omega
          have l4 := la_arr8 f i
          have s4 := sa_arr8 f f 0 i
          go_wp2_with (first | fail | (first | ((with_reducible refine g_ld ?_); refine a_ld HM ?_) | ((with_reducible refine g_st ?_); refine a_st HM ?_; clear HM; intro w1 HM) | ((with_reducible refine g_al ?_); refine a_al HM ?_; clear HM; intro bk w1 HM) | ((with_reducible refine g_bx ?_); refine a_bx HM ?_; clear HM; intro bk w1 HM) | ((with_reducible refine g_bld ?_); refine a_bld ?_)))
          refine bodyPost_ret (r_ct (b := b2) (k := 0) rfl rfl (HM.get (by ((repeat (first | exact Look.here | refine Look.there ?_)); done))) (la_arr8 f i)) rfl ⟨f, Z, rfl, HM.pick, Lib.hid ⟨HSV.out, HFT.out⟩⟩
end Go.Proofs.Ytadnddffdedjgaa
