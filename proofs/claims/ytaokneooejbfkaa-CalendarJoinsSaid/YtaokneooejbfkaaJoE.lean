/- same: equal calendars. -/
import Derived.Test.YtaokneooejbfkaaJoC
import Derived.WalkMore
namespace Go.Proofs.Ytaokneooejbfkaa
set_option maxRecDepth 8000
open Go.RowKit
theorem bytes_eq (x : ByteArray) : (x.toList == x.toList) = true := beq_self_eq_true _
set_option maxHeartbeats 4000000 in
theorem sameI_any (Aa Ab : Option Addr) (a : List Int) (ca cb : Nat) (w : World) (hA : IntsAt w Aa a) (hB : IntsAt w Ab a) (hl : a.length ≤ 9223372036854775807) :
    Calls Try.prog 19 #[.slice Aa a.length ca, .slice Ab a.length cb] w fun e w' => e = .returned (.bool true) ∧ Below w.heap.size w w' := by
  have HM := Mem.start w
  have HA := Lib.hid hA
  have HB := Lib.hid hB
  clear hA hB
  go_enter Try.func19, Try.ntmps19
  go_wp2_with (first | fail | (first | ((with_reducible refine g_ld ?_); refine a_ld HM ?_) | ((with_reducible refine g_st ?_); refine a_st HM ?_; clear HM; intro w1 HM) | ((with_reducible refine g_al ?_); refine a_al HM ?_; clear HM; intro bk w1 HM) | ((with_reducible refine g_bx ?_); refine a_bx HM ?_; clear HM; intro bk w1 HM) | ((with_reducible refine g_bld ?_); refine a_bld ?_)))
  go_loopw [4, 5] (fun rv iv wr => ∃ i : Nat, rv = .bool false ∧ iv = .int .i64 (i : Nat) ∧ i ≤ a.length ∧ Mem w [] [] wr) (fun _ iv _ => a.length - (intOf iv).toNat)
  case atStart => exact ⟨0, rfl, rfl, by omega, HM⟩
  case round =>
    clear HM
    obtain ⟨i, rfl, rfl, hi, HM⟩ := hrel
    by_cases hit : i < a.length
    · have hit1 : (i : Int) < a.length := by omega
      obtain ⟨x, hx⟩ : ∃ x, a[i]? = some x := ⟨_, List.getElem?_eq_getElem hit⟩
      obtain ⟨bA, oA, cA, rfl, HRA, kA⟩ := HA.out.ld hx
      obtain ⟨bB, oB, cB, rfl, HRB, kB⟩ := HB.out.ld hx
      clear hx
      go_upto_region 6 with (first | fail | (first | ((with_reducible refine g_ld ?_); refine a_ld HM ?_) | ((with_reducible refine g_st ?_); refine a_st HM ?_; clear HM; intro w1 HM) | ((with_reducible refine g_al ?_); refine a_al HM ?_; clear HM; intro bk w1 HM) | ((with_reducible refine g_bx ?_); refine a_bx HM ?_; clear HM; intro bk w1 HM) | ((with_reducible refine g_bld ?_); refine a_bld ?_)))
      refine start_M [] HM (by kernel_rfl) (fun w0x H9 => ?_)
      replace HM := H9; clear H9
      refine k_mv 0 (heldE HM) ?_
      refine k_mv 1 (heldE HM) ?_
      refine k_ia 2 (heldE HM) ?_
      refine k_ld 3 [] (heldE HM) ?_
      refine k_mv 4 (heldE HM) ?_
      refine k_mv 5 (heldE HM) ?_
      refine k_ia 6 (heldE HM) ?_
      refine k_ld 7 [] (heldE HM) ?_
      refine k_bin 8 (heldE HM) ?_
      refine wpAnyL_done (by kernel_rfl) ?_ _
      go_wp2_with fail
      go_roundw
      case rel => exact ⟨i + 1, rfl, by go_num, by omega, HM⟩
      case measure => simp [intOf]; omega
    · obtain rfl : a.length = i := by omega
      go_wp2_with (first | fail | (first | ((with_reducible refine g_ld ?_); refine a_ld HM ?_) | ((with_reducible refine g_st ?_); refine a_st HM ?_; clear HM; intro w1 HM) | ((with_reducible refine g_al ?_); refine a_al HM ?_; clear HM; intro bk w1 HM) | ((with_reducible refine g_bx ?_); refine a_bx HM ?_; clear HM; intro bk w1 HM) | ((with_reducible refine g_bld ?_); refine a_bld ?_)))
      go_ret
      exact ⟨rfl, HM.low⟩
theorem Jo.wk_eq (k : Nat → Bool) (w : World) : Sem.run Try.prog (Op.equalIn 10000 23 (.agg (Jo.wk k)) (.agg (Jo.wk k))) w = .ok true w := by
  unfold Jo.wk
  generalize k 0 = b0; generalize k 1 = b1; generalize k 2 = b2; generalize k 3 = b3; generalize k 4 = b4; generalize k 5 = b5; generalize k 6 = b6
  cases b0 <;> cases b1 <;> cases b2 <;> cases b3 <;> cases b4 <;> cases b5 <;> cases b6 <;> kernel_rfl
theorem same_any (x y : Jo.C) (w : World) (hs : x.s = y.s) (hk : x.k = y.k) (hh : x.hs = y.hs) (hX : IntsAt w x.A x.hs) (hY : IntsAt w y.A y.hs) (hl : x.hs.length ≤ 9223372036854775807) :
    Calls Try.prog 9 #[.agg x.cells, .agg y.cells] w fun e w' => e = .returned (.bool true) ∧ Below w.heap.size w w' := by
  obtain ⟨s, k, hs1, A, c⟩ := x
  obtain ⟨s2, k2, hs2, A2, c2⟩ := y
  dsimp only at hs hk hh hX hY hl
  subst hs hk hh
  have HM := Mem.start w
  have S := fun w' (hB : Below w.heap.size w w') => sameI_any A A2 hs1 c c2 w' (hX.below hB) (hY.below hB) hl
  have l1 := la_cname s k (.slice A hs1.length c)
  have l2 := la_cname s k (.slice A2 hs1.length c2)
  have m1 := la_cweek s k (.slice A hs1.length c)
  have m2 := la_cweek s k (.slice A2 hs1.length c2)
  have n1 := la_chol s k (.slice A hs1.length c)
  have n2 := la_chol s k (.slice A2 hs1.length c2)
  have hb := bytes_eq s
  have hw := Jo.wk_eq k
  clear hX hY
  go_enter Try.func9, Try.ntmps9
  go_wp2_with (first | (go_at_call 19; ((with_reducible refine (S _ HM.low).mono ?_); rintro e9 w2 ⟨rfl, hL⟩; replace HM := HM.call hL; clear hL)) | (first | ((with_reducible refine g_ld ?_); refine a_ld HM ?_) | ((with_reducible refine g_st ?_); refine a_st HM ?_; clear HM; intro w1 HM) | ((with_reducible refine g_al ?_); refine a_al HM ?_; clear HM; intro bk w1 HM) | ((with_reducible refine g_bx ?_); refine a_bx HM ?_; clear HM; intro bk w1 HM) | ((with_reducible refine g_bld ?_); refine a_bld ?_)))
  go_ret
  exact ⟨rfl, HM.low⟩
end Go.Proofs.Ytaokneooejbfkaa
