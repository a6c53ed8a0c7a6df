/- Same; the example of the chapter. -/
import Derived.Test.YteamjgifohamgaaGreatMtH
namespace Go.Proofs.YteamjgifohamgaaGreat
set_option maxRecDepth 8000
open Go.RowKit
set_option maxHeartbeats 4000000 in
theorem dsame_any (va vb : Value) (L : List Mt.D) (w : World) (hA : RdS 135 w va (L.map Mt.c)) (hB : RdS 135 w vb (L.map Mt.c)) (hl : L.length ≤ 100) :
    Calls Tryz.prog 17 #[va, vb] w fun r w' => r = .returned (.bool true) ∧ Below w.heap.size w w' := by
  have HM := Mem.start w
  obtain ⟨A, cap, rfl⟩ := hA.form1
  obtain ⟨B, cap2, rfl⟩ := hB.form1
  have HA := Lib.hid hA
  have HB := Lib.hid hB
  clear hA hB
  rw [List.length_map] at HA HB ⊢
  have g1 : ((L.length : Int) != (L.length : Int)) = false := by simp
  go_enter Tryz.func17, Tryz.ntmps17
  go_wp2_with fail
  go_loopw [5] (fun iv wr => ∃ (i : Nat), iv = .int .i64 (i : Nat) ∧ i ≤ L.length ∧ Mem w [] [] wr) (fun iv _ => L.length - (intOf iv).toNat)
  case atStart => exact ⟨0, rfl, by omega, HM⟩
  case round =>
    clear HM
    obtain ⟨i, rfl, hi, HM⟩ := hrel
    by_cases hlt : i < L.length
    · obtain ⟨d, hd⟩ : ∃ d, L[i]? = some d := ⟨_, List.getElem?_eq_getElem hlt⟩
      obtain ⟨b, off, cs, rfl, HC, l0, -⟩ := HA.out.at135 hd
      obtain ⟨b2, off2, cs2, rfl, HC2, l1, -⟩ := HB.out.at135 hd
      have hlt1 : (i : Int) < L.length := by omega
      have E := Mt.eq_self d
      clear hd
      go_upto_region 6 with fail
      refine start_M [] HM (by kernel_rfl) (fun w0x H9 => ?_)
      replace HM := H9; clear H9
      refine k_mv 0 (heldE HM) ?_
      refine k_mv 1 (heldE HM) ?_
      refine k_ia 2 (heldE HM) ?_
      refine k_ld 3 [] (heldE HM) ?_
      refine k_mv 4 (heldE HM) ?_
      refine k_mv 5 (heldE HM) ?_
      refine k_ia 6 (heldE HM) ?_
      refine k_ld 7 [] (heldE HM) ?_
      refine t_eq (i := 8) (v := ?_) [] rfl rfl rfl (by kernel_rfl) (fun _ _ _ h => h) (heldE HM) ?_ ?_; rotate_left 1; (focus ((refine y_cmps .neq false (.inr rfl) (E) rfl (by kernel_rfl) (x := ?_) (y := ?_) (t := ?_) ?_ ?_ ?_ ?_; rotate_left 3; (focus rfl); (focus rfl); (focus ((conv => lhs; whnf) <;> rfl)); ((conv => lhs; whnf) <;> rfl)))); ((try simp only [List.setIfInBounds_toArray]); (try simp only [List.set_cons_succ]); (try simp only [List.set_cons_zero]))
      refine wpAnyL_done (by kernel_rfl) ?_ _
      go_wp2_with fail
      go_roundw
      case rel => exact ⟨i + 1, by go_num, by omega, HM⟩
      case measure => simp [intOf]; omega
    · obtain rfl : i = L.length := by omega
      go_wp2_with fail
      go_ret
      exact ⟨rfl, HM.low⟩
theorem sratio_any (n d : Int) (x : Rat) (hn1 : -9223372036854775808 ≤ n) (hn2 : n < 9223372036854775808) (hd1 : 1 ≤ d) (hd2 : d < 9223372036854775808) (hx : Hid (x = Rat.divInt n d)) (w : World) :
    Calls Tryz.prog 11 #[.int .i64 n, .int .i64 d] w fun r w' => r = .returned (.agg (Rt.qA x)) ∧ Below w.heap.size w w' := by
  have HM := Mem.start w
  have hz := za_rat
  have s1 := sa_q x (rZ_size 0 0)
  have hm : max d 1 = d := by omega
  have O := fun w => over_ex n d x hn1 hn2 (by omega) hd2 (by omega) hx w
  have F := Ex.fv (qA_size x) 0
  go_enter Tryz.func11, Tryz.ntmps11
  go_wp2_with (first | first | (go_at_call 9; ((with_reducible refine (O _).mono ?_); rintro e9 w2 ⟨rfl, hL⟩; replace HM := HM.call hL; clear hL)) | ((with_reducible refine g_fld ?_); refine a_fld ?_ F) | (first | ((with_reducible refine g_ld ?_); refine a_ld HM ?_) | ((with_reducible refine g_st ?_); refine a_st HM ?_; clear HM; intro w1 HM) | ((with_reducible refine g_al ?_); refine a_al HM ?_; clear HM; intro bk w1 HM) | ((with_reducible refine g_bx ?_); refine a_bx HM ?_; clear HM; intro bk w1 HM) | ((with_reducible refine g_bld ?_); refine a_bld ?_)))
  refine bodyPost_ret (r_c rfl rfl (HM.get (by ((repeat (first | exact Look.here | refine Look.there ?_)); done))) (la_q x)) rfl ⟨rfl, HM.low⟩
end Go.Proofs.YteamjgifohamgaaGreat
