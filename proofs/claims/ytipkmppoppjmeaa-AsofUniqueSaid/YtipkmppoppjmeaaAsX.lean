/- The law AsofExact, walked. -/
import Derived.Test.YtipkmppoppjmeaaAsH
namespace Go.Proofs.Ytipkmppoppjmeaa
set_option maxRecDepth 8000
open Go.RowKit Go.Maps
theorem As.visR_len {M : List As.Mk} {k : Int} {zs : List Int} {e : Int} (h : (zs, e) = As.visR M k) : zs.length ≤ 4611686018427387904 := by
  unfold As.visR at h
  split at h
  · rename_i hok
    have h4 := As.ok_len hok
    obtain ⟨rfl, _⟩ := Prod.mk.inj h
    rw [List.length_map]
    unfold As.vis
    exact Nat.le_trans (List.length_filter_le _ _) (by rw [List.length_range]; omega)
  · obtain ⟨rfl, _⟩ := Prod.mk.inj h; simp
theorem As.chgR_len {M : List As.Mk} {a b : Int} {zs : List (List UInt8)} {e : Int} (h : (zs, e) = As.chgR M a b) : zs.length ≤ 4611686018427387904 := by
  unfold As.chgR at h
  split at h
  · rename_i hok
    have h4 := As.ok_len hok
    obtain ⟨rfl, _⟩ := Prod.mk.inj h
    exact Nat.le_trans (As.chg_len _ _ _ _) (by omega)
  · obtain ⟨rfl, _⟩ := Prod.mk.inj h; simp
set_option maxHeartbeats 8000000 in
theorem exact_any (sv : Value) (M : List As.Mk) (k k2 : Int) (key : ByteArray) (w : World) (hR : As.Rd w sv M) (hs : key.size ≤ maxLen) :
    Calls Try.prog 3 #[sv, .int .i64 k, .int .i64 k2, .string key] w fun e w' => e = .returned (.bool true) ∧ Below w.heap.size w w' := by
  have HM := Mem.start w
  have HR := Lib.hid hR
  have hML := hR.2
  obtain ⟨zs, e1, h1⟩ : ∃ zs e, Hid ((zs, e) = As.visR M k) := ⟨_, _, Lib.hid rfl⟩
  obtain ⟨n, t, e2, h2⟩ : ∃ n t e, Hid ((n, t, e) = As.findR M k key) := ⟨_, _, _, Lib.hid rfl⟩
  obtain ⟨ys, e3, h3⟩ : ∃ zs e, Hid ((zs, e) = As.chgR M k k2) := ⟨_, _, Lib.hid rfl⟩
  obtain ⟨e0, he0⟩ : ∃ e0, Hid (e0 = As.err M) := ⟨_, Lib.hid rfl⟩
  have l1 := As.visR_len h1.out
  have l3 := As.chgR_len h3.out
  clear hR
  go_enter Try.func3, Try.ntmps3
  go_wp2_with (first | first
    | (go_at_call 9; (with_reducible refine (visible_any _ _ _ _ (As.Rd.below HR.out HM.low) _ _ h1).mono ?_); rintro e9 w2 ⟨sa, Ba, rfl, HSa, HM1⟩; replace HM := HM.join HM1; clear HM1)
    | (go_at_call 10; (with_reducible refine (rvisible_any _ _ _ _ (As.Rd.below HR.out HM.low) _ _ h1).mono ?_); rintro e9 w2 ⟨sb, Bb, rfl, HSb, HM1⟩; replace HM := HM.join HM1; clear HM1)
    | (go_at_call 13; (with_reducible refine (changed_any _ _ _ _ _ (As.Rd.below HR.out HM.low) _ _ h3).mono ?_); rintro e9 w2 ⟨sc, Bc, rfl, HSc, HM1⟩; replace HM := HM.join HM1; clear HM1)
    | (go_at_call 14; (with_reducible refine (rchanged_any _ _ _ _ _ (As.Rd.below HR.out HM.low) _ _ h3).mono ?_); rintro e9 w2 ⟨sd, Bd, rfl, HSd, HM1⟩; replace HM := HM.join HM1; clear HM1)
    | (go_at_call 11; ((with_reducible refine (find_any _ _ _ _ _ (As.Rd.below HR.out HM.low) hs _ _ _ h2).mono ?_); rintro e9 w2 ⟨rfl, hL⟩; replace HM := HM.call hL; clear hL))
    | (go_at_call 12; ((with_reducible refine (rfind_any _ _ _ _ _ (As.Rd.below HR.out HM.low) _ _ _ h2).mono ?_); rintro e9 w2 ⟨rfl, hL⟩; replace HM := HM.call hL; clear hL))
    | (go_at_call 16; ((with_reducible refine (check_any _ M _ (As.Rd.below HR.out HM.low) e0 he0).mono ?_); rintro e9 w2 ⟨rfl, hL⟩; replace HM := HM.call hL; clear hL))
    | (go_at_call 17; ((with_reducible refine (rcheck_any _ M _ (As.Rd.below HR.out HM.low) e0 he0).mono ?_); rintro e9 w2 ⟨rfl, hL⟩; replace HM := HM.call hL; clear hL))
    | (go_at_call 15; ((with_reducible refine (known_any _).mono ?_); rintro e9 w2 ⟨rfl, hL⟩; replace HM := HM.call hL; clear hL))
    | (go_at_call 18; ((with_reducible refine (sameInts_any _ _ zs zs _ (HSa.out.rd HM (by intro p hp; (repeat (first | exact hp | exact List.mem_append_left _ hp | exact (List.mem_singleton.1 hp) ▸ List.mem_cons_self | apply List.mem_append_right | apply List.mem_cons_of_mem)); done)) (HSb.out.rd HM (by intro p hp; (repeat (first | exact hp | exact List.mem_append_left _ hp | exact (List.mem_singleton.1 hp) ▸ List.mem_cons_self | apply List.mem_append_right | apply List.mem_cons_of_mem)); done)) l1 l1 true (Lib.hid (decide_eq_true rfl).symm)).mono ?_); rintro e9 w2 ⟨rfl, hL⟩; replace HM := HM.call hL; clear hL))
    | (go_at_call 19; ((with_reducible refine (sameTexts_any _ _ ys ys _ (HSc.out.rd HM (by intro p hp; (repeat (first | exact hp | exact List.mem_append_left _ hp | exact (List.mem_singleton.1 hp) ▸ List.mem_cons_self | apply List.mem_append_right | apply List.mem_cons_of_mem)); done)) (HSd.out.rd HM (by intro p hp; (repeat (first | exact hp | exact List.mem_append_left _ hp | exact (List.mem_singleton.1 hp) ▸ List.mem_cons_self | apply List.mem_append_right | apply List.mem_cons_of_mem)); done)) l3 l3 true (Lib.hid (decide_eq_true rfl).symm)).mono ?_); rintro e9 w2 ⟨rfl, hL⟩; replace HM := HM.call hL; clear hL)) | (first | ((with_reducible refine g_ld ?_); refine a_ld HM ?_) | ((with_reducible refine g_st ?_); refine a_st HM ?_; clear HM; intro w1 HM) | ((with_reducible refine g_al ?_); refine a_al HM ?_; clear HM; intro bk w1 HM) | ((with_reducible refine g_bx ?_); refine a_bx HM ?_; clear HM; intro bk w1 HM) | ((with_reducible refine g_bld ?_); refine a_bld ?_)))
  go_ret
  exact ⟨rfl, HM.low⟩
end Go.Proofs.Ytipkmppoppjmeaa
