/- MaterialityMeasures, walked. -/
import Derived.Test.YteamjgifohamgaaMtL
namespace Go.Proofs.Yteamjgifohamgaa
set_option maxRecDepth 8000
open Go.RowKit
theorem Mt.vc_out {a b o : Option Rat} {e : Int} (h : (o, e) = Mt.size a b) : Rt.Vc o (Rt.outV o) := by
  rcases Mt.size_cases h with ⟨s, rfl, _, hf⟩ | ⟨rfl, _⟩
  · exact ⟨hf, rfl⟩
  · exact Rt.vc_zero
set_option maxHeartbeats 8000000 in
theorem measures_any (sv : Value) (L : List Mt.D) (d : Mt.D) (l : Option Rat) (cl : Array Value) (w : World) (hR : RdS 135 w sv (L.map Mt.c)) (hv : Rt.Vc l cl) :
    Calls Try.prog 3 #[sv, .agg (Mt.c d), .agg cl] w fun r w' => r = .returned (.bool true) ∧ Below w.heap.size w w' := by
  have HM := Mem.start w
  obtain ⟨A, cap, rfl⟩ := hR.form1
  rw [List.length_map] at hR ⊢
  have HR := Lib.hid hR
  clear hR
  by_cases hl : L.length ≤ 12
  · have g1 : decide ((12 : Int) < L.length) = false := decide_eq_false (by omega)
    have g2 : ((12 : Int) < L.length) = False := eq_false (by omega)
    obtain ⟨o, e, hs⟩ : ∃ o e, Hid ((o, e) = Mt.size d.ow d.oi) := ⟨_, _, Lib.hid rfl⟩
    obtain ⟨K, e1, hm⟩ : ∃ K e1, Hid ((K, e1) = Mt.mat l L) := ⟨_, _, Lib.hid rfl⟩
    obtain ⟨v, t, e2, hf⟩ : ∃ v t e2, Hid ((v, t, e2) = Mt.fst3 K e1) := ⟨_, _, _, Lib.hid rfl⟩
    have S1 := fun w => size_any d o e hs w
    have S2 := fun w => rsize_any d o e hs w
    have M1 := fun w h => material_any (.slice A L.length cap) L l cl w hv h hl K e1 hm
    have M2 := fun w h => rmaterial_any (.slice A L.length cap) L l cl w hv h hl K e1 hm
    have F1 := fun w h => first_any (.slice A L.length cap) L l cl w hv h hl K e1 hm v t e2 hf
    have F2 := fun w h => rfirst_any (.slice A L.length cap) L l cl w hv h hl K e1 hm v t e2 hf
    have hK := Mt.mat_len hm.out
    have hK2 : K.length ≤ 100 := by omega
    have E := eq_rat_any 9996 (Mt.vc_out hs.out)
    have zr := za_rat
    have k1 := la_r66 hv.size
    have kd := Mt.la d
    have so : SA 28 (Bg.rZ 0 0) 0 (.agg (Rt.outV o)) (Rt.outV o) := sa_r66 (Rt.outV_size o) (Rt.outV_one o) (rZ_size 0 0)
    have ko := la_r66 (Rt.outV_size o)
    clear hs hm hf hK
    go_enter Try.func3, Try.ntmps3
    go_wp2_with (first | first
      | (go_at_call 5; ((with_reducible refine (S1 _).mono ?_); rintro e9 w2 ⟨rfl, hL⟩; replace HM := HM.call hL; clear hL))
      | (go_at_call 6; ((with_reducible refine (S2 _).mono ?_); rintro e9 w2 ⟨rfl, hL⟩; replace HM := HM.call hL; clear hL))
      | (go_at_call 7; (with_reducible refine (M1 _ (HR.out.below HM.low)).mono ?_); rintro e9 w2 ⟨s1, B1, rfl, HS1, HM1⟩; replace HM : Mem w [] (_ :: _ :: _ :: _ :: B1) w2 := (HM.join HM1).swapA; clear HM1)
      | (go_at_call 8; (with_reducible refine (M2 _ (HR.out.below HM.low)).mono ?_); rintro e9 w2 ⟨s2, B2, rfl, HS2, HM1⟩; replace HM : Mem w [] (_ :: _ :: _ :: _ :: (B1 ++ B2)) w2 := (HM.join HM1).swapA; clear HM1)
      | (go_at_call 9; ((with_reducible refine (F1 _ (HR.out.below HM.low)).mono ?_); rintro e9 w2 ⟨rfl, hL⟩; replace HM := HM.call hL; clear hL))
      | (go_at_call 10; ((with_reducible refine (F2 _ (HR.out.below HM.low)).mono ?_); rintro e9 w2 ⟨rfl, hL⟩; replace HM := HM.call hL; clear hL))
      | (go_at_call 11; ((with_reducible refine (dsame_any _ _ K _ (HS1.out.rd HM (by intro p hp; (repeat (first | exact hp | exact List.mem_append_left _ hp | exact (List.mem_singleton.1 hp) ▸ List.mem_cons_self | apply List.mem_append_right | apply List.mem_cons_of_mem)); done)) (HS2.out.rd HM (by intro p hp; (repeat (first | exact hp | exact List.mem_append_left _ hp | exact (List.mem_singleton.1 hp) ▸ List.mem_cons_self | apply List.mem_append_right | apply List.mem_cons_of_mem)); done)) hK2).mono ?_); rintro e9 w2 ⟨rfl, hL⟩; replace HM := HM.call hL; clear hL))
      | (go_at_call 4; ((with_reducible refine (mawake_any _).mono ?_); rintro e9 w2 ⟨rfl, hL⟩; replace HM := HM.call hL; clear hL))
      | ((with_reducible refine g_bin ?_); refine a_cmps .eql true (.inl rfl) (E) rfl (by kernel_rfl) ?_) | (first | ((with_reducible refine g_ld ?_); refine a_ld HM ?_) | ((with_reducible refine g_st ?_); refine a_st HM ?_; clear HM; intro w1 HM) | ((with_reducible refine g_al ?_); refine a_al HM ?_; clear HM; intro bk w1 HM) | ((with_reducible refine g_bx ?_); refine a_bx HM ?_; clear HM; intro bk w1 HM) | ((with_reducible refine g_bld ?_); refine a_bld ?_)))
    go_ret
    exact ⟨rfl, HM.low⟩
  · have g1 : decide ((12 : Int) < L.length) = true := decide_eq_true (by omega)
    have g2 : ((12 : Int) < L.length) = True := eq_true (by omega)
    have kd := Mt.la d
    have k1 := la_r66 hv.size
    go_enter Try.func3, Try.ntmps3
    go_wp2_with (first | (go_at_call 4; ((with_reducible refine (mawake_any _).mono ?_); rintro e9 w2 ⟨rfl, hL⟩; replace HM := HM.call hL; clear hL)) | (first | ((with_reducible refine g_ld ?_); refine a_ld HM ?_) | ((with_reducible refine g_st ?_); refine a_st HM ?_; clear HM; intro w1 HM) | ((with_reducible refine g_al ?_); refine a_al HM ?_; clear HM; intro bk w1 HM) | ((with_reducible refine g_bx ?_); refine a_bx HM ?_; clear HM; intro bk w1 HM) | ((with_reducible refine g_bld ?_); refine a_bld ?_)))
    go_ret
    exact ⟨rfl, HM.low⟩
end Go.Proofs.Yteamjgifohamgaa
