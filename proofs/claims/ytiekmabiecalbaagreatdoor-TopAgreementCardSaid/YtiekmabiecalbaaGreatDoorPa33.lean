/- Walks. -/
import Derived.Lib.SlicesS
import Derived.Test.YtiekmabiecalbaaGreatDoorPa25
namespace Go.Proofs.YtiekmabiecalbaaGreatDoor
set_option maxHeartbeats 16000000
set_option maxRecDepth 8000
section
open Go.RowKit Go.Maps
theorem counting_any (sv : Value) (M : List As.Mk) (k : Int) (w : World) (hR : As.Rd w sv M) (hok : As.ok M = true) :
    Calls Tryz.prog 89 #[sv, .int .i64 k] w fun r w' => ∃ b n, r = .returned (.map (some b)) ∧ Hid (IMap w' b n (As.cnt M k M.length)) ∧ w.heap.size ≤ b ∧ Below w.heap.size w w' := by
 have HM := Mem.start w
 obtain ⟨A, cap, rfl⟩ := hR.form
 have HR := Zi hR
 have HOK := Zi hok
 have hML := As.ok_len hok
 have hz := As.za
 have hmm := @run_makeMap Tryz.prog
 clear hR hok
 go_enter Tryz.func89, Tryz.ntmps89
 go_wp2_with fail
 replace HM := HM.call (below_new w (.map #[] 0))
 have HI := IMap.made w
 obtain ⟨bm, hbm⟩ : ∃ x, x = w.heap.size := ⟨_, rfl⟩
 have hble : w.heap.size ≤ bm := by omega
 rw [← hbm] at HI ⊢
 clear hmm
 go_loopw [11] (fun iv wr => ∃ (i : Nat), iv = .int .i64 (i : Nat) ∧ i ≤ M.length ∧ Hid (IMap wr bm i (As.cnt M k i)) ∧ Mem w [] [] wr) (fun iv _ => M.length - (intOf iv).toNat)
 case atStart => exact ⟨0, rfl, by omega, Zi (HI.congr fun s => (As.cnt_zero M k s).symm), HM⟩
 case round =>
  clear HM HI hbm
  obtain ⟨i, rfl, hi, HI, HW⟩ := hrel
  have HM := Mem.start wr
  by_cases hlt : i < M.length
  ·obtain ⟨m, hm⟩ : ∃ m, M[i]? = some m := ⟨_, List.getElem?_eq_getElem hlt⟩
   have hg := As.ok_get HOK.out hm
   obtain ⟨b, off, cs, rfl, HB, l0, l1, l2, l3⟩ := (HR.out.below HW.low).at_ hm
   have hlt1 : (i : Int) < M.length := by omega
   have sa := As.sa As.z0 m
   have la0 := As.la0 m
   have la1 := As.la1 m
   have la2 := As.la2 m
   have hs : m.key.size ≤ maxLen := len_small Zo
   clear l1 l2 l3
   by_cases hk : k < m.kn
   ·have hst : ∀ s, As.cnt M k i s = As.cnt M k M.length s := fun s => (As.cnt_stop (n := i) (fun j p hj hp => by
      rcases Nat.lt_or_ge i j with h | h
      ·have := As.ok_lt HOK.out h hm hp; omega
      ·obtain rfl : j = i := by omega
       rw [hm] at hp; injection hp with hp; subst hp; exact hk) hi s).symm
    have HST := Zi hst
    clear hm hst hg
    have g1 : decide (k < m.kn) = true := Zt hk
    go_wp2_with (first | ((with_reducible refine g_ld ?_); refine a_ld HM ?_) | ((with_reducible refine g_st ?_); refine a_st HM ?_; clear HM; intro w1 HM) | ((with_reducible refine g_al ?_); refine a_al HM ?_; clear HM; intro bk w1 HM))
    go_ret
    exact ⟨bm, _, rfl, Zi ((HI.out.below HM.low).congr HST.out), hble, (HW.call HM.low).low⟩
   ·have HS := Zi (As.cnt_step hm (show m.kn ≤ k by omega))
    have g1 : decide (k < m.kn) = false := Zf hk
    clear hm hg
    cases hv : m.vd with
    | true =>
     rw [hv] at la2
     have HV := Zi hv
     clear hv hk
     go_wp2_with (first | ((with_reducible refine g_del ?_); refine a_del (HI.out.below HM.low) hs ?_; intro w1 HI2 hg) | (first | ((with_reducible refine g_ld ?_); refine a_ld HM ?_) | ((with_reducible refine g_st ?_); refine a_st HM ?_; clear HM; intro w1 HM) | ((with_reducible refine g_al ?_); refine a_al HM ?_; clear HM; intro bk w1 HM)))
     go_roundw
     case rel => exact ⟨i + 1, by go_num, by omega, Zi ((HI2.mono Zo).congr fun s => by rw [HS.out s, HV.out]; by_cases e : m.key = s <;> simp [e]), (HW.call HM.low).side0 hg hble⟩
     case measure => simp [intOf]; omega
    | false =>
     rw [hv] at la2
     have HV := Zi hv
     clear hv hk
     go_wp2_with (first | ((with_reducible refine g_upd ?_); refine a_upd i (HI.out.below HM.low) Zo hs Zo ?_; intro w1 HI2 hg) | (first | ((with_reducible refine g_ld ?_); refine a_ld HM ?_) | ((with_reducible refine g_st ?_); refine a_st HM ?_; clear HM; intro w1 HM) | ((with_reducible refine g_al ?_); refine a_al HM ?_; clear HM; intro bk w1 HM)))
     go_roundw
     case rel => exact ⟨i + 1, by go_num, by omega, Zi ((HI2.mono Zo).congr fun s => by rw [HS.out s, HV.out]; by_cases e : m.key = s <;> simp [e]), (HW.call HM.low).side0 hg hble⟩
     case measure => simp [intOf]; omega
  ·obtain rfl : i = M.length := by omega
   go_wp2_with fail
   go_ret
   exact ⟨bm, _, rfl, HI, hble, HW.low⟩
end
end Go.Proofs.YtiekmabiecalbaaGreatDoor
