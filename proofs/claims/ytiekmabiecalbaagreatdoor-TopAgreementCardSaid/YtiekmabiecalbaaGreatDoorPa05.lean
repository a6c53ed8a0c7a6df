/- Walks. -/
import Derived.Lib.Strings
import Derived.Lib.Slices
import Derived.Test.YtiekmabiecalbaaGreatDoorPa03
import Derived.Test.YtiekmabiecalbaaGreatDoorPa04
namespace Go.Proofs.YtiekmabiecalbaaGreatDoor
set_option maxHeartbeats 16000000
open Go.RowKit
set_option maxRecDepth 8000
section
theorem ba_ext (s : ByteArray) {k : Nat} (h : k ≤ s.size) : (s.extract 0 k).size = k := by rw [ByteArray.size_extract]; omega
theorem trb_any (s : ByteArray) (hs : s.size ≤ 9223372036854775807) (w : World) :
    Calls Tryz.prog 123 #[.string s, .int .u8 48] w fun e w' => (∃ r : ByteArray, e = .returned (.string r) ∧ r.size ≤ s.size) ∧ w = w' := by
 go_enter Tryz.func123, Tryz.ntmps123
 go_wp2
 go_loop [0] (fun v => ∃ t : ByteArray, v = .string t ∧ t.size ≤ s.size) (fun v => match v with | .string t => t.size | _ => 0)
 case atStart => exact ⟨s, rfl, Nat.le_refl _⟩
 case round =>
  obtain ⟨t, rfl, ht⟩ := hrel
  by_cases h0 : t.size = 0
  ·have h1 : ¬ (0 : Int) < t.size := by omega
   clear h0
   go_wp2
   go_ret
   exact ⟨⟨t, rfl, ht⟩, rfl⟩
  ·obtain ⟨m, hm⟩ : ∃ m, t.size = m + 1 := ⟨t.size - 1, by omega⟩
   have h1 : (0 : Int) < t.size := by omega
   have hlt : m < t.size := by omega
   have hex := ba_ext t (k := m) Zo
   by_cases hc : (t[m].toNat : Int) = 48
   ·clear h0
    go_wp2
    go_round
    case rel => exact ⟨_, rfl, by simp; omega⟩
    case measure => simp; omega
   ·clear h0
    go_wp2
    go_ret
    exact ⟨⟨t, rfl, ht⟩, rfl⟩
theorem tr_any (s : ByteArray) (hs : s.size ≤ 9223372036854775807) (w : World) :
    Calls Tryz.prog 81 #[.string s, .string { data := #[48] }] w fun e w' => (∃ r : ByteArray, e = .returned (.string r) ∧ r.size ≤ s.size) ∧ w = w' := by
 by_cases h0 : s.toList = []
 ·have h1 : s.toList.isEmpty = true := by rw [h0]; rfl
  clear h0
  go_enter Tryz.func81, Tryz.ntmps81
  go_wp2
  go_ret
  exact ⟨⟨s, rfl, Nat.le_refl _⟩, rfl⟩
 ·have h1 : s.toList.isEmpty = false := by cases h : s.toList with | nil => exact absurd h h0 | cons a l => rfl
  clear h0
  go_enter Tryz.func81, Tryz.ntmps81
  go_wp2_with (go_at_call 123; refine (trb_any s hs _).mono ?_; rintro e9 w9 ⟨⟨r, rfl, hr⟩, rfl⟩)
  go_ret
  exact ⟨⟨r, rfl, hr⟩, rfl⟩
def hp0 (s : ByteArray) : Bool := decide (1 ≤ s.size) && ((s.extract 0 1).data.toList == [48])
theorem hpl_any (s : ByteArray) (v : Bool) (hv : Hid (v = hp0 s)) (w : World) :
    Calls Tryz.prog 140 #[.string s, .string { data := #[48] }] w fun e w' => e = .returned (.bool v) ∧ w = w' := by
 go_enter Tryz.func140, Tryz.ntmps140
 by_cases h : 1 ≤ s.size
 ·go_wp2
  go_ret
  refine ⟨?_, rfl⟩
  rw [hv.out]
  unfold hp0
  rw [Zt h, ← ByteArray.toList_eq]
  rfl
 ·go_wp2
  go_ret
  refine ⟨?_, rfl⟩
  rw [hv.out]
  unfold hp0
  rw [Zf h]
  rfl
theorem hps_any (s : ByteArray) (v : Bool) (hv : Hid (v = hp0 s)) (w : World) :
    Calls Tryz.prog 164 #[.string s, .string { data := #[48] }] w fun e w' => e = .returned (.bool v) ∧ w = w' := by
 go_enter Tryz.func164, Tryz.ntmps164
 go_wp2_with (go_at_call 140; refine (hpl_any s v hv _).mono ?_; rintro e w' ⟨rfl, rfl⟩)
 go_ret
 exact ⟨rfl, rfl⟩
theorem mul64_any (k : Int) (h0 : 2 ≤ k) (h1 : k ≤ 6) (w : World) :
    Calls Tryz.prog 202 #[.int .u64 1, .int .u64 k] w fun e w' => e = .returned (.tuple #[.int .u64 0, .int .u64 k]) ∧ w = w' := by
 have hk : k = 2 ∨ k = 3 ∨ k = 4 ∨ k = 5 ∨ k = 6 := by omega
 go_enter Tryz.func202, Tryz.ntmps202
 rcases hk with rfl | rfl | rfl | rfl | rfl
 all_goals
  go_wp2
  go_ret2
  exact ⟨rfl, rfl⟩
theorem bmul_any (k : Int) (h0 : 2 ≤ k) (h1 : k ≤ 6) (w : World) :
    Calls Tryz.prog 163 #[.int .u64 1, .int .u64 k] w fun e w' => e = .returned (.tuple #[.int .u64 0, .int .u64 k]) ∧ w = w' := by
 go_enter Tryz.func163, Tryz.ntmps163
 go_wp2_with (go_at_call 202; refine (mul64_any k h0 h1 _).mono ?_; rintro e w' ⟨rfl, rfl⟩)
 go_ret2
 exact ⟨rfl, rfl⟩
theorem rep_any (k : Nat) (h0 : 1 ≤ k) (h1 : k ≤ 6) (w : World) :
    Calls Tryz.prog 122 #[.string { data := #[48] }, .int .i64 (k : Nat)] w fun e w' => (∃ r : ByteArray, e = .returned (.string r) ∧ r.size = k) ∧ w = w' := by
 have hk : k = 1 ∨ k = 2 ∨ k = 3 ∨ k = 4 ∨ k = 5 ∨ k = 6 := by omega
 go_enter Tryz.func122, Tryz.ntmps122
 rcases hk with rfl | rfl | rfl | rfl | rfl | rfl
 ·go_wp2
  go_ret
  exact ⟨⟨_, rfl, rfl⟩, rfl⟩
 all_goals
  go_wp2_with (first | (go_at_call 163; refine (bmul_any _ Zd Zd _).mono ?_; rintro e w' ⟨rfl, rfl⟩) | (go_at_call 164; (first | refine (hps_any _ false (Zi (by decide +kernel)) _).mono ?_ | refine (hps_any _ true (Zi (by decide +kernel)) _).mono ?_); rintro e w' ⟨rfl, rfl⟩))
  go_ret
  exact ⟨⟨_, rfl, rfl⟩, rfl⟩
/-- How many digits stand in front of the point. -/
def Ac.wl (n : Nat) : Nat := if n ≤ 6 then 1 else n - 6
theorem point6 (T : ByteArray) (m : Nat) (hT : T.size = m + 6) : T.extract 0 m = T.extract 0 m ∧ (T.extract 0 m).size = m ∧ (T.extract m (m + 6)).size = 6 := by
 refine ⟨rfl, ba_ext T Zo, ?_⟩
 rw [ByteArray.size_extract]; omega
theorem point_any (s : ByteArray) (h1 : 1 ≤ s.size) (hs : s.size ≤ 400) (w : World) :
    Calls Tryz.prog 80 #[.string s, .int .i64 6] w fun e w' => (∃ a b : ByteArray, e = .returned (.tuple #[.string a, .string b]) ∧ Hid (a.size = Ac.wl s.size) ∧ b.size = 6) ∧ Below w.heap.size w w' := by
 have HM := Mem.start w
 go_enter Tryz.func80, Tryz.ntmps80
 by_cases h6 : s.size ≤ 6
 ·have h7 : (s.size : Int) ≤ 6 := by omega
  obtain ⟨k, hk⟩ : ∃ k : Nat, (7 : Int) - s.size = k := ⟨7 - s.size, by omega⟩
  have R := fun w => rep_any k Zo Zo w
  rw [← hk] at R
  have HK := Zi hk
  have hk6 : k ≤ 6 := by omega
  clear hk
  go_upto_region 3 with (go_at_call 122; (with_reducible refine (R _).mono ?_); rintro e9 w9 ⟨⟨r, rfl, hr⟩, rfl⟩)
  obtain ⟨T, hT⟩ : ∃ T, T = r ++ s := ⟨_, rfl⟩
  have hTs : T.size = 1 + 6 := by have := HK.out; rw [hT, ByteArray.size_append]; omega
  rw [← hT]
  obtain ⟨-, p1, p2⟩ := point6 T 1 hTs
  have HA : Hid ((T.extract 0 1).size = Ac.wl s.size) := Zi (by rw [p1]; unfold Ac.wl; rw [if_pos h6])
  clear hT hr R HK h6 h7
  refine start_M [] HM Zk (fun w0x H9 => ?_)
  replace HM := H9; clear H9
  refine k_mv 0 (heldE HM) ?_
  refine k_mv 1 (heldE HM) ?_
  refine k_pv 2 (heldE HM) ?_
  refine k_mv 3 (heldE HM) ?_
  refine k_sub 4 (heldE HM) ?_
  refine t_pure (i := 5) (v := .string (T.extract 0 1)) rfl rfl Zk (fun _ _ _ h => h) (heldE HM) Zv ?_ ?_; (focus ((intro w9; first | (go_simp; done) | (go_simp; rfl) | (go_simp; intro h9; omega)))); ((try simp only [Za]); (try simp only [Zx]); (try simp only [Zy]))
  refine k_mv 6 (heldE HM) ?_
  refine k_mv 7 (heldE HM) ?_
  refine k_pv 8 (heldE HM) ?_
  refine k_mv 9 (heldE HM) ?_
  refine k_sub 10 (heldE HM) ?_
  refine t_pure (i := 11) (v := .string (T.extract 1 (1 + 6))) rfl rfl Zk (fun _ _ _ h => h) (heldE HM) Zv ?_ ?_; (focus ((intro w9; first | (go_simp; done) | (go_simp; rfl) | (go_simp; intro h9; omega)))); ((try simp only [Za]); (try simp only [Zx]); (try simp only [Zy]))
  refine k_mv 12 (heldE HM) ?_
  refine k_mv 13 (heldE HM) ?_
  refine wpAnyL_done Zk ?_ _
  go_wp2_with fail
  go_ret2
  exact ⟨⟨_, _, rfl, HA, p2⟩, HM.low⟩
 ·obtain ⟨m, hm⟩ : ∃ m, s.size = m + 6 := ⟨s.size - 6, by omega⟩
  have h7 : ¬ (s.size : Int) ≤ 6 := by omega
  obtain ⟨-, p1, p2⟩ := point6 s m hm
  have HA : Hid ((s.extract 0 m).size = Ac.wl s.size) := Zi (by rw [p1]; unfold Ac.wl; rw [if_neg h6]; omega)
  clear h6
  go_upto_region 3 with fail
  refine start_M [] HM Zk (fun w0x H9 => ?_)
  replace HM := H9; clear H9
  refine k_mv 0 (heldE HM) ?_
  refine k_mv 1 (heldE HM) ?_
  refine k_pv 2 (heldE HM) ?_
  refine k_mv 3 (heldE HM) ?_
  refine k_sub 4 (heldE HM) ?_
  refine t_pure (i := 5) (v := .string (s.extract 0 m)) rfl rfl Zk (fun _ _ _ h => h) (heldE HM) Zv ?_ ?_; (focus ((intro w9; first | (go_simp; done) | (go_simp; rfl) | (go_simp; intro h9; omega)))); ((try simp only [Za]); (try simp only [Zx]); (try simp only [Zy]))
  refine k_mv 6 (heldE HM) ?_
  refine k_mv 7 (heldE HM) ?_
  refine k_pv 8 (heldE HM) ?_
  refine k_mv 9 (heldE HM) ?_
  refine k_sub 10 (heldE HM) ?_
  refine t_pure (i := 11) (v := .string (s.extract m (m + 6))) rfl rfl Zk (fun _ _ _ h => h) (heldE HM) Zv ?_ ?_; (focus ((intro w9; first | (go_simp; done) | (go_simp; rfl) | (go_simp; intro h9; omega)))); ((try simp only [Za]); (try simp only [Zx]); (try simp only [Zy]))
  refine k_mv 12 (heldE HM) ?_
  refine k_mv 13 (heldE HM) ?_
  refine wpAnyL_done Zk ?_ _
  go_wp2_with fail
  go_ret2
  exact ⟨⟨_, _, rfl, Zi (by rw [HA.out, hm]), p2⟩, HM.low⟩
end
end Go.Proofs.YtiekmabiecalbaaGreatDoor
