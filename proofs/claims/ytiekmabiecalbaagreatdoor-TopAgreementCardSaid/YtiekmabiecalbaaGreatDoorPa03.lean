/- Walks. -/
import Derived.Laws.RangeAny
import Derived.Lib.SlicesS
import Derived.Test.YtiekmabiecalbaaGreatDoorPa01
import Derived.Test.YtiekmabiecalbaaGreatDoorPa02
namespace Go.Proofs.YtiekmabiecalbaaGreatDoor
set_option maxHeartbeats 16000000
open Go.RowKit
set_option maxRecDepth 8000
section
theorem digit_any (x : Int) (v : Bool) (hv : Hid (v = decide (48 ≤ x ∧ x ≤ 57))) (w : World) :
    Calls Tryz.prog 108 #[.int .u8 x] w fun e w' => e = .returned (.bool v) ∧ w = w' := by
 go_enter Tryz.func108, Tryz.ntmps108
 by_cases h1 : 48 ≤ x
 ·by_cases h2 : x ≤ 57
  ·obtain rfl : v = true := by rw [hv.out]; exact Zt ⟨h1, h2⟩
   go_wp2
   go_ret
   exact ⟨rfl, rfl⟩
  ·obtain rfl : v = false := by rw [hv.out]; exact Zf (fun h => h2 h.2)
   go_wp2
   go_ret
   exact ⟨rfl, rfl⟩
 ·obtain rfl : v = false := by rw [hv.out]; exact Zf (fun h => h1 h.1)
  go_wp2
  go_ret
  exact ⟨rfl, rfl⟩
theorem nm_low (w : World) (s : ByteArray) (k : Nat) : Below w.heap.size w (w.iter s k) := (Below.refl _ w).alloc (Nat.le_refl _) _
theorem tname_any (s : ByteArray) (hs : s.size ≤ 9223372036854775807) (w : World) :
    Calls Tryz.prog 64 #[.string s] w fun e w' => e = .returned (.bool (Nm.usableB s)) ∧ Below w.heap.size w w' := by
 have Z := Below.refl w.heap.size w
 by_cases hz : s.size = 0
 ·rw [Nm.usable_no0 hz]
  go_enter Tryz.func64, Tryz.ntmps64
  go_wp2
  go_ret
  exact ⟨rfl, Z⟩
 have h0 : 0 < s.size := by omega
 by_cases h16 : 16 < s.size
 ·rw [Nm.usable_no16 h16]
  have hb : ((s.size : Int) == 0) = false := Zb Zo
  clear hz
  go_enter Tryz.func64, Tryz.ntmps64
  go_wp2
  go_ret
  exact ⟨rfl, Z⟩
 have hb : ((s.size : Int) == 0) = false := Zb Zo
 clear hz
 by_cases hd : 48 ≤ (s[0].toNat : Int) ∧ (s[0].toNat : Int) ≤ 57
 ·rw [Nm.usable_nofirst h0 Zo]
  have D := fun w => digit_any (s[0].toNat : Int) true (Zi (Zt hd).symm) w
  clear hd
  go_enter Tryz.func64, Tryz.ntmps64
  go_wp2_with (go_at_call 108; refine (D _).mono ?_; rintro e w' ⟨rfl, rfl⟩)
  go_ret
  exact ⟨rfl, Z⟩
 have D := fun w => digit_any (s[0].toNat : Int) false (Zi (Zf hd).symm) w
 have HD := Zi hd
 clear hd
 have hnx := fun (k : Nat) (h : k < s.size) (ty : TypeId) => run_next_any (P := Tryz.prog) w s k ty h
 have hne := fun (k : Nat) (h : ¬ k < s.size) (ty : TypeId) => run_next_end (P := Tryz.prog) w s k ty h
 have HNX := Zi hnx
 have HNE := Zi hne
 clear hnx hne
 go_enter Tryz.func64, Tryz.ntmps64
 go_upto_region 4 with (go_at_call 108; refine (D _).mono ?_; rintro e w' ⟨rfl, rfl⟩)
 clear D
 go_loopw [4] (fun _ wr => ∃ k : Nat, k ≤ s.size ∧ wr = w.iter s k ∧ Hid (∀ j, (h : j < s.size) → j < k → Nm.okB s[j] = true)) (fun _ wr => s.size - wr.iterPos w.heap.size)
 case atStart => exact ⟨0, by omega, rfl, fun j _ h => by omega⟩
 case round =>
  obtain ⟨k, hk, rfl, HO⟩ := hrel
  by_cases hlt : k < s.size
  ·have hn := HNX.out k hlt
   by_cases ha : (s[k].toNat) < 128
   ·rw [decode_ascii s k hlt ha] at hn
    rcases Nm.okB_cases s[k] with ⟨ho, hc⟩ | ⟨ho, hc⟩
    ·have HN := Zi (Nm.usable_noat hlt ho)
     clear ho ha
     rcases hc with hc | hc | ⟨hc, hc2⟩
     all_goals
      go_wp2
      go_ret
      rw [HN.out]
      exact ⟨rfl, nm_low _ _ _⟩
    ·have HA := Zi ho
     clear ho ha
     rcases hc with ⟨hc, hc2⟩ | ⟨hc, hc2⟩
     all_goals
      go_wp2
      go_roundw
      case rel => exact ⟨k + 1, by omega, rfl, fun j h hj => by
       by_cases e : j = k
       ·subst e; exact HA.out
       ·exact HO.out j h Zo⟩
      case measure => simp; omega
   ·have hh := (decode_high s k hlt Zo).1
    have ho : Nm.okB s[k] = false := by
     rcases Nm.okB_cases s[k] with ⟨ho, hc⟩ | ⟨ho, hc⟩
     ·exact ho
     ·omega
    have HN := Zi (Nm.usable_noat hlt ho)
    obtain ⟨r, hr⟩ : ∃ r : Nat, r = (Utf8.decode s k).1 := ⟨_, rfl⟩
    rw [← hr] at hh hn
    have hh2 : (122 : Int) < r := by omega
    have hh3 : (57 : Int) < r := by omega
    clear ho ha hh hr
    go_wp2
    go_ret
    rw [HN.out]
    exact ⟨rfl, nm_low _ _ _⟩
  ·obtain rfl : k = s.size := by omega
   have hn := HNE.out s.size hlt
   have HY := Zi (Nm.usable_yes h0 Zo (by
    have h1 := HO.out 0 h0 h0
    rcases Nm.okB_cases s[0] with ⟨ho, hc⟩ | ⟨ho, hc⟩
    ·rw [ho] at h1; cases h1
    ·have := HD.out
     omega) (fun j h => HO.out j h Zo))
   go_wp2
   go_ret
   rw [HY.out]
   exact ⟨rfl, nm_low _ _ _⟩
end
end Go.Proofs.YtiekmabiecalbaaGreatDoor
