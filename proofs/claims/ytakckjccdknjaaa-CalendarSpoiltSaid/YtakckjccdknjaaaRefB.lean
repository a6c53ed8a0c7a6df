/- The contract of the reference's Open: a binary search. -/
import Derived.Test.YtakckjccdknjaaaRefA
namespace Go.Proofs.Ytakckjccdknjaaa
open Go.RowKit
set_option maxHeartbeats 1000000 in
theorem rOpen_any (s : ByteArray) (k : Nat → Bool) (A : Option Addr) (hs : List Int) (c : Nat) (d : Int) (w : World) (hA : IntsAt w A hs) (hl : hs.length ≤ 2000) (ha : Cl.asc (-1) hs = true) (hd : Dt.isDay d = true) :
    Calls Try.prog 32 #[.agg #[.string s, .bool (k 0), .bool (k 1), .bool (k 2), .bool (k 3), .bool (k 4), .bool (k 5), .bool (k 6), .slice A hs.length c], .int .i64 d] w fun e w' => e = .returned (.bool (Cl.opn k hs d)) ∧ Below w.heap.size w w' := by
  rw [Cl.opn_mid hd]
  have h0 : 0 ≤ d ∧ d ≤ 73048 := by unfold Dt.isDay at hd; simpa using hd
  obtain ⟨d0, d1⟩ := h0
  have HDD := Lib.hid hd
  have HAS := Lib.hid (Cl.asc_lt hs (-1) ha)
  have hc := box_week s k (.slice A hs.length c) w ((d + 5) % 7).toNat (by omega)
  have hi0 : 0 ≤ (d + 5) % 7 := by omega
  have hi7 : (d + 5) % 7 < 7 := by omega
  clear hd ha
  obtain ⟨q, hq⟩ : ∃ q, q = k ((d + 5) % 7).toNat := ⟨_, rfl⟩
  rw [← hq] at hc
  rw [← hq]
  clear hq
  have HA := Lib.hid (hA.alloc (Obj.cells #[.string s, .bool (k 0), .bool (k 1), .bool (k 2), .bool (k 3), .bool (k 4), .bool (k 5), .bool (k 6), .slice A hs.length c] 25))
  clear hA
  cases q
  · have h8 : (w.alloc (Obj.cells #[.string s, .bool (k 0), .bool (k 1), .bool (k 2), .bool (k 3), .bool (k 4), .bool (k 5), .bool (k 6), .slice A hs.length c] 25)).cell? ⟨w.heap.size, 8, none⟩ = some (.slice A hs.length c) := by simp
    go_enter Try.func32, Try.ntmps32
    go_wp2_with (go_at_call 49; refine (rWeekday_yes _ _ HDD.out).mono ?_; rintro e w' ⟨rfl, rfl⟩)
    go_quiet (fail)
    go_wp2
    have HA1 := Lib.hid (HA.out.below (below_drewN (Below.refl _ _) nq))
    have h81 : ((w.alloc (Obj.cells #[.string s, .bool (k 0), .bool (k 1), .bool (k 2), .bool (k 3), .bool (k 4), .bool (k 5), .bool (k 6), .slice A hs.length c] 25)).drewN nq).cell? ⟨w.heap.size, 8, none⟩ = some (.slice A hs.length c) := h8
    have HB := Lib.hid (below_drewN (below_new w (Obj.cells #[.string s, .bool (k 0), .bool (k 1), .bool (k 2), .bool (k 3), .bool (k 4), .bool (k 5), .bool (k 6), .slice A hs.length c] 25)) nq)
    obtain ⟨W, hW⟩ : ∃ W, W = (w.alloc (Obj.cells #[.string s, .bool (k 0), .bool (k 1), .bool (k 2), .bool (k 3), .bool (k 4), .bool (k 5), .bool (k 6), .slice A hs.length c] 25)).drewN nq := ⟨_, rfl⟩
    rw [← hW] at HA1 h81 HB
    rw [← hW]
    clear hW h8 hc
    go_loop [7, 8] (fun a b => ∃ l u : Nat, l ≤ u ∧ u ≤ hs.length ∧ a = .int .i64 l ∧ b = .int .i64 u ∧ Hid (∀ j, j < l → hs.getD j 0 < d) ∧ Hid (∀ j, u ≤ j → j < hs.length → d ≤ hs.getD j 0)) (fun a b => (intOf b - intOf a).toNat)
    case atStart => exact ⟨0, hs.length, by omega, by omega, rfl, rfl, Lib.hid (fun j h => by omega), Lib.hid (fun j h h' => by omega)⟩
    case round =>
      obtain ⟨l, u, hlu, hu, rfl, rfl, H1, H2⟩ := hrel
      by_cases hlt : l < u
      · obtain ⟨m, hm⟩ : ∃ m : Nat, m = (l + u) / 2 := ⟨_, rfl⟩
        have hm1 : l ≤ m := by omega
        have hm2 : m < u := by omega
        have em : ((l : Int) + (u : Int)) / 2 = (m : Int) := by omega
        clear hm
        obtain ⟨b, off, rfl, hbl, hcell⟩ := HA1.out.at_ (show m < hs.length from by omega)
        have hcm := hcell m (by omega)
        clear hcell
        obtain ⟨x, hx⟩ : ∃ x, x = hs.getD m 0 := ⟨_, rfl⟩
        rw [← hx] at hcm
        have HX := Lib.hid hx
        clear hx
        by_cases hxd : x < d
        · have HXD := Lib.hid hxd
          go_wp2
          go_round
          case rel => exact ⟨m + 1, u, by omega, by omega, by go_num, rfl, Lib.hid (fun j h => by
            have := HXD.out
            rw [HX.out] at this
            by_cases e : j = m
            · subst e; exact this
            · have := HAS.out j m (by omega) (by omega); omega), H2⟩
          case measure => simp [intOf]; omega
        · have HXD := Lib.hid hxd
          go_wp2
          go_round
          case rel => exact ⟨l, m, by omega, by omega, rfl, (by first | rfl | exact congrArg (Value.int .i64) em), H1, Lib.hid (fun j h h' => by
            have := HXD.out
            rw [HX.out] at this
            by_cases e : j = m
            · subst e; omega
            · have := HAS.out m j (by omega) (by omega); omega)⟩
          case measure => simp [intOf]; omega
      · obtain rfl : l = u := by omega
        by_cases hle : l = hs.length
        · have hh := Cl.search_out (d := d) (hs := hs) (fun j hj => H1.out j (by omega))
          have HH := Lib.hid hh
          subst hle
          clear hh
          go_wp2
          go_ret
          rw [HH.out]
          exact ⟨rfl, HB.out⟩
        · have hll : l < hs.length := by omega
          obtain ⟨b, off, rfl, hbl, hcell⟩ := HA1.out.at_ hll
          have hcm := hcell l hll
          clear hcell
          have hh := fun (e : d ≤ hs.getD l 0) => Cl.search_end (d := d) (hs := hs) (l := l) H1.out (fun j h h' => by
            have := HAS.out l j h h'
            omega) hll
          have hge := H2.out l (by omega) hll
          have HH := Lib.hid (hh hge)
          clear hh hge
          obtain ⟨x, hx⟩ : ∃ x, x = hs.getD l 0 := ⟨_, rfl⟩
          rw [← hx] at hcm HH
          clear hx
          have hne : ((l : Int) == (hs.length : Int)) = false := beq_eq_false_iff_ne.2 (by omega)
          by_cases hxd : x = d
          · subst hxd
            go_wp2
            go_ret
            rw [HH.out]
            exact ⟨by simp, HB.out⟩
          · have hne2 : (x != d) = true := by simp [hxd]
            have HXD := Lib.hid hxd
            clear hxd
            go_wp2
            go_ret
            rw [HH.out, decide_eq_false HXD.out]
            exact ⟨rfl, HB.out⟩
  · go_enter Try.func32, Try.ntmps32
    go_wp2_with (go_at_call 49; refine (rWeekday_yes _ _ HDD.out).mono ?_; rintro e w' ⟨rfl, rfl⟩)
    go_ret
    exact ⟨rfl, below_new _ _⟩
end Go.Proofs.Ytakckjccdknjaaa
