/- The contract of the reference's Add. -/
import Derived.Test.YtakckjccdknjaaaRefC
namespace Go.Proofs.Ytakckjccdknjaaa
open Go.RowKit
theorem preE_parts {s : ByteArray} {k : Nat → Bool} {hs : List Int} {d : Int} (hp : Cl.preE s k hs d = 0) : Cl.validC s k hs = true ∧ Dt.isDay d = true := by
  cases h : Cl.validC s k hs
  · simp [Cl.preE, h] at hp
  · cases h2 : Dt.isDay d
    · simp [Cl.preE, h, h2] at hp
    · exact ⟨rfl, rfl⟩
set_option maxHeartbeats 1000000 in
theorem rAdd_bad (s : ByteArray) (k : Nat → Bool) (A : Option Addr) (hs : List Int) (c : Nat) (d n : Int) (w : World) (hA : IntsAt w A hs) (hl : hs.length ≤ 9223372036854775807) (hp : Cl.preE s k hs d ≠ 0) :
    Calls Try.prog 12 #[.agg #[.string s, .bool (k 0), .bool (k 1), .bool (k 2), .bool (k 3), .bool (k 4), .bool (k 5), .bool (k 6), .slice A hs.length c], .int .i64 d, .int .i64 n] w fun e w' => e = .returned (.tuple #[.int .i64 (Cl.addV s k hs d n), .int .i64 (Cl.addE s k hs d n)]) ∧ Below w.heap.size w w' := by
  have HA := Lib.hid (hA.alloc (Obj.cells #[.string s, .bool (k 0), .bool (k 1), .bool (k 2), .bool (k 3), .bool (k 4), .bool (k 5), .bool (k 6), .slice A hs.length c] 25))
  clear hA
  have HB := Lib.hid (by simp [Cl.addV, hp] : Cl.addV s k hs d n = 0)
  have HE2 := Lib.hid (by simp [Cl.addE, hp] : Cl.addE s k hs d n = Cl.preE s k hs d)
  rw [HB.out, HE2.out]
  have hpb : (Cl.preE s k hs d != 0) = true := by simp [hp]
  clear hp
  obtain ⟨e0, he⟩ : ∃ e0, e0 = Cl.preE s k hs d := ⟨_, rfl⟩
  rw [← he] at hpb
  rw [← he]
  have HE := Lib.hid he
  clear he
  go_enter Try.func12, Try.ntmps12
  go_wp2_with (go_at_call 31; refine (rcheck_any s k A hs c d _ HA.out hl).mono ?_; rintro e w1 ⟨rfl, hb⟩; rw [← HE.out])
  go_ret2
  exact ⟨rfl, bup (below_new _ _) hb (by simp)⟩

set_option maxHeartbeats 2000000 in
theorem rAdd_neg (s : ByteArray) (k : Nat → Bool) (A : Option Addr) (hs : List Int) (c : Nat) (d n : Int) (w : World) (hA : IntsAt w A hs) (hl : hs.length ≤ 9223372036854775807) (hp : Cl.preE s k hs d = 0) (hn : n < 0) (hn0 : -9223372036854775808 ≤ n) :
    Calls Try.prog 12 #[.agg #[.string s, .bool (k 0), .bool (k 1), .bool (k 2), .bool (k 3), .bool (k 4), .bool (k 5), .bool (k 6), .slice A hs.length c], .int .i64 d, .int .i64 n] w fun e w' => e = .returned (.tuple #[.int .i64 (Cl.addV s k hs d n), .int .i64 (Cl.addE s k hs d n)]) ∧ Below w.heap.size w w' := by
  have HA := Lib.hid (hA.alloc (Obj.cells #[.string s, .bool (k 0), .bool (k 1), .bool (k 2), .bool (k 3), .bool (k 4), .bool (k 5), .bool (k 6), .slice A hs.length c] 25))
  clear hA
  have HB := Lib.hid (by simp [Cl.addV, hp] : Cl.addV s k hs d n = (Cl.addO k hs d n).getD 0)
  have HE := Lib.hid (by simp [Cl.addE, hp, Cl.errO] : Cl.addE s k hs d n = Cl.errO (Cl.addO k hs d n))
  rw [HB.out, HE.out]
  obtain ⟨q0, hq0⟩ : ∃ q0, q0 = Cl.addO k hs d n := ⟨_, rfl⟩
  rw [← hq0]
  have HQ := Lib.hid (hq0.trans (Cl.addO_neg hn))
  clear hq0
  obtain ⟨hv, hd⟩ := preE_parts hp
  have HP := Lib.hid hp
  have HV := Lib.hid (valid_of hv)
  have h0 : 0 ≤ d ∧ d ≤ 73048 := by unfold Dt.isDay at hd; simpa using hd
  obtain ⟨d0, d1⟩ := h0
  clear hv hd hp
  go_enter Try.func12, Try.ntmps12
  go_wp2_with (go_at_call 31; refine (rcheck_any s k A hs c d _ HA.out hl).mono ?_; rintro e w1 ⟨rfl, hb⟩; rw [HP.out]; obtain ⟨hc, hf⟩ := bcell hb)
  have HB0 := Lib.hid hb
  clear hb hc hf
  go_loopw [9, 10] (fun m i wr => ∃ (z : Int) (q : Int), -1 ≤ z ∧ z ≤ d - 1 ∧ i = .int .i64 z ∧ m = .int .i64 q ∧ q ≤ 0 ∧ n < q ∧ z - d + 1 ≤ q ∧ Hid (q0 = Cl.nthL (Cl.opn k hs) z (q - n)) ∧ Below (w.heap.size + 1) (w.alloc (Obj.cells #[.string s, .bool (k 0), .bool (k 1), .bool (k 2), .bool (k 3), .bool (k 4), .bool (k 5), .bool (k 6), .slice A hs.length c] 25)) wr)
    (fun _ i _ => (intOf i + 1).toNat)
  case atStart => exact ⟨d - 1, 0, by omega, by omega, rfl, rfl, by omega, by omega, by omega, Lib.hid (by rw [HQ.out]; congr 1; omega), HB0.out.mono (by simp)⟩
  case round =>
    obtain ⟨z, q, hz0, hz1, rfl, rfl, hq0, hqn, hqz, HX, hb⟩ := hrel
    obtain ⟨hc, hf⟩ := bcellB hb
    have HA1 := Lib.hid (HA.out.below (hb.mono (by simp)))
    have HB1 := Lib.hid hb
    clear hb
    by_cases hlt : 0 ≤ z
    · have HZ := Lib.hid (show Dt.isDay z = true from by unfold Dt.isDay; simp; omega)
      cases ho : Cl.opn k hs z
      · have HO1 := Lib.hid ho
        clear ho
        go_wp2_with (go_at_call 32; refine (rOpen_any s k A hs c z _ HA1.out HV.out.1 HV.out.2 HZ.out).mono ?_; rintro e w2 ⟨rfl, hb2⟩; rw [HO1.out])
        go_roundw
        case rel => exact ⟨z - 1, q, by omega, by omega, rfl, rfl, by omega, by omega, by omega, Lib.hid (HX.out.trans (Cl.nthL_no hlt HO1.out)), HB1.out.trans (hb2.mono (by have := HB1.out.size; simpa using this))⟩
        case measure => simp [intOf]; omega
      · have HO1 := Lib.hid ho
        clear ho
        by_cases hq : q - 1 = n
        · have hqb : (q - 1 == n) = true := by simp [hq]
          have HQ1 := Lib.hid (HX.out.trans (Cl.nthL_hit hlt HO1.out (by omega)))
          clear hq
          go_wp2_with (go_at_call 32; refine (rOpen_any s k A hs c z _ HA1.out HV.out.1 HV.out.2 HZ.out).mono ?_; rintro e w2 ⟨rfl, hb2⟩; rw [HO1.out])
          go_ret2
          rw [HQ1.out]
          exact ⟨by simp [Cl.errO], bup (bup (below_new _ _) HB1.out (by omega)) hb2 (by have := HB1.out.size; simp at this; omega)⟩
        · have hqb : (q - 1 == n) = false := beq_eq_false_iff_ne.2 hq
          have hq2 : n < q - 1 := by omega
          clear hq
          go_wp2_with (go_at_call 32; refine (rOpen_any s k A hs c z _ HA1.out HV.out.1 HV.out.2 HZ.out).mono ?_; rintro e w2 ⟨rfl, hb2⟩; rw [HO1.out])
          go_roundw
          case rel => exact ⟨z - 1, q - 1, by omega, by omega, rfl, rfl, by omega, by omega, by omega, Lib.hid ((HX.out.trans (Cl.nthL_go hlt HO1.out (by omega))).trans (by congr 1; omega)), HB1.out.trans (hb2.mono (by have := HB1.out.size; simpa using this))⟩
          case measure => simp [intOf]; omega
    · have HQ1 := Lib.hid (HX.out.trans (Cl.nthL_end _ _ (by omega)))
      go_wp2
      go_ret2
      rw [HQ1.out]
      exact ⟨by simp [Cl.errO], bup (below_new _ _) HB1.out (by omega)⟩

set_option maxHeartbeats 2000000 in
theorem rAdd_pos (s : ByteArray) (k : Nat → Bool) (A : Option Addr) (hs : List Int) (c : Nat) (d n : Int) (w : World) (hA : IntsAt w A hs) (hl : hs.length ≤ 9223372036854775807) (hp : Cl.preE s k hs d = 0) (hn : 0 ≤ n) (hn0 : n ≤ 9223372036854775807) :
    Calls Try.prog 12 #[.agg #[.string s, .bool (k 0), .bool (k 1), .bool (k 2), .bool (k 3), .bool (k 4), .bool (k 5), .bool (k 6), .slice A hs.length c], .int .i64 d, .int .i64 n] w fun e w' => e = .returned (.tuple #[.int .i64 (Cl.addV s k hs d n), .int .i64 (Cl.addE s k hs d n)]) ∧ Below w.heap.size w w' := by
  have HA := Lib.hid (hA.alloc (Obj.cells #[.string s, .bool (k 0), .bool (k 1), .bool (k 2), .bool (k 3), .bool (k 4), .bool (k 5), .bool (k 6), .slice A hs.length c] 25))
  clear hA
  have HB := Lib.hid (by simp [Cl.addV, hp] : Cl.addV s k hs d n = (Cl.addO k hs d n).getD 0)
  have HE := Lib.hid (by simp [Cl.addE, hp, Cl.errO] : Cl.addE s k hs d n = Cl.errO (Cl.addO k hs d n))
  rw [HB.out, HE.out]
  obtain ⟨q0, hq0⟩ : ∃ q0, q0 = Cl.addO k hs d n := ⟨_, rfl⟩
  rw [← hq0]
  have HQ := Lib.hid hq0
  clear hq0
  obtain ⟨hv, hd⟩ := preE_parts hp
  have HP := Lib.hid hp
  have HD := Lib.hid hd
  have HV := Lib.hid (valid_of hv)
  have h0 : 0 ≤ d ∧ d ≤ 73048 := by unfold Dt.isDay at hd; simpa using hd
  obtain ⟨d0, d1⟩ := h0
  clear hv hd hp
  by_cases h00 : n = 0 ∧ Cl.opn k hs d = true
  · obtain ⟨rfl, ho⟩ := h00
    have HO := Lib.hid ho
    have HQ1 := Lib.hid (HQ.out.trans (Cl.addO_zero_yes d1 ho))
    clear ho
    go_enter Try.func12, Try.ntmps12
    go_wp2_with (first
      | (go_at_call 31; refine (rcheck_any s k A hs c d _ HA.out hl).mono ?_; rintro e w1 ⟨rfl, hb⟩; rw [HP.out]; obtain ⟨hc, hf⟩ := bcell hb)
      | (go_at_call 32; refine (rOpen_any s k A hs c d _ (HA.out.below hb) HV.out.1 HV.out.2 HD.out).mono ?_; rintro e w2 ⟨rfl, hb2⟩; rw [HO.out]))
    go_ret2
    rw [HQ1.out]
    exact ⟨by simp [Cl.errO], bup (bup (below_new _ _) hb (by simp)) hb2 (by have := hb.size; simp at this; omega)⟩
  · by_cases e : n = 0
    · subst e
      have ho : Cl.opn k hs d = false := by
        cases h : Cl.opn k hs d
        · rfl
        · exact absurd ⟨rfl, h⟩ h00
      have HM := Lib.hid (HQ.out.trans (Cl.addO_zero_no d1 ho))
      have HO := Lib.hid ho
      clear ho h00
      go_enter Try.func12, Try.ntmps12
      go_wp2_with (first
        | (go_at_call 31; refine (rcheck_any s k A hs c d _ HA.out hl).mono ?_; rintro e w1 ⟨rfl, hb⟩; rw [HP.out]; obtain ⟨hc, hf⟩ := bcell hb)
        | (go_at_call 32; refine (rOpen_any s k A hs c d _ (HA.out.below hb) HV.out.1 HV.out.2 HD.out).mono ?_; rintro e w2 ⟨rfl, hb2⟩; rw [HO.out]))
      have HB0 : Hid (Below (w.heap.size + 1) (w.alloc (Obj.cells #[.string s, .bool (k 0), .bool (k 1), .bool (k 2), .bool (k 3), .bool (k 4), .bool (k 5), .bool (k 6), .slice A hs.length c] 25)) w2) := Lib.hid ((hb.mono (by simp)).trans (hb2.mono (by have := hb.size; simp at this; omega)))
      clear hb hc hf hb2
      go_loopw [9, 11] (fun m i wr => ∃ (z : Int) (q : Int), d + 1 ≤ z ∧ z ≤ 73049 ∧ i = .int .i64 z ∧ m = .int .i64 q ∧ 0 ≤ q ∧ q < 1 ∧ q ≤ z - d - 1 ∧ Hid (q0 = Cl.nthU (Cl.opn k hs) z (1 - q)) ∧ Below (w.heap.size + 1) (w.alloc (Obj.cells #[.string s, .bool (k 0), .bool (k 1), .bool (k 2), .bool (k 3), .bool (k 4), .bool (k 5), .bool (k 6), .slice A hs.length c] 25)) wr)
        (fun _ i _ => (73049 - intOf i).toNat)
      case atStart => exact ⟨d + 1, 0, by omega, by omega, rfl, rfl, by omega, by omega, by omega, Lib.hid (by rw [HM.out]; simp), HB0.out⟩
      case round =>
        obtain ⟨z, q, hz0, hz1, rfl, rfl, hq0, hqn, hqz, HX, hb⟩ := hrel
        obtain ⟨hc, hf⟩ := bcellB hb
        have HA1 := Lib.hid (HA.out.below (hb.mono (by simp)))
        have HB1 := Lib.hid hb
        clear hb
        by_cases hlt : z ≤ 73048
        · have HZ := Lib.hid (show Dt.isDay z = true from by unfold Dt.isDay; simp; omega)
          cases ho : Cl.opn k hs z
          · have HO1 := Lib.hid ho
            clear ho
            go_wp2_with (go_at_call 32; refine (rOpen_any s k A hs c z _ HA1.out HV.out.1 HV.out.2 HZ.out).mono ?_; rintro e w2 ⟨rfl, hb2⟩; rw [HO1.out])
            go_roundw
            case rel => exact ⟨z + 1, q, by omega, by omega, rfl, rfl, by omega, by omega, by omega, Lib.hid (HX.out.trans (Cl.nthU_no hlt HO1.out)), HB1.out.trans (hb2.mono (by have := HB1.out.size; simpa using this))⟩
            case measure => simp [intOf]; omega
          · have HO1 := Lib.hid ho
            clear ho
            by_cases hq : q + 1 = 1
            · have hqb : (q + 1 == 1) = true := by simp [hq]
              have HQ1 := Lib.hid (HX.out.trans (Cl.nthU_hit hlt HO1.out (by omega)))
              clear hq
              go_wp2_with (go_at_call 32; refine (rOpen_any s k A hs c z _ HA1.out HV.out.1 HV.out.2 HZ.out).mono ?_; rintro e w2 ⟨rfl, hb2⟩; rw [HO1.out])
              go_ret2
              rw [HQ1.out]
              exact ⟨by simp [Cl.errO], bup (bup (below_new _ _) HB1.out (by omega)) hb2 (by have := HB1.out.size; simp at this; omega)⟩
            · have hqb : (q + 1 == 1) = false := beq_eq_false_iff_ne.2 hq
              have hq2 : q + 1 < 1 := by omega
              clear hq
              go_wp2_with (go_at_call 32; refine (rOpen_any s k A hs c z _ HA1.out HV.out.1 HV.out.2 HZ.out).mono ?_; rintro e w2 ⟨rfl, hb2⟩; rw [HO1.out])
              go_roundw
              case rel => exact ⟨z + 1, q + 1, by omega, by omega, rfl, rfl, by omega, by omega, by omega, Lib.hid ((HX.out.trans (Cl.nthU_go hlt HO1.out (by omega))).trans (by congr 1; omega)), HB1.out.trans (hb2.mono (by have := HB1.out.size; simpa using this))⟩
              case measure => simp [intOf]; omega
        · have HQ1 := Lib.hid (HX.out.trans (Cl.nthU_end _ _ (by omega)))
          go_wp2
          go_ret2
          rw [HQ1.out]
          exact ⟨by simp [Cl.errO], bup (below_new _ _) HB1.out (by omega)⟩
    · have HM := Lib.hid (HQ.out.trans (Cl.addO_pos (by omega)))
      have hne : (n == 0) = false := beq_eq_false_iff_ne.2 e
      have hn1 : 1 ≤ n := by omega
      clear e h00
      go_enter Try.func12, Try.ntmps12
      go_wp2_with (go_at_call 31; refine (rcheck_any s k A hs c d _ HA.out hl).mono ?_; rintro e w1 ⟨rfl, hb⟩; rw [HP.out]; obtain ⟨hc, hf⟩ := bcell hb)
      have HB0 : Hid (Below (w.heap.size + 1) (w.alloc (Obj.cells #[.string s, .bool (k 0), .bool (k 1), .bool (k 2), .bool (k 3), .bool (k 4), .bool (k 5), .bool (k 6), .slice A hs.length c] 25)) w1) := Lib.hid (hb.mono (by simp))
      clear hb hc hf
      go_loopw [9, 11] (fun m i wr => ∃ (z : Int) (q : Int), d + 1 ≤ z ∧ z ≤ 73049 ∧ i = .int .i64 z ∧ m = .int .i64 q ∧ 0 ≤ q ∧ q < n ∧ q ≤ z - d - 1 ∧ Hid (q0 = Cl.nthU (Cl.opn k hs) z (n - q)) ∧ Below (w.heap.size + 1) (w.alloc (Obj.cells #[.string s, .bool (k 0), .bool (k 1), .bool (k 2), .bool (k 3), .bool (k 4), .bool (k 5), .bool (k 6), .slice A hs.length c] 25)) wr)
        (fun _ i _ => (73049 - intOf i).toNat)
      case atStart => exact ⟨d + 1, 0, by omega, by omega, rfl, rfl, by omega, by omega, by omega, Lib.hid (by rw [HM.out]; simp), HB0.out⟩
      case round =>
        obtain ⟨z, q, hz0, hz1, rfl, rfl, hq0, hqn, hqz, HX, hb⟩ := hrel
        obtain ⟨hc, hf⟩ := bcellB hb
        have HA1 := Lib.hid (HA.out.below (hb.mono (by simp)))
        have HB1 := Lib.hid hb
        clear hb
        by_cases hlt : z ≤ 73048
        · have HZ := Lib.hid (show Dt.isDay z = true from by unfold Dt.isDay; simp; omega)
          cases ho : Cl.opn k hs z
          · have HO1 := Lib.hid ho
            clear ho
            go_wp2_with (go_at_call 32; refine (rOpen_any s k A hs c z _ HA1.out HV.out.1 HV.out.2 HZ.out).mono ?_; rintro e w2 ⟨rfl, hb2⟩; rw [HO1.out])
            go_roundw
            case rel => exact ⟨z + 1, q, by omega, by omega, rfl, rfl, by omega, by omega, by omega, Lib.hid (HX.out.trans (Cl.nthU_no hlt HO1.out)), HB1.out.trans (hb2.mono (by have := HB1.out.size; simpa using this))⟩
            case measure => simp [intOf]; omega
          · have HO1 := Lib.hid ho
            clear ho
            by_cases hq : q + 1 = n
            · have hqb : (q + 1 == n) = true := by simp [hq]
              have HQ1 := Lib.hid (HX.out.trans (Cl.nthU_hit hlt HO1.out (by omega)))
              clear hq
              go_wp2_with (go_at_call 32; refine (rOpen_any s k A hs c z _ HA1.out HV.out.1 HV.out.2 HZ.out).mono ?_; rintro e w2 ⟨rfl, hb2⟩; rw [HO1.out])
              go_ret2
              rw [HQ1.out]
              exact ⟨by simp [Cl.errO], bup (bup (below_new _ _) HB1.out (by omega)) hb2 (by have := HB1.out.size; simp at this; omega)⟩
            · have hqb : (q + 1 == n) = false := beq_eq_false_iff_ne.2 hq
              have hq2 : q + 1 < n := by omega
              clear hq
              go_wp2_with (go_at_call 32; refine (rOpen_any s k A hs c z _ HA1.out HV.out.1 HV.out.2 HZ.out).mono ?_; rintro e w2 ⟨rfl, hb2⟩; rw [HO1.out])
              go_roundw
              case rel => exact ⟨z + 1, q + 1, by omega, by omega, rfl, rfl, by omega, by omega, by omega, Lib.hid ((HX.out.trans (Cl.nthU_go hlt HO1.out (by omega))).trans (by congr 1; omega)), HB1.out.trans (hb2.mono (by have := HB1.out.size; simpa using this))⟩
              case measure => simp [intOf]; omega
        · have HQ1 := Lib.hid (HX.out.trans (Cl.nthU_end _ _ (by omega)))
          go_wp2
          go_ret2
          rw [HQ1.out]
          exact ⟨by simp [Cl.errO], bup (below_new _ _) HB1.out (by omega)⟩
end Go.Proofs.Ytakckjccdknjaaa
