/- CalendarAdjusts: the walk: true for every tape. -/
import Derived.Test.YtakckjccdknjaaaCalOk
import Derived.Test.YtakckjccdknjaaaPlays
import Derived.Test.YtakckjccdknjaaaAdds
import Derived.Test.YtakckjccdknjaaaAdjMath
import Derived.Test.YtakckjccdknjaaaRefM
namespace Go.Proofs.Ytakckjccdknjaaa
open Go.RowKit Go.Maps
def Stays (k : Nat → Bool) (hs : List Int) (d a : Int) : Prop := Cl.mNo a = Cl.mNo d ∨ Cl.cnt (Cl.opn k hs) (Cl.mEnd d + 1 - Cl.mFirst d).toNat (Cl.mFirst d) = 0
theorem stays_any (s : ByteArray) (k : Nat → Bool) (A : Option Addr) (hs : List Int) (c : Nat) (d a : Int) (w : World) (hA : IntsAt w A hs) (hv : Cl.validC s k hs = true) (h0 : 0 ≤ d) (h1 : d ≤ 72000) (a0 : 0 ≤ a) (a1 : a ≤ 73048) (hs' : Stays k hs d a) :
    Calls Try.prog 28 #[.agg #[.string s, .bool (k 0), .bool (k 1), .bool (k 2), .bool (k 3), .bool (k 4), .bool (k 5), .bool (k 6), .slice A hs.length c], .int .i64 d, .int .i64 a] w fun e w' => e = .returned (.bool true) ∧ Below w.heap.size w w' := by
  have HA := Lib.hid (hA.alloc (Obj.cells #[.string s, .bool (k 0), .bool (k 1), .bool (k 2), .bool (k 3), .bool (k 4), .bool (k 5), .bool (k 6), .slice A hs.length c] 25))
  have HC := Lib.hid (CalBlk.new w s k (.slice A hs.length c))
  have HB := Lib.hid (below_new w (Obj.cells #[.string s, .bool (k 0), .bool (k 1), .bool (k 2), .bool (k 3), .bool (k 4), .bool (k 5), .bool (k 6), .slice A hs.length c] 25))
  have HV := Lib.hid hv
  have HS := Lib.hid hs'
  clear hA hv hs'
  have hdd := day_of h0 (by omega : d ≤ 73048)
  have haa := day_of a0 a1
  have Hd := Lib.hid hdd
  have Ha := Lib.hid haa
  clear hdd haa
  go_enter Try.func28, Try.ntmps28
  go_wp2_with fail
  refine (rCivil_yes d _ Hd.out).mono ?_
  rintro e w1 ⟨y, m, q, hc, rfl, rfl⟩
  have HCD := Lib.hid hc
  obtain ⟨y0, y1, m0, m1, q0, q1, hd⟩ := hc
  have HD := Lib.hid hd
  clear hd
  go_wp2_with fail
  refine (rCivil_yes a _ Ha.out).mono ?_
  rintro e w1 ⟨u, v, r, hc, rfl, rfl⟩
  have HCA := Lib.hid hc
  obtain ⟨u0, u1, v0, v1, _, _, _⟩ := hc
  by_cases hy : y = u ∧ m = v
  · obtain ⟨rfl, rfl⟩ := hy
    go_wp2_with fail
    go_ret
    exact ⟨rfl, HB.out⟩
  · have hcz : Cl.cnt (Cl.opn k hs) (Cl.mEnd d + 1 - Cl.mFirst d).toNat (Cl.mFirst d) = 0 := by
      rcases HS.out with h | h
      · rw [Cl.mNo_civ HCD.out, Cl.mNo_civ HCA.out] at h
        exact (hy (by omega)).elim
      · exact h
    have hme := Cl.civ_month HCD.out
    have hb1 := Dt.dby_bd y y0 (by omega)
    have hb2 := Dt.cum_bd y m
    have hb3 := Dt.dim_bd y m
    have hdd := HD.out
    have hf0 : 0 ≤ Dt.dby y + Dt.cum y m := by omega
    have hf1 : Dt.dby y + Dt.cum y m ≤ d := by omega
    have hf2 : Dt.dby y + Dt.cum y m + Dt.dim y m - 1 ≤ 72100 := by omega
    have hcell := HC.out.cells
    rw [hme.1, hme.2] at hcz
    have HZ := Lib.hid hcz
    clear hcz hme hdd
    have hyb : (y == u && m == v) = false := by
      cases h : (y == u && m == v)
      · rfl
      · simp only [Bool.and_eq_true, beq_iff_eq] at h; exact (hy h).elim
    have HY := Lib.hid hy
    have HYB := Lib.hid hyb
    clear hy hyb
    go_upto_region 3 with (fail)
    go_cut [42] (fun x wc => x = .bool false ∧ wc = w.alloc (Obj.cells #[.string s, .bool (k 0), .bool (k 1), .bool (k 2), .bool (k 3), .bool (k 4), .bool (k 5), .bool (k 6), .slice A hs.length c] 25))
    case first =>
      by_cases e1 : y = u
      · have e2 : ¬ m = v := fun h => HY.out ⟨e1, h⟩
        subst e1
        go_wp2_with fail
        go_meet
        case rel => exact ⟨by simp [e2], rfl⟩
      · go_wp2_with fail
        go_meet
        case rel => exact ⟨by simp, rfl⟩
    case rest =>
      obtain ⟨rfl, rfl⟩ := hcut
      go_wp2_with (first
        | (go_at_call 46; refine (rFrom_yes _ _ _ _ y0 y1 m0 m1 (by omega) (by omega)).mono ?_; rintro e w' ⟨rfl, rfl⟩)
        | (go_at_call 47; refine (rMonthEnd_yes _ _ Hd.out).mono ?_; rintro e w' ⟨y', m', q', hc', rfl, rfl⟩; obtain ⟨rfl, rfl, rfl⟩ := Dt.civ_unique HCD.out hc'; clear hc'))
      refine (count_ok s k A hs c (Dt.dby y + Dt.cum y m) (Dt.dby y + Dt.cum y m + Dt.dim y m) _ HA.out HV.out (by omega) (by omega) (by omega)).mono ?_
      rintro e w2 ⟨rfl, hb⟩
      have hz := HZ.out
      rw [show Dt.dby y + Dt.cum y m + Dt.dim y m - 1 + 1 - (Dt.dby y + Dt.cum y m) = Dt.dby y + Dt.cum y m + Dt.dim y m - (Dt.dby y + Dt.cum y m) from by omega] at hz
      rw [hz]
      have HB2 := Lib.hid hb
      clear hb hz
      go_wp2_with fail
      go_ret
      exact ⟨rfl, HB.out.trans (HB2.out.mono HB.out.size)⟩
set_option maxRecDepth 20000 in
set_option maxHeartbeats 4000000 in
theorem adjusts_any (L : Option Addr) (xs : List Int) (c0 : Nat) (w : World) (hI : IntsAt w L xs) (hl : xs.length ≤ 9223372036854775807) :
    Calls Try.prog 8 #[.slice L xs.length c0] w fun e w' => e = .returned (.bool true) ∧ Below w.heap.size w w' := by
  have HT0 := Lib.hid (tape_new w L xs c0 hI hl)
  clear hI hl
  go_enter Try.func8, Try.ntmps8
  go_wp2_with fail
  refine (calendar_any w w.heap.size 0 9497 _ HT0.out (by omega) (by omega) (by omega)).mono ?_
  rintro e w2 ⟨s, k, A, hs, c, rfl, hv, hl, hle, hI, hA, hT, hg, _⟩
  have HV := Lib.hid hv
  have HNE := Lib.hid (IntsAt.ne_tape hA HT0.out)
  have HTb := Lib.hid (hT.alloc (Obj.cells #[.string s, .bool (k 0), .bool (k 1), .bool (k 2), .bool (k 3), .bool (k 4), .bool (k 5), .bool (k 6), .slice A hs.length c] 25))
  have HIb := Lib.hid (hI.alloc (Obj.cells #[.string s, .bool (k 0), .bool (k 1), .bool (k 2), .bool (k 3), .bool (k 4), .bool (k 5), .bool (k 6), .slice A hs.length c] 25))
  have HCb := Lib.hid (CalBlk.new w2 s k (.slice A hs.length c))
  have HLEN := Lib.hid hl
  have hlt2 := hT.lt
  obtain ⟨bc, hbc⟩ : ∃ bc, bc = w2.heap.size := ⟨_, rfl⟩
  rw [← hbc] at HCb hlt2
  clear hv hle hI hA hT hg hl
  go_wp2_with fail
  rw [← hbc]
  clear hbc
  refine (near_any w w.heap.size 100 9497 40 _ HTb.out (by omega) (by omega) (by omega) (by omega) (by omega)).mono ?_
  rintro e w3 ⟨d, rfl, d0, d1, hT, hg⟩
  have HC3 := Lib.hid (HCb.out.turn hg (by omega))
  have HI3 := Lib.hid (HIb.out.turn hg HNE.out)
  have HT3 := Lib.hid hT
  clear hT hg
  go_wp2_with fail
  refine (next_any w w.heap.size 101 10 _ HT3.out (by omega) (by omega) (by omega)).mono ?_
  rintro e w4 ⟨p, rfl, p0, p1, hT, hg⟩
  have HL := Lib.hid (And.intro (HC3.out.turn hg (by omega)) (And.intro (HI3.out.turn hg HNE.out) hT))
  clear hT hg HTb HIb HCb HC3 HI3 HT3 HT0
  have d2 : 9457 ≤ d := by omega
  have d3 : d ≤ 9537 := by omega
  clear d0 d1
  go_wp2_with fail
  go_loopw [7] (fun i wr => ∃ j : Nat, j ≤ 4 ∧ i = .int .i64 (j + 1) ∧ Hid (CalBlk wr bc s k (.slice A hs.length c) ∧ IntsAt wr A hs ∧ Tape w w.heap.size (101 + 1) wr)) (fun i _ => 5 - (intOf i).toNat)
  case atStart => exact ⟨0, by omega, rfl, HL⟩
  case round =>
    obtain ⟨j, hj, rfl, HR⟩ := hrel
    clear HL
    by_cases hlt : j < 4
    · obtain ⟨a, b, ha, hb, haa, hao, a0, a1, hab, hda, had, hst⟩ := Cl.adj_law (d := d) (l := d + p) (v := (j : Int) + 1) (allK_of HV.out) HLEN.out (by omega) (by omega) (by omega) (by omega) (by omega)
      have Ha := Lib.hid ha
      have Hb := Lib.hid hb
      have Haa := Lib.hid haa
      have Hao := Lib.hid hao
      have Hab := Lib.hid hab
      have Hda := Lib.hid hda
      have Had := Lib.hid had
      have Hst := Lib.hid hst
      clear ha hb haa hao hab hda had hst
      have HC0 := Lib.hid HR.out.1
      have HI0 := Lib.hid HR.out.2.1
      have HT0 := Lib.hid HR.out.2.2
      have hb0 := HC0.out.cells
      go_wp2_with fail
      refine (adj_fine s k A hs c d (j + 1) a _ HI0.out HV.out (by omega) (by omega) (by omega) (by omega) Ha.out).mono ?_
      rintro e w5 ⟨rfl, hb⟩
      have HC5 := Lib.hid (HC0.out.kept (hb.block bc HC0.out.lt))
      have HI5 := Lib.hid (HI0.out.below hb)
      have HT5 := Lib.hid (HT0.out.after hb)
      clear hb hb0
      have hb5 := HC5.out.cells
      go_wp2_with fail
      refine (adj_fine s k A hs c (d + p) (j + 1) b _ HI5.out HV.out (by omega) (by omega) (by omega) (by omega) Hb.out).mono ?_
      rintro e w6 ⟨rfl, hb⟩
      have HC6 := Lib.hid (HC5.out.kept (hb.block bc HC5.out.lt))
      have HI6 := Lib.hid (HI5.out.below hb)
      have HT6 := Lib.hid (HT5.out.after hb)
      clear hb hb5
      have hb6 := HC6.out.cells
      go_wp2_with fail
      refine (biz_ok s k A hs c a _ HI6.out HV.out (by omega) (by omega)).mono ?_
      rintro e w7 ⟨rfl, hb⟩
      rw [Hao.out]
      have HC7 := Lib.hid (HC6.out.kept (hb.block bc HC6.out.lt))
      have HI7 := Lib.hid (HI6.out.below hb)
      have HT7 := Lib.hid (HT6.out.after hb)
      clear hb hb6
      have hb7 := HC7.out.cells
      go_wp2_with fail
      refine (adj_fine s k A hs c a (j + 1) a _ HI7.out HV.out (by omega) (by omega) (by omega) (by omega) Haa.out).mono ?_
      rintro e w8 ⟨rfl, hb⟩
      have HC8 := Lib.hid (HC7.out.kept (hb.block bc HC7.out.lt))
      have HI8 := Lib.hid (HI7.out.below hb)
      have HT8 := Lib.hid (HT7.out.after hb)
      clear hb hb7 HC0 HI0 HT0 HC5 HI5 HT5 HC6 HI6 HT6 HC7 HI7 HT7
      have hb8 := HC8.out.cells
      have hj4 : j = 0 ∨ j = 1 ∨ j = 2 ∨ j = 3 := by omega
      rcases hj4 with rfl | rfl | rfl | rfl
      · have x1 : ¬ b < a := by have := Hab.out (by omega); omega
        have x2 : ¬ a < d := by have := Hda.out (by omega); omega
        go_wp2_with fail
        go_roundw
        case rel => exact ⟨1, by omega, by go_num, Lib.hid ⟨HC8.out, HI8.out, HT8.out⟩⟩
        case measure => simp [intOf]
      · have x1 : ¬ b < a := by have := Hab.out (by omega); omega
        have x2 : ¬ d < a := by have := Had.out (by omega); omega
        go_wp2_with fail
        go_roundw
        case rel => exact ⟨2, by omega, by go_num, Lib.hid ⟨HC8.out, HI8.out, HT8.out⟩⟩
        case measure => simp [intOf]
      · go_wp2_with fail
        refine (stays_any s k A hs c d a _ HI8.out HV.out (by omega) (by omega) (by omega) (by omega) (Hst.out (by omega))).mono ?_
        rintro e w9 ⟨rfl, hb⟩
        have HR9 := Lib.hid (And.intro (HC8.out.kept (hb.block bc HC8.out.lt)) (And.intro (HI8.out.below hb) (HT8.out.after hb)))
        clear hb
        go_wp2_with fail
        go_roundw
        case rel => exact ⟨3, by omega, by go_num, HR9⟩
        case measure => simp [intOf]
      · go_wp2_with fail
        refine (stays_any s k A hs c d a _ HI8.out HV.out (by omega) (by omega) (by omega) (by omega) (Hst.out (by omega))).mono ?_
        rintro e w9 ⟨rfl, hb⟩
        have HR9 := Lib.hid (And.intro (HC8.out.kept (hb.block bc HC8.out.lt)) (And.intro (HI8.out.below hb) (HT8.out.after hb)))
        clear hb
        go_wp2_with fail
        go_roundw
        case rel => exact ⟨4, by omega, by go_num, HR9⟩
        case measure => simp [intOf]
    · go_wp2_with (go_at_call 17; refine (known_any _).mono ?_; rintro e w9 ⟨rfl, hb⟩)
      go_ret
      exact ⟨rfl, HR.out.2.2.below.trans (hb.mono HR.out.2.2.below.size)⟩
end Go.Proofs.Ytakckjccdknjaaa
