/- CalendarCounts: the walk: true for every tape. -/
import Derived.Test.YtakckjccdknjaaaCalOk
import Derived.Test.YtakckjccdknjaaaPlays
namespace Go.Proofs.Ytakckjccdknjaaa
open Go.RowKit Go.Maps
set_option maxHeartbeats 2000000 in
theorem counts_any (L : Option Addr) (xs : List Int) (c0 : Nat) (w : World) (hI : IntsAt w L xs) (hl : xs.length ≤ 9223372036854775807) :
    Calls Try.prog 7 #[.slice L xs.length c0] w fun e w' => e = .returned (.bool true) ∧ Below w.heap.size w w' := by
  have HT0 := Lib.hid (tape_new w L xs c0 hI hl)
  clear hI hl
  go_enter Try.func7, Try.ntmps7
  go_wp2_with fail
  refine (calendar_any w w.heap.size 0 9497 _ HT0.out (by omega) (by omega) (by omega)).mono ?_
  rintro e w2 ⟨s, k, A, hs, c, rfl, hv, hl, hle, hI, hA, hT, hg, _⟩
  have HV := Lib.hid hv
  have HNE := Lib.hid (IntsAt.ne_tape hA HT0.out)
  have HTb := Lib.hid (hT.alloc (Obj.cells #[.string s, .bool (k 0), .bool (k 1), .bool (k 2), .bool (k 3), .bool (k 4), .bool (k 5), .bool (k 6), .slice A hs.length c] 25))
  have HIb := Lib.hid (hI.alloc (Obj.cells #[.string s, .bool (k 0), .bool (k 1), .bool (k 2), .bool (k 3), .bool (k 4), .bool (k 5), .bool (k 6), .slice A hs.length c] 25))
  have HCb := Lib.hid (CalBlk.new w2 s k (.slice A hs.length c))
  have hlt2 := hT.lt
  obtain ⟨bc, hbc⟩ : ∃ bc, bc = w2.heap.size := ⟨_, rfl⟩
  rw [← hbc] at HCb hlt2
  clear hv hle hI hA hT hg hl
  go_wp2_with fail
  rw [← hbc]
  clear hbc
  refine (near_any w w.heap.size 100 9497 30 _ HTb.out (by omega) (by omega) (by omega) (by omega) (by omega)).mono ?_
  rintro e w3 ⟨a, rfl, a0, a1, hT, hg⟩
  have HC3 := Lib.hid (HCb.out.turn hg (by omega))
  have HI3 := Lib.hid (HIb.out.turn hg HNE.out)
  have HT3 := Lib.hid hT
  clear hT hg
  go_wp2_with fail
  refine (next_any w w.heap.size 101 50 _ HT3.out (by omega) (by omega) (by omega)).mono ?_
  rintro e w4 ⟨p, rfl, p0, p1, hT, hg⟩
  have HC4 := Lib.hid (HC3.out.turn hg (by omega))
  have HI4 := Lib.hid (HI3.out.turn hg HNE.out)
  have HT4 := Lib.hid hT
  clear hT hg
  go_wp2_with fail
  refine (next_any w w.heap.size 102 50 _ HT4.out (by omega) (by omega) (by omega)).mono ?_
  rintro e w5 ⟨q, rfl, q0, q1, hT, hg⟩
  have HC5 := Lib.hid (HC4.out.turn hg (by omega))
  have HI5 := Lib.hid (HI4.out.turn hg HNE.out)
  have HT5 := Lib.hid hT
  clear hT hg
  have a2 : 9467 ≤ a := by omega
  have a3 : a ≤ 9527 := by omega
  clear a0 a1
  have hb5 := HC5.out.cells
  go_wp2_with fail
  refine (count_ok s k A hs c a (a + p) _ HI5.out HV.out (by omega) (by omega) (by omega)).mono ?_
  rintro e w6 ⟨rfl, hb⟩
  have HC6 := Lib.hid (HC5.out.kept (hb.block bc HC5.out.lt))
  have HI6 := Lib.hid (HI5.out.below hb)
  have HT6 := Lib.hid (HT5.out.after hb)
  clear hb hb5
  have hb6 := HC6.out.cells
  go_wp2_with fail
  refine (count_ok s k A hs c (a + p) (a + p + q) _ HI6.out HV.out (by omega) (by omega) (by omega)).mono ?_
  rintro e w7 ⟨rfl, hb⟩
  have HC7 := Lib.hid (HC6.out.kept (hb.block bc HC6.out.lt))
  have HI7 := Lib.hid (HI6.out.below hb)
  have HT7 := Lib.hid (HT6.out.after hb)
  clear hb hb6
  have hb7 := HC7.out.cells
  go_wp2_with fail
  refine (count_ok s k A hs c a (a + p + q) _ HI7.out HV.out (by omega) (by omega) (by omega)).mono ?_
  rintro e w8 ⟨rfl, hb⟩
  have HC8 := Lib.hid (HC7.out.kept (hb.block bc HC7.out.lt))
  have HI8 := Lib.hid (HI7.out.below hb)
  have HT8 := Lib.hid (HT7.out.after hb)
  clear hb hb7
  have hb8 := HC8.out.cells
  go_wp2_with fail
  refine (count_ok s k A hs c a (a + 1) _ HI8.out HV.out (by omega) (by omega) (by omega)).mono ?_
  rintro e w9 ⟨rfl, hb⟩
  have HC9 := Lib.hid (HC8.out.kept (hb.block bc HC8.out.lt))
  have HI9 := Lib.hid (HI8.out.below hb)
  have HT9 := Lib.hid (HT8.out.after hb)
  clear hb hb8
  have hb9 := HC9.out.cells
  go_wp2_with fail
  refine (biz_ok s k A hs c a _ HI9.out HV.out (by omega) (by omega)).mono ?_
  rintro e w10 ⟨rfl, hb⟩
  have HT10 := Lib.hid (HT9.out.after hb)
  clear hb hb9
  have hX := Cl.cnt_bd (Cl.opn k hs) (a + p - a).toNat a
  have hY := Cl.cnt_bd (Cl.opn k hs) (a + p + q - (a + p)).toNat (a + p)
  have hadd : Cl.cnt (Cl.opn k hs) (a + p - a).toNat a + Cl.cnt (Cl.opn k hs) (a + p + q - (a + p)).toNat (a + p) = Cl.cnt (Cl.opn k hs) (a + p + q - a).toNat a := by
    have h := cnt_add (Cl.opn k hs) p.toNat q.toNat a
    rw [show a + p + q - a = ((p.toNat + q.toNat : Nat) : Int) from by omega, Int.toNat_natCast, h, show a + p - a = p from by omega, show a + p + q - (a + p) = q from by omega, show a + (p.toNat : Int) = a + p from by omega]
  have hone : Cl.cnt (Cl.opn k hs) (a + 1 - a).toNat a = if Cl.opn k hs a = true then 1 else 0 := by
    rw [show (a + 1 - a).toNat = 1 from by omega]; simp [Cl.cnt]
  obtain ⟨X, hX1⟩ : ∃ X, X = Cl.cnt (Cl.opn k hs) (a + p - a).toNat a := ⟨_, rfl⟩
  obtain ⟨Y, hY1⟩ : ∃ Y, Y = Cl.cnt (Cl.opn k hs) (a + p + q - (a + p)).toNat (a + p) := ⟨_, rfl⟩
  obtain ⟨Z, hZ1⟩ : ∃ Z, Z = Cl.cnt (Cl.opn k hs) (a + p + q - a).toNat a := ⟨_, rfl⟩
  obtain ⟨o, ho⟩ : ∃ o, o = Cl.opn k hs a := ⟨_, rfl⟩
  rw [← hX1, ← hY1, ← hZ1] at hadd
  rw [← ho] at hone
  rw [← hX1] at hX
  rw [← hY1] at hY
  rw [hone, ← hX1, ← hY1, ← hZ1, ← ho]
  clear hX1 hY1 hZ1 ho hone
  have hz : (X + Y == Z) = true := by simp [hadd]
  have hX0 : 0 ≤ X := hX.1
  have hX2 : X ≤ 100 := by omega
  have hY0 : 0 ≤ Y := hY.1
  have hY2 : Y ≤ 100 := by omega
  clear hX hY hadd
  cases o
  all_goals
    go_wp2_with (go_at_call 17; refine (known_any _).mono ?_; rintro e w11 ⟨rfl, hbk⟩)
    go_ret
    exact ⟨by simp, HT10.out.below.trans (hbk.mono HT10.out.below.size)⟩
end Go.Proofs.Ytakckjccdknjaaa
