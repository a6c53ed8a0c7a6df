/- CalendarAdds: the walk: true for every tape. -/
import Derived.Test.YtakckjccdknjaaaCalOk
import Derived.Test.YtakckjccdknjaaaPlays
import Derived.Test.YtakckjccdknjaaaAddMath
import Derived.Lib.MinMax
namespace Go.Proofs.Ytakckjccdknjaaa
open Go.RowKit Go.Maps
theorem allK_of {s : ByteArray} {k : Nat → Bool} {hs : List Int} (hv : Cl.validC s k hs = true) : Cl.allK k = false := by
  unfold Cl.validC at hv
  simp only [Bool.and_eq_true, decide_eq_true_eq] at hv
  simpa using hv.1.1.2
def AddSign (m n : Int) : Prop := (1 ≤ m ∧ m ≤ 12 ∧ 1 ≤ n ∧ n ≤ 12) ∨ (-12 ≤ m ∧ m ≤ -1 ∧ -12 ≤ n ∧ n ≤ -1)
set_option maxRecDepth 20000 in
set_option maxHeartbeats 4000000 in
theorem adds_any (L : Option Addr) (xs : List Int) (c0 : Nat) (w : World) (hI : IntsAt w L xs) (hl : xs.length ≤ 9223372036854775807) :
    Calls Try.prog 6 #[.slice L xs.length c0] w fun e w' => e = .returned (.bool true) ∧ Below w.heap.size w w' := by
  have HT0 := Lib.hid (tape_new w L xs c0 hI hl)
  clear hI hl
  go_enter Try.func6, Try.ntmps6
  go_wp2_with fail
  refine (calendar_any w w.heap.size 0 9497 _ HT0.out (by omega) (by omega) (by omega)).mono ?_
  rintro e w2 ⟨s, k, A, hs, c, rfl, hv, hl, hle, hI, hA, hT, hg, _⟩
  have HV := Lib.hid hv
  have HNE := Lib.hid (IntsAt.ne_tape hA HT0.out)
  have HTb := Lib.hid (hT.alloc (Obj.cells #[.string s, .bool (k 0), .bool (k 1), .bool (k 2), .bool (k 3), .bool (k 4), .bool (k 5), .bool (k 6), .slice A hs.length c] 25))
  have HIb := Lib.hid (hI.alloc (Obj.cells #[.string s, .bool (k 0), .bool (k 1), .bool (k 2), .bool (k 3), .bool (k 4), .bool (k 5), .bool (k 6), .slice A hs.length c] 25))
  have HCb := Lib.hid (CalBlk.new w2 s k (.slice A hs.length c))
  have hlt2 := hT.lt
  obtain ⟨bc, hbc⟩ : ∃ bc, bc = w2.heap.size := ⟨_, rfl⟩
  rw [← hbc] at HCb hlt2
  clear hv hle hI hA hT hg
  go_wp2_with fail
  rw [← hbc]
  clear hbc
  refine (near_any w w.heap.size 100 9497 30 _ HTb.out (by omega) (by omega) (by omega) (by omega) (by omega)).mono ?_
  rintro e w3 ⟨a, rfl, a0, a1, hT, hg⟩
  have HC3 := Lib.hid (HCb.out.turn hg (by omega))
  have HI3 := Lib.hid (HIb.out.turn hg HNE.out)
  have HT3 := Lib.hid hT
  clear hT hg
  go_wp2_with fail
  refine (next_any w w.heap.size 101 12 _ HT3.out (by omega) (by omega) (by omega)).mono ?_
  rintro e w4 ⟨p, rfl, p0, p1, hT, hg⟩
  have HC4 := Lib.hid (HC3.out.turn hg (by omega))
  have HI4 := Lib.hid (HI3.out.turn hg HNE.out)
  have HT4 := Lib.hid hT
  clear hT hg
  go_wp2_with fail
  refine (next_any w w.heap.size 102 12 _ HT4.out (by omega) (by omega) (by omega)).mono ?_
  rintro e w5 ⟨q, rfl, q0, q1, hT, hg⟩
  have HC5 := Lib.hid (HC4.out.turn hg (by omega))
  have HI5 := Lib.hid (HI4.out.turn hg HNE.out)
  have HT5 := Lib.hid hT
  clear hT hg
  go_wp2_with fail
  refine (chance_any w w.heap.size 103 1 2 _ HT5.out (by omega) (by omega) (by omega)).mono ?_
  rintro e w6 ⟨z, rfl, hT, hg⟩
  have HC6 := Lib.hid (HC5.out.turn hg (by omega))
  have HI6 := Lib.hid (HI5.out.turn hg HNE.out)
  have HT6 := Lib.hid hT
  clear hT hg HTb HIb HCb HC3 HI3 HT3 HC4 HI4 HT4 HC5 HI5 HT5 HT0
  go_upto_if 38 with (fail)
  go_cut [6, 7] (fun x y wc => ∃ m n : Int, x = .int .i64 m ∧ y = .int .i64 n ∧ AddSign m n ∧ wc = w6)
  case first =>
    cases z
    · go_wp2_with fail
      go_meet
      case rel => exact ⟨_, _, rfl, rfl, .inl ⟨by omega, by omega, by omega, by omega⟩, rfl⟩
    · go_wp2_with fail
      go_meet
      case rel => exact ⟨_, _, rfl, rfl, .inr ⟨by omega, by omega, by omega, by omega⟩, rfl⟩
  case rest =>
  obtain ⟨m, n, rfl, rfl, hsg, rfl⟩ := hcut
  clear p0 p1 q0 q1
  have hk := allK_of HV.out
  have a2 : 9467 ≤ a := by omega
  have a3 : a ≤ 9527 := by omega
  clear a0 a1
  have hm0 : -12 ≤ m := by rcases hsg with h | h <;> omega
  have hm1 : m ≤ 12 := by rcases hsg with h | h <;> omega
  have hn0 : -12 ≤ n := by rcases hsg with h | h <;> omega
  have hn1 : n ≤ 12 := by rcases hsg with h | h <;> omega
  have hmz : m ≠ 0 := by rcases hsg with h | h <;> omega
  have hnz : n ≠ 0 := by rcases hsg with h | h <;> omega
  have hmn : m + n ≠ 0 := by rcases hsg with h | h <;> omega
  have hss : (0 < m ∧ 0 < n) ∨ (m < 0 ∧ n < 0) := by rcases hsg with h | h <;> omega
  clear hsg
  obtain ⟨x, hx, x0, x1, xo, xu, xd⟩ := Cl.addO_there (d := a) (n := m) hk hl (by omega) (by omega) hmz (by omega) (by omega)
  obtain ⟨y, hy, y0, y1, yo, _, _⟩ := Cl.addO_there (d := x) (n := n) hk hl (by omega) (by omega) hnz (by omega) (by omega)
  have hxy : Cl.addO k hs a (m + n) = some y := by rw [Cl.addO_split hss hx]; exact hy
  obtain ⟨st, hst, s0, s1, so⟩ := Cl.addO_zero (d := a) hk hl (by omega) (by omega)
  obtain ⟨u, hu, u0, u1, uo, uu, ud⟩ := Cl.addO_there (d := st) (n := m) hk hl (by omega) (by omega) hmz (by omega) (by omega)
  obtain ⟨hb, hct⟩ := Cl.addO_back (by omega) (by omega) so hmz hu
  have Hx := Lib.hid hx
  have Hy := Lib.hid hy
  have Hxy := Lib.hid hxy
  have Hst := Lib.hid hst
  have Hu := Lib.hid hu
  have Hb := Lib.hid hb
  have Hct := Lib.hid hct
  have Hxo := Lib.hid xo
  have Hsg := Lib.hid hss
  have Hxu := Lib.hid xu
  have Hxd := Lib.hid xd
  clear hx hy hxy hst hu hb hct xo hss xu xd yo so uo uu ud hk hl
  have hb6 := HC6.out.cells
  go_wp2_with fail
  refine (add_ok s k A hs c a m x _ HI6.out HV.out (by omega) (by omega) (by omega) (by omega) Hx.out).mono ?_
  rintro e w7 ⟨rfl, hb⟩
  have HC7 := Lib.hid (HC6.out.kept (hb.block bc HC6.out.lt))
  have HI7 := Lib.hid (HI6.out.below hb)
  have HT7 := Lib.hid (HT6.out.after hb)
  clear hb hb6
  have hb7 := HC7.out.cells
  go_wp2_with fail
  refine (add_ok s k A hs c x n y _ HI7.out HV.out (by omega) (by omega) (by omega) (by omega) Hy.out).mono ?_
  rintro e w8 ⟨rfl, hb⟩
  have HC8 := Lib.hid (HC7.out.kept (hb.block bc HC7.out.lt))
  have HI8 := Lib.hid (HI7.out.below hb)
  have HT8 := Lib.hid (HT7.out.after hb)
  clear hb hb7
  have hb8 := HC8.out.cells
  go_wp2_with fail
  refine (add_ok s k A hs c a (m + n) y _ HI8.out HV.out (by omega) (by omega) (by omega) (by omega) Hxy.out).mono ?_
  rintro e w9 ⟨rfl, hb⟩
  have HC9 := Lib.hid (HC8.out.kept (hb.block bc HC8.out.lt))
  have HI9 := Lib.hid (HI8.out.below hb)
  have HT9 := Lib.hid (HT8.out.after hb)
  clear hb hb8
  have hb9 := HC9.out.cells
  go_wp2_with fail
  refine (biz_ok s k A hs c x _ HI9.out HV.out (by omega) (by omega)).mono ?_
  rintro e w10 ⟨rfl, hb⟩
  rw [Hxo.out]
  have HC10 := Lib.hid (HC9.out.kept (hb.block bc HC9.out.lt))
  have HI10 := Lib.hid (HI9.out.below hb)
  have HT10 := Lib.hid (HT9.out.after hb)
  clear hb hb9 HC6 HI6 HT6 HC7 HI7 HT7 HC8 HI8 HT8 HC9 HI9 HT9
  have hb10 := HC10.out.cells
  go_upto_region 11 with (fail)
  go_cut [112] (fun z wc => z = .bool false ∧ wc = w10)
  case first =>
    rcases Hsg.out with ⟨h, h'⟩ | ⟨h, h'⟩
    · have := Hxu.out h
      have h2 : ¬ m < 0 := by omega
      have h3 : ¬ x ≤ a := by omega
      go_wp2_with fail
      go_meet
      case rel => exact ⟨rfl, rfl⟩
    · have := Hxd.out h
      have h2 : ¬ 0 < m := by omega
      have h3 : ¬ a ≤ x := by omega
      go_wp2_with fail
      go_meet
      case rel => exact ⟨rfl, rfl⟩
  case rest =>
  obtain ⟨rfl, rfl⟩ := hcut
  go_wp2_with fail
  refine (add_ok s k A hs c a 0 st _ HI10.out HV.out (by omega) (by omega) (by omega) (by omega) Hst.out).mono ?_
  rintro e w11 ⟨rfl, hb⟩
  have HC11 := Lib.hid (HC10.out.kept (hb.block bc HC10.out.lt))
  have HI11 := Lib.hid (HI10.out.below hb)
  have HT11 := Lib.hid (HT10.out.after hb)
  clear hb hb10
  have hb11 := HC11.out.cells
  go_wp2_with fail
  refine (add_ok s k A hs c st m u _ HI11.out HV.out (by omega) (by omega) (by omega) (by omega) Hu.out).mono ?_
  rintro e w12 ⟨rfl, hb⟩
  have HC12 := Lib.hid (HC11.out.kept (hb.block bc HC11.out.lt))
  have HI12 := Lib.hid (HI11.out.below hb)
  have HT12 := Lib.hid (HT11.out.after hb)
  clear hb hb11
  have hb12 := HC12.out.cells
  go_wp2_with fail
  refine (add_ok s k A hs c u (-m) st _ HI12.out HV.out (by omega) (by omega) (by omega) (by omega) Hb.out).mono ?_
  rintro e w13 ⟨rfl, hb⟩
  have HC13 := Lib.hid (HC12.out.kept (hb.block bc HC12.out.lt))
  have HI13 := Lib.hid (HI12.out.below hb)
  have HT13 := Lib.hid (HT12.out.after hb)
  clear hb hb12
  have hb13 := HC13.out.cells
  go_wp2_with fail
  refine (count_ok s k A hs c (min st u) (max st u) _ HI13.out HV.out (by omega) (by omega) (by omega)).mono ?_
  rintro e w14 ⟨rfl, hb⟩
  rw [Hct.out]
  have HT14 := Lib.hid (HT13.out.after hb)
  clear hb hb13
  go_wp2_with (go_at_call 17; refine (known_any _).mono ?_; rintro e w11 ⟨rfl, hbk⟩)
  go_ret
  exact ⟨by simp, HT14.out.below.trans (hbk.mono HT14.out.below.size)⟩
end Go.Proofs.Ytakckjccdknjaaa
