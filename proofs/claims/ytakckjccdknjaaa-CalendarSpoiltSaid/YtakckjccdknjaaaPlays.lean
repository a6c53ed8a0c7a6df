/- CalendarPlays: the walk: true for every tape. -/
import Derived.Test.YtakckjccdknjaaaExact
import Derived.Test.YtakckjccdknjaaaMakeC
namespace Go.Proofs.Ytakckjccdknjaaa
open Go.RowKit Go.Maps
theorem tape_new (W : World) (L : Option Addr) (xs : List Int) (c : Nat) (hI : IntsAt W L xs) (hl : xs.length ≤ 9223372036854775807) : Tape W W.heap.size 0 (W.alloc (.cells #[.slice L xs.length c, .int .i64 0] 36)) :=
  ⟨L, xs, c, 0, below_new _ _, Nat.le_refl _, heap_alloc_new W _, by omega, by omega, hI, hl⟩
theorem CalBlk.new (w : World) (s : ByteArray) (k : Nat → Bool) (v : Value) : CalBlk (w.alloc (Obj.cells #[.string s, .bool (k 0), .bool (k 1), .bool (k 2), .bool (k 3), .bool (k 4), .bool (k 5), .bool (k 6), v] 25)) w.heap.size s k v := heap_alloc_new w _
theorem IntsAt.ne_tape {W w : World} {tb m : Nat} {A : Option Addr} (hA : ∀ b o, A = some ⟨b, o, none⟩ → w.heap.size ≤ b) (hT : Tape W tb m w) : ∀ b o, A = some ⟨b, o, none⟩ → b ≠ tb := by
  intro b o e
  have := hA b o e
  have := hT.lt
  omega
/-- What a region that draws its order keeps of a calendar in a variable. -/
theorem ck_mk {bc : Nat} {s : ByteArray} {k : Nat → Bool} {A : Option Addr} {hs : List Int} {c : Nat} {y : World} (h : CalBlk y bc s k (.slice A hs.length c)) (hi : IntsAt y A hs) :
    (∀ o, y.cell? ⟨bc, o, none⟩ = #[.string s, .bool (k 0), .bool (k 1), .bool (k 2), .bool (k 3), .bool (k 4), .bool (k 5), .bool (k 6), .slice A hs.length c][o]?) ∧ CalBlk y bc s k (.slice A hs.length c) ∧ IntsAt y A hs := ⟨h.cells, h, hi⟩
theorem ck_turn {bc tb : Nat} {s : ByteArray} {k : Nat → Bool} {A : Option Addr} {hs : List Int} {c : Nat} {x y : World} (hne : bc ≠ tb) (hA : ∀ b o, A = some ⟨b, o, none⟩ → b ≠ tb) (hg : x.grownBy y (some tb)) (h : CalBlk x bc s k (.slice A hs.length c)) (hi : IntsAt x A hs) :
    (∀ o, y.cell? ⟨bc, o, none⟩ = #[.string s, .bool (k 0), .bool (k 1), .bool (k 2), .bool (k 3), .bool (k 4), .bool (k 5), .bool (k 6), .slice A hs.length c][o]?) ∧ CalBlk y bc s k (.slice A hs.length c) ∧ IntsAt y A hs := ck_mk (h.turn hg hne) (hi.turn hg hA)
theorem ck_below {bc : Nat} {s : ByteArray} {k : Nat → Bool} {A : Option Addr} {hs : List Int} {c : Nat} {x y : World} (hg : Below x.heap.size x y) (h : CalBlk x bc s k (.slice A hs.length c)) (hi : IntsAt x A hs) :
    (∀ o, y.cell? ⟨bc, o, none⟩ = #[.string s, .bool (k 0), .bool (k 1), .bool (k 2), .bool (k 3), .bool (k 4), .bool (k 5), .bool (k 6), .slice A hs.length c][o]?) ∧ CalBlk y bc s k (.slice A hs.length c) ∧ IntsAt y A hs := ck_mk (h.kept (hg.block _ h.lt)) (hi.below hg)
set_option maxHeartbeats 2000000 in
theorem plays_any (L : Option Addr) (xs : List Int) (c0 : Nat) (w : World) (hI : IntsAt w L xs) (hl : xs.length ≤ 9223372036854775807) :
    Calls Try.prog 4 #[.slice L xs.length c0] w fun e w' => e = .returned (.bool true) ∧ Below w.heap.size w w' := by
  have HT0 := Lib.hid (tape_new w L xs c0 hI hl)
  have HB0 := Lib.hid (below_new w (.cells #[.slice L xs.length c0, .int .i64 0] 36))
  clear hI hl
  go_enter Try.func4, Try.ntmps4
  go_wp2_with fail
  refine (day_any w w.heap.size 0 _ HT0.out (by omega)).mono ?_
  rintro e w1 ⟨d, rfl, d0, d1, hT, hg⟩
  have HT1 := Lib.hid hT
  clear hT hg
  go_wp2_with fail
  refine (calendar_any w w.heap.size 2 d _ HT1.out (by omega) d0 d1).mono ?_
  rintro e w2 ⟨s, k, A, hs, c, rfl, hv, hl, hle, hI, hA, hT, hg, _⟩
  have HT2 := Lib.hid (hT.alloc (Obj.cells #[.string s, .bool (k 0), .bool (k 1), .bool (k 2), .bool (k 3), .bool (k 4), .bool (k 5), .bool (k 6), .slice A hs.length c] 25))
  have HI2 := Lib.hid (hI.alloc (Obj.cells #[.string s, .bool (k 0), .bool (k 1), .bool (k 2), .bool (k 3), .bool (k 4), .bool (k 5), .bool (k 6), .slice A hs.length c] 25))
  have HNE := Lib.hid (IntsAt.ne_tape hA HT1.out)
  have HC2 := Lib.hid (CalBlk.new w2 s k (.slice A hs.length c))
  have hlt2 := hT.lt
  obtain ⟨bc, hbc⟩ : ∃ bc, bc = w2.heap.size := ⟨_, rfl⟩
  rw [← hbc] at HC2 hlt2
  have HLEN := Lib.hid (show hs.length ≤ 9223372036854775807 from by omega)
  clear hv hle hI hA hT hg hl
  go_wp2_with fail
  rw [← hbc]
  clear hbc
  have HL := Lib.hid (And.intro HC2.out (And.intro HI2.out HT2.out))
  clear HC2 HI2 HT2 HT1 HT0
  go_loopw [6] (fun i wr => ∃ j : Nat, j ≤ 5 ∧ i = .int .i64 j ∧ Hid (CalBlk wr bc s k (.slice A hs.length c) ∧ IntsAt wr A hs ∧ Tape w w.heap.size (2 + 100 + 20 * j) wr)) (fun i _ => 5 - (intOf i).toNat)
  case atStart => exact ⟨0, by omega, rfl, HL⟩
  case round =>
    obtain ⟨j, hj, rfl, HR⟩ := hrel
    clear HL
    by_cases hlt : j < 5
    · go_wp2_with fail
      refine (near_any w w.heap.size (2 + 100 + 20 * j) d 40 _ HR.out.2.2 (by omega) d0 d1 (by omega) (by omega)).mono ?_
      rintro e w3 ⟨v, rfl, v0, v1, hT, hg⟩
      have HC3 := Lib.hid (HR.out.1.turn hg (by omega))
      have HI3 := Lib.hid (HR.out.2.1.turn hg HNE.out)
      have HT3 := Lib.hid hT
      have hv0 : 0 ≤ v := by omega
      have hv1 : v ≤ 73048 := by omega
      clear v0 v1 hT hg
      go_wp2_with fail
      have hne : bc ≠ w.heap.size := by omega
      have HC3d : Hid (CalBlk w3.drew bc s k (.slice A hs.length c)) := Lib.hid (HC3.out.kept rfl)
      have HI3d : Hid (IntsAt w3.drew A hs) := Lib.hid (HI3.out.below ((Below.refl _ _).drew))
      have HT3d : Hid (Tape w w.heap.size (2 + 100 + 20 * j + 1) w3.drew) := Lib.hid (HT3.out.after ((Below.refl _ _).drew))
      go_region_held3 (fun w' => (∀ o, w'.cell? ⟨bc, o, none⟩ = #[.string s, .bool (k 0), .bool (k 1), .bool (k 2), .bool (k 3), .bool (k 4), .bool (k 5), .bool (k 6), .slice A hs.length c][o]?) ∧ CalBlk w' bc s k (.slice A hs.length c) ∧ IntsAt w' A hs)
        (first
          | exact ck_mk HC3d.out HI3d.out
          | (go_split_ands; exact ck_turn hne HNE.out (by assumption) (by assumption) (by assumption))
          | (go_split_ands; exact ck_below (below_new _ _) (by assumption) (by assumption))
          | (go_split_ands; exact ck_below (by assumption) (by assumption) (by assumption))
          | (go_split_ands; exact ck_mk (by assumption) (by assumption)))
        (first
          | (go_at_call 24; ((with_reducible refine (range_any w w.heap.size (2 + 100 + 20 * j + 1) (-40) 40 _ HT3d.out (by omega) (by omega) (by omega) (by omega)).mono ?_); rintro e w4 ⟨a1, rfl, p1, p2, hTa, hga⟩))
          | (go_at_call 23; refine (pick_lit w w.heap.size (2 + 100 + 20 * j + 2) _ [0, 1, -1, 2, 5, -5, a1] 3 7 7 w4.heap.size w4 hTa (by omega) rfl rfl rfl (by simp) (by simp)).mono ?_; rintro e w5 ⟨a2, rfl, hm2, hTb, hgb⟩; have hb2 : -40 ≤ a2 ∧ a2 ≤ 40 := (by simp at hm2; omega); clear hm2)
          | (go_at_call 25; refine (next_any w w.heap.size (2 + 100 + 20 * j + 3) 90 _ hTb (by omega) (by omega) (by omega)).mono ?_; rintro e w6 ⟨a3, rfl, p5, p6, hTc, hgc⟩)
          | (go_at_call 24; ((with_reducible refine (range_any w w.heap.size (2 + 100 + 20 * j + 4) 0 5 _ hTc (by omega) (by omega) (by omega) (by omega)).mono ?_); rintro e w7 ⟨a4, rfl, p7, p8, hTd, hgd⟩))
          | (go_split_ands; go_at_call 3; refine (exact_any s k A hs c v a2 _ a4 _ (by assumption) HLEN.out (by omega) (by omega)).mono ?_; rintro e w8 ⟨rfl, hb8⟩)
          | (go_simp; generalize (if IntKind.i64.wrap (v + a3) < 73048 then IntKind.i64.wrap (v + a3) else (73048 : Int)) = q3))
      all_goals
        go_split_ands
        have HX : Hid (CalBlk w8 bc s k (.slice A hs.length c) ∧ IntsAt w8 A hs ∧ Tape w w.heap.size (2 + 100 + 20 * (j + 1)) w8) := Lib.hid ⟨(by assumption), (by assumption), (hTd.after hb8).mono (by omega)⟩
        go_wp2_with fail
        go_roundw
        case rel => exact ⟨j + 1, by omega, by go_num, HX⟩
        case measure => simp [intOf]; omega
    · go_wp2_with (go_at_call 17; refine (known_any _).mono ?_; rintro e w9 ⟨rfl, hb⟩)
      go_ret
      exact ⟨rfl, HR.out.2.2.below.trans (hb.mono HR.out.2.2.below.size)⟩
end Go.Proofs.Ytakckjccdknjaaa
