/- CalendarSpoilt: the walk: true for every tape and number. -/
import Derived.Test.YtakckjccdknjaaaPlays
import Derived.Deep.RegionHeld3
namespace Go.Proofs.Ytakckjccdknjaaa
open Go.RowKit Go.Maps
theorem CalBlk.name {w : World} {b : Nat} {s : ByteArray} {k : Nat → Bool} {v : Value} (h : CalBlk w b s k v) (u : ByteArray) : CalBlk (w.setCell ⟨b, 0, none⟩ (.string u)) b u k v := by
  unfold CalBlk at h ⊢
  simp [World.setCell, Array.getElem?_modify, h]
theorem CalBlk.day {w : World} {b : Nat} {s : ByteArray} {k : Nat → Bool} {v : Value} (h : CalBlk w b s k v) {i : Nat} (hi : i < 7) (z : Bool) : CalBlk (w.setCell ⟨b, 1 + i, none⟩ (.bool z)) b s (fun j => if j = i then z else k j) v := by
  unfold CalBlk at h ⊢
  have : i = 0 ∨ i = 1 ∨ i = 2 ∨ i = 3 ∨ i = 4 ∨ i = 5 ∨ i = 6 := by omega
  rcases this with e | e | e | e | e | e | e <;> subst e <;> simp [World.setCell, Array.getElem?_modify, h]
def names5 : List ByteArray := [⟨#[]⟩, ⟨#[67]⟩, ⟨#[57]⟩, ⟨#[97, 32, 98]⟩, ⟨#[97, 98, 99, 100, 101, 102, 103, 104, 105, 106, 107, 108, 109, 110, 111, 112, 113]⟩]
/-- What the three ways of spoiling leave. -/
def SpMid (W : World) (tb bc : Nat) (wc : World) : Prop :=
  ∃ (s : ByteArray) (k : Nat → Bool) (A : Option Addr) (hs : List Int) (c : Nat), CalBlk wc bc s k (.slice A hs.length c) ∧ IntsAt wc A hs ∧ hs.length ≤ 20 ∧ Tape W tb 1000 wc
/-- One place of an own row of ints is written. -/
theorem OwnI.put {w : World} {base : Nat} {A : Option Addr} {hs : List Int} {c : Nat} (h : OwnI w base (.slice A hs.length c) hs) {i : Nat} (hi : i < hs.length) :
    ∃ g cap, A = some ⟨g, 0, none⟩ ∧ c = cap ∧ base ≤ g ∧ g < w.heap.size ∧ (∀ o, w.frozen? ⟨g, o, none⟩ = false) ∧ (∀ j, j < hs.length → w.cell? ⟨g, j, none⟩ = some (.int .i64 (hs.getD j 0))) ∧
      ∀ x, IntsAt (w.setCell ⟨g, i, none⟩ (.int .i64 x)) A (hs.set i x) := by
  have h' : w.ownsRow base 3 1 (.slice A hs.length c) hs.length (hs.map (Value.int .i64)) := h
  obtain ⟨g, cap, hv, hb, hlt⟩ := h'.form (by omega)
  injection hv with e1 _ e3
  subst e1 e3
  have hcell : ∀ j, j < hs.length → w.cell? ⟨g, j, none⟩ = some (.int .i64 (hs.getD j 0)) := by
    intro j hj
    rw [h'.cellAt j (by omega)]
    simp [List.getD, List.getElem?_eq_getElem hj]
  obtain ⟨cur, hh, hsz⟩ : ∃ cur, w.heap[g]? = some (.cells cur 3 (0, 0)) ∧ hs.length ≤ cur.size := by
    rcases h.2 with ⟨hv, _⟩ | ⟨g', cap', cur, hv, _, hh, hcap, _, hsz, _⟩
    · cases hv
    · injection hv with e1 _ e2
      injection e1 with e1
      injection e1 with e1 _ _
      subst e1
      exact ⟨cur, hh, by omega⟩
  refine ⟨g, _, rfl, rfl, hb, hlt, fun o => by simp [World.frozen?, hh], hcell, ?_⟩
  intro x
  refine .inr ⟨g, 0, rfl, by simpa [World.setCell] using hlt, fun j hj => ?_⟩
  rw [List.length_set] at hj
  rw [Nat.zero_add]
  have hc0 := hcell j hj
  simp only [World.cell?, hh] at hc0
  by_cases e : j = i
  · subst e
    simp [World.cell?, World.setCell, Array.getElem?_modify, hh, List.getD, hj, show j < cur.size by omega]
  · have e' : ¬ i = j := fun q => e q.symm
    simp [World.cell?, World.setCell, Array.getElem?_modify, hh, List.getD, hj, e']
    simpa [List.getD, List.getElem?_eq_getElem hj] using hc0
theorem sk_mk {base bc g : Nat} {h0 : Int} {s : ByteArray} {k : Nat → Bool} {hs : List Int} {c : Nat} {y : World} (hz : 0 < hs.length) (hq : h0 = hs.getD 0 0) (h : CalBlk y bc s k (.slice (some ⟨g, 0, none⟩) hs.length c)) (ho : OwnI y base (.slice (some ⟨g, 0, none⟩) hs.length c) hs) :
    (∀ o, y.cell? ⟨bc, o, none⟩ = #[.string s, .bool (k 0), .bool (k 1), .bool (k 2), .bool (k 3), .bool (k 4), .bool (k 5), .bool (k 6), .slice (some ⟨g, 0, none⟩) hs.length c][o]?) ∧ y.cell? ⟨g, 0, none⟩ = some (.int .i64 h0) ∧
      CalBlk y bc s k (.slice (some ⟨g, 0, none⟩) hs.length c) ∧ OwnI y base (.slice (some ⟨g, 0, none⟩) hs.length c) hs := by
  obtain ⟨g', cap, e, _, _, _, _, hc, _⟩ := ho.put hz
  injection e with e; injection e with e _ _
  subst e
  exact ⟨h.cells, by rw [hq]; exact hc 0 hz, h, ho⟩
theorem sk_turn {base bc tb g : Nat} {h0 : Int} {s : ByteArray} {k : Nat → Bool} {hs : List Int} {c : Nat} {x y : World} (hz : 0 < hs.length) (hq : h0 = hs.getD 0 0) (hne : bc ≠ tb) (hgt : g ≠ tb) (hg : x.grownBy y (some tb)) (h : CalBlk x bc s k (.slice (some ⟨g, 0, none⟩) hs.length c)) (ho : OwnI x base (.slice (some ⟨g, 0, none⟩) hs.length c) hs) :
    (∀ o, y.cell? ⟨bc, o, none⟩ = #[.string s, .bool (k 0), .bool (k 1), .bool (k 2), .bool (k 3), .bool (k 4), .bool (k 5), .bool (k 6), .slice (some ⟨g, 0, none⟩) hs.length c][o]?) ∧ y.cell? ⟨g, 0, none⟩ = some (.int .i64 h0) ∧
      CalBlk y bc s k (.slice (some ⟨g, 0, none⟩) hs.length c) ∧ OwnI y base (.slice (some ⟨g, 0, none⟩) hs.length c) hs :=
  sk_mk hz hq (h.turn hg hne) (ho.turn hg (by simpa [Value.ownBlock] using hgt))
theorem sk_alloc {base bc g : Nat} {h0 : Int} {s : ByteArray} {k : Nat → Bool} {hs : List Int} {c : Nat} {x : World} (o : Obj) (hz : 0 < hs.length) (hq : h0 = hs.getD 0 0) (h : CalBlk x bc s k (.slice (some ⟨g, 0, none⟩) hs.length c)) (ho : OwnI x base (.slice (some ⟨g, 0, none⟩) hs.length c) hs) :
    (∀ q, (x.alloc o).cell? ⟨bc, q, none⟩ = #[.string s, .bool (k 0), .bool (k 1), .bool (k 2), .bool (k 3), .bool (k 4), .bool (k 5), .bool (k 6), .slice (some ⟨g, 0, none⟩) hs.length c][q]?) ∧ (x.alloc o).cell? ⟨g, 0, none⟩ = some (.int .i64 h0) ∧
      CalBlk (x.alloc o) bc s k (.slice (some ⟨g, 0, none⟩) hs.length c) ∧ OwnI (x.alloc o) base (.slice (some ⟨g, 0, none⟩) hs.length c) hs :=
  sk_mk hz hq (h.alloc o) (ho.alloc o)
theorem sk_put {base g : Nat} {hs : List Int} {c : Nat} {y : World} {i : Nat} (ho : OwnI y base (.slice (some ⟨g, 0, none⟩) hs.length c) hs) (hi : (i : Int) < hs.length) :
    y.frozen? ⟨g, i, none⟩ = false ∧ y.cell? ⟨g, i, none⟩ = some (.int .i64 (hs.getD i 0)) ∧ Hid (∀ x, IntsAt (y.setCell ⟨g, i, none⟩ (.int .i64 x)) (some ⟨g, 0, none⟩) (hs.set i x)) := by
  obtain ⟨g', cap, e, _, _, _, hf, hc, hp⟩ := ho.put (i := i) (by omega)
  injection e with e; injection e with e _ _
  subst e
  exact ⟨hf i, hc i (by omega), Lib.hid hp⟩
theorem sc_mk {bc : Nat} {s : ByteArray} {k : Nat → Bool} {v : Value} {x : World} (h : CalBlk x bc s k v) :
    (∀ q, (x).cell? ⟨bc, q, none⟩ = #[.string s, .bool (k 0), .bool (k 1), .bool (k 2), .bool (k 3), .bool (k 4), .bool (k 5), .bool (k 6), v][q]?) ∧ CalBlk (x) bc s k v := ⟨h.cells, h⟩
theorem sc_turn {bc tb : Nat} {s : ByteArray} {k : Nat → Bool} {v : Value} {x y : World} (hne : bc ≠ tb) (hg : x.grownBy y (some tb)) (h : CalBlk x bc s k v) :
    (∀ q, (y).cell? ⟨bc, q, none⟩ = #[.string s, .bool (k 0), .bool (k 1), .bool (k 2), .bool (k 3), .bool (k 4), .bool (k 5), .bool (k 6), v][q]?) ∧ CalBlk (y) bc s k v := ⟨(h.turn hg hne).cells, h.turn hg hne⟩
theorem sc_alloc {bc : Nat} {s : ByteArray} {k : Nat → Bool} {v : Value} {x : World} (o : Obj) (h : CalBlk x bc s k v) :
    (∀ q, (x.alloc o).cell? ⟨bc, q, none⟩ = #[.string s, .bool (k 0), .bool (k 1), .bool (k 2), .bool (k 3), .bool (k 4), .bool (k 5), .bool (k 6), v][q]?) ∧ CalBlk (x.alloc o) bc s k v := ⟨(h.alloc o).cells, h.alloc o⟩
theorem sc_far {bc g i : Nat} {s : ByteArray} {k : Nat → Bool} {v u : Value} {x : World} (hne : bc ≠ g) (h : CalBlk x bc s k v) :
    (∀ q, (x.setCell ⟨g, i, none⟩ u).cell? ⟨bc, q, none⟩ = #[.string s, .bool (k 0), .bool (k 1), .bool (k 2), .bool (k 3), .bool (k 4), .bool (k 5), .bool (k 6), v][q]?) ∧ CalBlk (x.setCell ⟨g, i, none⟩ u) bc s k v := ⟨(h.far (p := ⟨g, i, none⟩) hne u).cells, h.far (p := ⟨g, i, none⟩) hne u⟩
theorem sp_end {W : World} {tb M bc g i : Nat} {s : ByteArray} {k : Nat → Bool} {hs : List Int} {c : Nat} {y : World} (hC : CalBlk y bc s k (.slice (some ⟨g, 0, none⟩) hs.length c)) (hT : Tape W tb M y) (hM : M ≤ 1000)
    (hp : ∀ x, IntsAt (y.setCell ⟨g, i, none⟩ (.int .i64 x)) (some ⟨g, 0, none⟩) (hs.set i x)) (hgn : bc ≠ g) (hgt : g ≠ tb) (hgl : W.heap.size ≤ g) (hl : hs.length ≤ 20) (x : Int) : SpMid W tb bc (y.setCell ⟨g, i, none⟩ (.int .i64 x)) :=
  ⟨s, k, some ⟨g, 0, none⟩, hs.set i x, c, by rw [List.length_set]; exact hC.far (p := ⟨g, i, none⟩) hgn _, hp x, by rw [List.length_set]; exact hl, (hT.set (p := ⟨g, i, none⟩) hgt hgl _).mono hM⟩
set_option maxHeartbeats 8000000 in
theorem spoilt_any (L : Option Addr) (xs : List Int) (c0 : Nat) (n : Int) (w : World) (hI : IntsAt w L xs) (hl : xs.length ≤ 9223372036854775807) :
    Calls Try.prog 5 #[.slice L xs.length c0, .int .i64 n] w fun e w' => e = .returned (.bool true) ∧ Below w.heap.size w w' := by
  have HT0 := Lib.hid (tape_new w L xs c0 hI hl)
  clear hI hl
  go_enter Try.func5, Try.ntmps5
  go_wp2_with fail
  refine (calendar_any w w.heap.size 0 9497 _ HT0.out (by omega) (by omega) (by omega)).mono ?_
  rintro e w2 ⟨s, k, A, hs, c, rfl, hv, hl, hle, hI, hA, hT, hg, hO⟩
  have HNE := Lib.hid (IntsAt.ne_tape hA HT0.out)
  have HTb := Lib.hid (hT.alloc (Obj.cells #[.string s, .bool (k 0), .bool (k 1), .bool (k 2), .bool (k 3), .bool (k 4), .bool (k 5), .bool (k 6), .slice A hs.length c] 25))
  have HIb := Lib.hid (hI.alloc (Obj.cells #[.string s, .bool (k 0), .bool (k 1), .bool (k 2), .bool (k 3), .bool (k 4), .bool (k 5), .bool (k 6), .slice A hs.length c] 25))
  have HCb := Lib.hid (CalBlk.new w2 s k (.slice A hs.length c))
  have HOb := Lib.hid (hO.alloc (Obj.cells #[.string s, .bool (k 0), .bool (k 1), .bool (k 2), .bool (k 3), .bool (k 4), .bool (k 5), .bool (k 6), .slice A hs.length c] 25))
  have hlt2 := hT.lt
  have HLEN := Lib.hid hl
  have hw2 : w.heap.size ≤ w2.heap.size := by omega
  obtain ⟨bc, hbc⟩ : ∃ bc, bc = w2.heap.size := ⟨_, rfl⟩
  rw [← hbc] at HCb hlt2 hw2
  clear hv hle hI hA hT hg hl hO
  go_wp2_with fail
  rw [← hbc]
  clear hbc
  refine (next_any w w.heap.size 100 4 _ HTb.out (by omega) (by omega) (by omega)).mono ?_
  rintro e w3 ⟨v, rfl, v0, v1, hT, hg⟩
  have HC3 := Lib.hid (HCb.out.turn hg (by omega))
  have HI3 := Lib.hid (HIb.out.turn hg HNE.out)
  have HO3 := Lib.hid (HOb.out.turn hg (by
    obtain ⟨_, _, _, _, _, _, hbl, _⟩ := HTb.out
    exact HOb.out.ne hbl (by decide)))
  have HT3 := Lib.hid hT
  clear hT hg HTb HIb HCb HOb HT0
  have HNB : Hid (∀ b o, A = some ⟨b, o, none⟩ → b ≠ bc) := Lib.hid (by
    have h := HO3.out.ne HC3.out (by decide)
    rintro b o rfl e
    exact h (by rw [e]; rfl))
  go_upto_block 0 with (fail)
  go_cut [7] (fun _ wc => SpMid w w.heap.size bc wc)
  case first =>
    have hv : v = 0 ∨ v = 1 ∨ (v ≠ 0 ∧ v ≠ 1) := by omega
    rcases hv with h | h | ⟨h, h'⟩
    · subst h
      have HS := Lib.hid (strs_lit w3 #[.string { data := #[] }, .string { data := #[67] }, .string { data := #[57] }, .string { data := #[97, 32, 98] }, .string { data := #[97, 98, 99, 100, 101, 102, 103, 104, 105, 106, 107, 108, 109, 110, 111, 112, 113] }] names5 9 w3.heap.size rfl rfl)
      have HCa := Lib.hid (HC3.out.alloc (.cells #[.string { data := #[] }, .string { data := #[67] }, .string { data := #[57] }, .string { data := #[97, 32, 98] }, .string { data := #[97, 98, 99, 100, 101, 102, 103, 104, 105, 106, 107, 108, 109, 110, 111, 112, 113] }] 9))
      have HIa := Lib.hid (HI3.out.alloc (.cells #[.string { data := #[] }, .string { data := #[67] }, .string { data := #[57] }, .string { data := #[97, 32, 98] }, .string { data := #[97, 98, 99, 100, 101, 102, 103, 104, 105, 106, 107, 108, 109, 110, 111, 112, 113] }] 9))
      have HTa := Lib.hid (HT3.out.alloc (.cells #[.string { data := #[] }, .string { data := #[67] }, .string { data := #[57] }, .string { data := #[97, 32, 98] }, .string { data := #[97, 98, 99, 100, 101, 102, 103, 104, 105, 106, 107, 108, 109, 110, 111, 112, 113] }] 9))
      go_wp2_with fail
      refine (one_any w w.heap.size 101 _ names5 5 _ HTa.out (by omega) HS.out (fun b o e => by injection e with e; injection e with e1 _ _; have := HT3.out.lt; omega) (by decide) (by decide)).mono ?_
      rintro e w4 ⟨u, rfl, _, hT, hg⟩
      have HC4 := Lib.hid (HCa.out.turn hg (by omega))
      have HI4 := Lib.hid (HIa.out.turn hg HNE.out)
      have HT4 := Lib.hid hT
      clear hT hg HS HCa HIa HTa
      have hb4 := HC4.out.cells
      have hf4 := HC4.out.free 0
      go_wp2_with fail
      go_meet
      case rel => exact ⟨u, k, A, hs, c, HC4.out.name u, HI4.out.set (p := ⟨bc, 0, none⟩) HNB.out _, HLEN.out, (HT4.out.set (p := ⟨bc, 0, none⟩) (by simp; omega) hw2 _).mono (by omega)⟩
    · subst h
      have HL := Lib.hid (And.intro HC3.out (And.intro HI3.out HT3.out))
      clear HC3 HI3 HT3
      go_wp2_with fail
      go_loopw [7] (fun i wr => ∃ (j : Nat) (k' : Nat → Bool), j ≤ 7 ∧ i = .int .i64 j ∧ Hid (CalBlk wr bc s k' (.slice A hs.length c) ∧ IntsAt wr A hs ∧ Tape w w.heap.size (101 + j) wr)) (fun i _ => 7 - (intOf i).toNat)
      case atStart => exact ⟨0, k, by omega, rfl, HL⟩
      case round =>
        obtain ⟨j, k', hj, rfl, HR⟩ := hrel
        clear HL
        by_cases hlt : j < 7
        · have hlt7 : HR.out.2.2.lt = HR.out.2.2.lt := rfl
          clear hlt7
          go_wp2_with fail
          refine (pick_lit w w.heap.size (101 + j) _ [9, 9, 3] 3 3 3 wr.heap.size wr HR.out.2.2 (by omega) rfl rfl rfl (by decide) (by decide)).mono ?_
          rintro e w4 ⟨q, rfl, _, hT, hg⟩
          have HC4 := Lib.hid ((HR.out.1.alloc _).turn hg (by omega))
          have HI4 := Lib.hid ((HR.out.2.1.alloc _).turn hg HNE.out)
          have HT4 := Lib.hid hT
          clear hT hg HR
          have hf4 := HC4.out.free (1 + j)
          have hw4 := HC4.out.week hlt
          go_wp2_with fail
          go_roundw
          case rel => exact ⟨j + 1, _, by omega, by go_num, Lib.hid ⟨HC4.out.day hlt _, HI4.out.set (p := ⟨bc, 1 + j, none⟩) HNB.out _, (HT4.out.set (p := ⟨bc, 1 + j, none⟩) (by simp; omega) hw2 _).mono (by omega)⟩⟩
          case measure => simp [intOf]; omega
        · go_wp2_with fail
          go_meet
          case rel => exact ⟨s, k', A, hs, c, HR.out.1, HR.out.2.1, HLEN.out, HR.out.2.2.mono (by omega)⟩
    · have hv0 : (v == 0) = false := by simpa using h
      have hv1 : (v == 1) = false := by simpa using h'
      have hb3 := HC3.out.cells
      have hc8 := HC3.out.hol
      by_cases hz : hs.length = 0
      · obtain rfl : hs = [] := List.eq_nil_of_length_eq_zero hz
        go_wp2_with fail
        go_meet
        case rel => exact ⟨s, k, A, [], c, HC3.out, HI3.out, HLEN.out, HT3.out.mono (by omega)⟩
      · have hz1 : 0 < hs.length := by omega
        obtain ⟨g, cap, rfl, rfl, hgb, hglt, hfr, hgc, hput⟩ := HO3.out.put hz1
        have hg0 := hgc 0 hz1
        obtain ⟨h0, hq⟩ : ∃ h0, h0 = hs.getD 0 0 := ⟨_, rfl⟩
        have HQ := Lib.hid hq
        rw [← hq] at hg0
        clear hq
        clear hput hgc
        have hlen := HLEN.out
        go_wp2_with fail
        have hne : bc ≠ w.heap.size := by omega
        have hgt : g ≠ w.heap.size := HNE.out g 0 rfl
        have hgl : w.heap.size ≤ g := by simp at hgb; omega
        have HC3d : Hid (CalBlk w3.drew bc s k (.slice (some ⟨g, 0, none⟩) hs.length c)) := Lib.hid (HC3.out.kept rfl)
        have HO3d : Hid (OwnI w3.drew (w.alloc (Obj.cells #[Value.slice L xs.length c0, Value.int IntKind.i64 0] 36)).heap.size (.slice (some ⟨g, 0, none⟩) hs.length c) hs) := Lib.hid (HO3.out.turn (turn_drewN (turn_refl w3 w.heap.size) 1) (by simpa [Value.ownBlock] using hgt))
        have HT3d : Hid (Tape w w.heap.size (100 + 1) w3.drew) := Lib.hid (HT3.out.after ((Below.refl _ _).drew))
        clear hgb hfr hb3 hc8
        have hlt3 : bc < w3.heap.size := HC3d.out.lt
        have hlt3g : g < w3.heap.size := hglt
        obtain ⟨hb3, hg3, _, _⟩ := sk_mk hz1 HQ.out HC3d.out HO3d.out
        have HCB : Hid (CalBlk (w3.alloc (.cells #[.int .i64 n, .int .i64 (-1), .int .i64 73049, .int .i64 h0] 3)).drew bc s k (.slice (some ⟨g, 0, none⟩) hs.length c)) := Lib.hid ((HC3.out.alloc _).kept rfl)
        have HOB : Hid (OwnI (w3.alloc (.cells #[.int .i64 n, .int .i64 (-1), .int .i64 73049, .int .i64 h0] 3)).drew (w.alloc (Obj.cells #[Value.slice L xs.length c0, Value.int IntKind.i64 0] 36)).heap.size (.slice (some ⟨g, 0, none⟩) hs.length c) hs) := Lib.hid ((HO3.out.alloc _).turn (turn_drewN (turn_refl _ w.heap.size) 1) (by simpa [Value.ownBlock] using hgt))
        have HTB : Hid (Tape w w.heap.size (100 + 1) (w3.alloc (.cells #[.int .i64 n, .int .i64 (-1), .int .i64 73049, .int .i64 h0] 3)).drew) := Lib.hid ((HT3.out.alloc _).after ((Below.refl _ _).drew))
        have HIB : Hid (IntsAt (w3.alloc (.cells #[.int .i64 n, .int .i64 (-1), .int .i64 73049, .int .i64 h0] 3)).drew (some ⟨w3.heap.size, 0, none⟩) [n, -1, 73049, h0]) := Lib.hid ((ints_lit w3 _ [n, -1, 73049, h0] 3 _ rfl rfl).below ((Below.refl _ _).drew))
        have hTlt := HT3.out.lt
        have HCS : Hid (#[Value.int .i64 n, .int .i64 (-1), .int .i64 73049, .int .i64 h0] = ([n, -1, 73049, h0].map (Value.int .i64)).toArray) := Lib.hid rfl
        obtain ⟨hb3a, hg3a, _, _⟩ := sk_mk hz1 HQ.out HCB.out HOB.out
        clear HC3 HI3 HO3 HT3 HNE
        clear hg0
        have hgn : bc ≠ g := fun e => HNB.out g 0 rfl e.symm
        refine wp_region_held_drew (S := (fun w' => (∀ o, w'.cell? ⟨bc, o, none⟩ = #[.string s, .bool (k 0), .bool (k 1), .bool (k 2), .bool (k 3), .bool (k 4), .bool (k 5), .bool (k 6), .slice (some ⟨g, 0, none⟩) hs.length c][o]?) ∧ CalBlk w' bc s k (.slice (some ⟨g, 0, none⟩) hs.length c))) (by kernel_rfl) (sc_mk HC3d.out) (fun hHeld => ?_)
        refine wpAnyH_take (i := 0) (v := ?v1) rfl (by kernel_rfl) (by kernel_rfl) (by kernel_rfl) (fun _ _ _ h => h) (Or.inl ⟨by rfl, ?hy1⟩) (by assumption) ?rest1
        case hy1 => (intro w hSw; (try dsimp only at hSw); go_simp; all_goals with_reducible rfl)
        try simp only [Act.put, List.setIfInBounds_toArray]
        refine wpAnyH_take (i := 1) (v := ?v2) rfl (by kernel_rfl) (by kernel_rfl) (by kernel_rfl) (fun _ _ _ h => h) (Or.inl ⟨by rfl, ?hy2⟩) (by assumption) ?rest2
        case hy2 => (intro w hSw; (try dsimp only at hSw); go_simp; all_goals with_reducible rfl)
        try simp only [Act.put]
        refine wpAnyH_take (i := 2) (v := ?v3) rfl (by kernel_rfl) (by kernel_rfl) (by kernel_rfl) (fun _ _ _ h => h) (Or.inl ⟨by rfl, ?hy3⟩) (by assumption) ?rest3
        case hy3 => (intro w hSw; (try dsimp only at hSw); go_simp; all_goals with_reducible rfl)
        try simp only [Act.put]
        refine wpAnyH_take (i := 3) (v := ?v4) rfl (by kernel_rfl) (by kernel_rfl) (by kernel_rfl) (fun _ _ _ h => h) (Or.inl ⟨by rfl, ?hy4⟩) (by assumption) ?rest4
        case hy4 => (intro w hSw; (try dsimp only at hSw); go_simp; all_goals with_reducible rfl)
        try simp only [Act.put]
        refine wpAnyH_take (i := 4) (v := ?v5) rfl (by kernel_rfl) (by kernel_rfl) (by kernel_rfl) (fun _ _ _ h => h) (Or.inl ⟨by rfl, ?hy5⟩) (by assumption) ?rest5
        case hy5 => (intro w hSw; (try dsimp only at hSw); go_simp; all_goals with_reducible rfl)
        try simp only [Act.put]
        refine wpAnyH_take (i := 5) (v := ?v6) rfl (by kernel_rfl) (by kernel_rfl) (by kernel_rfl) (fun _ _ _ h => h) (Or.inl ⟨by rfl, ?hy6⟩) (by assumption) ?rest6
        case hy6 => (intro w hSw; (try dsimp only at hSw); go_simp; all_goals with_reducible rfl)
        try simp only [Act.put]
        refine wpAnyH_take (i := 7) (v := ?v7) rfl (by kernel_rfl) (by kernel_rfl) (by kernel_rfl) (fun _ _ _ h => h) (Or.inl ⟨by rfl, ?hy7⟩) (by assumption) ?rest7
        case hy7 => (intro w hSw; (try dsimp only at hSw); go_simp; all_goals with_reducible rfl)
        try simp only [Act.put]
        refine wpAnyH_take (i := 8) (v := ?v8) rfl (by kernel_rfl) (by kernel_rfl) (by kernel_rfl) (fun _ _ _ h => h) (Or.inl ⟨by rfl, ?hy8⟩) (by assumption) ?rest8
        case hy8 => (intro w hSw; (try dsimp only at hSw); go_simp; all_goals with_reducible rfl)
        try simp only [Act.put]
        refine wpAnyH_take (i := 9) (v := ?v9) rfl (by kernel_rfl) (by kernel_rfl) (by kernel_rfl) (fun _ _ _ h => h) (Or.inl ⟨by rfl, ?hy9⟩) (by assumption) ?rest9
        case hy9 => (intro w hSw; (try dsimp only at hSw); go_simp; all_goals with_reducible rfl)
        try simp only [Act.put]
        refine wpAnyH_take (i := 10) (v := ?v10) rfl (by kernel_rfl) (by kernel_rfl) (by kernel_rfl) (fun _ _ _ h => h) (Or.inl ⟨by rfl, ?hy10⟩) (by assumption) ?rest10
        case hy10 => (intro w hSw; (try dsimp only at hSw); go_simp; all_goals with_reducible rfl)
        try simp only [Act.put]
        refine wpAnyH_take (i := 11) (v := ?v11) rfl (by kernel_rfl) (by kernel_rfl) (by kernel_rfl) (fun _ _ _ h => h) (Or.inl ⟨by rfl, ?hy11⟩) (by assumption) ?rest11
        case hy11 => (intro w hSw; (try dsimp only at hSw); go_simp; all_goals with_reducible rfl)
        try simp only [Act.put]
        refine wpAnyH_ready (rs := [6, 12]) (by kernel_rfl) (by simp) ?_
        refine AllReadyH.cons rfl (fun K hK => ?st12) ?mo12
        case st12 =>
          go_simp
          (go_at_call 25; refine (next_any w w.heap.size 101 hs.length _ (by first | with_reducible exact HT3d.out | exact HTB.out) (by omega) (by omega) (by omega)).mono ?_; rintro e w4 ⟨i, rfl, i0, i1, hTa, hga⟩; obtain ⟨i, rfl⟩ := Int.eq_ofNat_of_zero_le i0; have HK4 : Hid (CalBlk w4 bc s k (.slice (some ⟨g, 0, none⟩) hs.length c) ∧ OwnI w4 (w.alloc (Obj.cells #[Value.slice L xs.length c0, Value.int IntKind.i64 0] 36)).heap.size (.slice (some ⟨g, 0, none⟩) hs.length c) hs) := Lib.hid (by first | with_reducible exact (sk_turn hz1 HQ.out hne hgt hga HC3d.out HO3d.out).2.2 | exact (sk_turn hz1 HQ.out hne hgt hga HCB.out HOB.out).2.2); obtain ⟨hb4, hg4, _, _⟩ := sk_mk hz1 HQ.out HK4.out.1 HK4.out.2; obtain ⟨hb4a, hg4a, _, _⟩ := sk_alloc (.cells #[.int .i64 n, .int .i64 (-1), .int .i64 73049, .int .i64 h0] 3) hz1 HQ.out HK4.out.1 HK4.out.2)
          refine hK.out _ _ ?hS12 (fun hHeld => ?go12)
          case hS12 => ((try dsimp only); exact sc_mk HK4.out.1)
          clear hK K
          try simp only [Act.put, List.setIfInBounds_toArray, List.set_cons_zero, List.set_cons_succ]
          refine wpAnyH_ready (rs := [12]) (by kernel_rfl) (by simp) ?_
          refine AllReadyH.cons rfl (fun K hK => ?st13) ?mo13
          case st13 =>
            go_simp
            refine hK.out _ _ ?hS13 (fun hHeld => ?go13)
            case hS13 => ((try dsimp only); exact sc_mk HK4.out.1)
            clear hK K
            try simp only [Act.put, List.setIfInBounds_toArray, List.set_cons_zero, List.set_cons_succ]
            refine wpAnyH_ready (rs := [13]) (by kernel_rfl) (by simp) ?_
            refine AllReadyH.cons rfl (fun K hK => ?st14) ?mo14
            case st14 =>
              go_simp
              refine hK.out _ _ ?hS14 (fun hHeld => ?go14)
              case hS14 => ((try dsimp only); exact sc_alloc _ HK4.out.1)
              clear hK K
              try simp only [Act.put, List.setIfInBounds_toArray, List.set_cons_zero, List.set_cons_succ]
              refine wpAnyH_ready (rs := [14]) (by kernel_rfl) (by simp) ?_
              refine AllReadyH.cons rfl (fun K hK => ?st15) ?mo15
              case st15 =>
                go_simp
                (go_at_call 23; ((with_reducible refine (pick_lit w w.heap.size 102 #[.int .i64 n, .int .i64 (-1), .int .i64 73049, .int .i64 h0] [n, -1, 73049, h0] 3 4 4 w4.heap.size w4 hTa (by omega) rfl HCS.out (by simp) (by simp) (by simp)).mono ?_); rintro e w5 ⟨a2, rfl, _, hTb, hgb⟩); have HK5 : Hid (CalBlk w5 bc s k (.slice (some ⟨g, 0, none⟩) hs.length c) ∧ OwnI w5 (w.alloc (Obj.cells #[Value.slice L xs.length c0, Value.int IntKind.i64 0] 36)).heap.size (.slice (some ⟨g, 0, none⟩) hs.length c) hs) := Lib.hid (sk_turn hz1 HQ.out hne hgt hgb (HK4.out.1.alloc _) (HK4.out.2.alloc _)).2.2; obtain ⟨hb5, hg5, _, _⟩ := sk_mk hz1 HQ.out HK5.out.1 HK5.out.2; obtain ⟨hf5, hc5, hp5⟩ := sk_put HK5.out.2 i1)
                refine hK.out _ _ ?hS15 (fun hHeld => ?go15)
                case hS15 => ((try dsimp only); exact sc_mk HK5.out.1)
                clear hK K
                try simp only [Act.put, List.setIfInBounds_toArray, List.set_cons_zero, List.set_cons_succ]
                refine wpAnyH_take (i := 15) (v := ?v16) rfl (by kernel_rfl) (by kernel_rfl) (by kernel_rfl) (fun _ _ _ h => h) (Or.inl ⟨by rfl, ?hy16⟩) (by assumption) ?rest16
                case hy16 => (intro w hSw; (try dsimp only at hSw); go_simp; all_goals with_reducible rfl)
                try simp only [Act.put, List.setIfInBounds_toArray]
                refine wpAnyH_ready (rs := [16]) (by kernel_rfl) (by simp) ?_
                refine AllReadyH.cons rfl (fun K hK => ?st17) ?mo17
                case st17 =>
                  go_simp
                  refine hK.out _ _ ?hS17 (fun hHeld => ?go17)
                  case hS17 => ((try dsimp only); (go_split_ands; with_reducible exact sc_far hgn (by assumption)))
                  clear hK K
                  try simp only [Act.put, List.setIfInBounds_toArray, List.set_cons_zero, List.set_cons_succ]
                  refine wpAnyH_done (by kernel_rfl) ?_ _
                  go_split_ands
                  go_wp2_with fail
                  go_meet
                  case rel => exact sp_end HK5.out.1 hTb (by omega) hp5.out hgn hgt hgl HLEN.out _
                exact AllReadyH.nil
              exact AllReadyH.nil
            exact AllReadyH.nil
          exact AllReadyH.nil
        refine AllReadyH.cons rfl (fun K hK => ?st18) ?mo18
        case st18 =>
          go_simp
          refine hK.out _ _ ?hS18 (fun hHeld => ?go18)
          case hS18 => ((try dsimp only); exact sc_mk HC3d.out)
          clear hK K
          try simp only [Act.put, List.setIfInBounds_toArray, List.set_cons_zero, List.set_cons_succ]
          refine wpAnyH_ready (rs := [6, 13]) (by kernel_rfl) (by simp) ?_
          refine AllReadyH.cons rfl (fun K hK => ?st19) ?mo19
          case st19 =>
            go_simp
            (go_at_call 25; refine (next_any w w.heap.size 101 hs.length _ (by first | with_reducible exact HT3d.out | exact HTB.out) (by omega) (by omega) (by omega)).mono ?_; rintro e w4 ⟨i, rfl, i0, i1, hTa, hga⟩; obtain ⟨i, rfl⟩ := Int.eq_ofNat_of_zero_le i0; have HK4 : Hid (CalBlk w4 bc s k (.slice (some ⟨g, 0, none⟩) hs.length c) ∧ OwnI w4 (w.alloc (Obj.cells #[Value.slice L xs.length c0, Value.int IntKind.i64 0] 36)).heap.size (.slice (some ⟨g, 0, none⟩) hs.length c) hs) := Lib.hid (by first | with_reducible exact (sk_turn hz1 HQ.out hne hgt hga HC3d.out HO3d.out).2.2 | exact (sk_turn hz1 HQ.out hne hgt hga HCB.out HOB.out).2.2); obtain ⟨hb4, hg4, _, _⟩ := sk_mk hz1 HQ.out HK4.out.1 HK4.out.2; obtain ⟨hb4a, hg4a, _, _⟩ := sk_alloc (.cells #[.int .i64 n, .int .i64 (-1), .int .i64 73049, .int .i64 h0] 3) hz1 HQ.out HK4.out.1 HK4.out.2)
            refine hK.out _ _ ?hS19 (fun hHeld => ?go19)
            case hS19 => ((try dsimp only); exact sc_mk HK4.out.1)
            clear hK K
            try simp only [Act.put, List.setIfInBounds_toArray, List.set_cons_zero, List.set_cons_succ]
            refine wpAnyH_ready (rs := [13]) (by kernel_rfl) (by simp) ?_
            refine AllReadyH.cons rfl (fun K hK => ?st20) ?mo20
            case st20 =>
              go_simp
              refine hK.out _ _ ?hS20 (fun hHeld => ?go20)
              case hS20 => ((try dsimp only); exact sc_alloc _ HK4.out.1)
              clear hK K
              try simp only [Act.put, List.setIfInBounds_toArray, List.set_cons_zero, List.set_cons_succ]
              refine wpAnyH_ready (rs := [14]) (by kernel_rfl) (by simp) ?_
              refine AllReadyH.cons rfl (fun K hK => ?st21) ?mo21
              case st21 =>
                go_simp
                (go_at_call 23; ((with_reducible refine (pick_lit w w.heap.size 102 #[.int .i64 n, .int .i64 (-1), .int .i64 73049, .int .i64 h0] [n, -1, 73049, h0] 3 4 4 w4.heap.size w4 hTa (by omega) rfl HCS.out (by simp) (by simp) (by simp)).mono ?_); rintro e w5 ⟨a2, rfl, _, hTb, hgb⟩); have HK5 : Hid (CalBlk w5 bc s k (.slice (some ⟨g, 0, none⟩) hs.length c) ∧ OwnI w5 (w.alloc (Obj.cells #[Value.slice L xs.length c0, Value.int IntKind.i64 0] 36)).heap.size (.slice (some ⟨g, 0, none⟩) hs.length c) hs) := Lib.hid (sk_turn hz1 HQ.out hne hgt hgb (HK4.out.1.alloc _) (HK4.out.2.alloc _)).2.2; obtain ⟨hb5, hg5, _, _⟩ := sk_mk hz1 HQ.out HK5.out.1 HK5.out.2; obtain ⟨hf5, hc5, hp5⟩ := sk_put HK5.out.2 i1)
                refine hK.out _ _ ?hS21 (fun hHeld => ?go21)
                case hS21 => ((try dsimp only); exact sc_mk HK5.out.1)
                clear hK K
                try simp only [Act.put, List.setIfInBounds_toArray, List.set_cons_zero, List.set_cons_succ]
                refine wpAnyH_take (i := 15) (v := ?v22) rfl (by kernel_rfl) (by kernel_rfl) (by kernel_rfl) (fun _ _ _ h => h) (Or.inl ⟨by rfl, ?hy22⟩) (by assumption) ?rest22
                case hy22 => (intro w hSw; (try dsimp only at hSw); go_simp; all_goals with_reducible rfl)
                try simp only [Act.put, List.setIfInBounds_toArray]
                refine wpAnyH_ready (rs := [16]) (by kernel_rfl) (by simp) ?_
                refine AllReadyH.cons rfl (fun K hK => ?st23) ?mo23
                case st23 =>
                  go_simp
                  refine hK.out _ _ ?hS23 (fun hHeld => ?go23)
                  case hS23 => ((try dsimp only); (go_split_ands; with_reducible exact sc_far hgn (by assumption)))
                  clear hK K
                  try simp only [Act.put, List.setIfInBounds_toArray, List.set_cons_zero, List.set_cons_succ]
                  refine wpAnyH_done (by kernel_rfl) ?_ _
                  go_split_ands
                  go_wp2_with fail
                  go_meet
                  case rel => exact sp_end HK5.out.1 hTb (by omega) hp5.out hgn hgt hgl HLEN.out _
                exact AllReadyH.nil
              exact AllReadyH.nil
            exact AllReadyH.nil
          refine AllReadyH.cons rfl (fun K hK => ?st24) ?mo24
          case st24 =>
            go_simp
            refine hK.out _ _ ?hS24 (fun hHeld => ?go24)
            case hS24 => ((try dsimp only); exact sc_mk HCB.out)
            clear hK K
            try simp only [Act.put, List.setIfInBounds_toArray, List.set_cons_zero, List.set_cons_succ]
            refine wpAnyH_ready (rs := [6]) (by kernel_rfl) (by simp) ?_
            refine AllReadyH.cons rfl (fun K hK => ?st25) ?mo25
            case st25 =>
              go_simp
              (go_at_call 25; refine (next_any w w.heap.size 101 hs.length _ (by first | with_reducible exact HT3d.out | exact HTB.out) (by omega) (by omega) (by omega)).mono ?_; rintro e w4 ⟨i, rfl, i0, i1, hTa, hga⟩; obtain ⟨i, rfl⟩ := Int.eq_ofNat_of_zero_le i0; have HK4 : Hid (CalBlk w4 bc s k (.slice (some ⟨g, 0, none⟩) hs.length c) ∧ OwnI w4 (w.alloc (Obj.cells #[Value.slice L xs.length c0, Value.int IntKind.i64 0] 36)).heap.size (.slice (some ⟨g, 0, none⟩) hs.length c) hs) := Lib.hid (by first | with_reducible exact (sk_turn hz1 HQ.out hne hgt hga HC3d.out HO3d.out).2.2 | exact (sk_turn hz1 HQ.out hne hgt hga HCB.out HOB.out).2.2); obtain ⟨hb4, hg4, _, _⟩ := sk_mk hz1 HQ.out HK4.out.1 HK4.out.2; obtain ⟨hb4a, hg4a, _, _⟩ := sk_alloc (.cells #[.int .i64 n, .int .i64 (-1), .int .i64 73049, .int .i64 h0] 3) hz1 HQ.out HK4.out.1 HK4.out.2)
              refine hK.out _ _ ?hS25 (fun hHeld => ?go25)
              case hS25 => ((try dsimp only); exact sc_mk HK4.out.1)
              clear hK K
              try simp only [Act.put, List.setIfInBounds_toArray, List.set_cons_zero, List.set_cons_succ]
              refine wpAnyH_ready (rs := [14]) (by kernel_rfl) (by simp) ?_
              refine AllReadyH.cons rfl (fun K hK => ?st26) ?mo26
              case st26 =>
                go_simp
                (go_at_call 23; refine (pick_any w w.heap.size 102 _ [n, -1, 73049, h0] 4 w4 hTa (by omega) (HIB.out.turn hga (fun b o e => by injection e with e; injection e with e1 _ _; omega)) (fun b o e => by injection e with e; injection e with e1 _ _; omega) (by simp) (by simp)).mono ?_; rintro e w5 ⟨a2, rfl, _, hTb, hgb⟩; have HK5 : Hid (CalBlk w5 bc s k (.slice (some ⟨g, 0, none⟩) hs.length c) ∧ OwnI w5 (w.alloc (Obj.cells #[Value.slice L xs.length c0, Value.int IntKind.i64 0] 36)).heap.size (.slice (some ⟨g, 0, none⟩) hs.length c) hs) := Lib.hid (sk_turn hz1 HQ.out hne hgt hgb HK4.out.1 HK4.out.2).2.2; obtain ⟨hb5, hg5, _, _⟩ := sk_mk hz1 HQ.out HK5.out.1 HK5.out.2; obtain ⟨hf5, hc5, hp5⟩ := sk_put HK5.out.2 i1)
                refine hK.out _ _ ?hS26 (fun hHeld => ?go26)
                case hS26 => ((try dsimp only); exact sc_mk HK5.out.1)
                clear hK K
                try simp only [Act.put, List.setIfInBounds_toArray, List.set_cons_zero, List.set_cons_succ]
                refine wpAnyH_take (i := 15) (v := ?v27) rfl (by kernel_rfl) (by kernel_rfl) (by kernel_rfl) (fun _ _ _ h => h) (Or.inl ⟨by rfl, ?hy27⟩) (by assumption) ?rest27
                case hy27 => (intro w hSw; (try dsimp only at hSw); go_simp; all_goals with_reducible rfl)
                try simp only [Act.put, List.setIfInBounds_toArray]
                refine wpAnyH_ready (rs := [16]) (by kernel_rfl) (by simp) ?_
                refine AllReadyH.cons rfl (fun K hK => ?st28) ?mo28
                case st28 =>
                  go_simp
                  refine hK.out _ _ ?hS28 (fun hHeld => ?go28)
                  case hS28 => ((try dsimp only); (go_split_ands; with_reducible exact sc_far hgn (by assumption)))
                  clear hK K
                  try simp only [Act.put, List.setIfInBounds_toArray, List.set_cons_zero, List.set_cons_succ]
                  refine wpAnyH_done (by kernel_rfl) ?_ _
                  go_split_ands
                  go_wp2_with fail
                  go_meet
                  case rel => exact sp_end HK5.out.1 hTb (by omega) hp5.out hgn hgt hgl HLEN.out _
                exact AllReadyH.nil
              exact AllReadyH.nil
            exact AllReadyH.nil
          exact AllReadyH.nil
        exact AllReadyH.nil
  case rest =>
    obtain ⟨s', k', A', hs', c', hC, hI, hl, hT⟩ := hcut
    have HT4 := Lib.hid hT
    have HI4 := Lib.hid hI
    have hb4 := hC.cells
    have hl2 : hs'.length ≤ 9223372036854775807 := by omega
    have HLEN2 := Lib.hid hl2
    clear hT hI hl hC HC3 HI3 HO3 HT3 hl2
    go_wp2_with fail
    refine (exact_any s' k' A' hs' c' 9497 2 9506 1 _ HI4.out HLEN2.out (by omega) (by omega)).mono ?_
    rintro e w5 ⟨rfl, hb⟩
    have HT5 := Lib.hid (HT4.out.after hb)
    clear hb hb4
    go_wp2_with (go_at_call 17; refine (known_any _).mono ?_; rintro e w6 ⟨rfl, hbk⟩)
    go_ret
    exact ⟨rfl, HT5.out.below.trans (hbk.mono HT5.out.below.size)⟩
end Go.Proofs.Ytakckjccdknjaaa
