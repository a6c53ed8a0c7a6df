/- The contracts of the tape's One, and of Day and Near: by bounds. -/
import Derived.Test.YtakckjccdknjaaaMakeA
namespace Go.Proofs.Ytakckjccdknjaaa
open Go.RowKit
def StrsAt (w : World) (A : Option Addr) (ss : List ByteArray) : Prop := ss = [] ∨ ∃ b off, A = some ⟨b, off, none⟩ ∧ b < w.heap.size ∧ ∀ j, j < ss.length → w.cell? ⟨b, off + j, none⟩ = some (.string (ss.getD j ByteArray.empty))
theorem StrsAt.at_ {w : World} {A : Option Addr} {ss : List ByteArray} (h : StrsAt w A ss) {j : Nat} (hj : j < ss.length) : ∃ b off, A = some ⟨b, off, none⟩ ∧ b < w.heap.size ∧ ∀ j, j < ss.length → w.cell? ⟨b, off + j, none⟩ = some (.string (ss.getD j ByteArray.empty)) := by
  rcases h with h | h
  · subst h; simp at hj
  · exact h
theorem StrsAt.turn {w w' : World} {tb : Nat} {A : Option Addr} {ss : List ByteArray} (h : StrsAt w A ss) (hg : w.grownBy w' (some tb)) (hne : ∀ b o, A = some ⟨b, o, none⟩ → b ≠ tb) : StrsAt w' A ss := by
  rcases h with h | ⟨b, off, hA, hlt, hc⟩
  · exact .inl h
  · exact .inr ⟨b, off, hA, Nat.lt_of_lt_of_le hlt hg.size, fun j hj => ((turn_cell hg).1 b (off + j) hlt (hne b off hA)).trans (hc j hj)⟩
def OnePost (W : World) (tb m : Nat) (ss : List ByteArray) (w : World) (e : Ending) (w' : World) : Prop :=
  ∃ v : ByteArray, e = .returned (.string v) ∧ v ∈ ss ∧ Tape W tb (m + 1) w' ∧ w.grownBy w' (some tb)
theorem one_any (W : World) (tb m : Nat) (A : Option Addr) (ss : List ByteArray) (c : Nat) (w : World) (hT : Tape W tb m w) (hm : m ≤ 1000000000000) (hA : StrsAt w A ss) (hne : ∀ b o, A = some ⟨b, o, none⟩ → b ≠ tb) (hd : 0 < ss.length) (hd2 : ss.length ≤ 1000) :
    Calls Try.prog 26 #[.pointer (some ⟨tb, 0, none⟩), .slice A ss.length c] w (OnePost W tb m ss w) := by
  have HT := Lib.hid hT
  have HA := Lib.hid hA
  have HNE := Lib.hid hne
  have hn0 : ((ss.length : Int) == 0) = false := beq_eq_false_iff_ne.2 (by omega)
  clear hT hA hne
  go_enter Try.func26, Try.ntmps26
  go_wp2_with fail
  refine (next_any W tb m ss.length _ HT.out hm (by omega) (by omega)).mono ?_
  rintro e w' ⟨v, rfl, v0, v1, hT, hg⟩
  obtain ⟨b, off, rfl, hbl, hcell⟩ := (HA.out.turn hg HNE.out).at_ (j := v.toNat) (by omega)
  have hcv := hcell v.toNat (by omega)
  have hmem : ss.getD v.toNat ByteArray.empty ∈ ss := by
    have : v.toNat < ss.length := by omega
    simp only [List.getD, List.getElem?_eq_getElem this, Option.getD_some]
    exact List.getElem_mem this
  have HM := Lib.hid hmem
  have HT2 := Lib.hid hT
  have HG := Lib.hid hg
  clear hcell hmem hT hg
  obtain ⟨x, hx⟩ : ∃ x, x = ss.getD v.toNat ByteArray.empty := ⟨_, rfl⟩
  rw [← hx] at hcv HM
  clear hx
  go_wp2
  go_ret
  exact ⟨x, rfl, HM.out, HT2.out, HG.out⟩
/-- A value that a call has drawn: between two bounds; the tape has gone on by at most k. -/
def DrawPost (W : World) (tb m : Nat) (lo hi : Int) (w : World) (e : Ending) (w' : World) : Prop :=
  ∃ v : Int, e = .returned (.int .i64 v) ∧ lo ≤ v ∧ v ≤ hi ∧ Tape W tb m w' ∧ w.grownBy w' (some tb)
theorem near_any (W : World) (tb m : Nat) (d f : Int) (w : World) (hT : Tape W tb m w) (hm : m ≤ 1000000000000) (h0 : 0 ≤ d) (h1 : d ≤ 73048) (f0 : 0 ≤ f) (f1 : f ≤ 1000) :
    Calls Try.prog 22 #[.pointer (some ⟨tb, 0, none⟩), .int .i64 d, .int .i64 f] w (DrawPost W tb (m + 1) (max 0 (d - f)) (min 73048 (d + f)) w) := by
  have HT := Lib.hid hT
  clear hT
  go_enter Try.func22, Try.ntmps22
  go_wp2_with fail
  refine (next_any W tb m (2 * f + 1) _ HT.out hm (by omega) (by omega)).mono ?_
  rintro e w' ⟨v, rfl, v0, v1, hT, hg⟩
  have HT2 := Lib.hid hT
  have HG := Lib.hid hg
  clear hT hg
  go_wp2
  all_goals
    go_ret
    exact ⟨_, rfl, by omega, by omega, HT2.out, HG.out⟩
theorem ints_lit (w : World) (cs : Array Value) (ds : List Int) (t : TypeId) (b : Nat) (hb : b = w.heap.size) (h : cs = (ds.map (Value.int .i64)).toArray) : IntsAt (w.alloc (.cells cs t)) (some ⟨b, 0, none⟩) ds := by
  by_cases h0 : ds = []
  · exact .inl h0
  · refine .inr ⟨b, 0, rfl, by simp [hb], fun j hj => ?_⟩
    subst hb h
    simp [List.getD, List.getElem?_eq_getElem hj]
theorem strs_lit (w : World) (cs : Array Value) (ss : List ByteArray) (t : TypeId) (b : Nat) (hb : b = w.heap.size) (h : cs = (ss.map Value.string).toArray) : StrsAt (w.alloc (.cells cs t)) (some ⟨b, 0, none⟩) ss := by
  by_cases h0 : ss = []
  · exact .inl h0
  · refine .inr ⟨b, 0, rfl, by simp [hb], fun j hj => ?_⟩
    subst hb h
    simp [List.getD, List.getElem?_eq_getElem hj]
/-- Pick over a list that the caller has just laid. -/
theorem pick_lit (W : World) (tb m : Nat) (cs : Array Value) (ds : List Int) (t : TypeId) (n c b : Nat) (w : World) (hT : Tape W tb m w) (hm : m ≤ 1000000000000) (hb : b = w.heap.size) (h : cs = (ds.map (Value.int .i64)).toArray) (hn : n = ds.length) (hd : 0 < ds.length) (hd2 : ds.length ≤ 1000) :
    Calls Try.prog 23 #[.pointer (some ⟨tb, 0, none⟩), .slice (some ⟨b, 0, none⟩) n c] (w.alloc (.cells cs t)) (PickPost W tb m ds (w.alloc (.cells cs t))) := by
  subst hn
  exact pick_any W tb m _ ds c _ (hT.alloc _) hm (ints_lit w cs ds t b hb h) (fun b' o e => by
    injection e with e; injection e with e1 _ _
    have := hT.lt
    omega) hd hd2
set_option maxHeartbeats 1000000 in
theorem day_any (W : World) (tb m : Nat) (w : World) (hT : Tape W tb m w) (hm : m ≤ 1000000000) :
    Calls Try.prog 20 #[.pointer (some ⟨tb, 0, none⟩)] w (DrawPost W tb (m + 2) 0 73048 w) := by
  have HT := Lib.hid hT
  clear hT
  go_enter Try.func20, Try.ntmps20
  go_wp2_with fail
  refine (next_any W tb m 12 _ HT.out (by omega) (by omega) (by omega)).mono ?_
  rintro e w' ⟨v, rfl, v0, v1, hT, hg⟩
  have HT2 := Lib.hid hT
  have HG := Lib.hid hg
  clear hT hg
  have hv : v = 0 ∨ v = 1 ∨ v = 2 ∨ v = 3 ∨ 4 ≤ v := by omega
  clear v0 v1
  rcases hv with h | h | h | h | h
  · subst h
    go_wp2_with fail
    refine (next_any W tb (m + 1) 40 _ HT2.out (by omega) (by omega) (by omega)).mono ?_
    rintro e w2 ⟨v, rfl, v0, v1, hT, hg⟩
    go_wp2
    go_ret
    exact ⟨v, rfl, by omega, by omega, hT, turn_trans HG.out hg⟩
  · subst h
    go_wp2_with fail
    refine (next_any W tb (m + 1) 40 _ HT2.out (by omega) (by omega) (by omega)).mono ?_
    rintro e w2 ⟨v, rfl, v0, v1, hT, hg⟩
    go_wp2
    go_ret
    exact ⟨_, rfl, by omega, by omega, hT, turn_trans HG.out hg⟩
  · subst h
    go_wp2_with fail
    refine (next_any W tb (m + 1) 73049 _ HT2.out (by omega) (by omega) (by omega)).mono ?_
    rintro e w2 ⟨v, rfl, v0, v1, hT, hg⟩
    go_wp2
    go_ret
    exact ⟨v, rfl, by omega, by omega, hT, turn_trans HG.out hg⟩
  · subst h
    go_wp2_with fail
    refine (pick_lit W tb (m + 1) _ [59, 60, 365, 366, 1520, 8825, 36584, 36583, 36525, 9861, 9862] 3 11 11 w'.heap.size w' HT2.out (by omega) rfl rfl rfl (by decide) (by decide)).mono ?_
    rintro e w2 ⟨v, rfl, hv, hT, hg⟩
    have hv2 : 0 ≤ v ∧ v ≤ 73048 := by simp at hv; omega
    have HG2 := Lib.hid (turn_trans HG.out (turn_trans (turn_alloc (turn_refl _ tb) _) hg))
    have HT3 := Lib.hid hT
    obtain ⟨v0, v1⟩ := hv2
    clear hv hg hT
    go_wp2
    go_ret
    exact ⟨v, rfl, v0, v1, HT3.out, HG2.out⟩
  · have b0 : (v == 0) = false := beq_eq_false_iff_ne.2 (by omega)
    have b1 : (v == 1) = false := beq_eq_false_iff_ne.2 (by omega)
    have b2 : (v == 2) = false := beq_eq_false_iff_ne.2 (by omega)
    have b3 : (v == 3) = false := beq_eq_false_iff_ne.2 (by omega)
    go_wp2_with fail
    refine (next_any W tb (m + 1) 60 _ HT2.out (by omega) (by omega) (by omega)).mono ?_
    rintro e w2 ⟨v, rfl, v0, v1, hT, hg⟩
    go_wp2
    go_ret
    exact ⟨_, rfl, by omega, by omega, hT, turn_trans HG.out hg⟩
end Go.Proofs.Ytakckjccdknjaaa
