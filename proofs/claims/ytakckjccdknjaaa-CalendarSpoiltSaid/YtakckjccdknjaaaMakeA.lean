/- The contracts of Fold and of the tape's methods Next, Range, Chance, Pick, One: by bounds. -/
import Derived.Test.YtakckjccdknjaaaTapeW
namespace Go.Proofs.Ytakckjccdknjaaa
open Go.RowKit
def FoldPost (n : Int) (w : World) (e : Ending) (w' : World) : Prop := ∃ v : Int, e = .returned (.int .i64 v) ∧ 0 ≤ v ∧ v < n ∧ w = w'
theorem fold_any (v n : Int) (w : World) (h0 : 1 ≤ n) (h1 : n ≤ 4611686018427387904) :
    Calls Try.prog 44 #[.int .i64 v, .int .i64 n] w (FoldPost n w) := by
  by_cases e : n = 1
  · subst e
    go_enter Try.func44, Try.ntmps44
    go_wp2
    go_ret
    exact ⟨0, rfl, by omega, by omega, rfl⟩
  · have hn : ¬ n ≤ 1 := by omega
    clear e
    by_cases hv : 0 ≤ v
    · have hb : v.tmod n = v % n := Int.tmod_eq_emod_of_nonneg hv
      have q0 := Int.emod_nonneg v (show n ≠ 0 by omega)
      have q1 := Int.emod_lt_of_pos v (show 0 < n by omega)
      obtain ⟨q, hq⟩ : ∃ q, q = v % n := ⟨_, rfl⟩
      rw [← hq] at hb q0 q1
      clear hq
      go_enter Try.func44, Try.ntmps44
      go_wp2
      go_ret
      exact ⟨q, rfl, q0, q1, rfl⟩
    · have e2 : v.tmod n = -((-v) % n) := by rw [← Int.tmod_eq_emod_of_nonneg (by omega), ← Int.neg_tmod, Int.neg_neg]
      have p0 := Int.emod_nonneg (-v) (show n ≠ 0 by omega)
      have p1 := Int.emod_lt_of_pos (-v) (show 0 < n by omega)
      have q0 : -n < v.tmod n := by omega
      have q1 : v.tmod n ≤ 0 := by omega
      clear e2 p0 p1
      obtain ⟨q, hq⟩ : ∃ q, q = v.tmod n := ⟨_, rfl⟩
      rw [← hq] at q0 q1
      have hb : v.tmod n = q := hq.symm
      clear hq
      by_cases hq0 : q < 0
      · go_enter Try.func44, Try.ntmps44
        go_wp2
        go_ret
        exact ⟨q + n, rfl, by omega, by omega, rfl⟩
      · obtain rfl : q = 0 := by omega
        go_enter Try.func44, Try.ntmps44
        go_wp2
        go_ret
        exact ⟨0, rfl, by omega, by omega, rfl⟩

def NextPost (W : World) (tb m : Nat) (n : Int) (w : World) (e : Ending) (w' : World) : Prop :=
  ∃ v : Int, e = .returned (.int .i64 v) ∧ 0 ≤ v ∧ v < n ∧ Tape W tb (m + 1) w' ∧ w.grownBy w' (some tb)
theorem next_step {W w : World} {tb m : Nat} {L : Option Addr} {xs : List Int} {c : Nat} {at_ : Int} (hb : Below W.heap.size W w) (hle : W.heap.size ≤ tb)
    (hbl : w.heap[tb]? = some (.cells #[.slice L xs.length c, .int .i64 at_] 36 (0, 0))) (h0 : 0 ≤ at_) (ham : at_ ≤ m) (hI : IntsAt W L xs) (hxl : xs.length ≤ 9223372036854775807) (N : Nat) :
    Tape W tb (m + 1) ((w.drewN N).setCell ⟨tb, 1, none⟩ (.int .i64 (at_ + 1))) ∧ w.grownBy ((w.drewN N).setCell ⟨tb, 1, none⟩ (.int .i64 (at_ + 1))) (some tb) := by
  have hb2 : Below W.heap.size W ((w.drewN N).setCell ⟨tb, 1, none⟩ (.int .i64 (at_ + 1))) := (below_drewN hb N).setCell hle _
  refine ⟨⟨L, xs, c, at_ + 1, hb2, hle, ?_, by omega, by omega, hI, hxl⟩, turn_set (turn_drewN (turn_refl w tb) N) (.inl rfl) _⟩
  simp [World.setCell, Array.getElem?_modify, hbl]

set_option maxHeartbeats 1000000 in
theorem next_any (W : World) (tb m : Nat) (n : Int) (w : World) (hT : Tape W tb m w) (hm : m ≤ 1000000000000) (h0 : 1 ≤ n) (h1 : n ≤ 4611686018427387904) :
    Calls Try.prog 25 #[.pointer (some ⟨tb, 0, none⟩), .int .i64 n] w (NextPost W tb m n w) := by
  obtain ⟨L, xs, c, at_, hb, hle, hbl, ha0, ham, hI, hxl⟩ := hT
  have HT : Hid (Tape W tb m w) := ⟨L, xs, c, at_, hb, hle, hbl, ha0, ham, hI, hxl⟩
  have hc0 : w.cell? ⟨tb, 0, none⟩ = some (.slice L xs.length c) := by simp [World.cell?, hbl]
  have hc1 : w.cell? ⟨tb, 1, none⟩ = some (.int .i64 at_) := by simp [World.cell?, hbl]
  have hf1 : w.frozen? ⟨tb, 1, none⟩ = false := by simp [World.frozen?, hbl]
  have HI := Lib.hid (hI.below hb)
  have HS := Lib.hid (next_step hb hle hbl ha0 ham hI hxl)
  clear hb hbl hI HT
  have ham' : at_ ≤ 1000000000000 := by omega
  by_cases hlt : at_ < xs.length
  · obtain ⟨b, off, rfl, hbb, hcell⟩ := HI.out.at_ (j := at_.toNat) (by omega)
    have hcx := hcell at_.toNat (by omega)
    clear hcell
    obtain ⟨x, hx⟩ : ∃ x, x = xs.getD at_.toNat 0 := ⟨_, rfl⟩
    rw [← hx] at hcx
    clear hx
    go_enter Try.func25, Try.ntmps25
    go_wp2
    go_quiet (fail)
    go_wp2
    go_quiet (fail)
    go_wp2_with (go_at_call 44; refine (fold_any _ n _ h0 h1).mono ?_; rintro e w' ⟨v, rfl, v0, v1, rfl⟩)
    go_ret
    exact ⟨v, rfl, v0, v1, HS.out _⟩
  · go_enter Try.func25, Try.ntmps25
    go_wp2
    go_quiet (fail)
    go_wp2_with (go_at_call 44; refine (fold_any _ n _ h0 h1).mono ?_; rintro e w' ⟨v, rfl, v0, v1, rfl⟩)
    go_ret
    exact ⟨v, rfl, v0, v1, HS.out _⟩

def RangePost (W : World) (tb m : Nat) (lo hi : Int) (w : World) (e : Ending) (w' : World) : Prop :=
  ∃ v : Int, e = .returned (.int .i64 v) ∧ lo ≤ v ∧ v ≤ hi ∧ Tape W tb (m + 1) w' ∧ w.grownBy w' (some tb)
theorem range_any (W : World) (tb m : Nat) (lo hi : Int) (w : World) (hT : Tape W tb m w) (hm : m ≤ 1000000000000) (h : lo ≤ hi) (h0 : -1000000000000000 ≤ lo) (h1 : hi ≤ 1000000000000000) :
    Calls Try.prog 24 #[.pointer (some ⟨tb, 0, none⟩), .int .i64 lo, .int .i64 hi] w (RangePost W tb m lo hi w) := by
  have HT := Lib.hid hT
  clear hT
  go_enter Try.func24, Try.ntmps24
  go_wp2_with fail
  refine (next_any W tb m (hi - lo + 1) _ HT.out hm (by omega) (by omega)).mono ?_
  rintro e w' ⟨v, rfl, v0, v1, hT, hg⟩
  go_wp2
  go_ret
  exact ⟨lo + v, rfl, by omega, by omega, hT, hg⟩
def ChancePost (W : World) (tb m : Nat) (w : World) (e : Ending) (w' : World) : Prop :=
  ∃ b : Bool, e = .returned (.bool b) ∧ Tape W tb (m + 1) w' ∧ w.grownBy w' (some tb)
theorem chance_any (W : World) (tb m : Nat) (x y : Int) (w : World) (hT : Tape W tb m w) (hm : m ≤ 1000000000000) (h0 : 1 ≤ y) (h1 : y ≤ 1000000) :
    Calls Try.prog 27 #[.pointer (some ⟨tb, 0, none⟩), .int .i64 x, .int .i64 y] w (ChancePost W tb m w) := by
  have HT := Lib.hid hT
  clear hT
  go_enter Try.func27, Try.ntmps27
  go_wp2_with fail
  refine (next_any W tb m y _ HT.out hm h0 (by omega)).mono ?_
  rintro e w' ⟨v, rfl, v0, v1, hT, hg⟩
  go_wp2
  go_ret
  exact ⟨_, rfl, hT, hg⟩
def PickPost (W : World) (tb m : Nat) (ds : List Int) (w : World) (e : Ending) (w' : World) : Prop :=
  ∃ v : Int, e = .returned (.int .i64 v) ∧ v ∈ ds ∧ Tape W tb (m + 1) w' ∧ w.grownBy w' (some tb)
theorem pick_any (W : World) (tb m : Nat) (A : Option Addr) (ds : List Int) (c : Nat) (w : World) (hT : Tape W tb m w) (hm : m ≤ 1000000000000) (hA : IntsAt w A ds) (hne : ∀ b o, A = some ⟨b, o, none⟩ → b ≠ tb) (hd : 0 < ds.length) (hd2 : ds.length ≤ 1000) :
    Calls Try.prog 23 #[.pointer (some ⟨tb, 0, none⟩), .slice A ds.length c] w (PickPost W tb m ds w) := by
  have HT := Lib.hid hT
  have HA := Lib.hid hA
  have HNE := Lib.hid hne
  have hn0 : ((ds.length : Int) == 0) = false := beq_eq_false_iff_ne.2 (by omega)
  clear hT hA hne
  go_enter Try.func23, Try.ntmps23
  go_wp2_with fail
  refine (next_any W tb m ds.length _ HT.out hm (by omega) (by omega)).mono ?_
  rintro e w' ⟨v, rfl, v0, v1, hT, hg⟩
  obtain ⟨b, off, rfl, hbl, hcell⟩ := (HA.out.turn hg HNE.out).at_ (j := v.toNat) (by omega)
  have hcv := hcell v.toNat (by omega)
  have hmem : ds.getD v.toNat 0 ∈ ds := by
    have : v.toNat < ds.length := by omega
    simp only [List.getD, List.getElem?_eq_getElem this, Option.getD_some]
    exact List.getElem_mem this
  have HM := Lib.hid hmem
  have HT2 := Lib.hid hT
  have HG := Lib.hid hg
  clear hcell hmem hT hg
  obtain ⟨x, hx⟩ : ∃ x, x = ds.getD v.toNat 0 := ⟨_, rfl⟩
  rw [← hx] at hcv HM
  clear hx
  go_wp2
  go_ret
  exact ⟨x, rfl, HM.out, HT2.out, HG.out⟩
end Go.Proofs.Ytakckjccdknjaaa
