/- The tape of the scene: Mod, Next, Pick, Name. -/
import Derived.Test.YtadnddffdedjgaaEngJ
import Derived.Test.YtadnddffdedjgaaTapeO
namespace Go.Proofs.Ytadnddffdedjgaa
set_option maxRecDepth 8000
open Go.RowKit
def Sc.md (v n : Int) : Int := if v.tmod n < 0 then v.tmod n + n else v.tmod n
theorem Sc.md_in {v n : Int} (h0 : 1 ≤ n) : 0 ≤ Sc.md v n ∧ Sc.md v n < n := by
  have h1 : v.tmod n < n := by
    have := Int.tmod_lt_of_pos v (show 0 < n by omega); exact this
  have h2 : -n < v.tmod n := by
    have h3 : (-v).tmod n < n := Int.tmod_lt_of_pos (-v) (by omega)
    rw [Int.neg_tmod] at h3
    omega
  unfold Sc.md
  split <;> omega
theorem smod_any (v n z : Int) (w : World) (h0 : 1 ≤ n) (h1 : n ≤ 4611686018427387904) (hz : Hid (z = Sc.md v n)) :
    Calls Try.prog 23 #[.int .i64 v, .int .i64 n] w fun e w' => e = .returned (.int .i64 z) ∧ w' = w := by
  have h1 : v.tmod n < n := by
    have := Int.tmod_lt_of_pos v (show 0 < n by omega); exact this
  have h2 : -n < v.tmod n := by
    have h3 : (-v).tmod n < n := Int.tmod_lt_of_pos (-v) (by omega)
    rw [Int.neg_tmod] at h3
    omega
  obtain ⟨q, hq⟩ : ∃ q, q = v.tmod n := ⟨_, rfl⟩
  have hz2 : z = if q < 0 then q + n else q := by rw [hz.out, Sc.md, hq]
  rw [← hq] at h1 h2
  have hb : v.tmod n = q := hq.symm
  have hn0 : ¬ n < 1 := by omega
  have hn1 : ¬ n = 0 := by omega
  clear hq hz
  by_cases hneg : q < 0
  · rw [if_pos hneg] at hz2
    subst hz2
    go_enter Try.func23, Try.ntmps23
    go_wp2
    go_ret
    exact ⟨rfl, rfl⟩
  · rw [if_neg hneg] at hz2
    subst hz2
    go_enter Try.func23, Try.ntmps23
    go_wp2
    go_ret
    exact ⟨rfl, rfl⟩
theorem smod_q {v n z : Int} {w : World} {k : Nat} (h0 : 1 ≤ n) (h1 : n ≤ 4611686018427387904) (hz : Hid (z = Sc.md v n)) :
    Calls Try.prog 23 #[.int .i64 v, .int .i64 n] (w.drewN k) fun e w'' => e = .returned (.int .i64 z) ∧ ∃ m, w'' = w.drewN m :=
  Calls.quiet_of_same (n := k) (smod_any v n z (w.drewN k) h0 h1 hz)
set_option maxHeartbeats 1000000 in
theorem snext_any (W : World) (tb m : Nat) (n : Int) (w : World) (hT : Tp W tb m w) (hm : m ≤ 1000000000000) (h0 : 1 ≤ n) (h1 : n ≤ 4611686018427387904) :
    Calls Try.prog 35 #[.pointer (some ⟨tb, 0, none⟩), .int .i64 n] w (NextPost W tb m n w) := by
  have HT0 := Lib.hid hT
  obtain ⟨_, hbl, ⟨L, xs, c, at_, rfl, ha0, ham, hI, hxl⟩, hb, hle⟩ := hT
  have hc0 : w.cell? ⟨tb, 0, none⟩ = some (.slice L xs.length c) := hbl.cell 0
  have hc1 : w.cell? ⟨tb, 1, none⟩ = some (.int .i64 at_) := hbl.cell 1
  have hf1 : w.frozen? ⟨tb, 1, none⟩ = false := hbl.free 1
  have HI := Lib.hid hI
  have HK := Lib.hid hb
  have HS := Lib.hid (next_step hb hle hbl ha0 ham hI hxl)
  have HB : Hid (∀ N, Blk ((w.drewN N).setCell ⟨tb, 1, none⟩ (.int .i64 (at_ + 1))) tb #[.slice L xs.length c, .int .i64 (at_ + 1)]) := Lib.hid (fun N => (hbl.drewN N).set 1 (.int .i64 (at_ + 1)))
  clear hb hbl hI
  have ham' : at_ ≤ 1000000000000 := by omega
  by_cases hlt : at_ < xs.length
  · obtain ⟨b, off, rfl, hbW, hcell⟩ := HI.out.at_ (j := at_.toNat) (by omega)
    have hcx := (((HI.out.below HK.out).at_ (j := at_.toNat) (by omega)))
    obtain ⟨b2, off2, e2, hbb, hcell2⟩ := hcx
    injection e2 with e2
    injection e2 with e2 e3
    subst e2 e3
    have hcx := hcell2 at_.toNat (by omega)
    have hne : b ≠ tb := by omega
    clear hcell hcell2
    obtain ⟨x, hx⟩ : ∃ x, x = xs.getD at_.toNat 0 := ⟨_, rfl⟩
    rw [← hx] at hcx
    clear hx
    obtain ⟨z, hz⟩ : ∃ z, Hid (z = Sc.md x n) := ⟨_, Lib.hid rfl⟩
    obtain ⟨z0, z1⟩ := Sc.md_in (v := x) h0
    rw [← hz.out] at z0 z1
    go_enter Try.func35, Try.ntmps35
    go_wp2
    go_quiet (fail)
    go_wp2
    obtain ⟨hT9, hg9⟩ := HS.out nq
    have hcx9 := ((turn_cell hg9).1 b (off + at_.toNat) hbb hne).trans hcx
    have hb9 := HB.out nq
    obtain ⟨w9, hw9⟩ : ∃ w9, w9 = (w.drewN nq).setCell ⟨tb, 1, none⟩ (.int .i64 (at_ + 1)) := ⟨_, rfl⟩
    rw [← hw9] at hT9 hg9 hcx9 hb9 ⊢
    have hc9 : w9.cell? ⟨tb, 0, none⟩ = some (.slice (some ⟨b, off, none⟩) xs.length c) := hb9.cell 0
    have hd9 : w9.cell? ⟨tb, 1, none⟩ = some (.int .i64 (at_ + 1)) := hb9.cell 1
    have HT9 := Lib.hid hT9
    have HG9 := Lib.hid hg9
    have e9 : at_ + 1 - 1 = at_ := by omega
    clear hw9 hc0 hc1 hcx hf1 hT9 hg9 hb9
    go_quiet (with_reducible exact smod_q h0 h1 hz)
    go_wp2
    go_ret
    exact ⟨z, rfl, z0, z1, HT9.out.after (below_drewN (Below.refl _ _) _), turn_trans HG9.out (turn_below (below_drewN (Below.refl _ _) _))⟩
  · go_enter Try.func35, Try.ntmps35
    go_wp2
    go_quiet (fail)
    go_wp2
    go_ret
    exact ⟨0, rfl, by omega, by omega, (HT0.out.mono (by omega)).after (below_drewN (Below.refl _ _) _), turn_below (below_drewN (Below.refl _ _) _)⟩
theorem spick_any (W : World) (tb m : Nat) (A : Option Addr) (ds : List Int) (c : Nat) (w : World) (hT : Tp W tb m w) (hm : m ≤ 1000000000000) (hA : IntsAt w A ds) (hne : ∀ b o, A = some ⟨b, o, none⟩ → b ≠ tb) (hd : 0 < ds.length) (hd2 : ds.length ≤ 1000) :
    Calls Try.prog 36 #[.pointer (some ⟨tb, 0, none⟩), .slice A ds.length c] w (PickPost W tb m ds w) := by
  have HT := Lib.hid hT
  have HA := Lib.hid hA
  have HNE := Lib.hid hne
  clear hT hA hne
  go_enter Try.func36, Try.ntmps36
  go_wp2_with fail
  refine (snext_any W tb m ds.length _ HT.out hm (by omega) (by omega)).mono ?_
  rintro e w' ⟨v, rfl, v0, v1, hT, hg⟩
  obtain ⟨b, off, rfl, hbl, hcell⟩ := (HA.out.turn hg HNE.out).at_ (j := v.toNat) (by omega)
  have hcv := hcell v.toNat (by omega)
  have hmem : ds.getD v.toNat 0 ∈ ds := by
    have : v.toNat < ds.length := by omega
    simp only [List.getD, List.getElem?_eq_getElem this, Option.getD_some]
    exact List.getElem_mem this
  have HM := Lib.hid hmem
  have HT2 := Lib.hid hT
  have HG := Lib.hid hg
  clear hcell hmem hT hg
  obtain ⟨x, hx⟩ : ∃ x, x = ds.getD v.toNat 0 := ⟨_, rfl⟩
  rw [← hx] at hcv HM
  clear hx
  go_wp2
  go_ret
  exact ⟨x, rfl, HM.out, HT2.out, HG.out⟩
/-- Pick out of a list that was made for the call. -/
theorem spick_new {W w0 w : World} {X : List Nat} {L : List (Nat × Array Value)} {tb m : Nat} {cs : Array Value} (HM : Mem w0 X L w) (hl : Look L tb cs) (hc : TapeC W m cs) (h0 : Below W.heap.size W w0) (hX : ∀ b ∈ X, W.heap.size ≤ b) (ds : List Int) (T : TypeId) (hm : m ≤ 1000000000000) (hd : 0 < ds.length) (hd2 : ds.length ≤ 1000) :
    Calls Try.prog 36 #[.pointer (some ⟨tb, 0, none⟩), .slice (some ⟨w.heap.size, 0, none⟩) ds.length ds.length] (w.alloc (.cells (ds.map (Value.int .i64)).toArray T)) fun e w' =>
      ∃ (v : Int) (c' : Array Value), e = .returned (.int .i64 v) ∧ v ∈ ds ∧ TapeC W (m + 1) c' ∧ Blk w' tb c' ∧ Only [tb] w w' := by
  have hlt := (HM.get hl).lt
  refine (spick_any W tb m _ ds _ _ ((HM.new _ T).tp (.there hl) hc h0 hX) hm (ints_new w ds T) (fun b o e => by cases e; omega) hd hd2).mono ?_
  rintro e w' ⟨v, rfl, hv, ⟨c', h1, h2, _⟩, hg⟩
  exact ⟨v, c', rfl, hv, h2, h1, ((Only.of (below_new w _) [tb]).trans (Only.of_grown hg))⟩
end Go.Proofs.Ytadnddffdedjgaa
