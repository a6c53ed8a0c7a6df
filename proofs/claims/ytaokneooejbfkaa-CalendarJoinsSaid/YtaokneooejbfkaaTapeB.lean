/- The tape in memory, as a block that is known; Fold and the tape's methods Next, Range, Chance, Pick: by bounds. -/
import Derived.Test.YtaokneooejbfkaaEngD
namespace Go.Proofs.Ytaokneooejbfkaa
set_option maxRecDepth 8000
open Go.RowKit
/-- The cells of a tape that has read at most m numbers; what it reads lies in the memory of the world W in which the law began. -/
def TapeC (W : World) (m : Nat) (cs : Array Value) : Prop := ∃ (L : Option Addr) (xs : List Int) (c : Nat) (at_ : Int), cs = #[.slice L xs.length c, .int .i64 at_] ∧ 0 ≤ at_ ∧ at_ ≤ m ∧ IntsAt W L xs ∧ xs.length ≤ 9223372036854775807
theorem TapeC.mono {W : World} {m m' : Nat} {cs : Array Value} (h : TapeC W m cs) (hm : m ≤ m') : TapeC W m' cs := by
  obtain ⟨L, xs, c, a, h1, h2, h3, h4⟩ := h
  exact ⟨L, xs, c, a, h1, h2, by omega, h4⟩
/-- A pointer to block tb is a tape. -/
def Tp (W : World) (tb m : Nat) (w : World) : Prop := ∃ cs, Blk w tb cs ∧ TapeC W m cs ∧ Below W.heap.size W w ∧ W.heap.size ≤ tb
theorem Tp.mono {W w : World} {tb m m' : Nat} (h : Tp W tb m w) (hm : m ≤ m') : Tp W tb m' w := by
  obtain ⟨cs, h1, h2, h3⟩ := h; exact ⟨cs, h1, h2.mono hm, h3⟩
theorem Tp.lt {W w : World} {tb m : Nat} (h : Tp W tb m w) : tb < w.heap.size := by obtain ⟨_, h, _⟩ := h; exact h.lt
theorem Tp.low {W w : World} {tb m : Nat} (h : Tp W tb m w) : Below W.heap.size W w := by obtain ⟨_, _, _, h, _⟩ := h; exact h
theorem Tp.le {W w : World} {tb m : Nat} (h : Tp W tb m w) : W.heap.size ≤ tb := by obtain ⟨_, _, _, _, h⟩ := h; exact h
theorem Tp.after {W w w' : World} {tb m : Nat} (h : Tp W tb m w) (hb : Below w.heap.size w w') : Tp W tb m w' := by
  obtain ⟨cs, h1, h2, h3, h4⟩ := h
  exact ⟨cs, h1.below hb h1.lt, h2, h3.trans (hb.mono h3.size), h4⟩
/-- Out of what a call knows of memory: the tape is one of its blocks. -/
theorem Mem.tp {W w0 w : World} {X : List Nat} {L : List (Nat × Array Value)} {tb m : Nat} {cs : Array Value} (HM : Mem w0 X L w) (hl : Look L tb cs) (hc : TapeC W m cs) (h0 : Below W.heap.size W w0) (hX : ∀ b ∈ X, W.heap.size ≤ b) : Tp W tb m w := by
  have hb := HM.get hl
  refine ⟨cs, hb, hc, ⟨HM.only.os.trans h0.os, HM.only.tape.trans h0.tape, HM.only.output.trans h0.output, Nat.le_trans h0.size HM.only.size, fun k hk => ?_⟩, ?_⟩
  · exact (HM.only.block k (Nat.lt_of_lt_of_le hk h0.size) (fun e => absurd (hX k e) (by omega))).trans (h0.block k hk)
  · rcases HM.own _ hl.mem with h | h
    · exact Nat.le_trans h0.size h
    · exact hX _ h
/-- Behind a call that has read on: the tape's block holds other cells. -/
theorem Mem.read {W w0 w w' : World} {X : List Nat} {L : List (Nat × Array Value)} {L' : Array Value → List (Nat × Array Value)} {tb m : Nat} {cs : Array Value} (HM : Mem w0 X L w) (ha : ∀ c', At L tb cs c' (L' c')) (hg : w.grownBy w' (some tb)) (hT : Tp W tb m w') : ∃ c', TapeC W m c' ∧ Mem w0 X (L' c') w' := by
  obtain ⟨c', h1, h2, _⟩ := hT
  exact ⟨c', h2, HM.put (ha c') h1 (Only.of_grown hg)⟩
/-- The end of a call that had the tape from its caller. -/
theorem Mem.done {W w0 w : World} {L : List (Nat × Array Value)} {tb m : Nat} {cs : Array Value} (HM : Mem w0 [tb] L w) (hl : Look L tb cs) (hc : TapeC W m cs) (h0 : Below W.heap.size W w0) (ht : W.heap.size ≤ tb) : Tp W tb m w ∧ w0.grownBy w (some tb) :=
  ⟨HM.tp hl hc h0 (by simpa using ht), ⟨HM.only.os, HM.only.tape, HM.only.output, HM.only.size, fun k hk hn => HM.only.block k hk (by simpa using hn)⟩⟩
theorem only_grown {a w : World} {tb : Nat} (h : Only [tb] a w) : a.grownBy w (some tb) := ⟨h.os, h.tape, h.output, h.size, fun k hk hn => h.block k hk (by simpa using hn)⟩
theorem turn_refl (w : World) (tb : Nat) : w.grownBy w (some tb) := World.grownBy.refl w _
theorem turn_trans {a b c : World} {tb : Nat} (h : a.grownBy b (some tb)) (k : b.grownBy c (some tb)) : a.grownBy c (some tb) :=
  ⟨k.os.trans h.os, k.tape.trans h.tape, k.output.trans h.output, Nat.le_trans h.size k.size, fun i hi hne => (k.block i (Nat.lt_of_lt_of_le hi h.size) hne).trans (h.block i hi hne)⟩
theorem turn_below {a b : World} {tb : Nat} (h : Below a.heap.size a b) : a.grownBy b (some tb) := ⟨h.os, h.tape, h.output, h.size, fun i hi _ => h.block i hi⟩
theorem turn_cell {a b : World} {tb : Nat} (h : a.grownBy b (some tb)) : (∀ q o, q < a.heap.size → q ≠ tb → b.cell? ⟨q, o, none⟩ = a.cell? ⟨q, o, none⟩) ∧ (∀ q o, q < a.heap.size → q ≠ tb → b.frozen? ⟨q, o, none⟩ = a.frozen? ⟨q, o, none⟩) :=
  ⟨fun q o hq hne => World.cell?_of_block (h.block q hq (by simpa using hne)), fun q o hq hne => World.frozen?_of_block (h.block q hq (by simpa using hne))⟩
/-- Ints that lie elsewhere than in the tape's block are kept. -/
theorem IntsAt.turn {w w' : World} {tb : Nat} {A : Option Addr} {hs : List Int} (h : IntsAt w A hs) (hg : w.grownBy w' (some tb)) (hne : ∀ b o, A = some ⟨b, o, none⟩ → b ≠ tb) : IntsAt w' A hs := by
  rcases h with h | ⟨b, off, hA, hlt, hc⟩
  · exact .inl h
  · exact .inr ⟨b, off, hA, Nat.lt_of_lt_of_le hlt hg.size, fun j hj => ((turn_cell hg).1 b (off + j) hlt (hne b off hA)).trans (hc j hj)⟩
def FoldPost (n : Int) (w : World) (e : Ending) (w' : World) : Prop := ∃ v : Int, e = .returned (.int .i64 v) ∧ 0 ≤ v ∧ v < n ∧ w = w'
theorem fold_any (v n : Int) (w : World) (h0 : 1 ≤ n) (h1 : n ≤ 4611686018427387904) :
    Calls Try.prog 13 #[.int .i64 v, .int .i64 n] w (FoldPost n w) := by
  by_cases e : n = 1
  · subst e
    go_enter Try.func13, Try.ntmps13
    go_wp2
    go_ret
    exact ⟨0, rfl, by omega, by omega, rfl⟩
  · have hn : ¬ n ≤ 1 := by omega
    clear e
    by_cases hv : 0 ≤ v
    · have hb : v.tmod n = v % n := Int.tmod_eq_emod_of_nonneg hv
      have q0 := Int.emod_nonneg v (show n ≠ 0 by omega)
      have q1 := Int.emod_lt_of_pos v (show 0 < n by omega)
      obtain ⟨q, hq⟩ : ∃ q, q = v % n := ⟨_, rfl⟩
      rw [← hq] at hb q0 q1
      clear hq
      go_enter Try.func13, Try.ntmps13
      go_wp2
      go_ret
      exact ⟨q, rfl, q0, q1, rfl⟩
    · have e2 : v.tmod n = -((-v) % n) := by rw [← Int.tmod_eq_emod_of_nonneg (by omega), ← Int.neg_tmod, Int.neg_neg]
      have p0 := Int.emod_nonneg (-v) (show n ≠ 0 by omega)
      have p1 := Int.emod_lt_of_pos (-v) (show 0 < n by omega)
      have q0 : -n < v.tmod n := by omega
      have q1 : v.tmod n ≤ 0 := by omega
      clear e2 p0 p1
      obtain ⟨q, hq⟩ : ∃ q, q = v.tmod n := ⟨_, rfl⟩
      rw [← hq] at q0 q1
      have hb : v.tmod n = q := hq.symm
      clear hq
      by_cases hq0 : q < 0
      · go_enter Try.func13, Try.ntmps13
        go_wp2
        go_ret
        exact ⟨q + n, rfl, by omega, by omega, rfl⟩
      · obtain rfl : q = 0 := by omega
        go_enter Try.func13, Try.ntmps13
        go_wp2
        go_ret
        exact ⟨0, rfl, by omega, by omega, rfl⟩

def NextPost (W : World) (tb m : Nat) (n : Int) (w : World) (e : Ending) (w' : World) : Prop :=
  ∃ v : Int, e = .returned (.int .i64 v) ∧ 0 ≤ v ∧ v < n ∧ Tp W tb (m + 1) w' ∧ w.grownBy w' (some tb)
theorem next_step {W w : World} {tb m : Nat} {L : Option Addr} {xs : List Int} {c : Nat} {at_ : Int} (hb : Below W.heap.size W w) (hle : W.heap.size ≤ tb)
    (hbl : Blk w tb #[.slice L xs.length c, .int .i64 at_]) (h0 : 0 ≤ at_) (ham : at_ ≤ m) (hI : IntsAt W L xs) (hxl : xs.length ≤ 9223372036854775807) (N : Nat) :
    Tp W tb (m + 1) ((w.drewN N).setCell ⟨tb, 1, none⟩ (.int .i64 (at_ + 1))) ∧ w.grownBy ((w.drewN N).setCell ⟨tb, 1, none⟩ (.int .i64 (at_ + 1))) (some tb) := by
  have hs := (hbl.drewN N).set 1 (.int .i64 (at_ + 1))
  have hO : Only [tb] (w.drewN N) ((w.drewN N).setCell ⟨tb, 1, none⟩ (.int .i64 (at_ + 1))) := by
    obtain ⟨t, ht⟩ := hbl.drewN N
    rw [setCell_eq_setRow _ tb 1 _ t (0, 0) _ ht]
    exact Only.setRow _ _ _
  have hg : w.grownBy ((w.drewN N).setCell ⟨tb, 1, none⟩ (.int .i64 (at_ + 1))) (some tb) := turn_trans (turn_below (below_drewN (Below.refl _ _) N)) (only_grown hO)
  exact ⟨⟨_, hs, ⟨L, xs, c, at_ + 1, by simp, by omega, by omega, hI, hxl⟩, hb.trans ⟨hg.os, hg.tape, hg.output, hg.size, fun k hk => hg.block k (Nat.lt_of_lt_of_le hk hb.size) (by simp; omega)⟩, hle⟩, hg⟩
set_option maxHeartbeats 1000000 in
theorem next_any (W : World) (tb m : Nat) (n : Int) (w : World) (hT : Tp W tb m w) (hm : m ≤ 1000000000000) (h0 : 1 ≤ n) (h1 : n ≤ 4611686018427387904) :
    Calls Try.prog 4 #[.pointer (some ⟨tb, 0, none⟩), .int .i64 n] w (NextPost W tb m n w) := by
  obtain ⟨_, hbl, ⟨L, xs, c, at_, rfl, ha0, ham, hI, hxl⟩, hb, hle⟩ := hT
  have hc0 : w.cell? ⟨tb, 0, none⟩ = some (.slice L xs.length c) := hbl.cell 0
  have hc1 : w.cell? ⟨tb, 1, none⟩ = some (.int .i64 at_) := hbl.cell 1
  have hf1 : w.frozen? ⟨tb, 1, none⟩ = false := hbl.free 1
  have HI := Lib.hid (hI.below hb)
  have HS := Lib.hid (next_step hb hle hbl ha0 ham hI hxl)
  clear hb hbl hI
  have ham' : at_ ≤ 1000000000000 := by omega
  by_cases hlt : at_ < xs.length
  · obtain ⟨b, off, rfl, hbb, hcell⟩ := HI.out.at_ (j := at_.toNat) (by omega)
    have hcx := hcell at_.toNat (by omega)
    clear hcell
    obtain ⟨x, hx⟩ : ∃ x, x = xs.getD at_.toNat 0 := ⟨_, rfl⟩
    rw [← hx] at hcx
    clear hx
    go_enter Try.func4, Try.ntmps4
    go_wp2
    go_quiet (fail)
    go_wp2
    go_quiet (fail)
    go_wp2_with (go_at_call 13; refine (fold_any _ n _ h0 h1).mono ?_; rintro e w' ⟨v, rfl, v0, v1, rfl⟩)
    go_ret
    exact ⟨v, rfl, v0, v1, HS.out _⟩
  · go_enter Try.func4, Try.ntmps4
    go_wp2
    go_quiet (fail)
    go_wp2_with (go_at_call 13; refine (fold_any _ n _ h0 h1).mono ?_; rintro e w' ⟨v, rfl, v0, v1, rfl⟩)
    go_ret
    exact ⟨v, rfl, v0, v1, HS.out _⟩

def RangePost (W : World) (tb m : Nat) (lo hi : Int) (w : World) (e : Ending) (w' : World) : Prop :=
  ∃ v : Int, e = .returned (.int .i64 v) ∧ lo ≤ v ∧ v ≤ hi ∧ Tp W tb (m + 1) w' ∧ w.grownBy w' (some tb)
def ChancePost (W : World) (tb m : Nat) (w : World) (e : Ending) (w' : World) : Prop :=
  ∃ b : Bool, e = .returned (.bool b) ∧ Tp W tb (m + 1) w' ∧ w.grownBy w' (some tb)
def PickPost (W : World) (tb m : Nat) (ds : List Int) (w : World) (e : Ending) (w' : World) : Prop :=
  ∃ v : Int, e = .returned (.int .i64 v) ∧ v ∈ ds ∧ Tp W tb (m + 1) w' ∧ w.grownBy w' (some tb)
theorem pick_any (W : World) (tb m : Nat) (A : Option Addr) (ds : List Int) (c : Nat) (w : World) (hT : Tp W tb m w) (hm : m ≤ 1000000000000) (hA : IntsAt w A ds) (hne : ∀ b o, A = some ⟨b, o, none⟩ → b ≠ tb) (hd : 0 < ds.length) (hd2 : ds.length ≤ 1000) :
    Calls Try.prog 14 #[.pointer (some ⟨tb, 0, none⟩), .slice A ds.length c] w (PickPost W tb m ds w) := by
  have HT := Lib.hid hT
  have HA := Lib.hid hA
  have HNE := Lib.hid hne
  have hn0 : ((ds.length : Int) == 0) = false := beq_eq_false_iff_ne.2 (by omega)
  clear hT hA hne
  go_enter Try.func14, Try.ntmps14
  go_wp2_with fail
  refine (next_any W tb m ds.length _ HT.out hm (by omega) (by omega)).mono ?_
  rintro e w' ⟨v, rfl, v0, v1, hT, hg⟩
  obtain ⟨b, off, rfl, hbl, hcell⟩ := (HA.out.turn hg HNE.out).at_ (j := v.toNat) (by omega)
  have hcv := hcell v.toNat (by omega)
  have hmem : ds.getD v.toNat 0 ∈ ds := by
    have : v.toNat < ds.length := by omega
    simp only [List.getD, List.getElem?_eq_getElem this, Option.getD_some]
    exact List.getElem_mem this
  have HM := Lib.hid hmem
  have HT2 := Lib.hid hT
  have HG := Lib.hid hg
  clear hcell hmem hT hg
  obtain ⟨x, hx⟩ : ∃ x, x = ds.getD v.toNat 0 := ⟨_, rfl⟩
  rw [← hx] at hcv HM
  clear hx
  go_wp2
  go_ret
  exact ⟨x, rfl, HM.out, HT2.out, HG.out⟩
theorem ints_new (w : World) (ds : List Int) (T : TypeId) : IntsAt (w.alloc (.cells (ds.map (Value.int .i64)).toArray T)) (some ⟨w.heap.size, 0, none⟩) ds := by
  refine .inr ⟨w.heap.size, 0, rfl, by simp, fun j hj => ?_⟩
  rw [Nat.zero_add, (Blk.new w _ T).cell j]
  simp [List.getD, hj]
/-- Pick out of a list that was made for the call. -/
theorem pick_new {W w0 w : World} {X : List Nat} {L : List (Nat × Array Value)} {tb m : Nat} {cs : Array Value} (HM : Mem w0 X L w) (hl : Look L tb cs) (hc : TapeC W m cs) (h0 : Below W.heap.size W w0) (hX : ∀ b ∈ X, W.heap.size ≤ b) (ds : List Int) (T : TypeId) (hm : m ≤ 1000000000000) (hd : 0 < ds.length) (hd2 : ds.length ≤ 1000) :
    Calls Try.prog 14 #[.pointer (some ⟨tb, 0, none⟩), .slice (some ⟨w.heap.size, 0, none⟩) ds.length ds.length] (w.alloc (.cells (ds.map (Value.int .i64)).toArray T)) fun e w' =>
      ∃ (v : Int) (c' : Array Value), e = .returned (.int .i64 v) ∧ v ∈ ds ∧ TapeC W (m + 1) c' ∧ Blk w' tb c' ∧ Only [tb] w w' := by
  have hlt := (HM.get hl).lt
  refine (pick_any W tb m _ ds _ _ ((HM.new _ T).tp (.there hl) hc h0 hX) hm (ints_new w ds T) (fun b o e => by cases e; omega) hd hd2).mono ?_
  rintro e w' ⟨v, rfl, hv, ⟨c', h1, h2, _⟩, hg⟩
  exact ⟨v, c', rfl, hv, h2, h1, ((Only.of (below_new w _) [tb]).trans (Only.of_grown hg))⟩
end Go.Proofs.Ytaokneooejbfkaa
