/- What the law CalendarJoins leans on: readings of calendars that are held, the same place of the tape read again, business days of the joined calendar. -/
import Derived.Test.YtaokneooejbfkaaJoJ
import Derived.Test.YtaokneooejbfkaaJoR
import Derived.Test.YtaokneooejbfkaaJoE
import Derived.Test.YtaokneooejbfkaaJoN
import Derived.Test.YtaokneooejbfkaaJoT
import Derived.Test.YtaokneooejbfkaaKnown
namespace Go.Proofs.Ytaokneooejbfkaa
set_option maxRecDepth 8000
open Go.RowKit
/-- The holidays of calendars lie in blocks of the list. -/
def Jo.In (l : List Jo.C) (BB : List (Nat × Array Value)) : Prop := ∀ x ∈ l, ∃ B, SlAt 1 x.v (Jo.ir x.hs) B ∧ ∀ p ∈ B, p ∈ BB
theorem Jo.In.more {l : List Jo.C} {BB CC : List (Nat × Array Value)} (h : Jo.In l BB) (hs : ∀ p ∈ BB, p ∈ CC) : Jo.In l CC := fun x hx => by
  obtain ⟨B, h1, h2⟩ := h x hx
  exact ⟨B, h1, fun p hp => hs p (h2 p hp)⟩
theorem Jo.In.snoc {l : List Jo.C} {BB B : List (Nat × Array Value)} {x : Jo.C} (h : Jo.In l BB) (hx : SlAt 1 x.v (Jo.ir x.hs) B) : Jo.In (l ++ [x]) (B ++ BB) := fun y hy => by
  rcases List.mem_append.1 hy with hy | hy
  · obtain ⟨B', h1, h2⟩ := h y hy
    exact ⟨B', h1, fun p hp => List.mem_append_right _ (h2 p hp)⟩
  · rw [List.mem_singleton.1 hy]; exact ⟨B, hx, fun p hp => List.mem_append_left _ hp⟩
theorem Jo.held {w0 w : World} {X : List Nat} {L B : List (Nat × Array Value)} (HM : Mem w0 X L w) {x : Jo.C} (h : SlAt 1 x.v (Jo.ir x.hs) B) (hB : ∀ p ∈ B, p ∈ L) : IntsAt w x.A x.hs := (rdS_ints (h.rd HM hB)).2
theorem Jo.rd_of {w0 w : World} {X : List Nat} {L BB : List (Nat × Array Value)} {sv : Value} {l : List Jo.C} (HM : Mem w0 X L w) (HS : RdS 9 w sv (l.map Jo.C.cells)) (HX : Jo.In l BB) (hBB : ∀ p ∈ BB, p ∈ L) (hl : ∀ x ∈ l, x.hs.length ≤ 2000) : Jo.Rd w sv l :=
  ⟨HS, fun x hx => by
    obtain ⟨B, h1, h2⟩ := HX x hx
    exact ⟨Jo.held HM h1 fun p hp => hBB p (h2 p hp), by have := hl x hx; omega⟩⟩
/-- One out of a list that was made for the call, exactly. -/
theorem one_en {w0 w : World} {X : List Nat} {L : List (Nat × Array Value)} {tb : Nat} {A : Option Addr} {xs : List Int} {c : Nat} {at_ : Int} (HM : Mem w0 X L w) (hl : Look L tb #[.slice A xs.length c, .int .i64 at_]) (ha0 : 0 ≤ at_) (ham : at_ ≤ 1000000000000) (hI : IntsAt w A xs) (ss : List ByteArray) (T : TypeId) (hd : 0 < ss.length) (hd2 : ss.length ≤ 1000) :
    Calls Try.prog 7 #[.pointer (some ⟨tb, 0, none⟩), .slice (some ⟨w.heap.size, 0, none⟩) ss.length ss.length] (w.alloc (.cells (ss.map Value.string).toArray T)) fun e w' =>
      e = .returned (.string (ss.getD (Tv xs at_ ss.length).toNat default)) ∧ Blk w' tb #[.slice A xs.length c, .int .i64 (at_ + 1)] ∧ Only [tb] w w' := by
  have hlt := (HM.get hl).lt
  refine (one_e tb w.heap.size A xs c ss.length at_ ss _ ((HM.new _ T).get (.there hl)) ha0 ham (hI.alloc _) (Blk.new w _ T) (by omega) hd hd2).mono ?_
  rintro e w' ⟨rfl, h1, h2⟩
  exact ⟨rfl, h1, (Only.of (below_new w _) [tb]).trans h2⟩
theorem Mem.shuffle {w0 w : World} {X : List Nat} {p q : Nat × Array Value} {K B BB : List (Nat × Array Value)} (h : Mem w0 X (p :: (K ++ (q :: (B ++ BB)))) w) : Mem w0 X (p :: q :: (B ++ (K ++ BB))) w := by
  refine h.perm (List.Perm.cons p ?_)
  have h1 : (K ++ (q :: (B ++ BB))).Perm (q :: (K ++ (B ++ BB))) := List.perm_middle
  have h2 : (K ++ (B ++ BB)).Perm (B ++ (K ++ BB)) := by
    rw [← List.append_assoc, ← List.append_assoc]
    exact (List.perm_append_comm (l₁ := K) (l₂ := B)).append_right BB
  exact ((h2.cons q).symm.trans h1.symm.symm.symm).symm.symm
theorem Mem.shuffle2 {w0 w : World} {X : List Nat} {p q : Nat × Array Value} {K B BB : List (Nat × Array Value)} (h : Mem w0 X (K ++ (p :: q :: (B ++ BB))) w) : Mem w0 X (p :: q :: (B ++ (K ++ BB))) w :=
  Mem.shuffle (h.perm (List.perm_middle (l₁ := K) (a := p) (l₂ := q :: (B ++ BB))).symm)
theorem Mem.shuffle3 {w0 w : World} {X : List Nat} {o p q : Nat × Array Value} {K B BB : List (Nat × Array Value)} (h : Mem w0 X (K ++ (o :: p :: q :: (B ++ BB))) w) : Mem w0 X (o :: p :: q :: (B ++ (K ++ BB))) w := by
  have h1 := h.perm (List.perm_middle (l₁ := K) (a := o) (l₂ := p :: q :: (B ++ BB))).symm
  have h2 := h1.perm ((List.perm_middle (l₁ := K) (a := p) (l₂ := q :: (B ++ BB))).symm.cons o)
  refine h2.perm (List.Perm.cons o (List.Perm.cons p ?_))
  have h3 : (K ++ (q :: (B ++ BB))).Perm (q :: (K ++ (B ++ BB))) := List.perm_middle
  have h4 : (K ++ (B ++ BB)).Perm (B ++ (K ++ BB)) := by
    rw [← List.append_assoc, ← List.append_assoc]
    exact (List.perm_append_comm (l₁ := K) (l₂ := B)).append_right BB
  exact (h4.cons q).symm.trans h3.symm
theorem Sub.skips {K R : List (Nat × Array Value)} : ∀ {N : List (Nat × Array Value)}, Sub K R → Sub K (N ++ R)
  | [], h => h
  | _ :: _, h => .skip (Sub.skips h)
section
variable {md : Region.Mode} {ops : Array Oper} {Q : Exit → Act → World → Prop} {K : List Nat} {w0 w : World} {X : List Nat} {L L' : List (Nat × Array Value)} {i : Nat} {oi : Oper} {d : Tmp} {fuel : Nat} {listed : Array Bool} {a : Act}
theorem heldG (HM : Mem w0 X L' w) (hs : Sub L L' := by first | exact Sub.refl _ | (repeat (first | exact Sub.nil | exact Sub.refl _ | refine Sub.keep ?_ | refine Sub.skip ?_ | refine Sub.skips ?_))) : Held (fun _ => True) (fun w' => Mem w0 X L w') K listed w := ⟨trivial, fun _ => HM.less hs⟩
end
section
variable {P : Program} {md : Region.Mode} {ops : Array Oper} {Q : Exit → Act → World → Prop} {S1 S2 : World → Prop} {K : List Nat}
/-- Three may come up now: each is walked. -/
theorem three_L {i j k : Nat} {fuel : Nat} {listed : Array Bool} {a : Act} {w : World} (hr : (Region.ready md ops listed == [i, j, k]) = true)
    (h1 : wpOp P ops Q i (fun a' w' => Held S1 S2 K (listed.setIfInBounds i true) w' ∧ wpAnyL P md ops Q S1 S2 K fuel (listed.setIfInBounds i true) a' w') a w)
    (h2 : wpOp P ops Q j (fun a' w' => Held S1 S2 K (listed.setIfInBounds j true) w' ∧ wpAnyL P md ops Q S1 S2 K fuel (listed.setIfInBounds j true) a' w') a w)
    (h3 : wpOp P ops Q k (fun a' w' => Held S1 S2 K (listed.setIfInBounds k true) w' ∧ wpAnyL P md ops Q S1 S2 K fuel (listed.setIfInBounds k true) a' w') a w) : wpAnyL P md ops Q S1 S2 K (fuel + 1) listed a w := by
  have hr' : Region.ready md ops listed = [i, j, k] := by simpa using hr
  refine ⟨fun h0 => (by rw [h0] at hr'; cases hr'), ?_⟩
  rw [hr']
  intro l hk
  rcases List.mem_cons.1 hk with rfl | hk
  · exact h1
  rcases List.mem_cons.1 hk with rfl | hk
  · exact h2
  · obtain rfl : l = k := by simpa using hk
    exact h3
end
theorem Mem.j1 {w0 w : World} {X : List Nat} (P : List (Nat × Array Value)) {Bj B3 B BB : List (Nat × Array Value)} (h : Mem w0 X (Bj ++ (B3 ++ (P ++ (B ++ BB)))) w) : Mem w0 X (P ++ (B ++ (Bj ++ BB))) w := by
  have h1 : (P ++ (B ++ (Bj ++ BB)) ++ B3).Perm (Bj ++ (B3 ++ (P ++ (B ++ BB)))) := by
    have a1 : (P ++ (B ++ (Bj ++ BB))).Perm (Bj ++ (P ++ (B ++ BB))) := by
      have b1 : (B ++ (Bj ++ BB)).Perm (Bj ++ (B ++ BB)) := by
        rw [← List.append_assoc, ← List.append_assoc]
        exact (List.perm_append_comm (l₁ := B) (l₂ := Bj)).append_right BB
      exact (b1.append_left P).trans (List.perm_append_comm_assoc P Bj (B ++ BB))
    refine (a1.append_right B3).trans ?_
    rw [List.append_assoc]
    exact (List.perm_append_comm).append_left Bj
  exact (h.perm h1).less Sub.app
theorem Mem.j2 {w0 w : World} {X : List Nat} (P : List (Nat × Array Value)) {z : Nat × Array Value} {Bj B3 B BB : List (Nat × Array Value)} (h : Mem w0 X (Bj ++ (z :: (B3 ++ (P ++ (B ++ BB))))) w) : Mem w0 X (z :: (P ++ (B ++ (Bj ++ BB)))) w := by
  have h1 : Mem w0 X (Bj ++ ((B3 ++ ((z :: P) ++ (B ++ BB))))) w := h.perm ((List.perm_middle (a := z)).append_left Bj)
  exact Mem.j1 (z :: P) h1
namespace Jo
theorem rd_more {w0 w : World} {X : List Nat} {L BB : List (Nat × Array Value)} {sv : Value} {l : List C} {bad : C} (HM : Mem w0 X L w) (HS : RdS 9 w sv ((l.map C.cells) ++ [bad.cells])) (HX : In l BB) (hBB : ∀ p ∈ BB, p ∈ L) (hl : ∀ x ∈ l, x.hs.length ≤ 2000) (hb : IntsAt w bad.A bad.hs) (hbl : bad.hs.length ≤ 9223372036854775807) : Rd w sv (l ++ [bad]) :=
  ⟨by rw [List.map_append]; exact HS, fun x hx => by
    rcases List.mem_append.1 hx with hx | hx
    · obtain ⟨B, h1, h2⟩ := HX x hx
      exact ⟨held HM h1 fun p hp => hBB p (h2 p hp), by have := hl x hx; omega⟩
    · rw [List.mem_singleton.1 hx]; exact ⟨hb, hbl⟩⟩
theorem err_zero {name : ByteArray} {l : List C} (h : err name l = 0) : (∀ x ∈ l, okC x = true) ∧ Cl.validC name (week l) (srt (hols l)) = true := by
  unfold err at h
  by_cases hb : bad l = true
  · rw [if_pos hb] at h; exact absurd h (by decide)
  · rw [if_neg hb] at h
    refine ⟨fun x hx => ?_, ?_⟩
    · unfold bad at hb
      simp only [Bool.or_eq_true, Bool.not_eq_true', not_or] at hb
      have h1 : l.all okC = true := by simpa using hb.2
      exact List.all_eq_true.1 h1 x hx
    · unfold Cl.chk at h
      split at h
      · assumption
      · exact absurd h (by decide)
theorem has_srt (l : List C) (d : Int) : Cl.has (srt (hols l)) d = l.any fun x => Cl.has x.hs d := by
  rw [Bool.eq_iff_iff]
  unfold Cl.has
  rw [List.contains_iff_mem, mem_srt, List.any_eq_true]
  unfold hols
  rw [List.mem_flatMap]
  constructor
  · rintro ⟨x, hx, h⟩; exact ⟨x, hx, List.contains_iff_mem.2 h⟩
  · rintro ⟨x, hx, h⟩; exact ⟨x, hx, List.contains_iff_mem.1 h⟩
theorem biz_join {name : ByteArray} {l : List C} (h : err name l = 0) {d : Int} (hd : Dt.isDay d = true) : Cl.bizB name (week l) (srt (hols l)) d = l.all fun x => Cl.bizB x.s x.k x.hs d := by
  obtain ⟨h1, h2⟩ := err_zero h
  have e1 : ∀ x ∈ l, Cl.bizB x.s x.k x.hs d = (!(x.k ((d + 5) % 7).toNat) && !(Cl.has x.hs d)) := fun x hx => by
    have hv : Cl.validC x.s x.k x.hs = true := h1 x hx
    unfold Cl.bizB
    rw [hv, hd, Cl.opn_mid hd]; rfl
  have e2 : (l.all fun x => Cl.bizB x.s x.k x.hs d) = l.all fun x => (!(x.k ((d + 5) % 7).toNat) && !(Cl.has x.hs d)) := by
    rw [Bool.eq_iff_iff, List.all_eq_true, List.all_eq_true]
    exact ⟨fun h x hx => by rw [← e1 x hx]; exact h x hx, fun h x hx => by rw [e1 x hx]; exact h x hx⟩
  rw [e2]
  unfold Cl.bizB
  rw [h2, hd, Cl.opn_mid hd, has_srt]
  unfold week
  clear e1 e2 h h1 h2
  induction l with
  | nil => rfl
  | cons x l ih =>
    simp only [List.any_cons, List.all_cons, Bool.not_or, Bool.true_and] at ih ⊢
    rw [← ih]
    cases x.k ((d + 5) % 7).toNat <;> cases Cl.has x.hs d <;> simp
theorem pre_ok {s : ByteArray} {k : Nat → Bool} {hs : List Int} {d : Int} (h : Cl.validC s k hs = true) (hd : Dt.isDay d = true) : Cl.preE s k hs d = 0 := by
  unfold Cl.preE; rw [h, hd]; rfl
theorem day_is {d : Int} (h0 : 0 ≤ d) (h1 : d ≤ 73048) : Dt.isDay d = true := by simp [Dt.isDay]; omega
end Jo
theorem biz_c (x : Jo.C) (d : Int) (w : World) (hA : IntsAt w x.A x.hs) (hl : x.hs.length ≤ 9223372036854775807) (hv : Cl.validC x.s x.k x.hs = true) (hd : Dt.isDay d = true) (v : Bool) (hb : Hid (v = Cl.bizB x.s x.k x.hs d)) :
    Calls Try.prog 11 #[.agg x.cells, .int .i64 d] w fun e w' => e = .returned (.tuple #[.bool v, .int .i64 0]) ∧ Below w.heap.size w w' := by
  have := biz_any x.s x.k x.A x.hs x.c d w hA hl
  rw [← hb.out, Jo.pre_ok hv hd] at this
  exact this
end Go.Proofs.Ytaokneooejbfkaa
