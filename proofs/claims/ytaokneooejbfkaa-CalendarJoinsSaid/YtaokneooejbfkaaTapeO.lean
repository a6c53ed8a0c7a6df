/- The tape's method One. -/
import Derived.Test.YtaokneooejbfkaaTapeB
namespace Go.Proofs.Ytaokneooejbfkaa
set_option maxRecDepth 8000
open Go.RowKit
def OnePost (W : World) (tb m : Nat) (ss : List ByteArray) (w : World) (e : Ending) (w' : World) : Prop :=
  ∃ s : ByteArray, e = .returned (.string s) ∧ s ∈ ss ∧ Tp W tb (m + 1) w' ∧ w.grownBy w' (some tb)
theorem one_any (W : World) (tb m b : Nat) (ss : List ByteArray) (c : Nat) (w : World) (hT : Tp W tb m w) (hm : m ≤ 1000000000000) (hB : Blk w b (ss.map Value.string).toArray) (hne : b ≠ tb) (hd : 0 < ss.length) (hd2 : ss.length ≤ 1000) :
    Calls Try.prog 7 #[.pointer (some ⟨tb, 0, none⟩), .slice (some ⟨b, 0, none⟩) ss.length c] w (OnePost W tb m ss w) := by
  have HT := Lib.hid hT
  have HB := Lib.hid hB
  have hn0 : ((ss.length : Int) == 0) = false := beq_eq_false_iff_ne.2 (by omega)
  clear hT hB
  go_enter Try.func7, Try.ntmps7
  go_wp2_with fail
  refine (next_any W tb m ss.length _ HT.out hm (by omega) (by omega)).mono ?_
  rintro e w' ⟨v, rfl, v0, v1, hT, hg⟩
  obtain ⟨k, rfl⟩ : ∃ k : Nat, v = k := ⟨v.toNat, by omega⟩
  have hk : k < ss.length := by omega
  have hb2 : Blk w' b (ss.map Value.string).toArray := HB.out.kept ((Only.of_grown hg).block b HB.out.lt (by simpa using hne))
  obtain ⟨x, hx⟩ : ∃ x, x = ss[k] := ⟨_, rfl⟩
  have hcv : w'.cell? ⟨b, k, none⟩ = some (.string x) := by
    rw [hb2.cell k, hx]; simp [hk]
  have hmem : Hid (x ∈ ss) := Lib.hid (by rw [hx]; exact List.getElem_mem hk)
  have HT2 := Lib.hid hT
  have HG := Lib.hid hg
  clear hx hT hg hb2
  go_wp2
  go_ret
  exact ⟨x, rfl, hmem.out, HT2.out, HG.out⟩
/-- One out of a list that was made for the call. -/
theorem one_new {W w0 w : World} {X : List Nat} {L : List (Nat × Array Value)} {tb m : Nat} {cs : Array Value} (HM : Mem w0 X L w) (hl : Look L tb cs) (hc : TapeC W m cs) (h0 : Below W.heap.size W w0) (hX : ∀ b ∈ X, W.heap.size ≤ b) (ss : List ByteArray) (T : TypeId) (hm : m ≤ 1000000000000) (hd : 0 < ss.length) (hd2 : ss.length ≤ 1000) :
    Calls Try.prog 7 #[.pointer (some ⟨tb, 0, none⟩), .slice (some ⟨w.heap.size, 0, none⟩) ss.length ss.length] (w.alloc (.cells (ss.map Value.string).toArray T)) fun e w' =>
      ∃ (s : ByteArray) (c' : Array Value), e = .returned (.string s) ∧ s ∈ ss ∧ TapeC W (m + 1) c' ∧ Blk w' tb c' ∧ Only [tb] w w' := by
  have hlt := (HM.get hl).lt
  refine (one_any W tb m _ ss _ _ ((HM.new _ T).tp (.there hl) hc h0 hX) hm (Blk.new w _ T) (by omega) hd hd2).mono ?_
  rintro e w' ⟨v, rfl, hv, ⟨c', h1, h2, _⟩, hg⟩
  exact ⟨v, c', rfl, hv, h2, h1, ((Only.of (below_new w _) [tb]).trans (Only.of_grown hg))⟩
/-- A callee that reads the tape and makes blocks: they join those of the caller. -/
theorem Mem.joinT {w0 w w' : World} {X : List Nat} {L L' B : List (Nat × Array Value)} {tb : Nat} {c c' : Array Value} (h : Mem w0 X L w) (ha : At L tb c c' L') (k : Mem w [tb] ((tb, c') :: B) w') : Mem w0 X (B ++ L') w' := by
  have h1 := h.put ha (k.blk _ List.mem_cons_self) k.only
  have hn := List.nodup_cons.1 k.nod
  have hB : ∀ p ∈ B, w.heap.size ≤ p.1 := fun p hp => (k.own p (List.mem_cons_of_mem _ hp)).resolve_right (fun e => hn.1 (List.mem_map.2 ⟨p, hp, List.mem_singleton.1 e⟩))
  refine ⟨h1.only, fun p hp => ?_, fun p hp => ?_, ?_⟩
  · rcases List.mem_append.1 hp with hp | hp
    · exact k.blk p (List.mem_cons_of_mem _ hp)
    · exact h1.blk p hp
  · rcases List.mem_append.1 hp with hp | hp
    · exact .inl (Nat.le_trans h.only.size (hB p hp))
    · exact h1.own p hp
  · rw [List.map_append]
    refine List.nodup_append.2 ⟨hn.2, h1.nod, fun a ha1 b hb e => ?_⟩
    obtain ⟨p, hp, rfl⟩ := List.mem_map.1 ha1
    rw [ha.keys] at hb
    obtain ⟨q, hq, rfl⟩ := List.mem_map.1 hb
    have h2 := hB p hp
    have h3 := (h.blk q hq).lt
    omega
end Go.Proofs.Ytaokneooejbfkaa
