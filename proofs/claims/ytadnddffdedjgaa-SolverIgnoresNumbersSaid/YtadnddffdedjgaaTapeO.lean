/- The tape's method One. -/
import Derived.Test.YtadnddffdedjgaaEngE
namespace Go.Proofs.Ytadnddffdedjgaa
set_option maxRecDepth 8000
open Go.RowKit
def OnePost (W : World) (tb m : Nat) (ss : List ByteArray) (w : World) (e : Ending) (w' : World) : Prop :=
  ∃ s : ByteArray, e = .returned (.string s) ∧ s ∈ ss ∧ Tp W tb (m + 1) w' ∧ w.grownBy w' (some tb)
/-- A callee that reads the tape and makes blocks: they join those of the caller. -/
theorem Mem.joinT {w0 w w' : World} {X : List Nat} {L L' B : List (Nat × Array Value)} {tb : Nat} {c c' : Array Value} (h : Mem w0 X L w) (ha : At L tb c c' L') (k : Mem w [tb] ((tb, c') :: B) w') : Mem w0 X (B ++ L') w' := by
  have h1 := h.put ha (k.blk _ List.mem_cons_self) k.only
  have hn := List.nodup_cons.1 k.nod
  have hB : ∀ p ∈ B, w.heap.size ≤ p.1 := fun p hp => (k.own p (List.mem_cons_of_mem _ hp)).resolve_right (fun e => hn.1 (List.mem_map.2 ⟨p, hp, List.mem_singleton.1 e⟩))
  refine ⟨h1.only, fun p hp => ?_, fun p hp => ?_, ?_⟩
  · rcases List.mem_append.1 hp with hp | hp
    · exact k.blk p (List.mem_cons_of_mem _ hp)
    · exact h1.blk p hp
  · rcases List.mem_append.1 hp with hp | hp
    · exact .inl (Nat.le_trans h.only.size (hB p hp))
    · exact h1.own p hp
  · rw [List.map_append]
    refine List.nodup_append.2 ⟨hn.2, h1.nod, fun a ha1 b hb e => ?_⟩
    obtain ⟨p, hp, rfl⟩ := List.mem_map.1 ha1
    rw [ha.keys] at hb
    obtain ⟨q, hq, rfl⟩ := List.mem_map.1 hb
    have h2 := hB p hp
    have h3 := (h.blk q hq).lt
    omega
end Go.Proofs.Ytadnddffdedjgaa
