/- Walks, and plain facts for them. -/
import Derived.Test.YtmbjaaaeekacfaaGreatDoorPb09
namespace Go.Proofs.YtmbjaaaeekacfaaGreatDoor
set_option maxRecDepth 8000
open Go.RowKit
def OnePost (W : World) (tb m : Nat) (ss : List ByteArray) (w : World) (e : Ending) (w' : World) : Prop :=
 ∃ s : ByteArray, e = .returned (.string s) ∧ s ∈ ss ∧ Tp W tb (m + 1) w' ∧ w.grownBy w' (some tb)
theorem one_any (W : World) (tb m b : Nat) (ss : List ByteArray) (c : Nat) (w : World) (hT : Tp W tb m w) (hm : m ≤ 1000000000000) (hB : Blk w b (ss.map Value.string).toArray) (hne : b ≠ tb) (hd : 0 < ss.length) (hd2 : ss.length ≤ 1000) :
    Calls Tryz.prog 29 #[.pointer (some ⟨tb, 0, none⟩), .slice (some ⟨b, 0, none⟩) ss.length c] w (OnePost W tb m ss w) := by
 have HT := Lib.hid hT
 have HB := Lib.hid hB
 have hn0 : ((ss.length : Int) == 0) = false := beq_eq_false_iff_ne.2 (by omega)
 clear hT hB
 go_enter Tryz.func29, Tryz.ntmps29
 go_wp2_with fail
 refine (next_any W tb m ss.length _ HT.out hm (by omega) (by omega)).mono ?_
 rintro e w' ⟨v, rfl, v0, v1, hT, hg⟩
 obtain ⟨k, rfl⟩ : ∃ k : Nat, v = k := ⟨v.toNat, by omega⟩
 have hk : k < ss.length := by omega
 have hb2 : Blk w' b (ss.map Value.string).toArray := HB.out.kept ((Only.of_grown hg).block b HB.out.lt (by simpa using hne))
 obtain ⟨x, hx⟩ : ∃ x, x = ss[k] := ⟨_, rfl⟩
 have hcv : w'.cell? ⟨b, k, none⟩ = some (.string x) := by
  rw [hb2.cell k, hx]; simp [hk]
 have hmem : Hid (x ∈ ss) := Lib.hid (by rw [hx]; exact List.getElem_mem hk)
 have HT2 := Lib.hid hT
 have HG := Lib.hid hg
 clear hx hT hg hb2
 go_wp2
 go_ret
 exact ⟨x, rfl, hmem.out, HT2.out, HG.out⟩
theorem one_new {W w0 w : World} {X : List Nat} {L : List (Nat × Array Value)} {tb m : Nat} {cs : Array Value} (HM : Mem w0 X L w) (hl : Look L tb cs) (hc : TapeC W m cs) (h0 : Below W.heap.size W w0) (hX : ∀ b ∈ X, W.heap.size ≤ b) (ss : List ByteArray) (T : TypeId) (hm : m ≤ 1000000000000) (hd : 0 < ss.length) (hd2 : ss.length ≤ 1000) :
    Calls Tryz.prog 29 #[.pointer (some ⟨tb, 0, none⟩), .slice (some ⟨w.heap.size, 0, none⟩) ss.length ss.length] (w.alloc (.cells (ss.map Value.string).toArray T)) fun e w' =>
     ∃ (s : ByteArray) (c' : Array Value), e = .returned (.string s) ∧ s ∈ ss ∧ TapeC W (m + 1) c' ∧ Blk w' tb c' ∧ Only [tb] w w' := by
 have hlt := (HM.get hl).lt
 refine (one_any W tb m _ ss _ _ ((HM.new _ T).tp (.there hl) hc h0 hX) hm (Blk.new w _ T) (by omega) hd hd2).mono ?_
 rintro e w' ⟨v, rfl, hv, ⟨c', h1, h2, _⟩, hg⟩
 exact ⟨v, c', rfl, hv, h2, h1, ((Only.of (below_new w _) [tb]).trans (Only.of_grown hg))⟩
end Go.Proofs.YtmbjaaaeekacfaaGreatDoor
namespace Go.Proofs.YtmbjaaaeekacfaaGreatDoor
set_option maxRecDepth 8000
open Go.RowKit
section
variable {Q : Exit → Act → World → Prop} {w w0 : World} {X : List Nat} {L : List (Nat × Array Value)} {oi : Oper} {d : Tmp} {a a2 : Act} {R : Act → World → Prop} {v : Value}
theorem j_call5 {f : FuncId} {ts : Array TypeId} {x1 x2 x3 x4 x5 : Operand} {v1 v2 v3 v4 v5 : Value} (HM : Mem w0 X L w) (hc : Calls Tryz.prog f #[v1, v2, v3, v4, v5] w fun e w' => e = .returned v ∧ Below w.heap.size w w') (h : ∀ w', Mem w0 X L w' → R a2 w') (hd : oi.dst = some d := by rfl) (ho : oi.op = .call { callee := .value (.func f), args := #[x1, x2, x3, x4, x5], argTypes := ts } := by rfl) (hf : goF f = true := by kernel_rfl) (h1 : a.eval x1 = v1 := by (conv => lhs; whnf) <;> rfl) (h2 : a.eval x2 = v2 := by (conv => lhs; whnf) <;> rfl) (h3 : a.eval x3 = v3 := by (conv => lhs; whnf) <;> rfl) (h4 : a.eval x4 = v4 := by (conv => lhs; whnf) <;> rfl) (h5 : a.eval x5 = v5 := by (conv => lhs; whnf) <;> rfl) (ha : ({ a with tmps := a.tmps.setIfInBounds d v } : Act) = a2 := by ((try simp only [List.setIfInBounds_toArray, List.set_cons_succ, List.set_cons_zero]) <;> rfl)) : Oper.wp Tryz.prog oi a w R Q := o_call hc HM hd (h_call ho hf (by simp [h1, h2, h3, h4, h5])) fun w9 h9 => ha ▸ h w9 h9
end
end Go.Proofs.YtmbjaaaeekacfaaGreatDoor
