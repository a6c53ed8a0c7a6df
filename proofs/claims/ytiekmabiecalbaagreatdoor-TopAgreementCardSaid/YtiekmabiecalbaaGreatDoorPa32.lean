/- Walks. -/
import Derived.Laws.RangeAny
import Derived.Test.YtiekmabiecalbaaGreatDoorPa28
import Derived.Test.YtiekmabiecalbaaGreatDoorPa22
import Derived.Test.YtiekmabiecalbaaGreatDoorPa31
namespace Go.Proofs.YtiekmabiecalbaaGreatDoor
set_option maxHeartbeats 16000000
open Go.RowKit
set_option maxRecDepth 8000
set_option linter.unusedSimpArgs false
set_option linter.unusedVariables false
section
open Jb
theorem LA.inRow {U : TypeId} {c cs : Array Value} {p n k : Nat} {v : Value} (h : FA U c k v) (hU : aggT U = some false) (hr : ∀ j, j < n → cs[p + j]? = c[j]?) (hk : k < n) : LA U cs (p + k) v := LA.one hU (by rw [hr k hk]; exact h.cell hU)
theorem mk_build (m : As.Mk) (w : World) : (Instr.build 147 #[(0, .string m.key), (1, .int .i64 m.kn), (2, .bool m.vd)]).run Tryz.prog w = .ok (.agg (As.c m)) w := by kernel_rfl
theorem mk_one (m : As.Mk) : ∀ c ∈ [As.c m], c.all (·.oneCell') = true := As.c_one [m]
theorem mk_el : elemB 93 147 3 32 = true := by kernel_rfl
def JA.mrk (a : JA) : As.Mk := ⟨a.key, a.kn, a.vd⟩
def JE.mrk (a : JE) : As.Mk := ⟨a.key, a.kn, a.vd⟩
section
variable {w0 : World} {X : List Nat} {L L' : List (Nat × Array Value)} {K : List Nat} {w : World} {listed : Array Bool}
theorem heldF (HM : Mem w0 X L' w) (hs : Sub L L' := by first | exact Sub.refl _ | (repeat (first | exact Sub.nil | exact Sub.refl _ | refine Sub.keep ?_ | refine Sub.skip ?_))) : Held (fun _ => True) (fun w' => Mem w0 X L w') K listed w := ⟨trivial, fun _ => HM.less hs⟩
end
end
section
open Jb
theorem JQ.facts {q : JQ} (h : q.right = true) : 1 ≤ q.src.size ∧ q.src.size ≤ 16 ∧ q.ins.size ≤ 12 ∧ Dt.isDay q.day = true ∧ 1 ≤ q.kn ∧ q.kn ≤ 2147483647 := by
 unfold JQ.right at h
 rw [known_w] at h
 simp only [Bool.and_eq_true, decide_eq_true_eq] at h
 obtain ⟨h1, h2, -, h4, h5, -⟩ := h
 have hs : 1 ≤ q.src.size ∧ q.src.size ≤ 16 := by
  refine ⟨?_, ?_⟩
  ·by_cases hz : q.src.size = 0
   ·rw [Nm.usable_no0 hz] at h1; cases h1
   ·omega
  ·by_cases hz : 16 < q.src.size
   ·rw [Nm.usable_no16 hz] at h1; cases h1
   ·omega
 unfold paper at h2
 simp only [Bool.and_eq_true, decide_eq_true_eq] at h2
 exact ⟨hs.1, hs.2, h2.2.1, h4, h5.1, h5.2⟩
end
end Go.Proofs.YtiekmabiecalbaaGreatDoor
