/- Walks. -/
import Derived.Test.YtkiempioeffhbaaGreatDoorPg17
import Derived.Test.YtkiempioeffhbaaGreatDoorPg19
namespace Go.Proofs.YtkiempioeffhbaaGreatDoor
set_option maxHeartbeats 16000000
open Go.RowKit
set_option maxRecDepth 8000
section
theorem Dt.civ_small {n y m d : Int} (h : Dt.isCiv n y m d) : 2000 ≤ y ∧ y ≤ 2199 ∧ 1 ≤ m ∧ m ≤ 12 ∧ 1 ≤ d ∧ d ≤ 31 := by
 obtain ⟨h1, h2, h3, h4, h5, h6, _⟩ := h
 have := Dt.dim_bd y m
 omega
end
end Go.Proofs.YtkiempioeffhbaaGreatDoor
