/- The chapter's examples, in plain mathematics. -/
import Derived.Test.YtaokneooejbfkaaCalMath
namespace Go.Proofs.Ytaokneooejbfkaa
set_option maxRecDepth 8000
namespace Cl
open Dt Nm
def kK (i : Nat) : Bool := i == 5 || i == 6
def kH : List Int := [9497, 9855]
def kN : ByteArray := ⟨#[99]⟩
theorem kU : usableB kN = true := by
  refine usable_yes (by decide) (by decide) (by decide) (fun k h => ?_)
  have : k = 0 := by have : kN.size = 1 := rfl; omega
  subst this; show okB 99 = true; decide
theorem kV : validC kN kK kH = true := by
  unfold validC
  rw [kU]; decide
theorem kP {d : Int} (h : isDay d = true) : preE kN kK kH d = 0 := by simp [preE, kV, h]
theorem kO (d : Int) (b : Bool) (h : opnF kK (has kH) d = b) : opn kK kH d = b := h
theorem kA1 : addO kK kH 9496 1 = some 9498 := by
  rw [addO_pos (by omega), nthU_one]
  rw [show (9496 : Int) + 1 = 9497 from rfl, up_no (by omega) (by decide), show (9497 : Int) + 1 = 9498 from rfl, up_yes (by omega) (by decide)]
theorem kA2 : addO kK kH 9499 0 = some 9501 := by
  unfold addO; rw [if_pos rfl]
  rw [up_no (by omega) (by decide), show (9499 : Int) + 1 = 9500 from rfl, up_no (by omega) (by decide), show (9500 : Int) + 1 = 9501 from rfl, up_yes (by omega) (by decide)]
theorem kE {d n x : Int} (hd : isDay d = true) (h : addO kK kH d n = some x) : addV kN kK kH d n = x ∧ addE kN kK kH d n = 0 := by
  simp [addV, addE, kP hd, h]
theorem kC : cntV kN kK kH 9494 9501 = 4 ∧ cntE kN kK kH 9494 9501 = 0 := by
  have h : cntE kN kK kH 9494 9501 = 0 := by
    simp only [cntE, kV]; decide
  refine ⟨?_, h⟩
  simp only [cntV, h]; decide
theorem kM : mEnd 9527 = 9527 := by
  have h : isCiv 9527 2026 1 31 := by unfold isCiv; decide
  unfold mEnd
  rw [civ_of h]; decide
theorem kJ : adjO kK kH 9527 3 = some 9526 := by
  have hU : up (opn kK kH) 9527 = some 9529 := by
    rw [up_no (by omega) (by decide), show (9527 : Int) + 1 = 9528 from rfl, up_no (by omega) (by decide), show (9528 : Int) + 1 = 9529 from rfl, up_yes (by omega) (by decide)]
  have hL : dn (opn kK kH) 9527 = some 9526 := by
    rw [dn_no (by omega) (by decide), show (9527 : Int) - 1 = 9526 from rfl, dn_yes (by omega) (by decide)]
  unfold adjO
  rw [hU, hL, kM]
  simp
end Cl
end Go.Proofs.Ytaokneooejbfkaa
