/- Walks. -/
import Init.Omega
import Init.Grind
namespace Go.Proofs.YtkiempioeffhbaaGreatDoor
set_option maxHeartbeats 16000000
set_option maxRecDepth 8000
section
namespace As
structure Mk where
 key : ByteArray
 kn : Int
 vd : Bool
def okFrom : Int → List Mk → Bool
 | _, [] => true
 | last, m :: r => !(decide (m.key.size = 0) || decide (64 < m.key.size) || decide (m.kn ≤ last) || decide (2147483647 < m.kn)) && okFrom m.kn r
def ok (M : List Mk) : Bool := decide (M.length ≤ 4096) && okFrom 0 M
def err (M : List Mk) : Int := if ok M then 0 else 130
def last (M : List Mk) (k : Int) (s : ByteArray) : Nat → Option Nat
 | 0 => none
 | n + 1 => match M[n]? with
  | some m => if m.kn ≤ k ∧ m.key = s then some n else last M k s n
  | none => last M k s n
def cnt (M : List Mk) (k : Int) (n : Nat) (s : ByteArray) : Option Nat :=
 match last M k s n with
 | some i => if M[i]?.map Mk.vd = some true then none else some i
 | none => none
def enc : Option Nat → Int
 | some i => (i : Int)
 | none => -1
def visB (M : List Mk) (k : Int) (i : Nat) : Bool :=
 match M[i]? with
 | some m => !m.vd && (decide (m.kn ≤ k) && decide (enc (last M k m.key M.length) = (i : Int)))
 | none => false
def vis (M : List Mk) (k : Int) : List Nat := (List.range M.length).filter (visB M k)
def Hit (M : List Mk) (k : Int) (s : ByteArray) (i : Nat) : Prop := ∃ m, M[i]? = some m ∧ m.kn ≤ k ∧ m.key = s
def ins : List (List UInt8) → List UInt8 → List (List UInt8)
 | [], s => [s]
 | x :: l, s => if x < s then x :: ins l s else if x = s then x :: l else s :: x :: l
def chg (M : List Mk) (a b : Int) : Nat → List (List UInt8)
 | 0 => []
 | n + 1 => match M[n]? with
  | some m => if enc (cnt M a M.length m.key) = enc (cnt M b M.length m.key) then chg M a b n else ins (chg M a b n) m.key.data.toList
  | none => chg M a b n
theorem key_inj {s t : ByteArray} (h : s.data.toList = t.data.toList) : s = t := ByteArray.ext (Array.ext' h)
end As
end
end Go.Proofs.YtkiempioeffhbaaGreatDoor
