/- The law CalendarJoins over its arguments as they are opened. -/
import Derived.Test.YtaokneooejbfkaaJoins
import Derived.ChangeMaps5
namespace Go.Proofs.Ytaokneooejbfkaa
set_option maxRecDepth 8000
open Go.RowKit
theorem joins_arg (La : Option Addr) (xs : List Int) (c0 : Nat) (s : ByteArray) (k : Nat → Bool) (A : Option Addr) (hs : List Int) (c : Nat) (name : ByteArray) (W : World) (hI : IntsAt W La xs) (hxl : xs.length ≤ 9223372036854775807) (hB : IntsAt W A hs) (hbl : hs.length ≤ 9223372036854775807) {p : Prop} (_ : p) :
    Calls Try.prog 3 #[.slice La xs.length c0, .agg #[.string s, .bool (k 0), .bool (k 1), .bool (k 2), .bool (k 3), .bool (k 4), .bool (k 5), .bool (k 6), .slice A hs.length c], .string name] W fun e w' => e = .returned (.bool true) ∧ Below W.heap.size W w' :=
  joins_any La xs c0 ⟨s, k, hs, A, c⟩ name W hI hxl hB hbl
end Go.Proofs.Ytaokneooejbfkaa
