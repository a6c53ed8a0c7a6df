/- clear of a part of a slice of the call's own. -/
import Derived.Test.YtadnddffdedjgaaSlicesD
import Derived.Laws.CopyRow
namespace Go.Proofs.Ytadnddffdedjgaa
set_option maxRecDepth 8000
open Go.RowKit
section
variable {ops : Array Oper} {rest : List Oper} {a a2 : Act} {w w0 : World} {X : List Nat} {L : List (Nat × Array Value)} {Q : Exit → Act → World → Prop} {d : Option Tmp} {ty t e : TypeId} {n by_ : Nat} {ps : String} {af : Array Edge} {g : Option (Nat × Bool)} {x : Operand} {b cap : Nat} {z : Array Value} {F G S : List (Array Value)}
end
end Go.Proofs.Ytadnddffdedjgaa
