/- The tape's method One. -/
import Derived.Test.YtadnddffdedjgaaEngE
namespace Go.Proofs.Ytadnddffdedjgaa
set_option maxRecDepth 8000
open Go.RowKit
end Go.Proofs.Ytadnddffdedjgaa
