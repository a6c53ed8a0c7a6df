/- Walks. -/
import Derived.Laws.CopyRow
import Derived.Test.YtkiempioeffhbaaGreatDoorPg13
namespace Go.Proofs.YtkiempioeffhbaaGreatDoor
set_option maxHeartbeats 16000000

end Go.Proofs.YtkiempioeffhbaaGreatDoor
