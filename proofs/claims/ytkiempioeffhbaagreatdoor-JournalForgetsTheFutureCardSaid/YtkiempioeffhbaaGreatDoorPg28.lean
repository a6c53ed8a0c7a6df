/- Walks. -/
import Derived.Test.YtkiempioeffhbaaGreatDoorPg27
import Derived.Test.YtkiempioeffhbaaGreatDoorPg04
namespace Go.Proofs.YtkiempioeffhbaaGreatDoor
set_option maxHeartbeats 16000000

end Go.Proofs.YtkiempioeffhbaaGreatDoor
