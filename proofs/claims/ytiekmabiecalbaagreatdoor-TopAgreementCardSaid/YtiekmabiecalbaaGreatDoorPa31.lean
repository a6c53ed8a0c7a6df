/- Walks. -/
import Derived.Test.YtiekmabiecalbaaGreatDoorPa30
import Derived.Test.YtiekmabiecalbaaGreatDoorPa04
namespace Go.Proofs.YtiekmabiecalbaaGreatDoor
set_option maxHeartbeats 16000000

end Go.Proofs.YtiekmabiecalbaaGreatDoor
