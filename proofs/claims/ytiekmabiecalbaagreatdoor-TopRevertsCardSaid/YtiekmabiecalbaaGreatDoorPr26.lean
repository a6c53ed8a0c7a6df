/- Walks. -/
import Derived.Test.YtiekmabiecalbaaGreatDoorPr25
import Derived.Test.YtiekmabiecalbaaGreatDoorPr02
namespace Go.Proofs.YtiekmabiecalbaaGreatDoor
set_option maxHeartbeats 16000000

end Go.Proofs.YtiekmabiecalbaaGreatDoor
