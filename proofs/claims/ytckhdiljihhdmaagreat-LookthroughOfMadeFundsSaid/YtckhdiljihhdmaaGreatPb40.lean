/- Walks, and plain facts for them. -/
import Derived.ChangeMaps5
import Derived.Test.YtckhdiljihhdmaaGreatPb07
import Derived.Test.YtckhdiljihhdmaaGreatPb17

