/- Walks, and plain facts for them. -/
import Derived.ChangeMaps5
import Derived.Test.YtckhdiljihhdmaaGreatPc07
import Derived.Test.YtckhdiljihhdmaaGreatPc16

