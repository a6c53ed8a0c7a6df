/- Walks, and plain facts for them. -/
import Derived.Test.YtckhdiljihhdmaaGreatPc15
import Derived.Test.YtckhdiljihhdmaaGreatPc03

