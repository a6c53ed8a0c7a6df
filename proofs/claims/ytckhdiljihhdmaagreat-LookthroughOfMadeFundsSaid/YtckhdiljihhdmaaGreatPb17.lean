/- Walks, and plain facts for them. -/
import Derived.Test.YtckhdiljihhdmaaGreatPb16
import Derived.Test.YtckhdiljihhdmaaGreatPb03

