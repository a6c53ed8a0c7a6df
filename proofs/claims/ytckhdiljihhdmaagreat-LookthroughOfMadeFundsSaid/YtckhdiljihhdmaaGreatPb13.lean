/- Walks, and plain facts for them. -/
import Derived.Test.YtckhdiljihhdmaaGreatPb12

