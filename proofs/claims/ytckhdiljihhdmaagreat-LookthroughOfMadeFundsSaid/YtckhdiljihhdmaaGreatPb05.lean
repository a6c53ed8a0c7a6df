/- Walks, and plain facts for them. -/
import Derived.Laws.CopyRow
import Derived.Test.YtckhdiljihhdmaaGreatPb04

