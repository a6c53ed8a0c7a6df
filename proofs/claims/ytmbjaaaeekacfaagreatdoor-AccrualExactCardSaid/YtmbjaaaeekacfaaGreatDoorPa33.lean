/- Walks, and plain facts for them. -/
import Derived.Test.YtmbjaaaeekacfaaGreatDoorPa32
import Derived.Test.YtmbjaaaeekacfaaGreatDoorPa04

