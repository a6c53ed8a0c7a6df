/- Walks, and plain facts for them. -/
import Derived.Test.YtmbjaaaeekacfaaGreatDoorPb34
import Derived.Test.YtmbjaaaeekacfaaGreatDoorPb04

