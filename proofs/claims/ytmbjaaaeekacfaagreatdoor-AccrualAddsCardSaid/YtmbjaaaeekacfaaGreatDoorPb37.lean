/- Walks, and plain facts for them. -/
import Derived.ChangeMaps5
import Derived.Test.YtmbjaaaeekacfaaGreatDoorPb30
import Derived.Test.YtmbjaaaeekacfaaGreatDoorPb35
import Derived.Test.YtmbjaaaeekacfaaGreatDoorPb36

