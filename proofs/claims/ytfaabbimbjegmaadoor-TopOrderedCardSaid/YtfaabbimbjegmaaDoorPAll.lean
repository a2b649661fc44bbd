/-
  All that is printed of this seat.
-/
import Derived.Test.YtfaabbimbjegmaaDoorPAx0
import Derived.Test.YtfaabbimbjegmaaDoorPAx1
import Derived.Test.YtfaabbimbjegmaaDoorPAx2
import Derived.Test.YtfaabbimbjegmaaDoorPAx3
import Derived.Test.YtfaabbimbjegmaaDoorPAx4
import Derived.Test.YtfaabbimbjegmaaDoorPAx5
import Derived.Test.YtfaabbimbjegmaaDoorPAx6
