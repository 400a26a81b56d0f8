/- l20Table, where none is invalid. -/
import Derived.Test.YthabgnhedmepjaaDoorDrRo
import Derived.Test.YthabgnhedmepjaaDoorDrNm
import Derived.Test.YthabgnhedmepjaaDoorSatT
import Derived.Test.YthabgnhedmepjaaDoorDrawB
import Derived.Test.YthabgnhedmepjaaDoorRes
namespace Go.Proofs.YthabgnhedmepjaaDoor
open Go.RowKit


















end Go.Proofs.YthabgnhedmepjaaDoor
