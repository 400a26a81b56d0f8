/- What the laws' own struct types read as. -/
import Derived.Test.YthabgnhedmepjaaDoorRead
import Derived.Test.YthabgnhedmepjaaDoorShapes
import Derived.Test.YthabgnhedmepjaaDoorRows
namespace Go.Proofs.YthabgnhedmepjaaDoor
open Go.ChangeShapes Go.WideShapes Go.ChangeAt Go.RowKit Go.Deep















end Go.Proofs.YthabgnhedmepjaaDoor
