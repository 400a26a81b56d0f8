/- What the laws' own struct types read as. -/
import Derived.Test.YtemkgmgdjbpljaaDoorRead
import Derived.Test.YtemkgmgdjbpljaaDoorShapes
import Derived.Test.YtemkgmgdjbpljaaDoorRows
namespace Go.Proofs.YtemkgmgdjbpljaaDoor
open Go.ChangeShapes Go.WideShapes Go.ChangeAt Go.RowKit Go.Deep















end Go.Proofs.YtemkgmgdjbpljaaDoor
