/- What the laws' own struct types read as. -/
import Derived.Test.YtemkgmgdjbpljaaRead
import Derived.Test.YtemkgmgdjbpljaaShapes
import Derived.Test.YtemkgmgdjbpljaaRows
namespace Go.Proofs.Ytemkgmgdjbpljaa
open Go.ChangeShapes Go.WideShapes Go.ChangeAt Go.RowKit Go.Deep















end Go.Proofs.Ytemkgmgdjbpljaa
