/- Contracts of to.. for slices of plain values and for structs of plain values. -/
import Derived.Test.YtemkgmgdjbpljaaSz
import Derived.Test.YtemkgmgdjbpljaaEqA
namespace Go.Proofs.Ytemkgmgdjbpljaa
open Go.RowKit
attribute [local go_sem] ext_cell


















end Go.Proofs.Ytemkgmgdjbpljaa
