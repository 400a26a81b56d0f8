/- Sizes of the data; contracts of sz... -/
import Derived.Test.YtemkgmgdjbpljaaShapes
import Derived.Test.YtemkgmgdjbpljaaMark
import Derived.Test.YtemkgmgdjbpljaaRows
namespace Go.Proofs.Ytemkgmgdjbpljaa
open Go.RowKit
attribute [local go_sem] ext_cell

def szPair : PairD → Nat := szZ
def szAccess : AccessD → Nat := szZ
def szBlock : BlockD → Nat := szZ
def szUse : UseD → Nat := szZ
def szTest (x : TestD) : Nat := szStr x.1 + szStr x.2.1 + szStr x.2.2.2
def szSealed (x : SealedD) : Nat := (szL szZ) x.2.1
def szShape (x : ShapeD) : Nat := szStr x.1 + (szL szStr) x.2.1
def szMemory (x : MemoryD) : Nat := (szL (szL szBlock)) x.1 + (szL szBlock) x.2
def szTable (x : TableD) : Nat := (szL szStr) x.1 + (szL (szL szZ)) x.2
def szNamed (x : NamedD) : Nat := szStr x.1 + szTable x.2
def szPadded (x : PaddedD) : Nat := (szL szStr) x.1 + (szL (szL szZ)) x.2.1 + (szL szZ) x.2.2
def szStep (x : StepD) : Nat := szStr x.2.1 + szStr x.2.2.1 + szStr x.2.2.2.1 + (szL (szL szTest)) x.2.2.2.2.1 + (szL szStr) x.2.2.2.2.2.1
def szQuery (x : QueryD) : Nat := (szL szStr) x.1 + szStr x.2.1 + szStr x.2.2.1 + szStr x.2.2.2.1 + szStr x.2.2.2.2.1 + (szL (szL szTest)) x.2.2.2.2.2.1 + szStr x.2.2.2.2.2.2.1 + szStr x.2.2.2.2.2.2.2.1 + szStr x.2.2.2.2.2.2.2.2.1


























end Go.Proofs.Ytemkgmgdjbpljaa
