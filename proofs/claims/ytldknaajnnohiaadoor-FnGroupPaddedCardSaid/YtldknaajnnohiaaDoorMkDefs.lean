/- Marks of the data. -/
import Derived.Test.YtldknaajnnohiaaDoorShapes
import Derived.Test.YtldknaajnnohiaaDoorLaw
import Derived.Test.YtldknaajnnohiaaDoorRows
section
namespace Go.Proofs.YtldknaajnnohiaaDoor
open Go.RowKit
attribute [local go_sem] ext_cell

def ctPair (x : PairD) : Nat := ct1 x.1 + ct1 x.2
def mkPair (k : Int) (x : PairD) : PairD := (mkI k x.1, mkI (k + 1) x.2)
def ctAccess (x : AccessD) : Nat := ct1 x.1 + ct1 x.2.1 + ct1 x.2.2
def mkAccess (k : Int) (x : AccessD) : AccessD := (mkI k x.1, mkI (k + 1) x.2.1, mkB ((k + 1) + 1) x.2.2)
def ctBlock (x : BlockD) : Nat := ct1 x.1 + ct1 x.2.1 + ct1 x.2.2
def mkBlock (k : Int) (x : BlockD) : BlockD := (mkI k x.1, mkI (k + 1) x.2.1, mkI ((k + 1) + 1) x.2.2)
def ctUse (x : UseD) : Nat := ct1 x.1 + ct1 x.2.1 + ct1 x.2.2.1 + ct1 x.2.2.2
def mkUse (k : Int) (x : UseD) : UseD := (mkI k x.1, mkB (k + 1) x.2.1, mkI ((k + 1) + 1) x.2.2.1, mkI (((k + 1) + 1) + 1) x.2.2.2)
def ctSealed (x : SealedD) : Nat := ct1 x.1 + (ctL ct1) x.2.1 + ct1 x.2.2
def mkSealed (k : Int) (x : SealedD) : SealedD := (mkI k x.1, (mkL mkI ct1) (k + 1) x.2.1, mkI ((k + 1) + ((ctL ct1) x.2.1 : Int)) x.2.2)
def ctvSealed (x : SealedD) : Nat := (ctL ct1) x.2.1
def mkvSealed (k : Int) (x : SealedD) : SealedD := (x.1, (mkL mkI ct1) k x.2.1, x.2.2)
def ctMemory (x : MemoryD) : Nat := (ctL (ctL ctBlock)) x.1 + (ctL ctBlock) x.2
def mkMemory (k : Int) (x : MemoryD) : MemoryD := ((mkL (mkL mkBlock ctBlock) (ctL ctBlock)) k x.1, (mkL mkBlock ctBlock) (k + ((ctL (ctL ctBlock)) x.1 : Int)) x.2)
def ctvMemory (x : MemoryD) : Nat := (ctL (ctL ctBlock)) x.1 + (ctL ctBlock) x.2
def mkvMemory (k : Int) (x : MemoryD) : MemoryD := ((mkL (mkL mkBlock ctBlock) (ctL ctBlock)) k x.1, (mkL mkBlock ctBlock) (k + ((ctL (ctL ctBlock)) x.1 : Int)) x.2)

end Go.Proofs.YtldknaajnnohiaaDoor
end

section
namespace Go.Proofs.YtldknaajnnohiaaDoor
open Go.RowKit
attribute [local go_sem] ext_cell

def szPair : PairD → Nat := szZ
def szAccess : AccessD → Nat := szZ
def szBlock : BlockD → Nat := szZ
def szUse : UseD → Nat := szZ
def szTest (x : TestD) : Nat := szStr x.1 + szStr x.2.1 + szStr x.2.2.2
def szSealed (x : SealedD) : Nat := (szL szZ) x.2.1
def szShape (x : ShapeD) : Nat := szStr x.1 + (szL szStr) x.2.1
def szMemory (x : MemoryD) : Nat := (szL (szL szBlock)) x.1 + (szL szBlock) x.2
def szTable (x : TableD) : Nat := (szL szStr) x.1 + (szL (szL szZ)) x.2
def szNamed (x : NamedD) : Nat := szStr x.1 + szTable x.2
def szPadded (x : PaddedD) : Nat := (szL szStr) x.1 + (szL (szL szZ)) x.2.1 + (szL szZ) x.2.2
def szStep (x : StepD) : Nat := szStr x.2.1 + szStr x.2.2.1 + szStr x.2.2.2.1 + (szL (szL szTest)) x.2.2.2.2.1 + (szL szStr) x.2.2.2.2.2.1
def szQuery (x : QueryD) : Nat := (szL szStr) x.1 + szStr x.2.1 + szStr x.2.2.1 + szStr x.2.2.2.1 + szStr x.2.2.2.2.1 + (szL (szL szTest)) x.2.2.2.2.2.1 + szStr x.2.2.2.2.2.2.1 + szStr x.2.2.2.2.2.2.2.1 + szStr x.2.2.2.2.2.2.2.2.1

end Go.Proofs.YtldknaajnnohiaaDoor
end

section
namespace Go.Proofs.YtldknaajnnohiaaDoor
open Go.RowKit
attribute [local go_sem] ext_cell

end Go.Proofs.YtldknaajnnohiaaDoor
end
