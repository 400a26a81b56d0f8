/- Marks that are texts. -/
import Derived.Test.YtldknaajnnohiaaDoorCat
import Derived.Laws.BytesArg
import Derived.Test.YtldknaajnnohiaaDoorMkDefs
section
namespace Go.Proofs.YtldknaajnnohiaaDoor
open Go.RowKit

def digB (d : Nat) : ByteArray := strOfNums [48 + (d : Int) % 10]
def digOut (k : Nat) (o : ByteArray) : ByteArray := if h : k = 0 then o else digOut (k / 10) (digB k ++ o)
termination_by k
decreasing_by omega
def markT (k : Nat) : ByteArray := if k = 0 then ⟨#[109, 48]⟩ else ⟨#[109]⟩ ++ digOut k ⟨#[]⟩
def markTextF (k : Int) : ByteArray := if k ≤ 4611686018427387904 then markT k.toNat else ⟨#[]⟩
def mkS (k : Int) (_ : ByteArray) : ByteArray := markTextF k
end Go.Proofs.YtldknaajnnohiaaDoor
end

section
namespace Go.Proofs.YtldknaajnnohiaaDoor
open Go.RowKit
attribute [local go_sem] ext_cell

def ctTest (x : TestD) : Nat := ct1 x.1 + ct1 x.2.1 + ct1 x.2.2.1 + ct1 x.2.2.2
def mkTest (k : Int) (x : TestD) : TestD := (mkS k x.1, mkS (k + 1) x.2.1, mkI ((k + 1) + 1) x.2.2.1, mkS (((k + 1) + 1) + 1) x.2.2.2)
def ctShape (x : ShapeD) : Nat := ct1 x.1 + (ctL ct1) x.2.1 + ct1 x.2.2
def mkShape (k : Int) (x : ShapeD) : ShapeD := (mkS k x.1, (mkL mkS ct1) (k + 1) x.2.1, mkI ((k + 1) + ((ctL ct1) x.2.1 : Int)) x.2.2)
def ctvShape (x : ShapeD) : Nat := (ctL ct1) x.2.1
def mkvShape (k : Int) (x : ShapeD) : ShapeD := (x.1, (mkL mkS ct1) k x.2.1, x.2.2)
def ctTable (x : TableD) : Nat := (ctL ct1) x.1 + (ctL (ctL ct1)) x.2
def mkTable (k : Int) (x : TableD) : TableD := ((mkL mkS ct1) k x.1, (mkL (mkL mkI ct1) (ctL ct1)) (k + ((ctL ct1) x.1 : Int)) x.2)
def ctvTable (x : TableD) : Nat := (ctL ct1) x.1 + (ctL (ctL ct1)) x.2
def mkvTable (k : Int) (x : TableD) : TableD := ((mkL mkS ct1) k x.1, (mkL (mkL mkI ct1) (ctL ct1)) (k + ((ctL ct1) x.1 : Int)) x.2)
def ctNamed (x : NamedD) : Nat := ct1 x.1 + ctTable x.2
def mkNamed (k : Int) (x : NamedD) : NamedD := (mkS k x.1, mkTable (k + 1) x.2)
def ctvNamed (x : NamedD) : Nat := ctvTable x.2
def mkvNamed (k : Int) (x : NamedD) : NamedD := (x.1, mkvTable k x.2)
def ctPadded (x : PaddedD) : Nat := (ctL ct1) x.1 + (ctL (ctL ct1)) x.2.1 + (ctL ct1) x.2.2
def mkPadded (k : Int) (x : PaddedD) : PaddedD := ((mkL mkS ct1) k x.1, (mkL (mkL mkI ct1) (ctL ct1)) (k + ((ctL ct1) x.1 : Int)) x.2.1, (mkL mkB ct1) ((k + ((ctL ct1) x.1 : Int)) + ((ctL (ctL ct1)) x.2.1 : Int)) x.2.2)
def ctvPadded (x : PaddedD) : Nat := (ctL ct1) x.1 + (ctL (ctL ct1)) x.2.1 + (ctL ct1) x.2.2
def mkvPadded (k : Int) (x : PaddedD) : PaddedD := ((mkL mkS ct1) k x.1, (mkL (mkL mkI ct1) (ctL ct1)) (k + ((ctL ct1) x.1 : Int)) x.2.1, (mkL mkB ct1) ((k + ((ctL ct1) x.1 : Int)) + ((ctL (ctL ct1)) x.2.1 : Int)) x.2.2)
def ctStep (x : StepD) : Nat := ct1 x.1 + ct1 x.2.1 + ct1 x.2.2.1 + ct1 x.2.2.2.1 + (ctL (ctL ctTest)) x.2.2.2.2.1 + (ctL ct1) x.2.2.2.2.2.1 + ct1 x.2.2.2.2.2.2.1 + ct1 x.2.2.2.2.2.2.2
def mkStep (k : Int) (x : StepD) : StepD := (mkI k x.1, mkS (k + 1) x.2.1, mkS ((k + 1) + 1) x.2.2.1, mkS (((k + 1) + 1) + 1) x.2.2.2.1, (mkL (mkL mkTest ctTest) (ctL ctTest)) ((((k + 1) + 1) + 1) + 1) x.2.2.2.2.1, (mkL mkS ct1) (((((k + 1) + 1) + 1) + 1) + ((ctL (ctL ctTest)) x.2.2.2.2.1 : Int)) x.2.2.2.2.2.1, mkB ((((((k + 1) + 1) + 1) + 1) + ((ctL (ctL ctTest)) x.2.2.2.2.1 : Int)) + ((ctL ct1) x.2.2.2.2.2.1 : Int)) x.2.2.2.2.2.2.1, mkI (((((((k + 1) + 1) + 1) + 1) + ((ctL (ctL ctTest)) x.2.2.2.2.1 : Int)) + ((ctL ct1) x.2.2.2.2.2.1 : Int)) + 1) x.2.2.2.2.2.2.2)
def ctvStep (x : StepD) : Nat := (ctL (ctL ctTest)) x.2.2.2.2.1 + (ctL ct1) x.2.2.2.2.2.1
def mkvStep (k : Int) (x : StepD) : StepD := (x.1, x.2.1, x.2.2.1, x.2.2.2.1, (mkL (mkL mkTest ctTest) (ctL ctTest)) k x.2.2.2.2.1, (mkL mkS ct1) (k + ((ctL (ctL ctTest)) x.2.2.2.2.1 : Int)) x.2.2.2.2.2.1, x.2.2.2.2.2.2.1, x.2.2.2.2.2.2.2)
def ctQuery (x : QueryD) : Nat := (ctL ct1) x.1 + ct1 x.2.1 + ct1 x.2.2.1 + ct1 x.2.2.2.1 + ct1 x.2.2.2.2.1 + (ctL (ctL ctTest)) x.2.2.2.2.2.1 + ct1 x.2.2.2.2.2.2.1 + ct1 x.2.2.2.2.2.2.2.1 + ct1 x.2.2.2.2.2.2.2.2.1 + ct1 x.2.2.2.2.2.2.2.2.2.1 + ct1 x.2.2.2.2.2.2.2.2.2.2
def mkQuery (k : Int) (x : QueryD) : QueryD := ((mkL mkS ct1) k x.1, mkS (k + ((ctL ct1) x.1 : Int)) x.2.1, mkS ((k + ((ctL ct1) x.1 : Int)) + 1) x.2.2.1, mkS (((k + ((ctL ct1) x.1 : Int)) + 1) + 1) x.2.2.2.1, mkS ((((k + ((ctL ct1) x.1 : Int)) + 1) + 1) + 1) x.2.2.2.2.1, (mkL (mkL mkTest ctTest) (ctL ctTest)) (((((k + ((ctL ct1) x.1 : Int)) + 1) + 1) + 1) + 1) x.2.2.2.2.2.1, mkS ((((((k + ((ctL ct1) x.1 : Int)) + 1) + 1) + 1) + 1) + ((ctL (ctL ctTest)) x.2.2.2.2.2.1 : Int)) x.2.2.2.2.2.2.1, mkS (((((((k + ((ctL ct1) x.1 : Int)) + 1) + 1) + 1) + 1) + ((ctL (ctL ctTest)) x.2.2.2.2.2.1 : Int)) + 1) x.2.2.2.2.2.2.2.1, mkS ((((((((k + ((ctL ct1) x.1 : Int)) + 1) + 1) + 1) + 1) + ((ctL (ctL ctTest)) x.2.2.2.2.2.1 : Int)) + 1) + 1) x.2.2.2.2.2.2.2.2.1, mkB (((((((((k + ((ctL ct1) x.1 : Int)) + 1) + 1) + 1) + 1) + ((ctL (ctL ctTest)) x.2.2.2.2.2.1 : Int)) + 1) + 1) + 1) x.2.2.2.2.2.2.2.2.2.1, mkI ((((((((((k + ((ctL ct1) x.1 : Int)) + 1) + 1) + 1) + 1) + ((ctL (ctL ctTest)) x.2.2.2.2.2.1 : Int)) + 1) + 1) + 1) + 1) x.2.2.2.2.2.2.2.2.2.2)
def ctvQuery (x : QueryD) : Nat := (ctL ct1) x.1 + (ctL (ctL ctTest)) x.2.2.2.2.2.1
def mkvQuery (k : Int) (x : QueryD) : QueryD := ((mkL mkS ct1) k x.1, x.2.1, x.2.2.1, x.2.2.2.1, x.2.2.2.2.1, (mkL (mkL mkTest ctTest) (ctL ctTest)) (k + ((ctL ct1) x.1 : Int)) x.2.2.2.2.2.1, x.2.2.2.2.2.2.1, x.2.2.2.2.2.2.2.1, x.2.2.2.2.2.2.2.2.1, x.2.2.2.2.2.2.2.2.2.1, x.2.2.2.2.2.2.2.2.2.2)

end Go.Proofs.YtldknaajnnohiaaDoor
end

section
namespace Go.Proofs.YtldknaajnnohiaaDoor
open Go.RowKit
attribute [local go_sem] ext_cell

end Go.Proofs.YtldknaajnnohiaaDoor
end

section
namespace Go.Proofs.YtldknaajnnohiaaDoor
open Go.RowKit

end Go.Proofs.YtldknaajnnohiaaDoor
end
