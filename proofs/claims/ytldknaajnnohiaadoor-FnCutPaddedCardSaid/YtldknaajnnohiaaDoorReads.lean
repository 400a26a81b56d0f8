/- What the laws' own struct types read as. -/
import Derived.Test.YtldknaajnnohiaaDoorLaw
import Derived.Test.YtldknaajnnohiaaDoorShapes
import Derived.Test.YtldknaajnnohiaaDoorRows
namespace Go.Proofs.YtldknaajnnohiaaDoor
open Go.ChangeShapes Go.WideShapes Go.ChangeAt Go.RowKit Go.Deep











end Go.Proofs.YtldknaajnnohiaaDoor
