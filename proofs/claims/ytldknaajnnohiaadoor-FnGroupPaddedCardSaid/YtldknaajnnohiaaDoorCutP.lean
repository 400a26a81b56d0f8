/- CutPadded: the program's contract, its end. -/
import Derived.Test.YtldknaajnnohiaaDoorCutI
namespace Go.Proofs.YtldknaajnnohiaaDoor
open Go.RowKit

end Go.Proofs.YtldknaajnnohiaaDoor
