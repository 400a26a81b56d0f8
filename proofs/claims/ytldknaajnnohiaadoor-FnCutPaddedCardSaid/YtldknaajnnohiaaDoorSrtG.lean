/- Stable sorting of an int slice of one's own: symMerge. -/
import Derived.Test.YtldknaajnnohiaaDoorSho
import Derived.Test.YtldknaajnnohiaaDoorSrt
import Derived.Test.YtldknaajnnohiaaDoorSrt
import Derived.Deep.DeepCutAuto
namespace Go.Proofs.YtldknaajnnohiaaDoor
open Go.RowKit


end Go.Proofs.YtldknaajnnohiaaDoor
