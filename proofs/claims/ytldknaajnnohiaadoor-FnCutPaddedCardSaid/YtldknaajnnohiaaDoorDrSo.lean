/- DrawSortPadded. -/
import Derived.Test.YtldknaajnnohiaaDoorDrPg
import Derived.Test.YtldknaajnnohiaaDoorDrSb
import Derived.Test.YtldknaajnnohiaaDoorCopy
import Derived.Test.YtldknaajnnohiaaDoorPdB
namespace Go.Proofs.YtldknaajnnohiaaDoor
open Go.RowKit

end Go.Proofs.YtldknaajnnohiaaDoor
