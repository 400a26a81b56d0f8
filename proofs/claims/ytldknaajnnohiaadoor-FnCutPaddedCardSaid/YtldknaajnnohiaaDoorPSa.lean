/- Sizes of padded tables; how many marks they have. -/
import Derived.Test.YtldknaajnnohiaaDoorMkDefsT
import Derived.Test.YtldknaajnnohiaaDoorPdv
import Derived.Test.YtldknaajnnohiaaDoorPdB
namespace Go.Proofs.YtldknaajnnohiaaDoor
open Go.RowKit

end Go.Proofs.YtldknaajnnohiaaDoor
