/- CutPadded: the reference's contract. -/
import Derived.Test.YtldknaajnnohiaaDoorCutP
import Derived.Test.YtldknaajnnohiaaDoorCopy
import Derived.Test.YtldknaajnnohiaaDoorPSa
section
namespace Go.Proofs.YtldknaajnnohiaaDoor
open Go.RowKit

end Go.Proofs.YtldknaajnnohiaaDoor
end

section
namespace Go.Proofs.YtldknaajnnohiaaDoor
open Go.RowKit

end Go.Proofs.YtldknaajnnohiaaDoor
end
