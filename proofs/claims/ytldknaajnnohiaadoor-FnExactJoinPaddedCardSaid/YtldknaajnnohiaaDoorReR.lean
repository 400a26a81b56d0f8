/- Sorted padded tables: real rows stand first (plain laws). -/
import Derived.Test.YtldknaajnnohiaaDoorSPl
import Derived.Test.YtldknaajnnohiaaDoorCutI
import Derived.Test.YtldknaajnnohiaaDoorSrL
section
namespace Go.Proofs.YtldknaajnnohiaaDoor
open Go.RowKit

end Go.Proofs.YtldknaajnnohiaaDoor
end

section
namespace Go.Proofs.YtldknaajnnohiaaDoor
open Go.RowKit

/-- How many rows are real; -1 for a table that is none. -/
def realF (p : PaddedD) : Int := if paddedOk p then ((p.2.2.countP id : Nat) : Int) else -1
/-! ### Sorted again, cut -/
end Go.Proofs.YtldknaajnnohiaaDoor
end
