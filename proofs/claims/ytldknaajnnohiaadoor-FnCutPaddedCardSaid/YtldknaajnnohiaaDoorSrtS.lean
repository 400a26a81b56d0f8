/- Stable sorting: blocks in order (plain laws). No function of the program occurs here. -/
import Derived.Test.YtldknaajnnohiaaDoorSrt
import Derived.Test.YtldknaajnnohiaaDoorSho
import Derived.Test.YtldknaajnnohiaaDoorSrtG
section
namespace Go.Proofs.YtldknaajnnohiaaDoor
open Go.RowKit

section
variable {α : Type} {le : α → α → Prop}
/-- The block number q of bs cells. -/
def blk (bs q : Nat) (xs : List α) : List α := (xs.drop (q * bs)).take bs
end
end Go.Proofs.YtldknaajnnohiaaDoor
end

section
namespace Go.Proofs.YtldknaajnnohiaaDoor
open Go.RowKit

end Go.Proofs.YtldknaajnnohiaaDoor
end
