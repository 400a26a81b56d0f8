/- A store into a cell of an element of a row of one's own. No function of the program occurs here. -/
import Derived.Test.YtldknaajnnohiaaDoorFind
namespace Go.Proofs.YtldknaajnnohiaaDoor
open Go.RowKit

section
variable {P : Program} {o : Oper} {a : Act} {w w0 : World} {Γ : List Fact} {α : Type} {e : Rep α}
end
end Go.Proofs.YtldknaajnnohiaaDoor
