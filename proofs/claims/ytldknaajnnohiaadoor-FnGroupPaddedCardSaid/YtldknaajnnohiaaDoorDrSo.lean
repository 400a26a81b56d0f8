/- DrawSealTable. -/
import Derived.Test.YtldknaajnnohiaaDoorDrPg
import Derived.Test.YtldknaajnnohiaaDoorTyped
import Derived.Test.YtldknaajnnohiaaDoorPdv
import Derived.Test.YtldknaajnnohiaaDoorCopy
import Derived.Test.YtldknaajnnohiaaDoorPSa
section
namespace Go.Proofs.YtldknaajnnohiaaDoor
open Go.RowKit

def Drawn (ns : List ByteArray) (rows : List (List Int)) (real : List Bool) (most : Nat) : Prop := 1 ≤ ns.length ∧ ns.length ≤ 4 ∧ rows.length ≤ most + 1 ∧ (∀ r ∈ rows, r.length ≤ 3) ∧ real.length ≤ most + 1
theorem Drawn.small {ns : List ByteArray} {rows : List (List Int)} {real : List Bool} {most : Nat} (h : Drawn ns rows real most) (hm : most ≤ 20) : PSmall (ns, rows, real) := by
  obtain ⟨h1, h2, h3, h4, h5⟩ := h
  exact ⟨by show ns.length ≤ _; omega, ⟨by show rows.length ≤ _; omega, fun r hr => by have := h4 r hr; omega⟩, by show real.length ≤ _; omega⟩
end Go.Proofs.YtldknaajnnohiaaDoor
end

section
namespace Go.Proofs.YtldknaajnnohiaaDoor
open Go.RowKit

end Go.Proofs.YtldknaajnnohiaaDoor
end
