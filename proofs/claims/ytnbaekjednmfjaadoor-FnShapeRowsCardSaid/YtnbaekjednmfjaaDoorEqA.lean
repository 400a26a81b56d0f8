/- Contracts of eq.. for slices of plain values and for structs of plain values. -/
import Derived.Test.YtnbaekjednmfjaaDoorShapes
import Derived.Test.YtnbaekjednmfjaaDoorRows
import Derived.Test.YtnbaekjednmfjaaDoorSatT
import Derived.Test.YtnbaekjednmfjaaDoorFind
import Derived.Test.YtnbaekjednmfjaaDoorTys
section
namespace Go.Proofs.YtnbaekjednmfjaaDoor
open Go.RowKit
attribute [local go_sem] ext_cell


















end Go.Proofs.YtnbaekjednmfjaaDoor
end

section
namespace Go.Proofs.YtnbaekjednmfjaaDoor
open Go.RowKit
attribute [local go_sem] ext_cell













end Go.Proofs.YtnbaekjednmfjaaDoor
end

section
namespace Go.Proofs.YtnbaekjednmfjaaDoor
open Go.RowKit

theorem eqB_three {α β γ : Type} [DecidableEq α] [DecidableEq β] [DecidableEq γ] (a a' : α) (b b' : β) (c c' : γ) : eqB (a, b, c) (a', b', c') = (eqB a a' && (eqB b b' && eqB c c')) := by
  unfold eqB
  by_cases h1 : a = a' <;> by_cases h2 : b = b' <;> by_cases h3 : c = c' <;> simp [h1, h2, h3]

































end Go.Proofs.YtnbaekjednmfjaaDoor
end
