/- A store into a cell of an element of a row of one's own. No function of the program occurs here. -/
import Derived.Test.YtldknaajnnohiaaDoorFind
namespace Go.Proofs.YtldknaajnnohiaaDoor
open Go.RowKit

section
variable {P : Program} {o : Oper} {a : Act} {w w0 : World} {Γ : List Fact} {α : Type} {e : Rep α}
end
theorem Sat.dupRo {α : Type} {e : Rep α} {w0 w : World} {Γ : List Fact} {cs : List Value} {x : α} (h : Sat w0 w Γ) (i : Nat) (hi : Γ[i]? = some (.ro e cs x)) : Sat w0 w (.ro e cs x :: Γ) := by
  obtain ⟨R, O, ⟨O1, O2, rfl, ⟨rfl, F, hF, hR⟩, k2⟩, k3, k4, k5, k6⟩ := h.pull i hi
  have hS2 : Sat w0 w (.ro e cs x :: .ro e cs x :: Γ.eraseIdx i) :=
    ⟨R, O2, ⟨[], O2, rfl, ⟨rfl, F, hF, hR⟩, [], O2, rfl, ⟨rfl, F, hF, hR⟩, k2⟩, k3, k4, k5, k6⟩
  exact hS2.perm ((perm_erase i hi).symm.cons _)
end Go.Proofs.YtldknaajnnohiaaDoor
