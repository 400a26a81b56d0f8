/- A padded table sorted by the program. -/
import Derived.Test.YtldknaajnnohiaaDoorSho
import Derived.Test.YtldknaajnnohiaaDoorSrtA
import Derived.Test.YtldknaajnnohiaaDoorSrtS
import Derived.Test.YtldknaajnnohiaaDoorSPl
import Derived.Test.YtldknaajnnohiaaDoorNtI
import Derived.Test.YtldknaajnnohiaaDoorNtI
import Derived.Test.YtldknaajnnohiaaDoorPdB
import Derived.Test.YtldknaajnnohiaaDoorNew
namespace Go.Proofs.YtldknaajnnohiaaDoor
open Go.RowKit

theorem Weak.pre {lt : Int → Int → Bool} (h : Weak lt) : Pre (leOf lt) := by
  constructor
  · intro x y
    unfold leOf
    cases hyx : lt y x
    · exact .inl rfl
    · exact .inr (h.asym y x hyx)
  · intro x y z h1 h2
    unfold leOf at h1 h2 ⊢
    cases hzx : lt z x
    · rfl
    · rcases h.neg z y x hzx with h3 | h3
      · rw [h2] at h3; cases h3
      · rw [h1] at h3; cases h3
end Go.Proofs.YtldknaajnnohiaaDoor
