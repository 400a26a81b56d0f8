/- CutPadded: the contracts as the law wants them; how many marks its result has. -/
import Derived.Test.YtldknaajnnohiaaDoorCutS
import Derived.Test.YtldknaajnnohiaaDoorPSa
namespace Go.Proofs.YtldknaajnnohiaaDoor
open Go.RowKit

theorem cutF_cases (p : PaddedD) (size : Int) : cutF p size = (zeroP, false) ∨ (paddedOk p = true ∧ inB size 0 256 = true ∧ cutF p size = ((p.1, p.2.1.take (cutM size p.2.1.length), p.2.2.take (cutM size p.2.1.length)), true)) := by
  unfold cutF
  split
  · rename_i h
    simp only [Bool.and_eq_true] at h
    split
    · exact .inl rfl
    · exact .inr ⟨h.1, h.2, rfl⟩
  · exact .inl rfl
end Go.Proofs.YtldknaajnnohiaaDoor
