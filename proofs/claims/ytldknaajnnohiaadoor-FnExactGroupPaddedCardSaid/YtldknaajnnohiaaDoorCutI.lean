/- Prefixes of slices: what one reads, and what one owns. No function of the program occurs here. -/
import Derived.Test.YtldknaajnnohiaaDoorFind
import Derived.Test.YtldknaajnnohiaaDoorNew
import Derived.Test.YtldknaajnnohiaaDoorPdv
import Derived.Test.YtldknaajnnohiaaDoorPdB
section
namespace Go.Proofs.YtldknaajnnohiaaDoor
open Go.RowKit

section
variable {α : Type} {e : Rep α} {w w0 : World} {Γ : List Fact}
end
end Go.Proofs.YtldknaajnnohiaaDoor
end

section
namespace Go.Proofs.YtldknaajnnohiaaDoor
open Go.RowKit

def cutM (size : Int) (n : Nat) : Nat := min size.toNat n
def cutF (p : PaddedD) (size : Int) : PaddedD × Bool :=
  if paddedOk p && inB size 0 256 then
    if (p.2.2.drop (cutM size p.2.1.length)).any id then (zeroP, false) else ((p.1, p.2.1.take (cutM size p.2.1.length), p.2.2.take (cutM size p.2.1.length)), true)
  else (zeroP, false)
section
variable {ns : List ByteArray} {rows : List (List Int)} {real : List Bool} {size : Int} {M : Nat}
end

theorem padded_lenC {ns : List ByteArray} {rows : List (List Int)} {real : List Bool} (h : paddedOk (ns, rows, real) = true) : rows.length ≤ 256 ∧ real.length = rows.length := by
  unfold paddedOk at h
  simp only [Bool.and_eq_true, decide_eq_true_eq] at h
  exact ⟨h.2.1, h.2.2.1⟩

/-! ### How many rows are real -/
/-! ### The first rows -/
end Go.Proofs.YtldknaajnnohiaaDoor
end
