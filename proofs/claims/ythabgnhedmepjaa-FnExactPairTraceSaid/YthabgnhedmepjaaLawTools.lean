/- Small facts that the laws' proofs want. -/
import Derived.Test.YthabgnhedmepjaaCtA
import Derived.Test.YthabgnhedmepjaaTrace
namespace Go.Proofs.Ythabgnhedmepjaa
open Go.RowKit
theorem ctAccess_list (l : List AccessD) : ctL ctAccess l = 3 * l.length := by
  unfold ctL
  induction l with
  | nil => rfl
  | cons a l ih => simp only [List.map_cons, List.sum_cons, ih, ctAccess, ct1, List.length_cons]; omega
theorem pairTraceF_len (r : Int) (l : List PairD) : (pairTraceF r l).length ≤ 4 * l.length := by
  unfold pairTraceF
  split
  · rw [pairAcc_len]; exact Nat.le_refl _
  · simp
theorem ctAccessS_pair (r : Int) (l : List PairD) : ctL ctAccess (pairTraceF r l) ≤ 12 * l.length := by
  have h1 := ctAccess_list (pairTraceF r l)
  have h2 := pairTraceF_len r l
  omega
end Go.Proofs.Ythabgnhedmepjaa
