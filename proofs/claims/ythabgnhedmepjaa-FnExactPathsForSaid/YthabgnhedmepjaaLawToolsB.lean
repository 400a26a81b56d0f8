/- Small facts that the laws' proofs want, second part. -/
import Derived.Test.YthabgnhedmepjaaCtA
import Derived.Test.YthabgnhedmepjaaPath
namespace Go.Proofs.Ythabgnhedmepjaa
open Go.RowKit
theorem ctIntS_len (l : List Int) : ctL ct1 l = l.length := by
  unfold ctL
  induction l with
  | nil => rfl
  | cons a l ih => simp only [List.map_cons, List.sum_cons, ih, ct1, List.length_cons]; omega
theorem pathOfF_len (l : Int) : (pathOfF l).length ≤ 3 := by unfold pathOfF; split <;> simp [pathF]
end Go.Proofs.Ythabgnhedmepjaa
