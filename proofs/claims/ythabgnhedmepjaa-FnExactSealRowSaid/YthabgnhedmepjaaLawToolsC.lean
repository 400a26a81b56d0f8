/- Small facts that the laws' proofs want, third part. -/
import Derived.Test.YthabgnhedmepjaaCtA
import Derived.Test.YthabgnhedmepjaaSealD
namespace Go.Proofs.Ythabgnhedmepjaa
open Go.RowKit
theorem ctInts_len (l : List Int) : ctL ct1 l = l.length := by
  unfold ctL
  induction l with
  | nil => rfl
  | cons a l ih => simp only [List.map_cons, List.sum_cons, ih, ct1, List.length_cons]; omega
theorem ctSealed_seal (key number : Int) (row : List Int) (real : Bool) : ctvSealed (sealRowF key number row real) ≤ 7 := by
  unfold ctvSealed
  rw [ctInts_len]
  unfold sealRowF
  split
  · rename_i h
    have hl : inB row.length 1 6 = true := by
      simp only [sealOk, rowOk, Bool.and_eq_true] at h
      exact h.2.1
    have := inB_of hl
    simp only [sealedCells, List.length_append, cellsTo_len, List.length_singleton]
    omega
  · simp
end Go.Proofs.Ythabgnhedmepjaa
