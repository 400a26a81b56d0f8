/- MemoryValid: sizes (plain). -/
import Derived.Test.YthabgnhedmepjaaMemL
import Derived.Test.YthabgnhedmepjaaSz
namespace Go.Proofs.Ythabgnhedmepjaa
open Go.RowKit
theorem flat_sz {α : Type} (f : α → Nat) : ∀ xs : List (List α), xs.flatten.length ≤ szL (szL f) xs
  | [] => by simp [szL]
  | x :: xs => by
    have h1 := flat_sz f xs
    have h2 := szL_len f x
    simp only [szL, List.flatten_cons, List.length_append, List.length_cons, List.map_cons, List.sum_cons] at *
    omega
theorem memAll_sz (m : MemoryD) : (memAll m).length ≤ szMemory m := by
  have h1 := flat_sz szBlock m.1
  have h2 := szL_len szBlock m.2
  unfold memAll szMemory
  rw [List.length_append]
  omega
end Go.Proofs.Ythabgnhedmepjaa
