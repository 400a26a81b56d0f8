/- MemoryOf: sizes (plain). -/
import Derived.Test.YthabgnhedmepjaaMemO
import Derived.Test.YthabgnhedmepjaaSz
namespace Go.Proofs.Ythabgnhedmepjaa
open Go.RowKit
theorem sum_zero {α : Type} (f : α → Nat) (hf : ∀ x, f x = 0) : ∀ l : List α, (l.map f).sum = 0
  | [] => rfl
  | x :: l => by rw [List.map_cons, List.sum_cons, hf, sum_zero f hf l]
theorem memoryOf_sz (vs ls : List Int) : szMemory (memoryOf vs ls) ≤ 100 := by
  unfold memoryOf
  split
  · rename_i h
    have e : memRaw vs ls = (List.replicate 7 [], memStash vs ls 8) := by unfold memRaw; rw [h.1, h.2.1]; rfl
    rw [e]
    have h1 : (szL szBlock) (memStash vs ls 8) = 8 := by
      unfold szL
      rw [sum_zero szBlock (fun _ => rfl), memStash_len]
    have h2 : (szL (szL szBlock)) (List.replicate 7 []) = 7 := rfl
    show (szL (szL szBlock)) (List.replicate 7 []) + (szL szBlock) (memStash vs ls 8) ≤ 100
    rw [h1, h2]
    decide
  · show (szL (szL szBlock)) [] + (szL szBlock) [] ≤ 100
    decide
end Go.Proofs.Ythabgnhedmepjaa
