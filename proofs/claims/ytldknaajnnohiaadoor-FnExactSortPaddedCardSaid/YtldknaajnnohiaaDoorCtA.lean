/- How many marks, by sizes: data without texts. -/
import Derived.Test.YtldknaajnnohiaaDoorSz
import Derived.Test.YtldknaajnnohiaaDoorMkDefs
namespace Go.Proofs.YtldknaajnnohiaaDoor
open Go.RowKit
attribute [local go_sem] ext_cell

theorem ctL_le {α : Type} {c s : α → Nat} (h : ∀ x, c x ≤ 11 * (s x + 1)) (xs : List α) : ctL c xs ≤ 11 * szL s xs := by
  unfold ctL szL
  induction xs with
  | nil => simp
  | cons x xs ih =>
    have := h x
    simp only [List.map_cons, List.sum_cons, List.length_cons] at *
    omega
theorem ctIntS_le (xs : (List Int)) : (ctL ct1) xs ≤ 11 * (szL szZ) xs := ctL_le (fun x => by simp only [ct1]; omega) xs
theorem ctBoolS_le (xs : (List Bool)) : (ctL ct1) xs ≤ 11 * (szL szZ) xs := ctL_le (fun x => by simp only [ct1]; omega) xs
theorem ctIntSS_le (xs : (List (List Int))) : (ctL (ctL ct1)) xs ≤ 11 * (szL (szL szZ)) xs := ctL_le (fun x => by have h := ctIntS_le x; omega) xs
theorem ctPair_le (x : PairD) : ctPair x ≤ 11 * (szPair x + 1) := by simp only [ctPair, ct1]; omega
theorem ctPairS_le (xs : (List PairD)) : (ctL ctPair) xs ≤ 11 * (szL szPair) xs := ctL_le (fun x => by have h := ctPair_le x; omega) xs
theorem ctAccess_le (x : AccessD) : ctAccess x ≤ 11 * (szAccess x + 1) := by simp only [ctAccess, ct1]; omega
theorem ctAccessS_le (xs : (List AccessD)) : (ctL ctAccess) xs ≤ 11 * (szL szAccess) xs := ctL_le (fun x => by have h := ctAccess_le x; omega) xs
theorem ctBlock_le (x : BlockD) : ctBlock x ≤ 11 * (szBlock x + 1) := by simp only [ctBlock, ct1]; omega
theorem ctBlockS_le (xs : (List BlockD)) : (ctL ctBlock) xs ≤ 11 * (szL szBlock) xs := ctL_le (fun x => by have h := ctBlock_le x; omega) xs
theorem ctUse_le (x : UseD) : ctUse x ≤ 11 * (szUse x + 1) := by simp only [ctUse, ct1]; omega
theorem ctUseS_le (xs : (List UseD)) : (ctL ctUse) xs ≤ 11 * (szL szUse) xs := ctL_le (fun x => by have h := ctUse_le x; omega) xs
theorem ctBlockSS_le (xs : (List (List BlockD))) : (ctL (ctL ctBlock)) xs ≤ 11 * (szL (szL szBlock)) xs := ctL_le (fun x => by have h := ctBlockS_le x; omega) xs
theorem ctSealed_le (x : SealedD) : ctSealed x ≤ 11 * (szSealed x + 1) := by have h0 := ctIntS_le x.2.1; simp only [ctSealed, szSealed, ct1]; omega
theorem ctvSealed_le (x : SealedD) : ctvSealed x ≤ 11 * (szSealed x + 1) := by have h0 := ctIntS_le x.2.1; simp only [ctvSealed, szSealed]; omega
theorem ctSealedS_le (xs : (List SealedD)) : (ctL ctSealed) xs ≤ 11 * (szL szSealed) xs := ctL_le (fun x => by have h := ctSealed_le x; omega) xs
theorem ctMemory_le (x : MemoryD) : ctMemory x ≤ 11 * (szMemory x + 1) := by have h0 := ctBlockSS_le x.1; have h1 := ctBlockS_le x.2; simp only [ctMemory, szMemory, ct1]; omega
theorem ctvMemory_le (x : MemoryD) : ctvMemory x ≤ 11 * (szMemory x + 1) := by have h0 := ctBlockSS_le x.1; have h1 := ctBlockS_le x.2; simp only [ctvMemory, szMemory]; omega

end Go.Proofs.YtldknaajnnohiaaDoor
