/- Marks of the data. -/
import Derived.Test.YtnbaekjednmfjaaDoorShapes
import Derived.Test.YtnbaekjednmfjaaDoorLaw
import Derived.Test.YtnbaekjednmfjaaDoorRows
section
namespace Go.Proofs.YtnbaekjednmfjaaDoor
open Go.RowKit
attribute [local go_sem] ext_cell

def ctPair (x : PairD) : Nat := ct1 x.1 + ct1 x.2
def mkPair (k : Int) (x : PairD) : PairD := (mkI k x.1, mkI (k + 1) x.2)
def ctAccess (x : AccessD) : Nat := ct1 x.1 + ct1 x.2.1 + ct1 x.2.2
def mkAccess (k : Int) (x : AccessD) : AccessD := (mkI k x.1, mkI (k + 1) x.2.1, mkB ((k + 1) + 1) x.2.2)
def ctBlock (x : BlockD) : Nat := ct1 x.1 + ct1 x.2.1 + ct1 x.2.2
def mkBlock (k : Int) (x : BlockD) : BlockD := (mkI k x.1, mkI (k + 1) x.2.1, mkI ((k + 1) + 1) x.2.2)
def ctUse (x : UseD) : Nat := ct1 x.1 + ct1 x.2.1 + ct1 x.2.2.1 + ct1 x.2.2.2
def mkUse (k : Int) (x : UseD) : UseD := (mkI k x.1, mkB (k + 1) x.2.1, mkI ((k + 1) + 1) x.2.2.1, mkI (((k + 1) + 1) + 1) x.2.2.2)
def ctSealed (x : SealedD) : Nat := ct1 x.1 + (ctL ct1) x.2.1 + ct1 x.2.2
def mkSealed (k : Int) (x : SealedD) : SealedD := (mkI k x.1, (mkL mkI ct1) (k + 1) x.2.1, mkI ((k + 1) + ((ctL ct1) x.2.1 : Int)) x.2.2)
def ctvSealed (x : SealedD) : Nat := (ctL ct1) x.2.1
def mkvSealed (k : Int) (x : SealedD) : SealedD := (x.1, (mkL mkI ct1) k x.2.1, x.2.2)
def ctMemory (x : MemoryD) : Nat := (ctL (ctL ctBlock)) x.1 + (ctL ctBlock) x.2
def mkMemory (k : Int) (x : MemoryD) : MemoryD := ((mkL (mkL mkBlock ctBlock) (ctL ctBlock)) k x.1, (mkL mkBlock ctBlock) (k + ((ctL (ctL ctBlock)) x.1 : Int)) x.2)
def ctvMemory (x : MemoryD) : Nat := (ctL (ctL ctBlock)) x.1 + (ctL ctBlock) x.2
def mkvMemory (k : Int) (x : MemoryD) : MemoryD := ((mkL (mkL mkBlock ctBlock) (ctL ctBlock)) k x.1, (mkL mkBlock ctBlock) (k + ((ctL (ctL ctBlock)) x.1 : Int)) x.2)

end Go.Proofs.YtnbaekjednmfjaaDoor
end

section
namespace Go.Proofs.YtnbaekjednmfjaaDoor
open Go.RowKit
attribute [local go_sem] ext_cell

def szPair : PairD → Nat := szZ
def szAccess : AccessD → Nat := szZ
def szBlock : BlockD → Nat := szZ
def szUse : UseD → Nat := szZ
def szTest (x : TestD) : Nat := szStr x.1 + szStr x.2.1 + szStr x.2.2.2
def szSealed (x : SealedD) : Nat := (szL szZ) x.2.1
def szShape (x : ShapeD) : Nat := szStr x.1 + (szL szStr) x.2.1
def szMemory (x : MemoryD) : Nat := (szL (szL szBlock)) x.1 + (szL szBlock) x.2
def szTable (x : TableD) : Nat := (szL szStr) x.1 + (szL (szL szZ)) x.2
def szNamed (x : NamedD) : Nat := szStr x.1 + szTable x.2
def szPadded (x : PaddedD) : Nat := (szL szStr) x.1 + (szL (szL szZ)) x.2.1 + (szL szZ) x.2.2
def szStep (x : StepD) : Nat := szStr x.2.1 + szStr x.2.2.1 + szStr x.2.2.2.1 + (szL (szL szTest)) x.2.2.2.2.1 + (szL szStr) x.2.2.2.2.2.1
def szQuery (x : QueryD) : Nat := (szL szStr) x.1 + szStr x.2.1 + szStr x.2.2.1 + szStr x.2.2.2.1 + szStr x.2.2.2.2.1 + (szL (szL szTest)) x.2.2.2.2.2.1 + szStr x.2.2.2.2.2.2.1 + szStr x.2.2.2.2.2.2.2.1 + szStr x.2.2.2.2.2.2.2.2.1


























end Go.Proofs.YtnbaekjednmfjaaDoor
end

section
namespace Go.Proofs.YtnbaekjednmfjaaDoor
open Go.RowKit
attribute [local go_sem] ext_cell

theorem ctL_le {α : Type} {c s : α → Nat} (h : ∀ x, c x ≤ 11 * (s x + 1)) (xs : List α) : ctL c xs ≤ 11 * szL s xs := by
  unfold ctL szL
  induction xs with
  | nil => simp
  | cons x xs ih =>
    have := h x
    simp only [List.map_cons, List.sum_cons, List.length_cons] at *
    omega
theorem ctIntS_le (xs : (List Int)) : (ctL ct1) xs ≤ 11 * (szL szZ) xs := ctL_le (fun x => by simp only [ct1]; omega) xs
theorem ctBoolS_le (xs : (List Bool)) : (ctL ct1) xs ≤ 11 * (szL szZ) xs := ctL_le (fun x => by simp only [ct1]; omega) xs
theorem ctIntSS_le (xs : (List (List Int))) : (ctL (ctL ct1)) xs ≤ 11 * (szL (szL szZ)) xs := ctL_le (fun x => by have h := ctIntS_le x; omega) xs
theorem ctPair_le (x : PairD) : ctPair x ≤ 11 * (szPair x + 1) := by simp only [ctPair, ct1]; omega
theorem ctPairS_le (xs : (List PairD)) : (ctL ctPair) xs ≤ 11 * (szL szPair) xs := ctL_le (fun x => by have h := ctPair_le x; omega) xs
theorem ctAccess_le (x : AccessD) : ctAccess x ≤ 11 * (szAccess x + 1) := by simp only [ctAccess, ct1]; omega
theorem ctAccessS_le (xs : (List AccessD)) : (ctL ctAccess) xs ≤ 11 * (szL szAccess) xs := ctL_le (fun x => by have h := ctAccess_le x; omega) xs
theorem ctBlock_le (x : BlockD) : ctBlock x ≤ 11 * (szBlock x + 1) := by simp only [ctBlock, ct1]; omega
theorem ctBlockS_le (xs : (List BlockD)) : (ctL ctBlock) xs ≤ 11 * (szL szBlock) xs := ctL_le (fun x => by have h := ctBlock_le x; omega) xs
theorem ctUse_le (x : UseD) : ctUse x ≤ 11 * (szUse x + 1) := by simp only [ctUse, ct1]; omega
theorem ctUseS_le (xs : (List UseD)) : (ctL ctUse) xs ≤ 11 * (szL szUse) xs := ctL_le (fun x => by have h := ctUse_le x; omega) xs
theorem ctBlockSS_le (xs : (List (List BlockD))) : (ctL (ctL ctBlock)) xs ≤ 11 * (szL (szL szBlock)) xs := ctL_le (fun x => by have h := ctBlockS_le x; omega) xs
theorem ctSealed_le (x : SealedD) : ctSealed x ≤ 11 * (szSealed x + 1) := by have h0 := ctIntS_le x.2.1; simp only [ctSealed, szSealed, ct1]; omega
theorem ctvSealed_le (x : SealedD) : ctvSealed x ≤ 11 * (szSealed x + 1) := by have h0 := ctIntS_le x.2.1; simp only [ctvSealed, szSealed]; omega
theorem ctSealedS_le (xs : (List SealedD)) : (ctL ctSealed) xs ≤ 11 * (szL szSealed) xs := ctL_le (fun x => by have h := ctSealed_le x; omega) xs
theorem ctMemory_le (x : MemoryD) : ctMemory x ≤ 11 * (szMemory x + 1) := by have h0 := ctBlockSS_le x.1; have h1 := ctBlockS_le x.2; simp only [ctMemory, szMemory, ct1]; omega
theorem ctvMemory_le (x : MemoryD) : ctvMemory x ≤ 11 * (szMemory x + 1) := by have h0 := ctBlockSS_le x.1; have h1 := ctBlockS_le x.2; simp only [ctvMemory, szMemory]; omega

end Go.Proofs.YtnbaekjednmfjaaDoor
end
