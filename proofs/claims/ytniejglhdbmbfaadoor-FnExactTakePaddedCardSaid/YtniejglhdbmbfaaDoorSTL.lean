/- Sizes of padded tables and of sealed rows; how many marks they have. -/
import Derived.Test.YtniejglhdbmbfaaDoorMkDefsT
import Derived.Test.YtniejglhdbmbfaaDoorOwnS
import Derived.Test.YtniejglhdbmbfaaDoorSTi
import Derived.Test.YtniejglhdbmbfaaDoorSealL
section
namespace Go.Proofs.YtniejglhdbmbfaaDoor
open Go.RowKit

theorem szL_mem {α : Type} (s : α → Nat) (xs : List α) (x : α) (h : x ∈ xs) : s x ≤ szL s xs := by
  obtain ⟨k, hk, rfl⟩ := List.mem_iff_getElem.mp h
  exact szL_get s xs k hk
theorem PSmall_sz {p : PaddedD} (h : szPadded p ≤ 1048576) : PSmall p := by
  have h1 := szL_len szStr p.1
  have h2 := szL_len (szL szZ) p.2.1
  have h3 := szL_len szZ p.2.2
  have h0 : szPadded p = szL szStr p.1 + szL (szL szZ) p.2.1 + szL szZ p.2.2 := rfl
  refine ⟨by omega, ⟨by omega, fun r hr => ?_⟩, by omega⟩
  have h3 := szL_mem (szL szZ) p.2.1 r hr
  have h4 := szL_len szZ r
  omega
theorem SSmall_sz {l : List SealedD} (h : szL szSealed l ≤ 1048576) : SSmall l := by
  have h1 := szL_len szSealed l
  refine ⟨by omega, fun x hx => ?_⟩
  have h2 := szL_mem szSealed l x hx
  have h3 : szSealed x = szL szZ x.2.1 := rfl
  have h4 := szL_len szZ x.2.1
  omega
theorem ctL_bd {α : Type} {c : α → Nat} {b : Nat} {xs : List α} (h : ∀ x ∈ xs, c x ≤ b) : ctL c xs ≤ b * xs.length := by
  unfold ctL
  induction xs with
  | nil => simp
  | cons x xs ih =>
    have h1 := h x (by simp)
    have h2 := ih (fun y hy => h y (by simp [hy]))
    simp only [List.map_cons, List.sum_cons, List.length_cons, Nat.mul_add, Nat.mul_one] at *
    omega
theorem ctL_one {α : Type} (xs : List α) : ctL (ct1 (α := α)) xs = xs.length := by
  unfold ctL ct1
  induction xs with
  | nil => rfl
  | cons x xs ih => simp only [List.map_cons, List.sum_cons, List.length_cons, ih]; omega
end Go.Proofs.YtniejglhdbmbfaaDoor
end

section
namespace Go.Proofs.YtniejglhdbmbfaaDoor
open Go.RowKit

theorem sealRow_len7 (key num : Int) (row : List Int) (real : Bool) : (sealRowF key num row real).2.1.length ≤ 7 := by
  cases h : sealOk key num row
  · rw [sealRowF_no h]; decide
  · rw [sealRowF_ok h]
    obtain ⟨h1, h2, h3, h4⟩ := sealOk_parts h
    obtain ⟨l0, l1⟩ := inB_of h3
    have hl := sealed_len key num row real
    show (sealedCells key num row real).length ≤ 7
    omega
theorem ctSealed_le9 (key num : Int) (row : List Int) (real : Bool) : ctSealed (sealRowF key num row real) ≤ 9 := by
  have h1 := sealRow_len7 key num row real
  have h2 : ctSealed (sealRowF key num row real) = 1 + ctL ct1 (sealRowF key num row real).2.1 + 1 := rfl
  rw [h2, ctL_one]
  omega
theorem ct_sealTable (key first : Int) (p : PaddedD) : ctL ctSealed (sealTableF key first p) ≤ 9 * 256 := by
  unfold sealTableF
  split
  · rename_i h
    simp only [Bool.and_eq_true] at h
    obtain ⟨ns, rows, real⟩ := p
    obtain ⟨h1, -⟩ := paddedOk_parts h.1
    refine Nat.le_trans (ctL_bd (b := 9) ?_) ?_
    · intro x hx
      obtain ⟨k, -, rfl⟩ := List.mem_map.1 hx
      exact ctSealed_le9 _ _ _ _
    · simp only [List.length_map, List.length_range]
      omega
  · simp [ctL]










end Go.Proofs.YtniejglhdbmbfaaDoor
end
