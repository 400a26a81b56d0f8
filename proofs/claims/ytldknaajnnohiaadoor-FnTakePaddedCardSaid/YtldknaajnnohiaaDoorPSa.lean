/- Sizes of padded tables; how many marks they have. -/
import Derived.Test.YtldknaajnnohiaaDoorMkDefsT
import Derived.Test.YtldknaajnnohiaaDoorPdv
import Derived.Test.YtldknaajnnohiaaDoorPdB
namespace Go.Proofs.YtldknaajnnohiaaDoor
open Go.RowKit

theorem szL_mem {α : Type} (s : α → Nat) (xs : List α) (x : α) (h : x ∈ xs) : s x ≤ szL s xs := by
  obtain ⟨k, hk, rfl⟩ := List.mem_iff_getElem.mp h
  exact szL_get s xs k hk
theorem PSmall_sz {p : PaddedD} (h : szPadded p ≤ 1048576) : PSmall p := by
  have h1 := szL_len szStr p.1
  have h2 := szL_len (szL szZ) p.2.1
  have h3 := szL_len szZ p.2.2
  have h0 : szPadded p = szL szStr p.1 + szL (szL szZ) p.2.1 + szL szZ p.2.2 := rfl
  refine ⟨by omega, ⟨by omega, fun r hr => ?_⟩, by omega⟩
  have h3 := szL_mem (szL szZ) p.2.1 r hr
  have h4 := szL_len szZ r
  omega
theorem ctL_bd {α : Type} {c : α → Nat} {b : Nat} {xs : List α} (h : ∀ x ∈ xs, c x ≤ b) : ctL c xs ≤ b * xs.length := by
  unfold ctL
  induction xs with
  | nil => simp
  | cons x xs ih =>
    have h1 := h x (by simp)
    have h2 := ih (fun y hy => h y (by simp [hy]))
    simp only [List.map_cons, List.sum_cons, List.length_cons, Nat.mul_add, Nat.mul_one] at *
    omega
theorem ctL_one {α : Type} (xs : List α) : ctL (ct1 (α := α)) xs = xs.length := by
  unfold ctL ct1
  induction xs with
  | nil => rfl
  | cons x xs ih => simp only [List.map_cons, List.sum_cons, List.length_cons, ih]; omega
theorem ctvP_le {ns : List ByteArray} {rows : List (List Int)} {real : List Bool} {a b c : Nat} (h1 : ns.length ≤ a) (h2 : rows.length ≤ b) (h3 : ∀ r ∈ rows, r.length ≤ c) (h4 : real.length ≤ b) : ctvPadded (ns, rows, real) ≤ a + c * b + b := by
  have h5 : ctL (ctL ct1) rows ≤ c * rows.length := ctL_bd (fun r hr => by rw [ctL_one]; exact h3 r hr)
  have h6 : c * rows.length ≤ c * b := Nat.mul_le_mul (Nat.le_refl _) h2
  unfold ctvPadded
  dsimp only
  rw [ctL_one, ctL_one]
  omega
theorem ctvP_zero : ctvPadded zeroP = 0 := rfl
end Go.Proofs.YtldknaajnnohiaaDoor
