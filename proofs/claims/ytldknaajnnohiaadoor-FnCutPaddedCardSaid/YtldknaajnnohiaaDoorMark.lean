/- Sizes, marks, and stores of single fields: plain words for the laws' sz.., mark.., held... No function of the program occurs here. -/
import Derived.Test.YtldknaajnnohiaaDoorMem
namespace Go.Proofs.YtldknaajnnohiaaDoor
open Go.RowKit

/-! ### Sizes -/
def szZ {α : Type} (_ : α) : Nat := 0
def szStr (s : ByteArray) : Nat := s.size
def szL {α : Type} (s : α → Nat) (xs : List α) : Nat := xs.length + (xs.map s).sum
/-- What is left of a size, or -1. -/
def SzR (left : Int) (n : Nat) (r : Int) : Prop := r = -1 ∨ (0 ≤ r ∧ r = left - n)

/-! ### Marks -/
def ct1 {α : Type} (_ : α) : Nat := 1
def ctL {α : Type} (c : α → Nat) (xs : List α) : Nat := (xs.map c).sum
def mkI (k : Int) (_ : Int) : Int := k
def mkB (k : Int) (_ : Bool) : Bool := k % 3 == 0
def mkL {α : Type} (m : Int → α → α) (c : α → Nat) : Int → List α → List α
  | _, [] => []
  | k, x :: xs => m k x :: mkL m c (k + (c x : Int)) xs
section
variable {α : Type} (m : Int → α → α) (c : α → Nat)
end
theorem I64.mk {n : Int} (h0 : -4611686018427387904 ≤ n) (h1 : n ≤ 4611686018427387904) : I64 n := by unfold I64; omega

section
variable {α : Type} {e : Rep α} {w w' : World} {F G : List Nat} {xs : List α}
theorem Good.part (h : Good w F) (hm : Mod G w w') (hg : Good w' G) : Good w' F :=
  ⟨h.1, fun g hgF => by
    by_cases hG : g ∈ G
    · exact hg.2 g hG
    · rw [hm.block g (h.lt g hgF) hG]; exact h.2 g hgF⟩
end
end Go.Proofs.YtldknaajnnohiaaDoor
