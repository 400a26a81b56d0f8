/- How the program compares two rows of a padded table: what it calls, and the two function literals. -/
import Derived.Test.YtldknaajnnohiaaDoorSho
import Derived.Test.YtldknaajnnohiaaDoorSPl
import Derived.Test.YtldknaajnnohiaaDoorFind
import Derived.Test.YtldknaajnnohiaaDoorSatT
import Derived.Test.YtldknaajnnohiaaDoorTys
import Derived.Test.YtldknaajnnohiaaDoorNew
import Derived.Test.YtldknaajnnohiaaDoorStr
import Derived.Test.YtldknaajnnohiaaDoorApnd
import Derived.Test.YtldknaajnnohiaaDoorSrt
section
namespace Go.Proofs.YtldknaajnnohiaaDoor
open Go.RowKit

instance : Ty Tryd.prog 139 .nilFunc 1 false := ⟨by kernel_rfl, by kernel_rfl⟩
instance : ByTy Tryd.prog 139 8 := ⟨by kernel_rfl⟩
def cmpI (x y : Int) : Int := if x < y then -1 else if y < x then 1 else 0
/-! ### Rows by their values -/
/-! ### Rows by a column, then by their values -/
def ltK (c : Int) (down : Bool) (xs ys : List Int) : Bool := ltR c down (xs, true) (ys, true)
theorem ltK_of {c : Int} {down b : Bool} {xs ys : List Int} : ltR c down (xs, b) (ys, b) = ltK c down xs ys := by
  unfold ltK
  rw [ltR_same (a := (xs, b)) (b := (ys, b)) rfl, ltR_same (a := (xs, true)) (b := (ys, true)) rfl]; rfl
theorem ltK_lex {c : Int} {down : Bool} {xs ys : List Int} (h : 0 ≤ c → xs.getD c.toNat 0 = ys.getD c.toNat 0) : ltK c down xs ys = lessL xs ys := ltR_lex rfl h
theorem ltK_key {j : Nat} {down : Bool} {xs ys : List Int} (h1 : j < xs.length) (h2 : j < ys.length) (h : xs[j] ≠ ys[j]) : ltK (j : Int) down xs ys = (decide (xs[j] < ys[j]) != down) := by
  have e1 : keyOf (j : Int) (xs, true) = xs[j] := by unfold keyOf; rw [Int.toNat_natCast, List.getD_eq_getElem?_getD, List.getElem?_eq_getElem h1]; rfl
  have e2 : keyOf (j : Int) (ys, true) = ys[j] := by unfold keyOf; rw [Int.toNat_natCast, List.getD_eq_getElem?_getD, List.getElem?_eq_getElem h2]; rfl
  have h3 := ltR_key (c := (j : Int)) (down := down) (a := (xs, true)) (b := (ys, true)) rfl (by omega) (by rw [e1, e2]; exact h)
  rw [e1, e2] at h3
  exact h3
/-! ### Places of a padded table -/
end Go.Proofs.YtldknaajnnohiaaDoor
end

section
namespace Go.Proofs.YtldknaajnnohiaaDoor
open Go.RowKit

end Go.Proofs.YtldknaajnnohiaaDoor
end
