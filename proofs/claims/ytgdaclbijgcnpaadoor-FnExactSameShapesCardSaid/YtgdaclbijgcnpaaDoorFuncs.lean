/- slices.ContainsFunc on ints, with functions of the program's own. -/
import Derived.Test.YtgdaclbijgcnpaaDoorPad
import Derived.Test.YtgdaclbijgcnpaaDoorExt
namespace Go.Proofs.YtgdaclbijgcnpaaDoor
open Go.RowKit

theorem any_take_succ {α : Type} (p : α → Bool) (xs : List α) (k : Nat) (h : k < xs.length) : (xs.take (k + 1)).any p = ((xs.take k).any p || p xs[k]) := by
  rw [List.take_succ_eq_append_getElem h, List.any_append]; simp
theorem any_of_get {α : Type} (p : α → Bool) (xs : List α) (k : Nat) (h : k < xs.length) (hp : p xs[k] = true) : xs.any p = true := List.any_eq_true.2 ⟨_, List.getElem_mem h, hp⟩
theorem any_succ_f {α : Type} {p : α → Bool} {xs : List α} {k : Nat} (h : k < xs.length) (h1 : (xs.take k).any p = false) (h2 : p xs[k] = false) : (xs.take (k + 1)).any p = false := by
  rw [any_take_succ p xs k h, h1, h2]; rfl
def notValue (n : Int) : Bool := !inB n (-100000) 100000
def notZero (n : Int) : Bool := !(n == 0)

theorem impl_isValue (n : Int) (w : World) : Calls Tryd.prog 101 #[.int .i64 n] w fun e w' => e = .returned (.bool (inB n (-100000) 100000)) ∧ w = w' := by
  go_enter Tryd.func101, Tryd.ntmps101
  go_wp2_with (go_at_call 63; refine (impl_in _ _ _ _).mono ?_; rintro e w' ⟨rfl, rfl⟩)
  go_ret
  exact ⟨rfl, rfl⟩




end Go.Proofs.YtgdaclbijgcnpaaDoor
