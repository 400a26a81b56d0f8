/- Short names. No function of the program occurs here. -/
import Derived.Test.YtldknaajnnohiaaDoorMem
namespace Go.Proofs.YtldknaajnnohiaaDoor

theorem sA.{u} {α : Type u} (l : List α) (i : Nat) (a : α) : l.toArray.setIfInBounds i a = (l.set i a).toArray := List.setIfInBounds_toArray l i a
theorem sZ.{u} {α : Type u} (x : α) (xs : List α) (a : α) : (x :: xs).set 0 a = a :: xs := List.set_cons_zero
theorem sS.{u} {α : Type u} (x : α) (xs : List α) (i : Nat) (a : α) : (x :: xs).set (i + 1) a = x :: xs.set i a := List.set_cons_succ
end Go.Proofs.YtldknaajnnohiaaDoor
