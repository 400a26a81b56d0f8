/- Stable sorting of an int slice of one's own: the plain laws; ranges that change places; the rotation. -/
import Derived.Test.YtldknaajnnohiaaDoorSho
import Derived.Test.YtldknaajnnohiaaDoorApnd
import Derived.Test.YtldknaajnnohiaaDoorFind
import Derived.Test.YtldknaajnnohiaaDoorTys
section
namespace Go.Proofs.YtldknaajnnohiaaDoor
open Go.RowKit
/-! ### Swaps of two cells, of two ranges; the rotation -/
section
variable {α : Type}
/-- What stands when k of n cells have changed places. -/
def swk (pre U M V post : List α) (k : Nat) : List α := pre ++ (V.take k ++ U.drop k) ++ M ++ (U.take k ++ V.drop k) ++ post
variable {pre U M V post : List α} {k : Nat}
end

/-! ### Order -/
section
variable {α : Type} (le : α → α → Prop)
structure Pre : Prop where
  total : ∀ x y, le x y ∨ le y x
  trans : ∀ {x y z}, le x y → le y z → le x z
variable {le} (hle : Pre le)
abbrev Srt (le : α → α → Prop) (l : List α) : Prop := l.Pairwise le
include hle in
theorem Pre.refl (x : α) : le x x := (hle.total x x).elim id id
end

/-! ### Ranges that change places -/
end Go.Proofs.YtldknaajnnohiaaDoor
end

section
namespace Go.Proofs.YtldknaajnnohiaaDoor
open Go.RowKit

/-! ### The rotation -/
end Go.Proofs.YtldknaajnnohiaaDoor
end

section
namespace Go.Proofs.YtldknaajnnohiaaDoor
open Go.RowKit

/-- The comparison that the sort is handed: what it answers while the facts hold. -/
def CmpOk (w0 : World) (Γ : List Fact) (g off N c bp bc : Nat) (D : Int → Prop) (lt : Int → Int → Bool) : Prop :=
  ∀ (wz : World) (xs : List Int), Sat w0 wz (.own Rep.int.rows [.slice (some ⟨g, off, none⟩) N c] xs :: Γ) → ∀ x y, D x → D y →
    Calls Tryd.prog 164 #[.int .i64 x, .int .i64 y, .pointer (some ⟨bp, 0, none⟩), .pointer (some ⟨bc, 0, none⟩)] wz fun e w' => (∃ r : Int, e = .returned (.int .i64 r) ∧ decide (r < 0) = lt x y) ∧ Mod [] wz w'
def leOf (lt : Int → Int → Bool) (x y : Int) : Prop := lt y x = false
section
variable {lt : Int → Int → Bool}
end
end Go.Proofs.YtldknaajnnohiaaDoor
end

section
namespace Go.Proofs.YtldknaajnnohiaaDoor
open Go.RowKit


section
variable {lt : Int → Int → Bool}
/-- What stands when x has passed r cells of R. -/
def pasR (pre : List Int) (x : Int) (R post : List Int) (r : Nat) : List Int := pre ++ R.take r ++ x :: (R.drop r ++ post)
end
end Go.Proofs.YtldknaajnnohiaaDoor
end

section
namespace Go.Proofs.YtldknaajnnohiaaDoor
open Go.RowKit


section
end
end Go.Proofs.YtldknaajnnohiaaDoor
end
