/- Contracts of path and of both PathOf. -/
import Derived.Test.YtnlhiamjndifoaaDoorMem
import Derived.Test.YtnlhiamjndifoaaDoorMem
namespace Go.Proofs.YtnlhiamjndifoaaDoor
open Go.RowKit

def pathF (leaf : Int) : List Int := [0, 1 + leaf / 2, 3 + leaf]
def pathOfF (leaf : Int) : List Int := if 0 ≤ leaf ∧ leaf ≤ 3 then pathF leaf else []
theorem pathF_i64 {leaf : Int} (h0 : 0 ≤ leaf) (h1 : leaf ≤ 3) : ∀ n ∈ pathF leaf, I64 n := by
  intro n hn
  simp only [pathF, List.mem_cons, List.not_mem_nil, or_false] at hn
  unfold I64
  omega

set_option maxHeartbeats 400000 in
theorem impl_isLeaf (leaf : Int) (w : World) :
    Calls Tryd.prog 13 #[.int .i64 leaf] w fun e w' => e = .returned (.bool (inB leaf 0 3)) ∧ w = w' := by
  go_enter Tryd.func13, Tryd.ntmps13
  go_wp2_with (go_at_call 26; refine (impl_in _ _ _ _).mono ?_; rintro e w' ⟨rfl, rfl⟩)
  go_ret
  exact ⟨rfl, rfl⟩

set_option maxHeartbeats 400000 in
theorem impl_path (leaf : Int) (w : World) (h0 : 0 ≤ leaf) (h1 : leaf ≤ 3) :
    Calls Tryd.prog 17 #[.int .i64 leaf] w fun e w' => ∃ v, e = .returned v ∧ Fresh Rep.int.slice w w' [v] (pathF leaf) := by
  go_enter Tryd.func17, Tryd.ntmps17
  go_wp2
  go_ret
  exact ⟨_, rfl, Fresh.lit (all_ints w _ (pathF_i64 h0 h1)) rfl (by decide)⟩























set_option maxHeartbeats 400000 in
theorem spec_PathOf (leaf : Int) (w : World) :
    Calls Tryd.prog 29 #[.int .i64 leaf] w fun e w' => ∃ v, e = .returned v ∧ Fresh Rep.int.slice w w' [v] (pathOfF leaf) := by
  by_cases h : 0 ≤ leaf ∧ leaf ≤ 3
  · have hin := inB_true h
    have hp : pathOfF leaf = pathF leaf := by unfold pathOfF; rw [if_pos h]
    have Hp := Lib.hid hp
    clear hp
    obtain ⟨h0, h1⟩ := h
    go_enter Tryd.func29, Tryd.ntmps29
    go_wp2_with (first | (go_at_call 19; refine (spec_in _ _ _ _).mono ?_; rintro e w' ⟨rfl, rfl⟩))
    go_ret
    exact ⟨_, rfl, by rw [Hp.out]; exact Fresh.lit (all_ints _ _ (pathF_i64 h0 h1)) rfl (by decide)⟩
  · have hin := inB_false h
    have hp : pathOfF leaf = [] := by unfold pathOfF; rw [if_neg h]
    have Hp := Lib.hid hp
    clear hp
    go_enter Tryd.func29, Tryd.ntmps29
    go_wp2_with (first | (go_at_call 19; refine (spec_in _ _ _ _).mono ?_; rintro e w' ⟨rfl, rfl⟩))
    go_ret
    exact ⟨_, rfl, by rw [Hp.out]; exact Fresh.lit (all_ints _ [] (by simp)) rfl (by decide)⟩

end Go.Proofs.YtnlhiamjndifoaaDoor
