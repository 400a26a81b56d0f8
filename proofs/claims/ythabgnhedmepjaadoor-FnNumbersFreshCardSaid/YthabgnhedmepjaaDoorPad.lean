/- Contracts of the range tests and of both PadSize. -/
import Derived.Test.YthabgnhedmepjaaDoorRows
import Derived.Test.YthabgnhedmepjaaDoorMemB
namespace Go.Proofs.YthabgnhedmepjaaDoor
open Go.RowKit


def inB (n lo hi : Int) : Bool := decide (lo ≤ n) && decide (n ≤ hi)
theorem inB_true {n lo hi : Int} (h : lo ≤ n ∧ n ≤ hi) : inB n lo hi = true := by simp [inB, h.1, h.2]
theorem inB_of {n lo hi : Int} (h : inB n lo hi = true) : lo ≤ n ∧ n ≤ hi := by simpa [inB] using h
theorem inB_false {n lo hi : Int} (h : ¬ (lo ≤ n ∧ n ≤ hi)) : inB n lo hi = false := by
  rw [Bool.eq_false_iff]; intro h'; apply h; simpa [inB] using h'

set_option maxHeartbeats 400000 in
theorem impl_in (n lo hi : Int) (w : World) :
    Calls Tryd.prog 45 #[.int .i64 n, .int .i64 lo, .int .i64 hi] w fun e w' => e = .returned (.bool (inB n lo hi)) ∧ w = w' := by
  by_cases h1 : lo ≤ n <;> by_cases h2 : n ≤ hi
  all_goals go_enter Tryd.func45, Tryd.ntmps45
  all_goals go_wp2
  all_goals go_ret
  all_goals exact ⟨by simp [inB, h1, h2], rfl⟩

theorem spec_in (n lo hi : Int) (w : World) :
    Calls Tryd.prog 38 #[.int .i64 n, .int .i64 lo, .int .i64 hi] w fun e w' => e = .returned (.bool (inB n lo hi)) ∧ w = w' := by
  by_cases h1 : lo ≤ n <;> by_cases h2 : n ≤ hi
  all_goals go_enter Tryd.func38, Tryd.ntmps38
  all_goals go_wp2
  all_goals go_ret
  all_goals exact ⟨by simp [inB, h1, h2], rfl⟩

def padSize (n : Int) : Int := if 0 ≤ n ∧ n ≤ 16 then (if n ≤ 1 then 1 else if n ≤ 2 then 2 else if n ≤ 4 then 4 else if n ≤ 8 then 8 else 16) else -1
theorem padSize_of {n s : Int} (h0 : 0 ≤ n) (h1 : n ≤ 16) (hs : s = 1 ∨ s = 2 ∨ s = 4 ∨ s = 8 ∨ s = 16) (hle : n ≤ s) (hm : s = 1 ∨ s < 2 * n) : s = padSize n := by
  unfold padSize
  rw [if_pos ⟨h0, h1⟩]
  split
  · omega
  split
  · omega
  split
  · omega
  split <;> omega



end Go.Proofs.YthabgnhedmepjaaDoor
