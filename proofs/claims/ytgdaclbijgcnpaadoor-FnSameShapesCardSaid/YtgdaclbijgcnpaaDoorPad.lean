/- Contracts of the range tests and of both PadSize. -/
import Derived.Test.YtgdaclbijgcnpaaDoorRows
import Derived.Test.YtgdaclbijgcnpaaDoorMemB
namespace Go.Proofs.YtgdaclbijgcnpaaDoor
open Go.RowKit


def inB (n lo hi : Int) : Bool := decide (lo ≤ n) && decide (n ≤ hi)
theorem inB_true {n lo hi : Int} (h : lo ≤ n ∧ n ≤ hi) : inB n lo hi = true := by simp [inB, h.1, h.2]
theorem inB_of {n lo hi : Int} (h : inB n lo hi = true) : lo ≤ n ∧ n ≤ hi := by simpa [inB] using h
theorem inB_false {n lo hi : Int} (h : ¬ (lo ≤ n ∧ n ≤ hi)) : inB n lo hi = false := by
  rw [Bool.eq_false_iff]; intro h'; apply h; simpa [inB] using h'

set_option maxHeartbeats 400000 in
theorem impl_in (n lo hi : Int) (w : World) :
    Calls Tryd.prog 63 #[.int .i64 n, .int .i64 lo, .int .i64 hi] w fun e w' => e = .returned (.bool (inB n lo hi)) ∧ w = w' := by
  by_cases h1 : lo ≤ n <;> by_cases h2 : n ≤ hi
  all_goals go_enter Tryd.func63, Tryd.ntmps63
  all_goals go_wp2
  all_goals go_ret
  all_goals exact ⟨by simp [inB, h1, h2], rfl⟩

theorem spec_in (n lo hi : Int) (w : World) :
    Calls Tryd.prog 45 #[.int .i64 n, .int .i64 lo, .int .i64 hi] w fun e w' => e = .returned (.bool (inB n lo hi)) ∧ w = w' := by
  by_cases h1 : lo ≤ n <;> by_cases h2 : n ≤ hi
  all_goals go_enter Tryd.func45, Tryd.ntmps45
  all_goals go_wp2
  all_goals go_ret
  all_goals exact ⟨by simp [inB, h1, h2], rfl⟩

def padSize (n : Int) : Int := if 0 ≤ n ∧ n ≤ 16 then (if n ≤ 1 then 1 else if n ≤ 2 then 2 else if n ≤ 4 then 4 else if n ≤ 8 then 8 else 16) else -1
theorem padSize_of {n s : Int} (h0 : 0 ≤ n) (h1 : n ≤ 16) (hs : s = 1 ∨ s = 2 ∨ s = 4 ∨ s = 8 ∨ s = 16) (hle : n ≤ s) (hm : s = 1 ∨ s < 2 * n) : s = padSize n := by
  unfold padSize
  rw [if_pos ⟨h0, h1⟩]
  split
  · omega
  split
  · omega
  split
  · omega
  split <;> omega

set_option maxHeartbeats 400000 in
theorem impl_PadSize (n : Int) (w : World) :
    Calls Tryd.prog 26 #[.int .i64 n] w fun e w' => e = .returned (.int .i64 (padSize n)) ∧ w = w' := by
  by_cases h : 0 ≤ n ∧ n ≤ 16
  · have hin := inB_true h
    obtain ⟨h0, h1⟩ := h
    go_enter Tryd.func26, Tryd.ntmps26
    go_wp2_with (go_at_call 63; refine (impl_in _ _ _ _).mono ?_; rintro e w' ⟨rfl, rfl⟩)
    go_loop [3] (fun s => ∃ k : Int, s = .int .i64 k ∧ (k = 1 ∨ k = 2 ∨ k = 4 ∨ k = 8 ∨ k = 16) ∧ (k = 1 ∨ k < 2 * n)) (fun s => (16 - intOf s).toNat)
    case atStart => exact ⟨1, rfl, .inl rfl, .inl rfl⟩
    case round =>
      obtain ⟨k, rfl, hk, hm⟩ := hrel
      have hk0 : 0 ≤ k := by omega
      have hk1 : k ≤ 16 := by omega
      by_cases hlt : k < n
      · go_wp2
        go_round
        case rel => exact ⟨k * 2, rfl, by omega, by omega⟩
        case measure => simp [intOf]; omega
      · have hs := Go.RowKit.Hid.out (p := k = padSize n) (padSize_of h0 h1 hk (by omega) hm)
        go_wp2
        go_ret
        exact ⟨rfl, rfl⟩
  · have hin := inB_false h
    have hp : padSize n = -1 := by unfold padSize; rw [if_neg h]
    go_enter Tryd.func26, Tryd.ntmps26
    go_wp2_with (go_at_call 63; refine (impl_in _ _ _ _).mono ?_; rintro e w' ⟨rfl, rfl⟩)
    go_ret
    exact ⟨ret_int hp.symm, rfl⟩

set_option maxHeartbeats 400000 in
theorem spec_PadSize (n : Int) (w : World) :
    Calls Tryd.prog 46 #[.int .i64 n] w fun e w' => e = .returned (.int .i64 (padSize n)) ∧ w = w' := by
  by_cases h : 0 ≤ n ∧ n ≤ 16
  · have hin := inB_true h
    obtain ⟨h0, h1⟩ := h
    go_enter Tryd.func46, Tryd.ntmps46
    go_wp2_with (go_at_call 45; refine (spec_in _ _ _ _).mono ?_; rintro e w' ⟨rfl, rfl⟩)
    go_loop [3] (fun s => ∃ k : Int, s = .int .i64 k ∧ (k = 1 ∨ k = 2 ∨ k = 4 ∨ k = 8 ∨ k = 16) ∧ (k = 1 ∨ k < 2 * n)) (fun s => (16 - intOf s).toNat)
    case atStart => exact ⟨1, rfl, .inl rfl, .inl rfl⟩
    case round =>
      obtain ⟨k, rfl, hk, hm⟩ := hrel
      have hk0 : 0 ≤ k := by omega
      have hk1 : k ≤ 16 := by omega
      by_cases hlt : k < n
      · go_wp2
        go_round
        case rel => exact ⟨2 * k, rfl, by omega, by omega⟩
        case measure => simp [intOf]; omega
      · have hs := Go.RowKit.Hid.out (p := k = padSize n) (padSize_of h0 h1 hk (by omega) hm)
        go_wp2
        go_ret
        exact ⟨rfl, rfl⟩
  · have hin := inB_false h
    have hp : padSize n = -1 := by unfold padSize; rw [if_neg h]
    go_enter Tryd.func46, Tryd.ntmps46
    go_wp2_with (go_at_call 45; refine (spec_in _ _ _ _).mono ?_; rintro e w' ⟨rfl, rfl⟩)
    go_ret
    exact ⟨ret_int hp.symm, rfl⟩

end Go.Proofs.YtgdaclbijgcnpaaDoor
