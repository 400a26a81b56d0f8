/- Contracts of the streams. -/
import Derived.Test.YtldknaajnnohiaaDoorMem
namespace Go.Proofs.YtldknaajnnohiaaDoor
open Go.RowKit

def mix0 (key number at_ : Int) : Int := (7 * key + 13 * number + 29 * at_ + 11) % 2147483647
def mixTo (key number at_ : Int) : Nat → Int
  | 0 => mix0 key number at_
  | n + 1 => (48271 * mixTo key number at_ n + key + number + (n : Int)) % 2147483647
theorem mixTo_bd (key number at_ : Int) (n : Nat) : 0 ≤ mixTo key number at_ n ∧ mixTo key number at_ n ≤ 2147483646 := by
  cases n <;> simp only [mixTo, mix0] <;> omega
def mixF (key number at_ : Int) : Int := mixTo key number at_ 3
def streamF (key number at_ : Int) : Int := mixF key number at_ % 200003
theorem streamF_bd (key number at_ : Int) : 0 ≤ streamF key number at_ ∧ streamF key number at_ ≤ 200002 := by unfold streamF; omega
theorem val_int {a b : Int} (h : a = b) : Value.int .i64 a = .int .i64 b := by rw [h]

set_option maxHeartbeats 400000 in
theorem impl_stream (key number at_ : Int) (w : World) (k0 : 0 ≤ key) (k1 : key ≤ 1000000) (n0 : 0 ≤ number) (n1 : number ≤ 1000000000) (a0 : 0 ≤ at_) (a1 : at_ ≤ 99) :
    Calls Tryd.prog 144 #[.int .i64 key, .int .i64 number, .int .i64 at_] w fun e w' => e = .returned (.int .i64 (streamF key number at_)) ∧ w = w' := by
  go_enter Tryd.func144, Tryd.ntmps144
  go_wp2
  go_loop [7, 19] (fun x i => ∃ j : Nat, j ≤ 3 ∧ i = .int .i64 j ∧ x = .int .i64 (mixTo key number at_ j)) (fun _ i => 3 - (intOf i).toNat)
  case atStart => exact ⟨0, by omega, rfl, val_int (by simp only [mixTo, mix0])⟩
  case round =>
    obtain ⟨j, hj, rfl, rfl⟩ := hrel
    have hb := mixTo_bd key number at_ j
    obtain ⟨b0, b1⟩ := hb
    by_cases hlt : j < 3
    · go_wp2
      go_round
      case rel => exact ⟨j + 1, hlt, by go_num, val_int (by simp only [mixTo])⟩
      case measure => simp [intOf]; omega
    · obtain rfl : j = 3 := by omega
      go_wp2
      go_ret
      exact ⟨rfl, rfl⟩

set_option maxHeartbeats 400000 in
theorem spec_l20Mix (key number at_ : Int) (w : World) (k0 : 0 ≤ key) (k1 : key ≤ 1000000) (n0 : 0 ≤ number) (n1 : number ≤ 1000000000) (a0 : 0 ≤ at_) (a1 : at_ ≤ 99) :
    Calls Tryd.prog 182 #[.int .i64 key, .int .i64 number, .int .i64 at_] w fun e w' => e = .returned (.int .i64 (mixF key number at_)) ∧ w = w' := by
  go_enter Tryd.func182, Tryd.ntmps182
  go_wp2
  go_loop [7, 8] (fun x i => ∃ j : Nat, j ≤ 3 ∧ i = .int .i64 j ∧ x = .int .i64 (mixTo key number at_ j)) (fun _ i => 3 - (intOf i).toNat)
  case atStart => exact ⟨0, by omega, rfl, val_int (by simp only [mixTo, mix0]; rw [Int.mul_comm key, Int.mul_comm number, Int.mul_comm at_])⟩
  case round =>
    obtain ⟨j, hj, rfl, rfl⟩ := hrel
    have hb := mixTo_bd key number at_ j
    obtain ⟨b0, b1⟩ := hb
    by_cases hlt : j < 3
    · go_wp2
      go_round
      case rel => exact ⟨j + 1, hlt, by go_num, val_int (by simp only [mixTo]; rw [Int.mul_comm 48271])⟩
      case measure => simp [intOf]; omega
    · obtain rfl : j = 3 := by omega
      go_wp2
      go_ret
      exact ⟨rfl, rfl⟩

set_option maxHeartbeats 400000 in
theorem impl_isKey (n : Int) (w : World) : Calls Tryd.prog 143 #[.int .i64 n] w fun e w' => e = .returned (.bool (inB n 0 1000000)) ∧ w = w' := by
  go_enter Tryd.func143, Tryd.ntmps143
  go_wp2_with (go_at_call 95; refine (impl_in _ _ _ _).mono ?_; rintro e w' ⟨rfl, rfl⟩)
  go_ret
  exact ⟨rfl, rfl⟩

set_option maxHeartbeats 400000 in
theorem impl_isNumber (n : Int) (w : World) : Calls Tryd.prog 80 #[.int .i64 n] w fun e w' => e = .returned (.bool (inB n 0 1000000000)) ∧ w = w' := by
  go_enter Tryd.func80, Tryd.ntmps80
  go_wp2_with (go_at_call 95; refine (impl_in _ _ _ _).mono ?_; rintro e w' ⟨rfl, rfl⟩)
  go_ret
  exact ⟨rfl, rfl⟩

def streamAtF (key number at_ : Int) : Int := if inB key 0 1000000 && inB number 0 1000000000 && inB at_ 0 7 then streamF key number at_ else -1


































set_option maxHeartbeats 400000 in
theorem spec_StreamAt (key number at_ : Int) (w : World) :
    Calls Tryd.prog 149 #[.int .i64 key, .int .i64 number, .int .i64 at_] w fun e w' => e = .returned (.int .i64 (streamAtF key number at_)) ∧ w = w' := by
  have no : (inB key 0 1000000 && inB number 0 1000000000 && inB at_ 0 7) = false → streamAtF key number at_ = -1 := fun h => by unfold streamAtF; rw [h]; rfl
  have No := Lib.hid no
  clear no
  cases hk : inB key 0 1000000
  · go_enter Tryd.func149, Tryd.ntmps149
    go_wp2_with (first | (go_at_call 82; refine (spec_in _ _ _ _).mono ?_; rintro e w' ⟨rfl, rfl⟩))
    go_ret
    exact ⟨ret_int (No.out (by rw [hk]; rfl)).symm, rfl⟩
  cases hn : inB number 0 1000000000
  · go_enter Tryd.func149, Tryd.ntmps149
    go_wp2_with (first | (go_at_call 82; refine (spec_in _ _ _ _).mono ?_; rintro e w' ⟨rfl, rfl⟩))
    go_ret
    exact ⟨ret_int (No.out (by rw [hk, hn]; rfl)).symm, rfl⟩
  cases ha : inB at_ 0 7
  · go_enter Tryd.func149, Tryd.ntmps149
    go_wp2_with (first | (go_at_call 82; refine (spec_in _ _ _ _).mono ?_; rintro e w' ⟨rfl, rfl⟩))
    go_ret
    exact ⟨ret_int (No.out (by rw [hk, hn, ha]; rfl)).symm, rfl⟩
  have yes : streamAtF key number at_ = streamF key number at_ := by unfold streamAtF; rw [hk, hn, ha]; rfl
  have Yes := Lib.hid yes
  clear yes
  obtain ⟨k0, k1⟩ := inB_of hk
  obtain ⟨n0, n1⟩ := inB_of hn
  obtain ⟨a0, a1⟩ := inB_of ha
  obtain ⟨b0, b1⟩ : 0 ≤ mixF key number at_ ∧ mixF key number at_ ≤ 2147483646 := mixTo_bd key number at_ 3
  go_enter Tryd.func149, Tryd.ntmps149
  go_wp2_with (first | (go_at_call 82; refine (spec_in _ _ _ _).mono ?_; rintro e w' ⟨rfl, rfl⟩) | (go_at_call 182; refine (spec_l20Mix _ _ _ _ k0 k1 n0 n1 a0 (by omega)).mono ?_; rintro e w' ⟨rfl, rfl⟩))
  go_ret
  exact ⟨ret_int Yes.out.symm, rfl⟩

end Go.Proofs.YtldknaajnnohiaaDoor
