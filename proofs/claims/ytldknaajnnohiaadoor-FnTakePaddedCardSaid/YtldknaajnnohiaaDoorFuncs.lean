/- slices.ContainsFunc on ints, with functions of the program's own. -/
import Derived.Test.YtldknaajnnohiaaDoorMem
import Derived.Test.YtldknaajnnohiaaDoorMem
namespace Go.Proofs.YtldknaajnnohiaaDoor
open Go.RowKit

theorem any_take_succ {α : Type} (p : α → Bool) (xs : List α) (k : Nat) (h : k < xs.length) : (xs.take (k + 1)).any p = ((xs.take k).any p || p xs[k]) := by
  rw [List.take_succ_eq_append_getElem h, List.any_append]; simp
theorem any_of_get {α : Type} (p : α → Bool) (xs : List α) (k : Nat) (h : k < xs.length) (hp : p xs[k] = true) : xs.any p = true := List.any_eq_true.2 ⟨_, List.getElem_mem h, hp⟩
theorem any_succ_f {α : Type} {p : α → Bool} {xs : List α} {k : Nat} (h : k < xs.length) (h1 : (xs.take k).any p = false) (h2 : p xs[k] = false) : (xs.take (k + 1)).any p = false := by
  rw [any_take_succ p xs k h, h1, h2]; rfl
def notValue (n : Int) : Bool := !inB n (-100000) 100000
def notZero (n : Int) : Bool := !(n == 0)

theorem impl_isValue (n : Int) (w : World) : Calls Tryd.prog 122 #[.int .i64 n] w fun e w' => e = .returned (.bool (inB n (-100000) 100000)) ∧ w = w' := by
  go_enter Tryd.func122, Tryd.ntmps122
  go_wp2_with (go_at_call 95; refine (impl_in _ _ _ _).mono ?_; rintro e w' ⟨rfl, rfl⟩)
  go_ret
  exact ⟨rfl, rfl⟩

theorem clo_SealRow_1 (n : Int) (w : World) : Calls Tryd.prog 181 #[.int .i64 n] w fun e w' => e = .returned (.bool (notValue n)) ∧ w = w' := by
  go_enter Tryd.func181, Tryd.ntmps181
  go_wp2_with (go_at_call 122; refine (impl_isValue _ _).mono ?_; rintro e w' ⟨rfl, rfl⟩)
  go_ret
  exact ⟨ret_bool rfl, rfl⟩

set_option maxHeartbeats 1000000 in
theorem ixf_SealRow_1 (w : World) (F : List Nat) (v : Value) (xs : List Int) (hx : SliceHas Rep.int w F [v] xs) :
    Calls Tryd.prog 154 #[v, .func (.func 181) #[] #[]] w fun e w' => ∃ r : Int, e = .returned (.int .i64 r) ∧ decide (0 ≤ r) = xs.any notValue ∧ Mod [] w w' := by
  obtain ⟨A, c, rfl, hl, _⟩ := hx.form'
  go_enter Tryd.func154, Tryd.ntmps154
  go_wp2_with fail
  go_loopw [8] (fun i wr => ∃ k : Nat, k ≤ xs.length ∧ i = .int .i64 k ∧ (xs.take k).any notValue = false ∧ Mod [] w wr) (fun i _ => xs.length - (intOf i).toNat)
  case atStart => exact ⟨0, Nat.zero_le _, rfl, rfl, Mod.refl _ _⟩
  case round =>
    obtain ⟨k, hk, rfl, ha, hB⟩ := hrel
    by_cases hlt : k < xs.length
    · have hx' : SliceHas Rep.int wr F [.slice A xs.length c] xs := Rep.slice Rep.int |>.mod0 hx hB
      obtain ⟨ad, rfl, h0, hi⟩ := hx'.int_at hlt
      have Ha := Lib.hid ha
      clear ha
      cases hp : notValue xs[k]
      · have H := Lib.hid (any_succ_f hlt Ha.out hp)
        go_wp2_with (go_at_call 181; refine (clo_SealRow_1 _ _).mono ?_; rintro e w1 ⟨rfl, rfl⟩)
        go_roundw
        case rel => exact ⟨k + 1, hlt, by go_num, H.out, hB⟩
        case measure => simp [intOf]; omega
      · have Hg := Lib.hid (any_of_get notValue xs k hlt hp)
        go_wp2_with (go_at_call 181; refine (clo_SealRow_1 _ _).mono ?_; rintro e w1 ⟨rfl, rfl⟩)
        go_ret
        exact ⟨_, rfl, by rw [Hg.out]; simp, hB⟩
    · have Ha : Hid (xs.any notValue = false) := by
        rw [List.take_of_length_le (by omega)] at ha
        exact ha
      clear ha
      go_wp2_with fail
      go_ret
      exact ⟨_, rfl, by rw [Ha.out]; rfl, hB⟩

set_option maxHeartbeats 1000000 in
theorem cf_SealRow_1 (w : World) (F : List Nat) (v : Value) (xs : List Int) (hx : SliceHas Rep.int w F [v] xs) :
    Calls Tryd.prog 78 #[v, .func (.func 181) #[] #[]] w fun e w' => e = .returned (.bool (xs.any notValue)) ∧ Mod [] w w' := by
  go_enter Tryd.func78, Tryd.ntmps78
  go_wp2_with (go_at_call 154; refine (ixf_SealRow_1 _ F _ xs hx).mono ?_; rintro e w1 ⟨r, rfl, hr, hm⟩)
  go_ret
  exact ⟨rfl, hm⟩

theorem clo_rowsFit_1 (n : Int) (w : World) : Calls Tryd.prog 153 #[.int .i64 n] w fun e w' => e = .returned (.bool (notValue n)) ∧ w = w' := by
  go_enter Tryd.func153, Tryd.ntmps153
  go_wp2_with (go_at_call 122; refine (impl_isValue _ _).mono ?_; rintro e w' ⟨rfl, rfl⟩)
  go_ret
  exact ⟨ret_bool rfl, rfl⟩

set_option maxHeartbeats 1000000 in
theorem ixf_rowsFit_1 (w : World) (F : List Nat) (v : Value) (xs : List Int) (hx : SliceHas Rep.int w F [v] xs) :
    Calls Tryd.prog 154 #[v, .func (.func 153) #[] #[]] w fun e w' => ∃ r : Int, e = .returned (.int .i64 r) ∧ decide (0 ≤ r) = xs.any notValue ∧ Mod [] w w' := by
  obtain ⟨A, c, rfl, hl, _⟩ := hx.form'
  go_enter Tryd.func154, Tryd.ntmps154
  go_wp2_with fail
  go_loopw [8] (fun i wr => ∃ k : Nat, k ≤ xs.length ∧ i = .int .i64 k ∧ (xs.take k).any notValue = false ∧ Mod [] w wr) (fun i _ => xs.length - (intOf i).toNat)
  case atStart => exact ⟨0, Nat.zero_le _, rfl, rfl, Mod.refl _ _⟩
  case round =>
    obtain ⟨k, hk, rfl, ha, hB⟩ := hrel
    by_cases hlt : k < xs.length
    · have hx' : SliceHas Rep.int wr F [.slice A xs.length c] xs := Rep.slice Rep.int |>.mod0 hx hB
      obtain ⟨ad, rfl, h0, hi⟩ := hx'.int_at hlt
      have Ha := Lib.hid ha
      clear ha
      cases hp : notValue xs[k]
      · have H := Lib.hid (any_succ_f hlt Ha.out hp)
        go_wp2_with (go_at_call 153; refine (clo_rowsFit_1 _ _).mono ?_; rintro e w1 ⟨rfl, rfl⟩)
        go_roundw
        case rel => exact ⟨k + 1, hlt, by go_num, H.out, hB⟩
        case measure => simp [intOf]; omega
      · have Hg := Lib.hid (any_of_get notValue xs k hlt hp)
        go_wp2_with (go_at_call 153; refine (clo_rowsFit_1 _ _).mono ?_; rintro e w1 ⟨rfl, rfl⟩)
        go_ret
        exact ⟨_, rfl, by rw [Hg.out]; simp, hB⟩
    · have Ha : Hid (xs.any notValue = false) := by
        rw [List.take_of_length_le (by omega)] at ha
        exact ha
      clear ha
      go_wp2_with fail
      go_ret
      exact ⟨_, rfl, by rw [Ha.out]; rfl, hB⟩

set_option maxHeartbeats 1000000 in
theorem cf_rowsFit_1 (w : World) (F : List Nat) (v : Value) (xs : List Int) (hx : SliceHas Rep.int w F [v] xs) :
    Calls Tryd.prog 78 #[v, .func (.func 153) #[] #[]] w fun e w' => e = .returned (.bool (xs.any notValue)) ∧ Mod [] w w' := by
  go_enter Tryd.func78, Tryd.ntmps78
  go_wp2_with (go_at_call 154; refine (ixf_rowsFit_1 _ F _ xs hx).mono ?_; rintro e w1 ⟨r, rfl, hr, hm⟩)
  go_ret
  exact ⟨rfl, hm⟩

theorem clo_PaddedValid_1 (n : Int) (w : World) : Calls Tryd.prog 79 #[.int .i64 n] w fun e w' => e = .returned (.bool (notZero n)) ∧ w = w' := by
  go_enter Tryd.func79, Tryd.ntmps79
  go_wp2_with (go_at_call 122; refine (impl_isValue _ _).mono ?_; rintro e w' ⟨rfl, rfl⟩)
  go_ret
  exact ⟨ret_bool rfl, rfl⟩

set_option maxHeartbeats 1000000 in
theorem ixf_PaddedValid_1 (w : World) (F : List Nat) (v : Value) (xs : List Int) (hx : SliceHas Rep.int w F [v] xs) :
    Calls Tryd.prog 154 #[v, .func (.func 79) #[] #[]] w fun e w' => ∃ r : Int, e = .returned (.int .i64 r) ∧ decide (0 ≤ r) = xs.any notZero ∧ Mod [] w w' := by
  obtain ⟨A, c, rfl, hl, _⟩ := hx.form'
  go_enter Tryd.func154, Tryd.ntmps154
  go_wp2_with fail
  go_loopw [8] (fun i wr => ∃ k : Nat, k ≤ xs.length ∧ i = .int .i64 k ∧ (xs.take k).any notZero = false ∧ Mod [] w wr) (fun i _ => xs.length - (intOf i).toNat)
  case atStart => exact ⟨0, Nat.zero_le _, rfl, rfl, Mod.refl _ _⟩
  case round =>
    obtain ⟨k, hk, rfl, ha, hB⟩ := hrel
    by_cases hlt : k < xs.length
    · have hx' : SliceHas Rep.int wr F [.slice A xs.length c] xs := Rep.slice Rep.int |>.mod0 hx hB
      obtain ⟨ad, rfl, h0, hi⟩ := hx'.int_at hlt
      have Ha := Lib.hid ha
      clear ha
      cases hp : notZero xs[k]
      · have H := Lib.hid (any_succ_f hlt Ha.out hp)
        go_wp2_with (go_at_call 79; refine (clo_PaddedValid_1 _ _).mono ?_; rintro e w1 ⟨rfl, rfl⟩)
        go_roundw
        case rel => exact ⟨k + 1, hlt, by go_num, H.out, hB⟩
        case measure => simp [intOf]; omega
      · have Hg := Lib.hid (any_of_get notZero xs k hlt hp)
        go_wp2_with (go_at_call 79; refine (clo_PaddedValid_1 _ _).mono ?_; rintro e w1 ⟨rfl, rfl⟩)
        go_ret
        exact ⟨_, rfl, by rw [Hg.out]; simp, hB⟩
    · have Ha : Hid (xs.any notZero = false) := by
        rw [List.take_of_length_le (by omega)] at ha
        exact ha
      clear ha
      go_wp2_with fail
      go_ret
      exact ⟨_, rfl, by rw [Ha.out]; rfl, hB⟩

set_option maxHeartbeats 1000000 in
theorem cf_PaddedValid_1 (w : World) (F : List Nat) (v : Value) (xs : List Int) (hx : SliceHas Rep.int w F [v] xs) :
    Calls Tryd.prog 78 #[v, .func (.func 79) #[] #[]] w fun e w' => e = .returned (.bool (xs.any notZero)) ∧ Mod [] w w' := by
  go_enter Tryd.func78, Tryd.ntmps78
  go_wp2_with (go_at_call 154; refine (ixf_PaddedValid_1 _ F _ xs hx).mono ?_; rintro e w1 ⟨r, rfl, hr, hm⟩)
  go_ret
  exact ⟨rfl, hm⟩

end Go.Proofs.YtldknaajnnohiaaDoor
