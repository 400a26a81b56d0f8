/- Contracts of eq.. for slices of plain values and for structs of plain values. -/
import Derived.Test.YtbdoffhhpapcmaaDoorShapes
import Derived.Test.YtbdoffhhpapcmaaDoorRows
namespace Go.Proofs.YtbdoffhhpapcmaaDoor
open Go.RowKit
attribute [local go_sem] ext_cell

set_option maxHeartbeats 1000000 in
theorem eqIntS_any (w : World) (F G : List Nat) (u v : Value) (xs ys : List Int) (hx : SliceHas Rep.int w F [u] xs) (hy : SliceHas Rep.int w G [v] ys) :
    Calls Tryd.prog 95 #[u, v] w fun e w' => e = .returned (.bool (eqB xs ys)) ∧ Mod [] w w' := by
  obtain ⟨A, c, rfl, hn, _⟩ := hx.form'
  obtain ⟨B, d, rfl, hm, _⟩ := hy.form'
  by_cases hnm : xs.length = ys.length
  · have Hnm := Lib.hid hnm
    have t1 : decide ((xs.length : Int) = (ys.length : Int)) = true := by rw [hnm]; simp
    have t0 : (((xs.length : Int) != (ys.length : Int))) = false := by rw [hnm]; simp
    clear hnm
    go_enter Tryd.func95, Tryd.ntmps95
    go_wp2
    go_loopw [5] (fun i wr => ∃ k : Nat, k ≤ xs.length ∧ i = .int .i64 k ∧ xs.take k = ys.take k ∧ Mod [] w wr) (fun i _ => xs.length - (intOf i).toNat)
    case atStart => exact ⟨0, Nat.zero_le _, rfl, rfl, Mod.refl _ _⟩
    case round =>
      obtain ⟨k, hk, rfl, htk, hB⟩ := hrel
      have Htk := Lib.hid htk
      clear htk
      by_cases hlt : k < xs.length
      · have hlt2 : k < ys.length := by rw [← Hnm.out]; exact hlt
        have hx' : SliceHas Rep.int wr F [.slice A xs.length c] xs := Rep.slice Rep.int |>.mod0 hx hB
        have hy' : SliceHas Rep.int wr G [.slice B ys.length d] ys := Rep.slice Rep.int |>.mod0 hy hB
        obtain ⟨ad, rfl, a0, _⟩ := hx'.int_at hlt
        obtain ⟨bd, rfl, b0, _⟩ := hy'.int_at hlt2
        by_cases heq : xs[k] = ys[k]
        · have t2 : (xs[k] != ys[k]) = false := by rw [heq]; simp
          have Heq := Lib.hid heq
          clear heq
          go_wp2
          refine wp_region_ext (by kernel_rfl) (by kernel_rfl) ?_
          repeat (go_big_quiet_step (fail))
          refine wpQuiet_nil ?_
          rintro _ ⟨wx, rfl⟩
          have hmx := ext_mod wr wx
          generalize ext wr wx = w1 at *
          go_wp2
          go_roundw
          case rel => exact ⟨k + 1, hlt, by go_num, take_eq_succ Htk.out hlt hlt2 Heq.out, hB.seq hmx⟩
          case measure => simp [intOf]; omega
        · have t2 : (xs[k] != ys[k]) = true := by simpa using heq
          go_wp2
          refine wp_region_ext (by kernel_rfl) (by kernel_rfl) ?_
          repeat (go_big_quiet_step (fail))
          refine wpQuiet_nil ?_
          rintro _ ⟨wx, rfl⟩
          have hmx := ext_mod wr wx
          generalize ext wr wx = w1 at *
          go_wp2
          go_ret
          exact ⟨ret_false (eqB_f (ne_of_getElem hlt hlt2 heq)), hB.seq hmx⟩
      · go_wp2
        go_ret
        exact ⟨ret_true (eqB_t (eq_of_take Htk.out (by omega) (by rw [← Hnm.out]; omega))), hB⟩
  · have t0 : (((xs.length : Int) != (ys.length : Int))) = true := by simp; omega
    go_enter Tryd.func95, Tryd.ntmps95
    go_wp2
    go_ret
    exact ⟨ret_false (eqB_f (ne_of_len hnm)), Mod.refl _ _⟩

set_option maxHeartbeats 1000000 in
theorem eqStringS_any (w : World) (F G : List Nat) (u v : Value) (xs ys : List ByteArray) (hx : SliceHas Rep.str w F [u] xs) (hy : SliceHas Rep.str w G [v] ys) :
    Calls Tryd.prog 35 #[u, v] w fun e w' => e = .returned (.bool (eqB xs ys)) ∧ Mod [] w w' := by
  obtain ⟨A, c, rfl, hn, _⟩ := hx.form'
  obtain ⟨B, d, rfl, hm, _⟩ := hy.form'
  by_cases hnm : xs.length = ys.length
  · have Hnm := Lib.hid hnm
    have t1 : decide ((xs.length : Int) = (ys.length : Int)) = true := by rw [hnm]; simp
    have t0 : (((xs.length : Int) != (ys.length : Int))) = false := by rw [hnm]; simp
    clear hnm
    go_enter Tryd.func35, Tryd.ntmps35
    go_wp2
    go_loopw [5] (fun i wr => ∃ k : Nat, k ≤ xs.length ∧ i = .int .i64 k ∧ xs.take k = ys.take k ∧ Mod [] w wr) (fun i _ => xs.length - (intOf i).toNat)
    case atStart => exact ⟨0, Nat.zero_le _, rfl, rfl, Mod.refl _ _⟩
    case round =>
      obtain ⟨k, hk, rfl, htk, hB⟩ := hrel
      have Htk := Lib.hid htk
      clear htk
      by_cases hlt : k < xs.length
      · have hlt2 : k < ys.length := by rw [← Hnm.out]; exact hlt
        have hx' : SliceHas Rep.str wr F [.slice A xs.length c] xs := Rep.slice Rep.str |>.mod0 hx hB
        have hy' : SliceHas Rep.str wr G [.slice B ys.length d] ys := Rep.slice Rep.str |>.mod0 hy hB
        obtain ⟨ad, rfl, a0, _⟩ := hx'.str_at hlt
        obtain ⟨bd, rfl, b0, _⟩ := hy'.str_at hlt2
        by_cases heq : xs[k] = ys[k]
        · have t2 := toList_t heq
          have Heq := Lib.hid heq
          clear heq
          go_wp2
          refine wp_region_ext (by kernel_rfl) (by kernel_rfl) ?_
          repeat (go_big_quiet_step (fail))
          refine wpQuiet_nil ?_
          rintro _ ⟨wx, rfl⟩
          have hmx := ext_mod wr wx
          generalize ext wr wx = w1 at *
          go_wp2
          go_roundw
          case rel => exact ⟨k + 1, hlt, by go_num, take_eq_succ Htk.out hlt hlt2 Heq.out, hB.seq hmx⟩
          case measure => simp [intOf]; omega
        · have t2 := toList_f heq
          go_wp2
          refine wp_region_ext (by kernel_rfl) (by kernel_rfl) ?_
          repeat (go_big_quiet_step (fail))
          refine wpQuiet_nil ?_
          rintro _ ⟨wx, rfl⟩
          have hmx := ext_mod wr wx
          generalize ext wr wx = w1 at *
          go_wp2
          go_ret
          exact ⟨ret_false (eqB_f (ne_of_getElem hlt hlt2 heq)), hB.seq hmx⟩
      · go_wp2
        go_ret
        exact ⟨ret_true (eqB_t (eq_of_take Htk.out (by omega) (by rw [← Hnm.out]; omega))), hB⟩
  · have t0 : (((xs.length : Int) != (ys.length : Int))) = true := by simp; omega
    go_enter Tryd.func35, Tryd.ntmps35
    go_wp2
    go_ret
    exact ⟨ret_false (eqB_f (ne_of_len hnm)), Mod.refl _ _⟩

set_option maxHeartbeats 1000000 in
theorem eqBoolS_any (w : World) (F G : List Nat) (u v : Value) (xs ys : List Bool) (hx : SliceHas Rep.bool w F [u] xs) (hy : SliceHas Rep.bool w G [v] ys) :
    Calls Tryd.prog 62 #[u, v] w fun e w' => e = .returned (.bool (eqB xs ys)) ∧ Mod [] w w' := by
  obtain ⟨A, c, rfl, hn, _⟩ := hx.form'
  obtain ⟨B, d, rfl, hm, _⟩ := hy.form'
  by_cases hnm : xs.length = ys.length
  · have Hnm := Lib.hid hnm
    have t1 : decide ((xs.length : Int) = (ys.length : Int)) = true := by rw [hnm]; simp
    have t0 : (((xs.length : Int) != (ys.length : Int))) = false := by rw [hnm]; simp
    clear hnm
    go_enter Tryd.func62, Tryd.ntmps62
    go_wp2
    go_loopw [5] (fun i wr => ∃ k : Nat, k ≤ xs.length ∧ i = .int .i64 k ∧ xs.take k = ys.take k ∧ Mod [] w wr) (fun i _ => xs.length - (intOf i).toNat)
    case atStart => exact ⟨0, Nat.zero_le _, rfl, rfl, Mod.refl _ _⟩
    case round =>
      obtain ⟨k, hk, rfl, htk, hB⟩ := hrel
      have Htk := Lib.hid htk
      clear htk
      by_cases hlt : k < xs.length
      · have hlt2 : k < ys.length := by rw [← Hnm.out]; exact hlt
        have hx' : SliceHas Rep.bool wr F [.slice A xs.length c] xs := Rep.slice Rep.bool |>.mod0 hx hB
        have hy' : SliceHas Rep.bool wr G [.slice B ys.length d] ys := Rep.slice Rep.bool |>.mod0 hy hB
        obtain ⟨ad, rfl, a0⟩ := hx'.bool_at hlt
        obtain ⟨bd, rfl, b0⟩ := hy'.bool_at hlt2
        by_cases heq : xs[k] = ys[k]
        · have t2 : (xs[k] == ys[k]) = true := by rw [heq]; simp
          have Heq := Lib.hid heq
          clear heq
          go_wp2
          refine wp_region_ext (by kernel_rfl) (by kernel_rfl) ?_
          repeat (go_big_quiet_step (fail))
          refine wpQuiet_nil ?_
          rintro _ ⟨wx, rfl⟩
          have hmx := ext_mod wr wx
          generalize ext wr wx = w1 at *
          go_wp2
          go_roundw
          case rel => exact ⟨k + 1, hlt, by go_num, take_eq_succ Htk.out hlt hlt2 Heq.out, hB.seq hmx⟩
          case measure => simp [intOf]; omega
        · have t2 : (xs[k] == ys[k]) = false := by simpa using heq
          go_wp2
          refine wp_region_ext (by kernel_rfl) (by kernel_rfl) ?_
          repeat (go_big_quiet_step (fail))
          refine wpQuiet_nil ?_
          rintro _ ⟨wx, rfl⟩
          have hmx := ext_mod wr wx
          generalize ext wr wx = w1 at *
          go_wp2
          go_ret
          exact ⟨ret_false (eqB_f (ne_of_getElem hlt hlt2 heq)), hB.seq hmx⟩
      · go_wp2
        go_ret
        exact ⟨ret_true (eqB_t (eq_of_take Htk.out (by omega) (by rw [← Hnm.out]; omega))), hB⟩
  · have t0 : (((xs.length : Int) != (ys.length : Int))) = true := by simp; omega
    go_enter Tryd.func62, Tryd.ntmps62
    go_wp2
    go_ret
    exact ⟨ret_false (eqB_f (ne_of_len hnm)), Mod.refl _ _⟩

set_option maxHeartbeats 1000000 in
theorem eqIntSS_any (w : World) (F G : List Nat) (u v : Value) (xs ys : List (List Int)) (hx : SliceHas (Rep.int.slice) w F [u] xs) (hy : SliceHas (Rep.int.slice) w G [v] ys) :
    Calls Tryd.prog 61 #[u, v] w fun e w' => e = .returned (.bool (eqB xs ys)) ∧ Mod [] w w' := by
  obtain ⟨A, c, rfl, hn, _⟩ := hx.form'
  obtain ⟨B, d, rfl, hm, _⟩ := hy.form'
  by_cases hnm : xs.length = ys.length
  · have Hnm := Lib.hid hnm
    have t1 : decide ((xs.length : Int) = (ys.length : Int)) = true := by rw [hnm]; simp
    have t0 : (((xs.length : Int) != (ys.length : Int))) = false := by rw [hnm]; simp
    clear hnm
    go_enter Tryd.func61, Tryd.ntmps61
    go_wp2
    go_loopw [5] (fun i wr => ∃ k : Nat, k ≤ xs.length ∧ i = .int .i64 k ∧ xs.take k = ys.take k ∧ Mod [] w wr) (fun i _ => xs.length - (intOf i).toNat)
    case atStart => exact ⟨0, Nat.zero_le _, rfl, rfl, Mod.refl _ _⟩
    case round =>
      obtain ⟨k, hk, rfl, htk, hB⟩ := hrel
      have Htk := Lib.hid htk
      clear htk
      by_cases hlt : k < xs.length
      · have hlt2 : k < ys.length := by rw [← Hnm.out]; exact hlt
        have hx' : SliceHas (Rep.int.slice) wr F [.slice A xs.length c] xs := Rep.slice (Rep.int.slice) |>.mod0 hx hB
        have hy' : SliceHas (Rep.int.slice) wr G [.slice B ys.length d] ys := Rep.slice (Rep.int.slice) |>.mod0 hy hB
        obtain ⟨ad, u, Fk, rfl, a0, hxk, _⟩ := hx'.slice_at hlt
        obtain ⟨bd, v, Gk, rfl, b0, hyk, _⟩ := hy'.slice_at hlt2
        by_cases heq : xs[k] = ys[k]
        · have t2 : eqB xs[k] ys[k] = true := eqB_t heq
          have Heq := Lib.hid heq
          clear heq
          go_wp2
          refine wp_region_ext (by kernel_rfl) (by kernel_rfl) ?_
          repeat (go_big_quiet_step ((go_at_call 95; exact quiet_ext (eqIntS_any _ _ _ _ _ _ _ ((Rep.int.slice).extd hxk _) ((Rep.int.slice).extd hyk _)))))
          refine wpQuiet_nil ?_
          rintro _ ⟨wx, rfl⟩
          have hmx := ext_mod wr wx
          generalize ext wr wx = w1 at *
          go_wp2
          go_roundw
          case rel => exact ⟨k + 1, hlt, by go_num, take_eq_succ Htk.out hlt hlt2 Heq.out, hB.seq hmx⟩
          case measure => simp [intOf]; omega
        · have t2 : eqB xs[k] ys[k] = false := eqB_f heq
          go_wp2
          refine wp_region_ext (by kernel_rfl) (by kernel_rfl) ?_
          repeat (go_big_quiet_step ((go_at_call 95; exact quiet_ext (eqIntS_any _ _ _ _ _ _ _ ((Rep.int.slice).extd hxk _) ((Rep.int.slice).extd hyk _)))))
          refine wpQuiet_nil ?_
          rintro _ ⟨wx, rfl⟩
          have hmx := ext_mod wr wx
          generalize ext wr wx = w1 at *
          go_wp2
          go_ret
          exact ⟨ret_false (eqB_f (ne_of_getElem hlt hlt2 heq)), hB.seq hmx⟩
      · go_wp2
        go_ret
        exact ⟨ret_true (eqB_t (eq_of_take Htk.out (by omega) (by rw [← Hnm.out]; omega))), hB⟩
  · have t0 : (((xs.length : Int) != (ys.length : Int))) = true := by simp; omega
    go_enter Tryd.func61, Tryd.ntmps61
    go_wp2
    go_ret
    exact ⟨ret_false (eqB_f (ne_of_len hnm)), Mod.refl _ _⟩














end Go.Proofs.YtbdoffhhpapcmaaDoor
