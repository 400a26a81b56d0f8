/- Contracts of eq.. for slices of plain values and for structs of plain values. -/
import Derived.Test.YtldknaajnnohiaaDoorShapes
import Derived.Test.YtldknaajnnohiaaDoorRows
import Derived.Test.YtldknaajnnohiaaDoorSatT
import Derived.Test.YtldknaajnnohiaaDoorFind
import Derived.Test.YtldknaajnnohiaaDoorTys
section
namespace Go.Proofs.YtldknaajnnohiaaDoor
open Go.RowKit
attribute [local go_sem] ext_cell

set_option maxHeartbeats 1000000 in
theorem eqIntS_any (w : World) (F G : List Nat) (u v : Value) (xs ys : List Int) (hx : SliceHas Rep.int w F [u] xs) (hy : SliceHas Rep.int w G [v] ys) :
    Calls Tryd.prog 168 #[u, v] w fun e w' => e = .returned (.bool (eqB xs ys)) ∧ Mod [] w w' := by
  obtain ⟨A, c, rfl, hn, _⟩ := hx.form'
  obtain ⟨B, d, rfl, hm, _⟩ := hy.form'
  by_cases hnm : xs.length = ys.length
  · have Hnm := Lib.hid hnm
    have t1 : decide ((xs.length : Int) = (ys.length : Int)) = true := by rw [hnm]; simp
    have t0 : (((xs.length : Int) != (ys.length : Int))) = false := by rw [hnm]; simp
    clear hnm
    go_enter Tryd.func168, Tryd.ntmps168
    go_wp2
    go_loopw [5] (fun i wr => ∃ k : Nat, k ≤ xs.length ∧ i = .int .i64 k ∧ xs.take k = ys.take k ∧ Mod [] w wr) (fun i _ => xs.length - (intOf i).toNat)
    case atStart => exact ⟨0, Nat.zero_le _, rfl, rfl, Mod.refl _ _⟩
    case round =>
      obtain ⟨k, hk, rfl, htk, hB⟩ := hrel
      have Htk := Lib.hid htk
      clear htk
      by_cases hlt : k < xs.length
      · have hlt2 : k < ys.length := by rw [← Hnm.out]; exact hlt
        have hx' : SliceHas Rep.int wr F [.slice A xs.length c] xs := Rep.slice Rep.int |>.mod0 hx hB
        have hy' : SliceHas Rep.int wr G [.slice B ys.length d] ys := Rep.slice Rep.int |>.mod0 hy hB
        obtain ⟨ad, rfl, a0, _⟩ := hx'.int_at hlt
        obtain ⟨bd, rfl, b0, _⟩ := hy'.int_at hlt2
        by_cases heq : xs[k] = ys[k]
        · have t2 : (xs[k] != ys[k]) = false := by rw [heq]; simp
          have Heq := Lib.hid heq
          clear heq
          go_wp2
          refine wp_region_ext (by kernel_rfl) (by kernel_rfl) ?_
          repeat (go_big_quiet_step (fail))
          refine wpQuiet_nil ?_
          rintro _ ⟨wx, rfl⟩
          have hmx := ext_mod wr wx
          generalize ext wr wx = w1 at *
          go_wp2
          go_roundw
          case rel => exact ⟨k + 1, hlt, by go_num, take_eq_succ Htk.out hlt hlt2 Heq.out, hB.seq hmx⟩
          case measure => simp [intOf]; omega
        · have t2 : (xs[k] != ys[k]) = true := by simpa using heq
          go_wp2
          refine wp_region_ext (by kernel_rfl) (by kernel_rfl) ?_
          repeat (go_big_quiet_step (fail))
          refine wpQuiet_nil ?_
          rintro _ ⟨wx, rfl⟩
          have hmx := ext_mod wr wx
          generalize ext wr wx = w1 at *
          go_wp2
          go_ret
          exact ⟨ret_false (eqB_f (ne_of_getElem hlt hlt2 heq)), hB.seq hmx⟩
      · go_wp2
        go_ret
        exact ⟨ret_true (eqB_t (eq_of_take Htk.out (by omega) (by rw [← Hnm.out]; omega))), hB⟩
  · have t0 : (((xs.length : Int) != (ys.length : Int))) = true := by simp; omega
    go_enter Tryd.func168, Tryd.ntmps168
    go_wp2
    go_ret
    exact ⟨ret_false (eqB_f (ne_of_len hnm)), Mod.refl _ _⟩

set_option maxHeartbeats 1000000 in
theorem eqStringS_any (w : World) (F G : List Nat) (u v : Value) (xs ys : List ByteArray) (hx : SliceHas Rep.str w F [u] xs) (hy : SliceHas Rep.str w G [v] ys) :
    Calls Tryd.prog 108 #[u, v] w fun e w' => e = .returned (.bool (eqB xs ys)) ∧ Mod [] w w' := by
  obtain ⟨A, c, rfl, hn, _⟩ := hx.form'
  obtain ⟨B, d, rfl, hm, _⟩ := hy.form'
  by_cases hnm : xs.length = ys.length
  · have Hnm := Lib.hid hnm
    have t1 : decide ((xs.length : Int) = (ys.length : Int)) = true := by rw [hnm]; simp
    have t0 : (((xs.length : Int) != (ys.length : Int))) = false := by rw [hnm]; simp
    clear hnm
    go_enter Tryd.func108, Tryd.ntmps108
    go_wp2
    go_loopw [5] (fun i wr => ∃ k : Nat, k ≤ xs.length ∧ i = .int .i64 k ∧ xs.take k = ys.take k ∧ Mod [] w wr) (fun i _ => xs.length - (intOf i).toNat)
    case atStart => exact ⟨0, Nat.zero_le _, rfl, rfl, Mod.refl _ _⟩
    case round =>
      obtain ⟨k, hk, rfl, htk, hB⟩ := hrel
      have Htk := Lib.hid htk
      clear htk
      by_cases hlt : k < xs.length
      · have hlt2 : k < ys.length := by rw [← Hnm.out]; exact hlt
        have hx' : SliceHas Rep.str wr F [.slice A xs.length c] xs := Rep.slice Rep.str |>.mod0 hx hB
        have hy' : SliceHas Rep.str wr G [.slice B ys.length d] ys := Rep.slice Rep.str |>.mod0 hy hB
        obtain ⟨ad, rfl, a0, _⟩ := hx'.str_at hlt
        obtain ⟨bd, rfl, b0, _⟩ := hy'.str_at hlt2
        by_cases heq : xs[k] = ys[k]
        · have t2 := toList_t heq
          have Heq := Lib.hid heq
          clear heq
          go_wp2
          refine wp_region_ext (by kernel_rfl) (by kernel_rfl) ?_
          repeat (go_big_quiet_step (fail))
          refine wpQuiet_nil ?_
          rintro _ ⟨wx, rfl⟩
          have hmx := ext_mod wr wx
          generalize ext wr wx = w1 at *
          go_wp2
          go_roundw
          case rel => exact ⟨k + 1, hlt, by go_num, take_eq_succ Htk.out hlt hlt2 Heq.out, hB.seq hmx⟩
          case measure => simp [intOf]; omega
        · have t2 := toList_f heq
          go_wp2
          refine wp_region_ext (by kernel_rfl) (by kernel_rfl) ?_
          repeat (go_big_quiet_step (fail))
          refine wpQuiet_nil ?_
          rintro _ ⟨wx, rfl⟩
          have hmx := ext_mod wr wx
          generalize ext wr wx = w1 at *
          go_wp2
          go_ret
          exact ⟨ret_false (eqB_f (ne_of_getElem hlt hlt2 heq)), hB.seq hmx⟩
      · go_wp2
        go_ret
        exact ⟨ret_true (eqB_t (eq_of_take Htk.out (by omega) (by rw [← Hnm.out]; omega))), hB⟩
  · have t0 : (((xs.length : Int) != (ys.length : Int))) = true := by simp; omega
    go_enter Tryd.func108, Tryd.ntmps108
    go_wp2
    go_ret
    exact ⟨ret_false (eqB_f (ne_of_len hnm)), Mod.refl _ _⟩

set_option maxHeartbeats 1000000 in
theorem eqBoolS_any (w : World) (F G : List Nat) (u v : Value) (xs ys : List Bool) (hx : SliceHas Rep.bool w F [u] xs) (hy : SliceHas Rep.bool w G [v] ys) :
    Calls Tryd.prog 110 #[u, v] w fun e w' => e = .returned (.bool (eqB xs ys)) ∧ Mod [] w w' := by
  obtain ⟨A, c, rfl, hn, _⟩ := hx.form'
  obtain ⟨B, d, rfl, hm, _⟩ := hy.form'
  by_cases hnm : xs.length = ys.length
  · have Hnm := Lib.hid hnm
    have t1 : decide ((xs.length : Int) = (ys.length : Int)) = true := by rw [hnm]; simp
    have t0 : (((xs.length : Int) != (ys.length : Int))) = false := by rw [hnm]; simp
    clear hnm
    go_enter Tryd.func110, Tryd.ntmps110
    go_wp2
    go_loopw [5] (fun i wr => ∃ k : Nat, k ≤ xs.length ∧ i = .int .i64 k ∧ xs.take k = ys.take k ∧ Mod [] w wr) (fun i _ => xs.length - (intOf i).toNat)
    case atStart => exact ⟨0, Nat.zero_le _, rfl, rfl, Mod.refl _ _⟩
    case round =>
      obtain ⟨k, hk, rfl, htk, hB⟩ := hrel
      have Htk := Lib.hid htk
      clear htk
      by_cases hlt : k < xs.length
      · have hlt2 : k < ys.length := by rw [← Hnm.out]; exact hlt
        have hx' : SliceHas Rep.bool wr F [.slice A xs.length c] xs := Rep.slice Rep.bool |>.mod0 hx hB
        have hy' : SliceHas Rep.bool wr G [.slice B ys.length d] ys := Rep.slice Rep.bool |>.mod0 hy hB
        obtain ⟨ad, rfl, a0⟩ := hx'.bool_at hlt
        obtain ⟨bd, rfl, b0⟩ := hy'.bool_at hlt2
        by_cases heq : xs[k] = ys[k]
        · have t2 : (xs[k] == ys[k]) = true := by rw [heq]; simp
          have Heq := Lib.hid heq
          clear heq
          go_wp2
          refine wp_region_ext (by kernel_rfl) (by kernel_rfl) ?_
          repeat (go_big_quiet_step (fail))
          refine wpQuiet_nil ?_
          rintro _ ⟨wx, rfl⟩
          have hmx := ext_mod wr wx
          generalize ext wr wx = w1 at *
          go_wp2
          go_roundw
          case rel => exact ⟨k + 1, hlt, by go_num, take_eq_succ Htk.out hlt hlt2 Heq.out, hB.seq hmx⟩
          case measure => simp [intOf]; omega
        · have t2 : (xs[k] == ys[k]) = false := by simpa using heq
          go_wp2
          refine wp_region_ext (by kernel_rfl) (by kernel_rfl) ?_
          repeat (go_big_quiet_step (fail))
          refine wpQuiet_nil ?_
          rintro _ ⟨wx, rfl⟩
          have hmx := ext_mod wr wx
          generalize ext wr wx = w1 at *
          go_wp2
          go_ret
          exact ⟨ret_false (eqB_f (ne_of_getElem hlt hlt2 heq)), hB.seq hmx⟩
      · go_wp2
        go_ret
        exact ⟨ret_true (eqB_t (eq_of_take Htk.out (by omega) (by rw [← Hnm.out]; omega))), hB⟩
  · have t0 : (((xs.length : Int) != (ys.length : Int))) = true := by simp; omega
    go_enter Tryd.func110, Tryd.ntmps110
    go_wp2
    go_ret
    exact ⟨ret_false (eqB_f (ne_of_len hnm)), Mod.refl _ _⟩

set_option maxHeartbeats 1000000 in
theorem eqIntSS_any (w : World) (F G : List Nat) (u v : Value) (xs ys : List (List Int)) (hx : SliceHas (Rep.int.slice) w F [u] xs) (hy : SliceHas (Rep.int.slice) w G [v] ys) :
    Calls Tryd.prog 109 #[u, v] w fun e w' => e = .returned (.bool (eqB xs ys)) ∧ Mod [] w w' := by
  obtain ⟨A, c, rfl, hn, _⟩ := hx.form'
  obtain ⟨B, d, rfl, hm, _⟩ := hy.form'
  by_cases hnm : xs.length = ys.length
  · have Hnm := Lib.hid hnm
    have t1 : decide ((xs.length : Int) = (ys.length : Int)) = true := by rw [hnm]; simp
    have t0 : (((xs.length : Int) != (ys.length : Int))) = false := by rw [hnm]; simp
    clear hnm
    go_enter Tryd.func109, Tryd.ntmps109
    go_wp2
    go_loopw [5] (fun i wr => ∃ k : Nat, k ≤ xs.length ∧ i = .int .i64 k ∧ xs.take k = ys.take k ∧ Mod [] w wr) (fun i _ => xs.length - (intOf i).toNat)
    case atStart => exact ⟨0, Nat.zero_le _, rfl, rfl, Mod.refl _ _⟩
    case round =>
      obtain ⟨k, hk, rfl, htk, hB⟩ := hrel
      have Htk := Lib.hid htk
      clear htk
      by_cases hlt : k < xs.length
      · have hlt2 : k < ys.length := by rw [← Hnm.out]; exact hlt
        have hx' : SliceHas (Rep.int.slice) wr F [.slice A xs.length c] xs := Rep.slice (Rep.int.slice) |>.mod0 hx hB
        have hy' : SliceHas (Rep.int.slice) wr G [.slice B ys.length d] ys := Rep.slice (Rep.int.slice) |>.mod0 hy hB
        obtain ⟨ad, u, Fk, rfl, a0, hxk, _⟩ := hx'.slice_at hlt
        obtain ⟨bd, v, Gk, rfl, b0, hyk, _⟩ := hy'.slice_at hlt2
        by_cases heq : xs[k] = ys[k]
        · have t2 : eqB xs[k] ys[k] = true := eqB_t heq
          have Heq := Lib.hid heq
          clear heq
          go_wp2
          refine wp_region_ext (by kernel_rfl) (by kernel_rfl) ?_
          repeat (go_big_quiet_step ((go_at_call 168; exact quiet_ext (eqIntS_any _ _ _ _ _ _ _ ((Rep.int.slice).extd hxk _) ((Rep.int.slice).extd hyk _)))))
          refine wpQuiet_nil ?_
          rintro _ ⟨wx, rfl⟩
          have hmx := ext_mod wr wx
          generalize ext wr wx = w1 at *
          go_wp2
          go_roundw
          case rel => exact ⟨k + 1, hlt, by go_num, take_eq_succ Htk.out hlt hlt2 Heq.out, hB.seq hmx⟩
          case measure => simp [intOf]; omega
        · have t2 : eqB xs[k] ys[k] = false := eqB_f heq
          go_wp2
          refine wp_region_ext (by kernel_rfl) (by kernel_rfl) ?_
          repeat (go_big_quiet_step ((go_at_call 168; exact quiet_ext (eqIntS_any _ _ _ _ _ _ _ ((Rep.int.slice).extd hxk _) ((Rep.int.slice).extd hyk _)))))
          refine wpQuiet_nil ?_
          rintro _ ⟨wx, rfl⟩
          have hmx := ext_mod wr wx
          generalize ext wr wx = w1 at *
          go_wp2
          go_ret
          exact ⟨ret_false (eqB_f (ne_of_getElem hlt hlt2 heq)), hB.seq hmx⟩
      · go_wp2
        go_ret
        exact ⟨ret_true (eqB_t (eq_of_take Htk.out (by omega) (by rw [← Hnm.out]; omega))), hB⟩
  · have t0 : (((xs.length : Int) != (ys.length : Int))) = true := by simp; omega
    go_enter Tryd.func109, Tryd.ntmps109
    go_wp2
    go_ret
    exact ⟨ret_false (eqB_f (ne_of_len hnm)), Mod.refl _ _⟩



set_option maxHeartbeats 1000000 in
theorem eqAccess_any (w : World) (F G : List Nat) (cs ds : List Value) (x y : AccessD) (hx : rAccess.has w F cs x) (hy : rAccess.has w G ds y) :
    Calls Tryd.prog 111 #[.agg cs.toArray, .agg ds.toArray] w fun e w' => e = .returned (.bool (eqB x y)) ∧ Mod [] w w' := by
  obtain ⟨rfl, _, _, _⟩ := rAccess_open hx
  obtain ⟨rfl, _, _, _⟩ := rAccess_open hy
  obtain ⟨x0, x1, x2⟩ := x
  obtain ⟨y0, y1, y2⟩ := y
  by_cases e0 : x0 = y0
  case neg =>
    have t0 : (x0 != y0) = true := by simpa using e0
    go_enter Tryd.func111, Tryd.ntmps111
    go_wp2_with fail
    go_ret
    exact ⟨ret_false (eqB_f (by intro h; simp only [Prod.mk.injEq] at h; exact e0 h.1)), (by repeat (first | exact Mod.refl _ _ | apply Mod.alloc | apply Mod.drewN | refine Mod.seq ?_ (by assumption)))⟩
  have t0 : (x0 != y0) = false := by simpa using e0
  have E0 := Lib.hid e0
  clear e0
  by_cases e1 : x1 = y1
  case neg =>
    have t1 : (x1 != y1) = true := by simpa using e1
    go_enter Tryd.func111, Tryd.ntmps111
    go_wp2_with fail
    go_ret
    exact ⟨ret_false (eqB_f (by intro h; simp only [Prod.mk.injEq] at h; exact e1 h.2.1)), (by repeat (first | exact Mod.refl _ _ | apply Mod.alloc | apply Mod.drewN | refine Mod.seq ?_ (by assumption)))⟩
  have t1 : (x1 != y1) = false := by simpa using e1
  have E1 := Lib.hid e1
  clear e1
  by_cases e2 : x2 = y2
  case neg =>
    have t2 : (x2 == y2) = false := by simpa using e2
    go_enter Tryd.func111, Tryd.ntmps111
    go_wp2_with fail
    go_ret
    exact ⟨ret_false (eqB_f (by intro h; simp only [Prod.mk.injEq] at h; exact e2 h.2.2)), (by repeat (first | exact Mod.refl _ _ | apply Mod.alloc | apply Mod.drewN | refine Mod.seq ?_ (by assumption)))⟩
  have t2 : (x2 == y2) = true := by simpa using e2
  have E2 := Lib.hid e2
  clear e2
  go_enter Tryd.func111, Tryd.ntmps111
  go_wp2_with fail
  go_ret
  exact ⟨ret_true (eqB_t (by rw [E0.out, E1.out, E2.out])), (by repeat (first | exact Mod.refl _ _ | apply Mod.alloc | apply Mod.drewN | refine Mod.seq ?_ (by assumption)))⟩

set_option maxHeartbeats 1000000 in
theorem eqAccessS_any (w : World) (F G : List Nat) (u v : Value) (xs ys : List AccessD) (hx : SliceHas rAccess w F [u] xs) (hy : SliceHas rAccess w G [v] ys) :
    Calls Tryd.prog 45 #[u, v] w fun e w' => e = .returned (.bool (eqB xs ys)) ∧ Mod [] w w' := by
  obtain ⟨A, c, rfl, hn, _⟩ := hx.form'
  obtain ⟨B, d, rfl, hm, _⟩ := hy.form'
  by_cases hnm : xs.length = ys.length
  · have Hnm := Lib.hid hnm
    have t1 : decide ((xs.length : Int) = (ys.length : Int)) = true := by rw [hnm]; simp
    have t0 : (((xs.length : Int) != (ys.length : Int))) = false := by rw [hnm]; simp
    clear hnm
    go_enter Tryd.func45, Tryd.ntmps45
    go_wp2
    go_loopw [5] (fun i wr => ∃ k : Nat, k ≤ xs.length ∧ i = .int .i64 k ∧ xs.take k = ys.take k ∧ Mod [] w wr) (fun i _ => xs.length - (intOf i).toNat)
    case atStart => exact ⟨0, Nat.zero_le _, rfl, rfl, Mod.refl _ _⟩
    case round =>
      obtain ⟨k, hk, rfl, htk, hB⟩ := hrel
      have Htk := Lib.hid htk
      clear htk
      by_cases hlt : k < xs.length
      · have hlt2 : k < ys.length := by rw [← Hnm.out]; exact hlt
        have hx' : SliceHas rAccess wr F [.slice A xs.length c] xs := Rep.slice rAccess |>.mod0 hx hB
        have hy' : SliceHas rAccess wr G [.slice B ys.length d] ys := Rep.slice rAccess |>.mod0 hy hB
        obtain ⟨ad, Fk, ck, rfl, _, _, _, hca, hxk⟩ := hx'.get hlt
        obtain ⟨bd, Gk, dk, rfl, _, _, _, hcb, hyk⟩ := hy'.get hlt2
        have hxk2 := hxk
        have hyk2 := hyk
        obtain ⟨rfl, _, _, _⟩ := rAccess_open hxk
        obtain ⟨rfl, _, _, _⟩ := rAccess_open hyk
        have a0 : wr.cell? (ad.add (k * 3)) = some (.int .i64 xs[k].1) := hca.zero
        have a1 : wr.cell? ⟨(ad.add (k * 3)).block, (ad.add (k * 3)).off + 1, none⟩ = some (.int .i64 xs[k].2.1) := hca.nth 0 rfl
        have a2 : wr.cell? ⟨(ad.add (k * 3)).block, (ad.add (k * 3)).off + 2, none⟩ = some (.bool xs[k].2.2) := hca.nth 1 rfl
        have b0 : wr.cell? (bd.add (k * 3)) = some (.int .i64 ys[k].1) := hcb.zero
        have b1 : wr.cell? ⟨(bd.add (k * 3)).block, (bd.add (k * 3)).off + 1, none⟩ = some (.int .i64 ys[k].2.1) := hcb.nth 0 rfl
        have b2 : wr.cell? ⟨(bd.add (k * 3)).block, (bd.add (k * 3)).off + 2, none⟩ = some (.bool ys[k].2.2) := hcb.nth 1 rfl
        clear hca hcb
        by_cases heq : xs[k] = ys[k]
        · have t2 : eqB xs[k] ys[k] = true := eqB_t heq
          have Heq := Lib.hid heq
          clear heq
          go_wp2
          refine wp_region_ext (by kernel_rfl) (by kernel_rfl) ?_
          repeat (go_big_quiet_step ((go_at_call 111; exact quiet_ext (eqAccess_any _ _ _ _ _ _ _ (rAccess.extd hxk2 _) (rAccess.extd hyk2 _)))))
          refine wpQuiet_nil ?_
          rintro _ ⟨wx, rfl⟩
          have hmx := ext_mod wr wx
          generalize ext wr wx = w1 at *
          go_wp2
          go_roundw
          case rel => exact ⟨k + 1, hlt, by go_num, take_eq_succ Htk.out hlt hlt2 Heq.out, hB.seq hmx⟩
          case measure => simp [intOf]; omega
        · have t2 : eqB xs[k] ys[k] = false := eqB_f heq
          go_wp2
          refine wp_region_ext (by kernel_rfl) (by kernel_rfl) ?_
          repeat (go_big_quiet_step ((go_at_call 111; exact quiet_ext (eqAccess_any _ _ _ _ _ _ _ (rAccess.extd hxk2 _) (rAccess.extd hyk2 _)))))
          refine wpQuiet_nil ?_
          rintro _ ⟨wx, rfl⟩
          have hmx := ext_mod wr wx
          generalize ext wr wx = w1 at *
          go_wp2
          go_ret
          exact ⟨ret_false (eqB_f (ne_of_getElem hlt hlt2 heq)), hB.seq hmx⟩
      · go_wp2
        go_ret
        exact ⟨ret_true (eqB_t (eq_of_take Htk.out (by omega) (by rw [← Hnm.out]; omega))), hB⟩
  · have t0 : (((xs.length : Int) != (ys.length : Int))) = true := by simp; omega
    go_enter Tryd.func45, Tryd.ntmps45
    go_wp2
    go_ret
    exact ⟨ret_false (eqB_f (ne_of_len hnm)), Mod.refl _ _⟩










end Go.Proofs.YtldknaajnnohiaaDoor
end

section
namespace Go.Proofs.YtldknaajnnohiaaDoor
open Go.RowKit
attribute [local go_sem] ext_cell













end Go.Proofs.YtldknaajnnohiaaDoor
end

section
namespace Go.Proofs.YtldknaajnnohiaaDoor
open Go.RowKit

theorem eqB_three {α β γ : Type} [DecidableEq α] [DecidableEq β] [DecidableEq γ] (a a' : α) (b b' : β) (c c' : γ) : eqB (a, b, c) (a', b', c') = (eqB a a' && (eqB b b' && eqB c c')) := by
  unfold eqB
  by_cases h1 : a = a' <;> by_cases h2 : b = b' <;> by_cases h3 : c = c' <;> simp [h1, h2, h3]
set_option maxHeartbeats 2000000 in
set_option maxRecDepth 8000 in
theorem eqPadded_any (w : World) (F G : List Nat) (cs ds : List Value) (x y : PaddedD) (hx : rPadded.has w F cs x) (hy : rPadded.has w G ds y) :
    Calls Tryd.prog 44 #[.agg cs.toArray, .agg ds.toArray] w fun e w' => e = .returned (.bool (eqB x y)) ∧ Mod [] w w' := by
  obtain ⟨A0, c0, F0, A1, c1, F1, A2, c2, F2, rfl, _, hx0, hx1, hx2⟩ := rPadded_open hx
  obtain ⟨B0, d0, G0, B1, d1, G1, B2, d2, G2, rfl, _, hy0, hy1, hy2⟩ := rPadded_open hy
  obtain ⟨x0, x1, x2⟩ := x
  obtain ⟨y0, y1, y2⟩ := y
  dsimp only at hx0 hx1 hx2 hy0 hy1 hy2
  have hS : Sat w w [.ro Rep.str.slice [.slice A0 x0.length c0] x0, .ro Rep.int.slice.slice [.slice A1 x1.length c1] x1, .ro Rep.bool.slice [.slice A2 x2.length c2] x2, .ro Rep.str.slice [.slice B0 y0.length d0] y0, .ro Rep.int.slice.slice [.slice B1 y1.length d1] y1, .ro Rep.bool.slice [.slice B2 y2.length d2] y2] := ((((((Sat.nil w).arg hy2).arg hy1).arg hy0).arg hx2).arg hx1).arg hx0
  clear hx hy hx0 hx1 hx2 hy0 hy1 hy2
  have hE := eqB_three x0 y0 x1 y1 x2 y2
  cases e0 : eqB x0 y0
  · rw [e0] at hE
    go_enter Tryd.func44, Tryd.ntmps44
    go_wp2_with (first | (go_at_call 108; obtain ⟨Fq, hFq⟩ := hS.has Rep.str.slice [.slice A0 x0.length c0]; obtain ⟨Fr, hFr⟩ := hS.has Rep.str.slice [.slice B0 y0.length d0]; refine (eqStringS_any _ _ _ _ _ _ _ hFq hFr).mono ?_; rintro e w' ⟨rfl, hM⟩; replace hS := hS.mod hM; clear hM hFq hFr; (simp only [e0])) | ((with_reducible show wpList _ _ _ (⟨_, Op.box _ _, _, _, _, _⟩ :: _) _ _); refine Does.list (does_box hS rfl rfl (by rfl)) rfl ?_; clear hS; rintro _ wx ⟨bo, rfl, hS, _⟩; (simp only [Act.put, List.setIfInBounds_toArray, List.set_cons_zero, List.set_cons_succ])) | ((with_reducible show wpList _ _ _ (⟨_, Op.load _ _, _, _, _, _⟩ :: _) _ _); (first | refine Gives.list (f_load hS rfl rfl (by rfl)) rfl ?_ | refine Gives.list (f_loadS hS rfl rfl (by rfl)) rfl ?_ | refine Gives.list (f_loadAt hS rfl rfl) rfl ?_ | refine Gives.list (f_loadAtS hS rfl rfl (by rfl)) rfl ?_ | refine Gives.list (f_loadAtF hS rfl rfl (by rfl)) rfl ?_); (simp only [Act.put, List.setIfInBounds_toArray, List.set_cons_zero, List.set_cons_succ])))
    go_ret
    exact ⟨ret_false (by rw [hE]; rfl), hS.mod0⟩
  cases e1 : eqB x1 y1
  · rw [e0, e1] at hE
    go_enter Tryd.func44, Tryd.ntmps44
    go_wp2_with (first | (go_at_call 108; obtain ⟨Fq, hFq⟩ := hS.has Rep.str.slice [.slice A0 x0.length c0]; obtain ⟨Fr, hFr⟩ := hS.has Rep.str.slice [.slice B0 y0.length d0]; refine (eqStringS_any _ _ _ _ _ _ _ hFq hFr).mono ?_; rintro e w' ⟨rfl, hM⟩; replace hS := hS.mod hM; clear hM hFq hFr; (simp only [e0])) | (go_at_call 109; obtain ⟨Fq, hFq⟩ := hS.has Rep.int.slice.slice [.slice A1 x1.length c1]; obtain ⟨Fr, hFr⟩ := hS.has Rep.int.slice.slice [.slice B1 y1.length d1]; refine (eqIntSS_any _ _ _ _ _ _ _ hFq hFr).mono ?_; rintro e w' ⟨rfl, hM⟩; replace hS := hS.mod hM; clear hM hFq hFr; (simp only [e1])) | ((with_reducible show wpList _ _ _ (⟨_, Op.box _ _, _, _, _, _⟩ :: _) _ _); refine Does.list (does_box hS rfl rfl (by rfl)) rfl ?_; clear hS; rintro _ wx ⟨bo, rfl, hS, _⟩; (simp only [Act.put, List.setIfInBounds_toArray, List.set_cons_zero, List.set_cons_succ])) | ((with_reducible show wpList _ _ _ (⟨_, Op.load _ _, _, _, _, _⟩ :: _) _ _); (first | refine Gives.list (f_load hS rfl rfl (by rfl)) rfl ?_ | refine Gives.list (f_loadS hS rfl rfl (by rfl)) rfl ?_ | refine Gives.list (f_loadAt hS rfl rfl) rfl ?_ | refine Gives.list (f_loadAtS hS rfl rfl (by rfl)) rfl ?_ | refine Gives.list (f_loadAtF hS rfl rfl (by rfl)) rfl ?_); (simp only [Act.put, List.setIfInBounds_toArray, List.set_cons_zero, List.set_cons_succ])))
    go_ret
    exact ⟨ret_false (by rw [hE]; rfl), hS.mod0⟩
  cases e2 : eqB x2 y2
  all_goals
    rw [e0, e1, e2] at hE
    go_enter Tryd.func44, Tryd.ntmps44
    go_wp2_with (first | (go_at_call 108; obtain ⟨Fq, hFq⟩ := hS.has Rep.str.slice [.slice A0 x0.length c0]; obtain ⟨Fr, hFr⟩ := hS.has Rep.str.slice [.slice B0 y0.length d0]; refine (eqStringS_any _ _ _ _ _ _ _ hFq hFr).mono ?_; rintro e w' ⟨rfl, hM⟩; replace hS := hS.mod hM; clear hM hFq hFr; (simp only [e0])) | (go_at_call 109; obtain ⟨Fq, hFq⟩ := hS.has Rep.int.slice.slice [.slice A1 x1.length c1]; obtain ⟨Fr, hFr⟩ := hS.has Rep.int.slice.slice [.slice B1 y1.length d1]; refine (eqIntSS_any _ _ _ _ _ _ _ hFq hFr).mono ?_; rintro e w' ⟨rfl, hM⟩; replace hS := hS.mod hM; clear hM hFq hFr; (simp only [e1])) | (go_at_call 110; obtain ⟨Fq, hFq⟩ := hS.has Rep.bool.slice [.slice A2 x2.length c2]; obtain ⟨Fr, hFr⟩ := hS.has Rep.bool.slice [.slice B2 y2.length d2]; refine (eqBoolS_any _ _ _ _ _ _ _ hFq hFr).mono ?_; rintro e w' ⟨rfl, hM⟩; replace hS := hS.mod hM; clear hM hFq hFr; (simp only [e2])) | ((with_reducible show wpList _ _ _ (⟨_, Op.box _ _, _, _, _, _⟩ :: _) _ _); refine Does.list (does_box hS rfl rfl (by rfl)) rfl ?_; clear hS; rintro _ wx ⟨bo, rfl, hS, _⟩; (simp only [Act.put, List.setIfInBounds_toArray, List.set_cons_zero, List.set_cons_succ])) | ((with_reducible show wpList _ _ _ (⟨_, Op.load _ _, _, _, _, _⟩ :: _) _ _); (first | refine Gives.list (f_load hS rfl rfl (by rfl)) rfl ?_ | refine Gives.list (f_loadS hS rfl rfl (by rfl)) rfl ?_ | refine Gives.list (f_loadAt hS rfl rfl) rfl ?_ | refine Gives.list (f_loadAtS hS rfl rfl (by rfl)) rfl ?_ | refine Gives.list (f_loadAtF hS rfl rfl (by rfl)) rfl ?_); (simp only [Act.put, List.setIfInBounds_toArray, List.set_cons_zero, List.set_cons_succ])))
    go_ret
    first
    | exact ⟨ret_false (by rw [hE]; rfl), hS.mod0⟩
    | exact ⟨ret_true (by rw [hE]; rfl), hS.mod0⟩
end Go.Proofs.YtldknaajnnohiaaDoor
end
