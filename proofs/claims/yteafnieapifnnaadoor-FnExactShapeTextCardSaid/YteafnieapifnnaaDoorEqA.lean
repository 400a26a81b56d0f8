/- Contracts of eq.. for slices of plain values and for structs of plain values. -/
import Derived.Test.YteafnieapifnnaaDoorShapes
import Derived.Test.YteafnieapifnnaaDoorRows
import Derived.Test.YteafnieapifnnaaDoorSatT
import Derived.Test.YteafnieapifnnaaDoorFind
import Derived.Test.YteafnieapifnnaaDoorTys
section
namespace Go.Proofs.YteafnieapifnnaaDoor
open Go.RowKit
attribute [local go_sem] ext_cell

set_option maxHeartbeats 1000000 in
theorem eqIntS_any (w : World) (F G : List Nat) (u v : Value) (xs ys : List Int) (hx : SliceHas Rep.int w F [u] xs) (hy : SliceHas Rep.int w G [v] ys) :
    Calls Tryd.prog 20 #[u, v] w fun e w' => e = .returned (.bool (eqB xs ys)) ∧ Mod [] w w' := by
  obtain ⟨A, c, rfl, hn, _⟩ := hx.form'
  obtain ⟨B, d, rfl, hm, _⟩ := hy.form'
  by_cases hnm : xs.length = ys.length
  · have Hnm := Lib.hid hnm
    have t1 : decide ((xs.length : Int) = (ys.length : Int)) = true := by rw [hnm]; simp
    have t0 : (((xs.length : Int) != (ys.length : Int))) = false := by rw [hnm]; simp
    clear hnm
    go_enter Tryd.func20, Tryd.ntmps20
    go_wp2
    go_loopw [5] (fun i wr => ∃ k : Nat, k ≤ xs.length ∧ i = .int .i64 k ∧ xs.take k = ys.take k ∧ Mod [] w wr) (fun i _ => xs.length - (intOf i).toNat)
    case atStart => exact ⟨0, Nat.zero_le _, rfl, rfl, Mod.refl _ _⟩
    case round =>
      obtain ⟨k, hk, rfl, htk, hB⟩ := hrel
      have Htk := Lib.hid htk
      clear htk
      by_cases hlt : k < xs.length
      · have hlt2 : k < ys.length := by rw [← Hnm.out]; exact hlt
        have hx' : SliceHas Rep.int wr F [.slice A xs.length c] xs := Rep.slice Rep.int |>.mod0 hx hB
        have hy' : SliceHas Rep.int wr G [.slice B ys.length d] ys := Rep.slice Rep.int |>.mod0 hy hB
        obtain ⟨ad, rfl, a0, _⟩ := hx'.int_at hlt
        obtain ⟨bd, rfl, b0, _⟩ := hy'.int_at hlt2
        by_cases heq : xs[k] = ys[k]
        · have t2 : (xs[k] != ys[k]) = false := by rw [heq]; simp
          have Heq := Lib.hid heq
          clear heq
          go_wp2
          refine wp_region_ext (by kernel_rfl) (by kernel_rfl) ?_
          repeat (go_big_quiet_step (fail))
          refine wpQuiet_nil ?_
          rintro _ ⟨wx, rfl⟩
          have hmx := ext_mod wr wx
          generalize ext wr wx = w1 at *
          go_wp2
          go_roundw
          case rel => exact ⟨k + 1, hlt, by go_num, take_eq_succ Htk.out hlt hlt2 Heq.out, hB.seq hmx⟩
          case measure => simp [intOf]; omega
        · have t2 : (xs[k] != ys[k]) = true := by simpa using heq
          go_wp2
          refine wp_region_ext (by kernel_rfl) (by kernel_rfl) ?_
          repeat (go_big_quiet_step (fail))
          refine wpQuiet_nil ?_
          rintro _ ⟨wx, rfl⟩
          have hmx := ext_mod wr wx
          generalize ext wr wx = w1 at *
          go_wp2
          go_ret
          exact ⟨ret_false (eqB_f (ne_of_getElem hlt hlt2 heq)), hB.seq hmx⟩
      · go_wp2
        go_ret
        exact ⟨ret_true (eqB_t (eq_of_take Htk.out (by omega) (by rw [← Hnm.out]; omega))), hB⟩
  · have t0 : (((xs.length : Int) != (ys.length : Int))) = true := by simp; omega
    go_enter Tryd.func20, Tryd.ntmps20
    go_wp2
    go_ret
    exact ⟨ret_false (eqB_f (ne_of_len hnm)), Mod.refl _ _⟩

set_option maxHeartbeats 1000000 in
theorem eqStringS_any (w : World) (F G : List Nat) (u v : Value) (xs ys : List ByteArray) (hx : SliceHas Rep.str w F [u] xs) (hy : SliceHas Rep.str w G [v] ys) :
    Calls Tryd.prog 61 #[u, v] w fun e w' => e = .returned (.bool (eqB xs ys)) ∧ Mod [] w w' := by
  obtain ⟨A, c, rfl, hn, _⟩ := hx.form'
  obtain ⟨B, d, rfl, hm, _⟩ := hy.form'
  by_cases hnm : xs.length = ys.length
  · have Hnm := Lib.hid hnm
    have t1 : decide ((xs.length : Int) = (ys.length : Int)) = true := by rw [hnm]; simp
    have t0 : (((xs.length : Int) != (ys.length : Int))) = false := by rw [hnm]; simp
    clear hnm
    go_enter Tryd.func61, Tryd.ntmps61
    go_wp2
    go_loopw [5] (fun i wr => ∃ k : Nat, k ≤ xs.length ∧ i = .int .i64 k ∧ xs.take k = ys.take k ∧ Mod [] w wr) (fun i _ => xs.length - (intOf i).toNat)
    case atStart => exact ⟨0, Nat.zero_le _, rfl, rfl, Mod.refl _ _⟩
    case round =>
      obtain ⟨k, hk, rfl, htk, hB⟩ := hrel
      have Htk := Lib.hid htk
      clear htk
      by_cases hlt : k < xs.length
      · have hlt2 : k < ys.length := by rw [← Hnm.out]; exact hlt
        have hx' : SliceHas Rep.str wr F [.slice A xs.length c] xs := Rep.slice Rep.str |>.mod0 hx hB
        have hy' : SliceHas Rep.str wr G [.slice B ys.length d] ys := Rep.slice Rep.str |>.mod0 hy hB
        obtain ⟨ad, rfl, a0, _⟩ := hx'.str_at hlt
        obtain ⟨bd, rfl, b0, _⟩ := hy'.str_at hlt2
        by_cases heq : xs[k] = ys[k]
        · have t2 := toList_t heq
          have Heq := Lib.hid heq
          clear heq
          go_wp2
          refine wp_region_ext (by kernel_rfl) (by kernel_rfl) ?_
          repeat (go_big_quiet_step (fail))
          refine wpQuiet_nil ?_
          rintro _ ⟨wx, rfl⟩
          have hmx := ext_mod wr wx
          generalize ext wr wx = w1 at *
          go_wp2
          go_roundw
          case rel => exact ⟨k + 1, hlt, by go_num, take_eq_succ Htk.out hlt hlt2 Heq.out, hB.seq hmx⟩
          case measure => simp [intOf]; omega
        · have t2 := toList_f heq
          go_wp2
          refine wp_region_ext (by kernel_rfl) (by kernel_rfl) ?_
          repeat (go_big_quiet_step (fail))
          refine wpQuiet_nil ?_
          rintro _ ⟨wx, rfl⟩
          have hmx := ext_mod wr wx
          generalize ext wr wx = w1 at *
          go_wp2
          go_ret
          exact ⟨ret_false (eqB_f (ne_of_getElem hlt hlt2 heq)), hB.seq hmx⟩
      · go_wp2
        go_ret
        exact ⟨ret_true (eqB_t (eq_of_take Htk.out (by omega) (by rw [← Hnm.out]; omega))), hB⟩
  · have t0 : (((xs.length : Int) != (ys.length : Int))) = true := by simp; omega
    go_enter Tryd.func61, Tryd.ntmps61
    go_wp2
    go_ret
    exact ⟨ret_false (eqB_f (ne_of_len hnm)), Mod.refl _ _⟩


set_option maxHeartbeats 1000000 in
theorem eqIntSS_any (w : World) (F G : List Nat) (u v : Value) (xs ys : List (List Int)) (hx : SliceHas (Rep.int.slice) w F [u] xs) (hy : SliceHas (Rep.int.slice) w G [v] ys) :
    Calls Tryd.prog 62 #[u, v] w fun e w' => e = .returned (.bool (eqB xs ys)) ∧ Mod [] w w' := by
  obtain ⟨A, c, rfl, hn, _⟩ := hx.form'
  obtain ⟨B, d, rfl, hm, _⟩ := hy.form'
  by_cases hnm : xs.length = ys.length
  · have Hnm := Lib.hid hnm
    have t1 : decide ((xs.length : Int) = (ys.length : Int)) = true := by rw [hnm]; simp
    have t0 : (((xs.length : Int) != (ys.length : Int))) = false := by rw [hnm]; simp
    clear hnm
    go_enter Tryd.func62, Tryd.ntmps62
    go_wp2
    go_loopw [5] (fun i wr => ∃ k : Nat, k ≤ xs.length ∧ i = .int .i64 k ∧ xs.take k = ys.take k ∧ Mod [] w wr) (fun i _ => xs.length - (intOf i).toNat)
    case atStart => exact ⟨0, Nat.zero_le _, rfl, rfl, Mod.refl _ _⟩
    case round =>
      obtain ⟨k, hk, rfl, htk, hB⟩ := hrel
      have Htk := Lib.hid htk
      clear htk
      by_cases hlt : k < xs.length
      · have hlt2 : k < ys.length := by rw [← Hnm.out]; exact hlt
        have hx' : SliceHas (Rep.int.slice) wr F [.slice A xs.length c] xs := Rep.slice (Rep.int.slice) |>.mod0 hx hB
        have hy' : SliceHas (Rep.int.slice) wr G [.slice B ys.length d] ys := Rep.slice (Rep.int.slice) |>.mod0 hy hB
        obtain ⟨ad, u, Fk, rfl, a0, hxk, _⟩ := hx'.slice_at hlt
        obtain ⟨bd, v, Gk, rfl, b0, hyk, _⟩ := hy'.slice_at hlt2
        by_cases heq : xs[k] = ys[k]
        · have t2 : eqB xs[k] ys[k] = true := eqB_t heq
          have Heq := Lib.hid heq
          clear heq
          go_wp2
          refine wp_region_ext (by kernel_rfl) (by kernel_rfl) ?_
          repeat (go_big_quiet_step ((go_at_call 20; exact quiet_ext (eqIntS_any _ _ _ _ _ _ _ ((Rep.int.slice).extd hxk _) ((Rep.int.slice).extd hyk _)))))
          refine wpQuiet_nil ?_
          rintro _ ⟨wx, rfl⟩
          have hmx := ext_mod wr wx
          generalize ext wr wx = w1 at *
          go_wp2
          go_roundw
          case rel => exact ⟨k + 1, hlt, by go_num, take_eq_succ Htk.out hlt hlt2 Heq.out, hB.seq hmx⟩
          case measure => simp [intOf]; omega
        · have t2 : eqB xs[k] ys[k] = false := eqB_f heq
          go_wp2
          refine wp_region_ext (by kernel_rfl) (by kernel_rfl) ?_
          repeat (go_big_quiet_step ((go_at_call 20; exact quiet_ext (eqIntS_any _ _ _ _ _ _ _ ((Rep.int.slice).extd hxk _) ((Rep.int.slice).extd hyk _)))))
          refine wpQuiet_nil ?_
          rintro _ ⟨wx, rfl⟩
          have hmx := ext_mod wr wx
          generalize ext wr wx = w1 at *
          go_wp2
          go_ret
          exact ⟨ret_false (eqB_f (ne_of_getElem hlt hlt2 heq)), hB.seq hmx⟩
      · go_wp2
        go_ret
        exact ⟨ret_true (eqB_t (eq_of_take Htk.out (by omega) (by rw [← Hnm.out]; omega))), hB⟩
  · have t0 : (((xs.length : Int) != (ys.length : Int))) = true := by simp; omega
    go_enter Tryd.func62, Tryd.ntmps62
    go_wp2
    go_ret
    exact ⟨ret_false (eqB_f (ne_of_len hnm)), Mod.refl _ _⟩














end Go.Proofs.YteafnieapifnnaaDoor
end

section
namespace Go.Proofs.YteafnieapifnnaaDoor
open Go.RowKit
attribute [local go_sem] ext_cell


set_option maxHeartbeats 1000000 in
theorem eqShape_any (w : World) (F G : List Nat) (cs ds : List Value) (x y : ShapeD) (hx : rShape.has w F cs x) (hy : rShape.has w G ds y) :
    Calls Tryd.prog 54 #[.agg cs.toArray, .agg ds.toArray] w fun e w' => e = .returned (.bool (eqB x y)) ∧ Mod [] w w' := by
  obtain ⟨A1, c1, F1, rfl, _, _, hx1, _⟩ := rShape_open hx
  obtain ⟨B1, d1, G1, rfl, _, _, hy1, _⟩ := rShape_open hy
  obtain ⟨x0, x1, x2⟩ := x
  obtain ⟨y0, y1, y2⟩ := y
  by_cases e0 : x0 = y0
  case neg =>
    have t0 := toList_f e0
    go_enter Tryd.func54, Tryd.ntmps54
    go_wp2_with fail
    go_ret
    exact ⟨ret_false (eqB_f (by intro h; simp only [Prod.mk.injEq] at h; exact e0 h.1)), (by repeat (first | exact Mod.refl _ _ | apply Mod.alloc | apply Mod.drewN | refine Mod.seq ?_ (by assumption)))⟩
  have t0 := toList_t e0
  have E0 := Lib.hid e0
  clear e0
  by_cases e1 : x1 = y1
  case neg =>
    have t1 : eqB x1 y1 = false := eqB_f e1
    go_enter Tryd.func54, Tryd.ntmps54
    go_wp2_with fail
    refine (eqStringS_any _ _ _ _ _ _ _ (Rep.mod0 (Rep.str.slice) hx1 (by repeat (first | exact Mod.refl _ _ | apply Mod.alloc | apply Mod.drewN | refine Mod.seq ?_ (by assumption)))) (Rep.mod0 (Rep.str.slice) hy1 (by repeat (first | exact Mod.refl _ _ | apply Mod.alloc | apply Mod.drewN | refine Mod.seq ?_ (by assumption))))).mono ?_
    rintro e w1 ⟨rfl, hm1⟩
    obtain ⟨hc1, hf1⟩ := hm1.rules
    go_wp2_with fail
    go_ret
    exact ⟨ret_false (eqB_f (by intro h; simp only [Prod.mk.injEq] at h; exact e1 h.2.1)), (by repeat (first | exact Mod.refl _ _ | apply Mod.alloc | apply Mod.drewN | refine Mod.seq ?_ (by assumption)))⟩
  have t1 : eqB x1 y1 = true := eqB_t e1
  have E1 := Lib.hid e1
  clear e1
  by_cases e2 : x2 = y2
  case neg =>
    have t2 : (x2 != y2) = true := by simpa using e2
    go_enter Tryd.func54, Tryd.ntmps54
    go_wp2_with fail
    refine (eqStringS_any _ _ _ _ _ _ _ (Rep.mod0 (Rep.str.slice) hx1 (by repeat (first | exact Mod.refl _ _ | apply Mod.alloc | apply Mod.drewN | refine Mod.seq ?_ (by assumption)))) (Rep.mod0 (Rep.str.slice) hy1 (by repeat (first | exact Mod.refl _ _ | apply Mod.alloc | apply Mod.drewN | refine Mod.seq ?_ (by assumption))))).mono ?_
    rintro e w1 ⟨rfl, hm1⟩
    obtain ⟨hc1, hf1⟩ := hm1.rules
    go_wp2_with fail
    go_ret
    exact ⟨ret_false (eqB_f (by intro h; simp only [Prod.mk.injEq] at h; exact e2 h.2.2)), (by repeat (first | exact Mod.refl _ _ | apply Mod.alloc | apply Mod.drewN | refine Mod.seq ?_ (by assumption)))⟩
  have t2 : (x2 != y2) = false := by simpa using e2
  have E2 := Lib.hid e2
  clear e2
  go_enter Tryd.func54, Tryd.ntmps54
  go_wp2_with fail
  refine (eqStringS_any _ _ _ _ _ _ _ (Rep.mod0 (Rep.str.slice) hx1 (by repeat (first | exact Mod.refl _ _ | apply Mod.alloc | apply Mod.drewN | refine Mod.seq ?_ (by assumption)))) (Rep.mod0 (Rep.str.slice) hy1 (by repeat (first | exact Mod.refl _ _ | apply Mod.alloc | apply Mod.drewN | refine Mod.seq ?_ (by assumption))))).mono ?_
  rintro e w1 ⟨rfl, hm1⟩
  obtain ⟨hc1, hf1⟩ := hm1.rules
  go_wp2_with fail
  go_ret
  exact ⟨ret_true (eqB_t (by rw [E0.out, E1.out, E2.out])), (by repeat (first | exact Mod.refl _ _ | apply Mod.alloc | apply Mod.drewN | refine Mod.seq ?_ (by assumption)))⟩


set_option maxHeartbeats 1000000 in
theorem eqTable_any (w : World) (F G : List Nat) (cs ds : List Value) (x y : TableD) (hx : rTable.has w F cs x) (hy : rTable.has w G ds y) :
    Calls Tryd.prog 30 #[.agg cs.toArray, .agg ds.toArray] w fun e w' => e = .returned (.bool (eqB x y)) ∧ Mod [] w w' := by
  obtain ⟨A0, c0, F0, A1, c1, F1, rfl, _, hx0, hx1⟩ := rTable_open hx
  obtain ⟨B0, d0, G0, B1, d1, G1, rfl, _, hy0, hy1⟩ := rTable_open hy
  obtain ⟨x0, x1⟩ := x
  obtain ⟨y0, y1⟩ := y
  by_cases e0 : x0 = y0
  case neg =>
    have t0 : eqB x0 y0 = false := eqB_f e0
    go_enter Tryd.func30, Tryd.ntmps30
    go_wp2_with fail
    refine (eqStringS_any _ _ _ _ _ _ _ (Rep.mod0 (Rep.str.slice) hx0 (by repeat (first | exact Mod.refl _ _ | apply Mod.alloc | apply Mod.drewN | refine Mod.seq ?_ (by assumption)))) (Rep.mod0 (Rep.str.slice) hy0 (by repeat (first | exact Mod.refl _ _ | apply Mod.alloc | apply Mod.drewN | refine Mod.seq ?_ (by assumption))))).mono ?_
    rintro e w0 ⟨rfl, hm0⟩
    obtain ⟨hc0, hf0⟩ := hm0.rules
    go_wp2_with fail
    go_ret
    exact ⟨ret_false (eqB_f (by intro h; simp only [Prod.mk.injEq] at h; exact e0 h.1)), (by repeat (first | exact Mod.refl _ _ | apply Mod.alloc | apply Mod.drewN | refine Mod.seq ?_ (by assumption)))⟩
  have t0 : eqB x0 y0 = true := eqB_t e0
  have E0 := Lib.hid e0
  clear e0
  by_cases e1 : x1 = y1
  case neg =>
    have t1 : eqB x1 y1 = false := eqB_f e1
    go_enter Tryd.func30, Tryd.ntmps30
    go_wp2_with fail
    refine (eqStringS_any _ _ _ _ _ _ _ (Rep.mod0 (Rep.str.slice) hx0 (by repeat (first | exact Mod.refl _ _ | apply Mod.alloc | apply Mod.drewN | refine Mod.seq ?_ (by assumption)))) (Rep.mod0 (Rep.str.slice) hy0 (by repeat (first | exact Mod.refl _ _ | apply Mod.alloc | apply Mod.drewN | refine Mod.seq ?_ (by assumption))))).mono ?_
    rintro e w0 ⟨rfl, hm0⟩
    obtain ⟨hc0, hf0⟩ := hm0.rules
    go_wp2_with fail
    refine (eqIntSS_any _ _ _ _ _ _ _ (Rep.mod0 ((Rep.int.slice).slice) hx1 (by repeat (first | exact Mod.refl _ _ | apply Mod.alloc | apply Mod.drewN | refine Mod.seq ?_ (by assumption)))) (Rep.mod0 ((Rep.int.slice).slice) hy1 (by repeat (first | exact Mod.refl _ _ | apply Mod.alloc | apply Mod.drewN | refine Mod.seq ?_ (by assumption))))).mono ?_
    rintro e w1 ⟨rfl, hm1⟩
    obtain ⟨hc1, hf1⟩ := hm1.rules
    go_wp2_with fail
    go_ret
    exact ⟨ret_false (eqB_f (by intro h; simp only [Prod.mk.injEq] at h; exact e1 h.2)), (by repeat (first | exact Mod.refl _ _ | apply Mod.alloc | apply Mod.drewN | refine Mod.seq ?_ (by assumption)))⟩
  have t1 : eqB x1 y1 = true := eqB_t e1
  have E1 := Lib.hid e1
  clear e1
  go_enter Tryd.func30, Tryd.ntmps30
  go_wp2_with fail
  refine (eqStringS_any _ _ _ _ _ _ _ (Rep.mod0 (Rep.str.slice) hx0 (by repeat (first | exact Mod.refl _ _ | apply Mod.alloc | apply Mod.drewN | refine Mod.seq ?_ (by assumption)))) (Rep.mod0 (Rep.str.slice) hy0 (by repeat (first | exact Mod.refl _ _ | apply Mod.alloc | apply Mod.drewN | refine Mod.seq ?_ (by assumption))))).mono ?_
  rintro e w0 ⟨rfl, hm0⟩
  obtain ⟨hc0, hf0⟩ := hm0.rules
  go_wp2_with fail
  refine (eqIntSS_any _ _ _ _ _ _ _ (Rep.mod0 ((Rep.int.slice).slice) hx1 (by repeat (first | exact Mod.refl _ _ | apply Mod.alloc | apply Mod.drewN | refine Mod.seq ?_ (by assumption)))) (Rep.mod0 ((Rep.int.slice).slice) hy1 (by repeat (first | exact Mod.refl _ _ | apply Mod.alloc | apply Mod.drewN | refine Mod.seq ?_ (by assumption))))).mono ?_
  rintro e w1 ⟨rfl, hm1⟩
  obtain ⟨hc1, hf1⟩ := hm1.rules
  go_wp2_with fail
  go_ret
  exact ⟨ret_true (eqB_t (by rw [E0.out, E1.out])), (by repeat (first | exact Mod.refl _ _ | apply Mod.alloc | apply Mod.drewN | refine Mod.seq ?_ (by assumption)))⟩





set_option maxHeartbeats 1000000 in
theorem eqShapeS_any (w : World) (F G : List Nat) (u v : Value) (xs ys : List ShapeD) (hx : SliceHas rShape w F [u] xs) (hy : SliceHas rShape w G [v] ys) :
    Calls Tryd.prog 25 #[u, v] w fun e w' => e = .returned (.bool (eqB xs ys)) ∧ Mod [] w w' := by
  obtain ⟨A, c, rfl, hn, _⟩ := hx.form'
  obtain ⟨B, d, rfl, hm, _⟩ := hy.form'
  by_cases hnm : xs.length = ys.length
  · have Hnm := Lib.hid hnm
    have t1 : decide ((xs.length : Int) = (ys.length : Int)) = true := by rw [hnm]; simp
    have t0 : (((xs.length : Int) != (ys.length : Int))) = false := by rw [hnm]; simp
    clear hnm
    go_enter Tryd.func25, Tryd.ntmps25
    go_wp2
    go_loopw [5] (fun i wr => ∃ k : Nat, k ≤ xs.length ∧ i = .int .i64 k ∧ xs.take k = ys.take k ∧ Mod [] w wr) (fun i _ => xs.length - (intOf i).toNat)
    case atStart => exact ⟨0, Nat.zero_le _, rfl, rfl, Mod.refl _ _⟩
    case round =>
      obtain ⟨k, hk, rfl, htk, hB⟩ := hrel
      have Htk := Lib.hid htk
      clear htk
      by_cases hlt : k < xs.length
      · have hlt2 : k < ys.length := by rw [← Hnm.out]; exact hlt
        have hx' : SliceHas rShape wr F [.slice A xs.length c] xs := Rep.slice rShape |>.mod0 hx hB
        have hy' : SliceHas rShape wr G [.slice B ys.length d] ys := Rep.slice rShape |>.mod0 hy hB
        obtain ⟨ad, Fk, ck, rfl, _, _, _, hca, hxk⟩ := hx'.get hlt
        obtain ⟨bd, Gk, dk, rfl, _, _, _, hcb, hyk⟩ := hy'.get hlt2
        have hxk2 := hxk
        have hyk2 := hyk
        obtain ⟨A1, c1, F1, rfl, _, _, _, _⟩ := rShape_open hxk
        obtain ⟨B1, d1, G1, rfl, _, _, _, _⟩ := rShape_open hyk
        have a0 : wr.cell? (ad.add (k * 3)) = some (.string xs[k].1) := hca.zero
        have a1 : wr.cell? ⟨(ad.add (k * 3)).block, (ad.add (k * 3)).off + 1, none⟩ = some (.slice A1 xs[k].2.1.length c1) := hca.nth 0 rfl
        have a2 : wr.cell? ⟨(ad.add (k * 3)).block, (ad.add (k * 3)).off + 2, none⟩ = some (.int .i64 xs[k].2.2) := hca.nth 1 rfl
        have b0 : wr.cell? (bd.add (k * 3)) = some (.string ys[k].1) := hcb.zero
        have b1 : wr.cell? ⟨(bd.add (k * 3)).block, (bd.add (k * 3)).off + 1, none⟩ = some (.slice B1 ys[k].2.1.length d1) := hcb.nth 0 rfl
        have b2 : wr.cell? ⟨(bd.add (k * 3)).block, (bd.add (k * 3)).off + 2, none⟩ = some (.int .i64 ys[k].2.2) := hcb.nth 1 rfl
        clear hca hcb
        by_cases heq : xs[k] = ys[k]
        · have t2 : eqB xs[k] ys[k] = true := eqB_t heq
          have Heq := Lib.hid heq
          clear heq
          go_wp2
          refine wp_region_ext (by kernel_rfl) (by kernel_rfl) ?_
          repeat (go_big_quiet_step ((go_at_call 54; exact quiet_ext (eqShape_any _ _ _ _ _ _ _ (rShape.extd hxk2 _) (rShape.extd hyk2 _)))))
          refine wpQuiet_nil ?_
          rintro _ ⟨wx, rfl⟩
          have hmx := ext_mod wr wx
          generalize ext wr wx = w1 at *
          go_wp2
          go_roundw
          case rel => exact ⟨k + 1, hlt, by go_num, take_eq_succ Htk.out hlt hlt2 Heq.out, hB.seq hmx⟩
          case measure => simp [intOf]; omega
        · have t2 : eqB xs[k] ys[k] = false := eqB_f heq
          go_wp2
          refine wp_region_ext (by kernel_rfl) (by kernel_rfl) ?_
          repeat (go_big_quiet_step ((go_at_call 54; exact quiet_ext (eqShape_any _ _ _ _ _ _ _ (rShape.extd hxk2 _) (rShape.extd hyk2 _)))))
          refine wpQuiet_nil ?_
          rintro _ ⟨wx, rfl⟩
          have hmx := ext_mod wr wx
          generalize ext wr wx = w1 at *
          go_wp2
          go_ret
          exact ⟨ret_false (eqB_f (ne_of_getElem hlt hlt2 heq)), hB.seq hmx⟩
      · go_wp2
        go_ret
        exact ⟨ret_true (eqB_t (eq_of_take Htk.out (by omega) (by rw [← Hnm.out]; omega))), hB⟩
  · have t0 : (((xs.length : Int) != (ys.length : Int))) = true := by simp; omega
    go_enter Tryd.func25, Tryd.ntmps25
    go_wp2
    go_ret
    exact ⟨ret_false (eqB_f (ne_of_len hnm)), Mod.refl _ _⟩




end Go.Proofs.YteafnieapifnnaaDoor
end

section
namespace Go.Proofs.YteafnieapifnnaaDoor
open Go.RowKit

theorem eqB_three {α β γ : Type} [DecidableEq α] [DecidableEq β] [DecidableEq γ] (a a' : α) (b b' : β) (c c' : γ) : eqB (a, b, c) (a', b', c') = (eqB a a' && (eqB b b' && eqB c c')) := by
  unfold eqB
  by_cases h1 : a = a' <;> by_cases h2 : b = b' <;> by_cases h3 : c = c' <;> simp [h1, h2, h3]

































end Go.Proofs.YteafnieapifnnaaDoor
end
