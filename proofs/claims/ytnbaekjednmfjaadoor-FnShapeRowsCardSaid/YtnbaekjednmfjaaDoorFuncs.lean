/- slices.ContainsFunc on ints, with functions of the program's own. -/
import Derived.Test.YtnbaekjednmfjaaDoorMem
import Derived.Test.YtnbaekjednmfjaaDoorFind
import Derived.Test.YtnbaekjednmfjaaDoorTys
import Derived.Lib.SlicesS
section
namespace Go.Proofs.YtnbaekjednmfjaaDoor
open Go.RowKit

theorem any_take_succ {α : Type} (p : α → Bool) (xs : List α) (k : Nat) (h : k < xs.length) : (xs.take (k + 1)).any p = ((xs.take k).any p || p xs[k]) := by
  rw [List.take_succ_eq_append_getElem h, List.any_append]; simp
theorem any_of_get {α : Type} (p : α → Bool) (xs : List α) (k : Nat) (h : k < xs.length) (hp : p xs[k] = true) : xs.any p = true := List.any_eq_true.2 ⟨_, List.getElem_mem h, hp⟩
theorem any_succ_f {α : Type} {p : α → Bool} {xs : List α} {k : Nat} (h : k < xs.length) (h1 : (xs.take k).any p = false) (h2 : p xs[k] = false) : (xs.take (k + 1)).any p = false := by
  rw [any_take_succ p xs k h, h1, h2]; rfl
def notValue (n : Int) : Bool := !inB n (-100000) 100000
def notZero (n : Int) : Bool := !(n == 0)

theorem impl_isValue (n : Int) (w : World) : Calls Tryd.prog 50 #[.int .i64 n] w fun e w' => e = .returned (.bool (inB n (-100000) 100000)) ∧ w = w' := by
  go_enter Tryd.func50, Tryd.ntmps50
  go_wp2_with (go_at_call 23; refine (impl_in _ _ _ _).mono ?_; rintro e w' ⟨rfl, rfl⟩)
  go_ret
  exact ⟨rfl, rfl⟩




theorem clo_rowsFit_1 (n : Int) (w : World) : Calls Tryd.prog 49 #[.int .i64 n] w fun e w' => e = .returned (.bool (notValue n)) ∧ w = w' := by
  go_enter Tryd.func49, Tryd.ntmps49
  go_wp2_with (go_at_call 50; refine (impl_isValue _ _).mono ?_; rintro e w' ⟨rfl, rfl⟩)
  go_ret
  exact ⟨ret_bool rfl, rfl⟩

set_option maxHeartbeats 1000000 in
theorem ixf_rowsFit_1 (w : World) (F : List Nat) (v : Value) (xs : List Int) (hx : SliceHas Rep.int w F [v] xs) :
    Calls Tryd.prog 52 #[v, .func (.func 49) #[] #[]] w fun e w' => ∃ r : Int, e = .returned (.int .i64 r) ∧ decide (0 ≤ r) = xs.any notValue ∧ Mod [] w w' := by
  obtain ⟨A, c, rfl, hl, _⟩ := hx.form'
  go_enter Tryd.func52, Tryd.ntmps52
  go_wp2_with fail
  go_loopw [8] (fun i wr => ∃ k : Nat, k ≤ xs.length ∧ i = .int .i64 k ∧ (xs.take k).any notValue = false ∧ Mod [] w wr) (fun i _ => xs.length - (intOf i).toNat)
  case atStart => exact ⟨0, Nat.zero_le _, rfl, rfl, Mod.refl _ _⟩
  case round =>
    obtain ⟨k, hk, rfl, ha, hB⟩ := hrel
    by_cases hlt : k < xs.length
    · have hx' : SliceHas Rep.int wr F [.slice A xs.length c] xs := Rep.slice Rep.int |>.mod0 hx hB
      obtain ⟨ad, rfl, h0, hi⟩ := hx'.int_at hlt
      have Ha := Lib.hid ha
      clear ha
      cases hp : notValue xs[k]
      · have H := Lib.hid (any_succ_f hlt Ha.out hp)
        go_wp2_with (go_at_call 49; refine (clo_rowsFit_1 _ _).mono ?_; rintro e w1 ⟨rfl, rfl⟩)
        go_roundw
        case rel => exact ⟨k + 1, hlt, by go_num, H.out, hB⟩
        case measure => simp [intOf]; omega
      · have Hg := Lib.hid (any_of_get notValue xs k hlt hp)
        go_wp2_with (go_at_call 49; refine (clo_rowsFit_1 _ _).mono ?_; rintro e w1 ⟨rfl, rfl⟩)
        go_ret
        exact ⟨_, rfl, by rw [Hg.out]; simp, hB⟩
    · have Ha : Hid (xs.any notValue = false) := by
        rw [List.take_of_length_le (by omega)] at ha
        exact ha
      clear ha
      go_wp2_with fail
      go_ret
      exact ⟨_, rfl, by rw [Ha.out]; rfl, hB⟩

set_option maxHeartbeats 1000000 in
theorem cf_rowsFit_1 (w : World) (F : List Nat) (v : Value) (xs : List Int) (hx : SliceHas Rep.int w F [v] xs) :
    Calls Tryd.prog 48 #[v, .func (.func 49) #[] #[]] w fun e w' => e = .returned (.bool (xs.any notValue)) ∧ Mod [] w w' := by
  go_enter Tryd.func48, Tryd.ntmps48
  go_wp2_with (go_at_call 52; refine (ixf_rowsFit_1 _ F _ xs hx).mono ?_; rintro e w1 ⟨r, rfl, hr, hm⟩)
  go_ret
  exact ⟨rfl, hm⟩




end Go.Proofs.YtnbaekjednmfjaaDoor
end

section
namespace Go.Proofs.YtnbaekjednmfjaaDoor
open Go.RowKit

def hasS (xs : List ByteArray) (x : ByteArray) : Bool := xs.any (fun y => eqB y x)
/-- The place of x, or -1. -/
def colOf (xs : List ByteArray) (x : ByteArray) : Int := match xs.findIdx? (fun y => eqB y x) with
  | some i => i
  | none => -1
section
variable {xs : List ByteArray} {x : ByteArray} {k : Nat}
theorem colOf_hit (hk : k < xs.length) (hn : hasS (xs.take k) x = false) (hp : xs[k] = x) : colOf xs x = k := by
  unfold colOf
  rw [List.findIdx?_eq_some_iff_getElem.2 ⟨hk, by simp [eqB, hp], fun j hj => ?_⟩]
  unfold hasS at hn
  rw [List.any_eq_false] at hn
  exact hn xs[j] (by
    rw [List.mem_take_iff_getElem]
    exact ⟨j, by omega, rfl⟩)
theorem colOf_miss (hn : hasS xs x = false) : colOf xs x = -1 := by
  unfold colOf
  unfold hasS at hn
  rw [List.findIdx?_eq_none_iff.2 (fun y hy => by
    rw [List.any_eq_false] at hn
    simpa using hn y hy)]
theorem colOf_bd : -1 ≤ colOf xs x ∧ colOf xs x < xs.length := by
  unfold colOf
  split
  · rename_i i hi
    obtain ⟨h, _⟩ := List.findIdx?_eq_some_iff_getElem.1 hi
    omega
  · omega
theorem colOf_has : decide (0 ≤ colOf xs x) = hasS xs x := by
  unfold colOf hasS
  split
  · rename_i i hi
    obtain ⟨h, hp, _⟩ := List.findIdx?_eq_some_iff_getElem.1 hi
    rw [List.any_eq_true.2 ⟨_, List.getElem_mem h, hp⟩]
    simp
  · rename_i hi
    rw [List.findIdx?_eq_none_iff] at hi
    rw [List.any_eq_false.2 (fun y hy => by simpa using hi y hy)]
    rfl
theorem hasS_succ_f (h : k < xs.length) (h1 : hasS (xs.take k) x = false) (h2 : xs[k] ≠ x) : hasS (xs.take (k + 1)) x = false := any_succ_f h h1 (eqB_f h2)
theorem hasS_hit (h : k < xs.length) (h2 : xs[k] = x) : hasS xs x = true := any_of_get _ xs k h (eqB_t h2)
end
set_option maxHeartbeats 1000000 in
theorem sl_Index_str (w : World) (F : List Nat) (v : Value) (xs : List ByteArray) (x : ByteArray) (hx : SliceHas Rep.str w F [v] xs) :
    Calls Tryd.prog 47 #[v, .string x] w fun e w' => e = .returned (.int .i64 (colOf xs x)) ∧ Mod [] w w' := by
  obtain ⟨A, c, rfl, hl, _⟩ := hx.form'
  have hS : Sat w w [.ro Rep.str.slice [.slice A xs.length c] xs] := (Sat.nil w).arg hx
  clear hx
  go_enter Tryd.func47, Tryd.ntmps47
  go_wp2_with fail
  go_loopw [8] (fun i wr => ∃ k : Nat, k ≤ xs.length ∧ i = .int .i64 k ∧ hasS (xs.take k) x = false ∧ Sat w wr [.ro Rep.str.slice [.slice A xs.length c] xs]) (fun i _ => xs.length - (intOf i).toNat)
  case atStart => exact ⟨0, Nat.zero_le _, rfl, rfl, hS⟩
  case round =>
    clear hS
    obtain ⟨k, hk, rfl, ha, hS⟩ := hrel
    have Ha := Lib.hid ha
    clear ha
    by_cases hlt : k < xs.length
    · obtain ⟨ad, rfl, hz, hS⟩ := hS.elStr A xs.length c (get_some hlt)
      by_cases heq : xs[k] = x
      · have H := Lib.hid (colOf_hit hlt Ha.out heq)
        have t1 := toList_t heq.symm
        clear heq
        generalize xs[k] = y at hS t1 hz
        go_wp2_with (first | ((with_reducible show wpList _ _ _ (⟨_, Op.box _ _, _, _, _, _⟩ :: _) _ _); refine Does.list (does_box hS rfl rfl (by rfl)) rfl ?_; clear hS; rintro _ wx ⟨bo, rfl, hS, _⟩; (simp only [Act.put, List.setIfInBounds_toArray, List.set_cons_zero, List.set_cons_succ])) | ((with_reducible show wpList _ _ _ (⟨_, Op.load _ _, _, _, _, _⟩ :: _) _ _); (first | refine Gives.list (f_load hS rfl rfl (by rfl)) rfl ?_ | refine Gives.list (f_loadS hS rfl rfl (by rfl)) rfl ?_ | refine Gives.list (f_loadAt hS rfl rfl) rfl ?_ | refine Gives.list (f_loadAtS hS rfl rfl (by rfl)) rfl ?_ | refine Gives.list (f_loadAtF hS rfl rfl (by rfl)) rfl ?_); (simp only [Act.put, List.setIfInBounds_toArray, List.set_cons_zero, List.set_cons_succ])) | ((with_reducible show wpList _ _ _ (⟨_, Op.store _ _ _, _, _, _, _⟩ :: _) _ _); (first | refine Does.list (f_store hS rfl rfl rfl (by rfl) (by rfl)) rfl ?_ | refine Does.list (f_storeS hS rfl rfl rfl (by rfl) (by rfl) (by rfl)) rfl ?_); clear hS; rintro _ wx ⟨rfl, hS⟩; (simp only [List.set_cons_zero, List.set_cons_succ] at hS); (simp only [Act.put, List.setIfInBounds_toArray, List.set_cons_zero, List.set_cons_succ])) | ((with_reducible show wpList _ _ _ (⟨_, Op.alloc _, _, _, _, _⟩ :: _) _ _); refine Does.list (does_alloc hS rfl (by rfl)) rfl ?_; clear hS; rintro _ wx ⟨ba, rfl, hS, _⟩; (simp only [Act.put, List.setIfInBounds_toArray, List.set_cons_zero, List.set_cons_succ])) | ((with_reducible show wpList _ _ _ (⟨_, Op.buildSlice _ _ _, _, _, _, _⟩ :: _) _ _); refine Does.list (does_buildSlice (X := ?_) (cs := ?_) (E := ?_) hS rfl ?_ ?_) rfl ?_; rotate_left 3; (go_simp; rfl); rfl; clear hS; rintro _ wx ⟨bx, rfl, hS, _⟩; (simp only [Act.put, List.setIfInBounds_toArray, List.set_cons_zero, List.set_cons_succ])))
        go_ret
        exact ⟨ret_int H.out.symm, hS.mod0⟩
      · have H := Lib.hid (hasS_succ_f hlt Ha.out heq)
        have t1 := toList_f (fun h => heq h.symm)
        clear heq
        generalize xs[k] = y at hS t1 hz
        go_wp2_with (first | ((with_reducible show wpList _ _ _ (⟨_, Op.box _ _, _, _, _, _⟩ :: _) _ _); refine Does.list (does_box hS rfl rfl (by rfl)) rfl ?_; clear hS; rintro _ wx ⟨bo, rfl, hS, _⟩; (simp only [Act.put, List.setIfInBounds_toArray, List.set_cons_zero, List.set_cons_succ])) | ((with_reducible show wpList _ _ _ (⟨_, Op.load _ _, _, _, _, _⟩ :: _) _ _); (first | refine Gives.list (f_load hS rfl rfl (by rfl)) rfl ?_ | refine Gives.list (f_loadS hS rfl rfl (by rfl)) rfl ?_ | refine Gives.list (f_loadAt hS rfl rfl) rfl ?_ | refine Gives.list (f_loadAtS hS rfl rfl (by rfl)) rfl ?_ | refine Gives.list (f_loadAtF hS rfl rfl (by rfl)) rfl ?_); (simp only [Act.put, List.setIfInBounds_toArray, List.set_cons_zero, List.set_cons_succ])) | ((with_reducible show wpList _ _ _ (⟨_, Op.store _ _ _, _, _, _, _⟩ :: _) _ _); (first | refine Does.list (f_store hS rfl rfl rfl (by rfl) (by rfl)) rfl ?_ | refine Does.list (f_storeS hS rfl rfl rfl (by rfl) (by rfl) (by rfl)) rfl ?_); clear hS; rintro _ wx ⟨rfl, hS⟩; (simp only [List.set_cons_zero, List.set_cons_succ] at hS); (simp only [Act.put, List.setIfInBounds_toArray, List.set_cons_zero, List.set_cons_succ])) | ((with_reducible show wpList _ _ _ (⟨_, Op.alloc _, _, _, _, _⟩ :: _) _ _); refine Does.list (does_alloc hS rfl (by rfl)) rfl ?_; clear hS; rintro _ wx ⟨ba, rfl, hS, _⟩; (simp only [Act.put, List.setIfInBounds_toArray, List.set_cons_zero, List.set_cons_succ])) | ((with_reducible show wpList _ _ _ (⟨_, Op.buildSlice _ _ _, _, _, _, _⟩ :: _) _ _); refine Does.list (does_buildSlice (X := ?_) (cs := ?_) (E := ?_) hS rfl ?_ ?_) rfl ?_; rotate_left 3; (go_simp; rfl); rfl; clear hS; rintro _ wx ⟨bx, rfl, hS, _⟩; (simp only [Act.put, List.setIfInBounds_toArray, List.set_cons_zero, List.set_cons_succ])))
        go_roundw
        case rel => exact ⟨k + 1, hlt, by go_num, H.out, hS.sel [1] rfl (by decide)⟩
        case measure => simp [intOf]; omega
    · have H : Hid (colOf xs x = -1) := by
        have ha := Ha.out
        rw [List.take_of_length_le (by omega)] at ha
        exact colOf_miss ha
      go_wp2_with (first | ((with_reducible show wpList _ _ _ (⟨_, Op.box _ _, _, _, _, _⟩ :: _) _ _); refine Does.list (does_box hS rfl rfl (by rfl)) rfl ?_; clear hS; rintro _ wx ⟨bo, rfl, hS, _⟩; (simp only [Act.put, List.setIfInBounds_toArray, List.set_cons_zero, List.set_cons_succ])) | ((with_reducible show wpList _ _ _ (⟨_, Op.load _ _, _, _, _, _⟩ :: _) _ _); (first | refine Gives.list (f_load hS rfl rfl (by rfl)) rfl ?_ | refine Gives.list (f_loadS hS rfl rfl (by rfl)) rfl ?_ | refine Gives.list (f_loadAt hS rfl rfl) rfl ?_ | refine Gives.list (f_loadAtS hS rfl rfl (by rfl)) rfl ?_ | refine Gives.list (f_loadAtF hS rfl rfl (by rfl)) rfl ?_); (simp only [Act.put, List.setIfInBounds_toArray, List.set_cons_zero, List.set_cons_succ])) | ((with_reducible show wpList _ _ _ (⟨_, Op.store _ _ _, _, _, _, _⟩ :: _) _ _); (first | refine Does.list (f_store hS rfl rfl rfl (by rfl) (by rfl)) rfl ?_ | refine Does.list (f_storeS hS rfl rfl rfl (by rfl) (by rfl) (by rfl)) rfl ?_); clear hS; rintro _ wx ⟨rfl, hS⟩; (simp only [List.set_cons_zero, List.set_cons_succ] at hS); (simp only [Act.put, List.setIfInBounds_toArray, List.set_cons_zero, List.set_cons_succ])) | ((with_reducible show wpList _ _ _ (⟨_, Op.alloc _, _, _, _, _⟩ :: _) _ _); refine Does.list (does_alloc hS rfl (by rfl)) rfl ?_; clear hS; rintro _ wx ⟨ba, rfl, hS, _⟩; (simp only [Act.put, List.setIfInBounds_toArray, List.set_cons_zero, List.set_cons_succ])) | ((with_reducible show wpList _ _ _ (⟨_, Op.buildSlice _ _ _, _, _, _, _⟩ :: _) _ _); refine Does.list (does_buildSlice (X := ?_) (cs := ?_) (E := ?_) hS rfl ?_ ?_) rfl ?_; rotate_left 3; (go_simp; rfl); rfl; clear hS; rintro _ wx ⟨bx, rfl, hS, _⟩; (simp only [Act.put, List.setIfInBounds_toArray, List.set_cons_zero, List.set_cons_succ])))
      go_ret
      exact ⟨ret_int H.out.symm, hS.mod0⟩
set_option maxHeartbeats 1000000 in
theorem sl_Contains_str (w : World) (F : List Nat) (v : Value) (xs : List ByteArray) (x : ByteArray) (hx : SliceHas Rep.str w F [v] xs) :
    Calls Tryd.prog 37 #[v, .string x] w fun e w' => e = .returned (.bool (hasS xs x)) ∧ Mod [] w w' := by
  have H := Lib.hid (colOf_has (xs := xs) (x := x))
  go_enter Tryd.func37, Tryd.ntmps37
  go_wp2_with (go_at_call 47; refine (sl_Index_str _ F _ xs x hx).mono ?_; rintro e w1 ⟨rfl, hm⟩)
  go_ret
  exact ⟨ret_bool H.out, hm⟩
end Go.Proofs.YtnbaekjednmfjaaDoor
end
