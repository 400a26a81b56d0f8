/- NumberText, the program's and the reference's. -/
import Derived.Test.YteafnieapifnnaaDoorTxL
namespace Go.Proofs.YteafnieapifnnaaDoor
open Go.RowKit

theorem impl_NumberText (w : World) (ht : TabOk w) (n : Int) :
    Calls Tryd.prog 49 #[.int .i64 n] w fun e w' => e = .returned (.string (numT n)) ∧ Mod [] w w' := by
  cases hi : inB n (-100000) 100000
  · have Hi := Lib.hid hi
    have H := Lib.hid (numT_empty hi)
    clear hi
    go_enter Tryd.func49, Tryd.ntmps49
    go_wp2_with (go_at_call 48; refine (impl_isValue _ _).mono ?_; rintro e w' ⟨rfl, rfl⟩; (simp only [Hi.out]))
    go_ret
    exact ⟨by rw [H.out]; rfl, Mod.refl _ _⟩
  · have Hi := Lib.hid hi
    clear hi
    go_enter Tryd.func49, Tryd.ntmps49
    go_wp2_with (first | (go_at_call 48; refine (impl_isValue _ _).mono ?_; rintro e w' ⟨rfl, rfl⟩; (simp only [Hi.out])) | (go_at_call 53; refine (itoa_w _ n ht Hi.out).mono ?_; rintro e w' ⟨rfl, hM⟩))
    go_ret
    exact ⟨rfl, hM⟩
def dB (m : Nat) : ByteArray := strOfNums [48 + (m : Int) % 10]
theorem dB_list (m : Nat) : (dB m).data.toList = [UInt8.ofNat (48 + m % 10)] := by
  unfold dB
  rw [strOfNums_data, List.map_cons, List.map_nil, show (48 + (m : Int) % 10).toNat = 48 + m % 10 by omega]
theorem dB_size (m : Nat) : (dB m).size = 1 := by unfold dB; rw [strOfNums_size]; rfl
def dInv (M m : Nat) (o : ByteArray) : Prop := (if 9 < m then Lib.decDigits (m / 10) ++ o.data.toList else o.data.toList) = Lib.decDigits M
theorem app_list (a b : ByteArray) : (a ++ b).data.toList = a.data.toList ++ b.data.toList := by rw [ByteArray.data_append]; simp
theorem dig_unfold (m : Nat) : Lib.decDigits m = (if 9 < m then Lib.decDigits (m / 10) ++ (dB m).data.toList else (dB m).data.toList) := by
  rw [dB_list, Lib.decDigits]
  by_cases h : 9 < m
  · rw [if_pos h, dif_neg (by omega)]
  · rw [if_neg h, dif_pos (by omega), show m % 10 = m by omega]
theorem dInv_0 (M : Nat) : dInv M M (dB M) := (dig_unfold M).symm
theorem dInv_s {M m : Nat} {o : ByteArray} (h : dInv M m o) (h9 : 9 < m) : dInv M (m / 10) (dB (m / 10) ++ o) := by
  unfold dInv at h ⊢
  rw [if_pos h9, dig_unfold (m / 10)] at h
  rw [app_list]
  by_cases h2 : 9 < m / 10
  · rw [if_pos h2] at h ⊢
    rw [← List.append_assoc]; exact h
  · rw [if_neg h2] at h ⊢
    exact h
theorem dInv_e {M m : Nat} {o : ByteArray} (h : dInv M m o) (h9 : ¬ 9 < m) : o = bOf (Lib.decDigits M) := by
  unfold dInv at h
  rw [if_neg h9] at h
  rw [← h, bOf_of]
set_option maxHeartbeats 2000000 in
set_option maxRecDepth 8000 in
theorem spec_NumberText (w : World) (n : Int) :
    Calls Tryd.prog 47 #[.int .i64 n] w fun e w' => e = .returned (.string (numT n)) ∧ Mod [] w w' := by
  cases hi : inB n (-100000) 100000
  · have Hi := Lib.hid hi
    have H := Lib.hid (numT_empty hi)
    clear hi
    go_enter Tryd.func47, Tryd.ntmps47
    go_wp2_with (go_at_call 66; refine (spec_in _ _ _ _).mono ?_; rintro e w' ⟨rfl, rfl⟩; (simp only [Hi.out]))
    go_ret
    exact ⟨by rw [H.out]; rfl, Mod.refl _ _⟩
  · have Hi := Lib.hid hi
    have hb := hi
    simp only [inB, Bool.and_eq_true, decide_eq_true_eq] at hb
    have hS : Sat w w [] := Sat.nil w
    by_cases hneg : n < 0
    · obtain ⟨M, rfl⟩ : ∃ M : Nat, n = -(M : Int) := ⟨n.natAbs, by omega⟩
      have HT : Hid (numT (-(M : Int)) = bOf [45] ++ bOf (Lib.decDigits M)) := Lib.hid (by
        unfold numT Lib.itoa
        rw [if_pos hi, if_pos hneg, ← bOf_app, show (-(M : Int)).natAbs = M by omega]
        rfl)
      have hM : M ≤ 100000 := by omega
      have hw1 : IntKind.i64.wrap (M : Int) = (M : Int) := IntWalk.i64_in _ (by omega)
      clear hi hb
      go_enter Tryd.func47, Tryd.ntmps47
      go_wp2_with (first | (go_at_call 66; refine (spec_in _ _ _ _).mono ?_; rintro e w' ⟨rfl, rfl⟩; (simp only [Hi.out])) | ((with_reducible show wpList _ _ _ (⟨_, Op.convert _ _ _, _, _, _, _⟩ :: _) _ _); refine Gives.list (does_str1 hS rfl rfl Tryd.underlying22 Tryd.underlying5 Tryd.underlying9) rfl ?_; (simp only [Act.put, List.setIfInBounds_toArray, List.set_cons_zero, List.set_cons_succ])) | ((with_reducible show wpList _ _ _ (⟨_, Op.box _ _, _, _, _, _⟩ :: _) _ _); refine Does.list (does_box hS rfl rfl (by rfl)) rfl ?_; clear hS; rintro _ wx ⟨bo, rfl, hS, _⟩; (simp only [Act.put, List.setIfInBounds_toArray, List.set_cons_zero, List.set_cons_succ])) | ((with_reducible show wpList _ _ _ (⟨_, Op.load _ _, _, _, _, _⟩ :: _) _ _); (first | refine Gives.list (f_load hS rfl rfl (by rfl)) rfl ?_ | refine Gives.list (f_loadS hS rfl rfl (by rfl)) rfl ?_ | refine Gives.list (f_loadAt hS rfl rfl) rfl ?_ | refine Gives.list (f_loadAtS hS rfl rfl (by rfl)) rfl ?_ | refine Gives.list (f_loadAtF hS rfl rfl (by rfl)) rfl ?_); (simp only [Act.put, List.setIfInBounds_toArray, List.set_cons_zero, List.set_cons_succ])) | ((with_reducible show wpList _ _ _ (⟨_, Op.store _ _ _, _, _, _, _⟩ :: _) _ _); (first | refine Does.list (f_store hS rfl rfl rfl (by rfl) (by rfl)) rfl ?_ | refine Does.list (f_storeS hS rfl rfl rfl (by rfl) (by rfl) (by rfl)) rfl ?_); clear hS; rintro _ wx ⟨rfl, hS⟩; (simp only [List.set_cons_zero, List.set_cons_succ] at hS); (simp only [Act.put, List.setIfInBounds_toArray, List.set_cons_zero, List.set_cons_succ])) | ((with_reducible show wpList _ _ _ (⟨_, Op.alloc _, _, _, _, _⟩ :: _) _ _); refine Does.list (does_alloc hS rfl (by rfl)) rfl ?_; clear hS; rintro _ wx ⟨ba, rfl, hS, _⟩; (simp only [Act.put, List.setIfInBounds_toArray, List.set_cons_zero, List.set_cons_succ])) | ((with_reducible show wpList _ _ _ (⟨_, Op.buildSlice _ _ _, _, _, _, _⟩ :: _) _ _); refine Does.list (does_buildSlice (X := ?_) (cs := ?_) (E := ?_) hS rfl ?_ ?_) rfl ?_; rotate_left 3; (go_simp; rfl); rfl; clear hS; rintro _ wx ⟨bx, rfl, hS, _⟩; (simp only [Act.put, List.setIfInBounds_toArray, List.set_cons_zero, List.set_cons_succ])))
      go_loopw [0, 4] (fun i s wr => ∃ (m : Nat) (o : ByteArray), i = .int .i64 (m : Int) ∧ s = .string o ∧ Hid (dInv M m o) ∧ (m ≤ M ∧ o.size + m ≤ 100010) ∧ Sat w wr []) (fun i _ _ => (intOf i).toNat)
      case atStart => exact ⟨M, _, rfl, rfl, Lib.hid (dInv_0 M), ⟨Nat.le_refl _, by show (dB M).size + M ≤ _; rw [dB_size]; omega⟩, hS.sel [] rfl (by decide)⟩
      case round =>
        clear hS
        obtain ⟨m, o, rfl, rfl, HI, ⟨hmM, hos⟩, hS⟩ := hrel
        by_cases h9 : 9 < m
        · have h9I : (9 : Int) < (m : Int) := by omega
          have hsz : ¬ 9223372036854775807 < (strOfNums [48 + ((m / 10 : Nat) : Int) % 10]).size + o.size := by rw [strOfNums_size]; simp; omega
          have hsz2 : ¬ 9223372036854775807 < (strOfNums [48 + ((m : Int) / 10) % 10]).size + o.size := by rw [strOfNums_size]; simp; omega
          go_wp2_with (first | ((with_reducible show wpList _ _ _ (⟨_, Op.convert _ _ _, _, _, _, _⟩ :: _) _ _); refine Gives.list (does_str1 hS rfl rfl Tryd.underlying22 Tryd.underlying5 Tryd.underlying9) rfl ?_; (simp only [Act.put, List.setIfInBounds_toArray, List.set_cons_zero, List.set_cons_succ])) | ((with_reducible show wpList _ _ _ (⟨_, Op.box _ _, _, _, _, _⟩ :: _) _ _); refine Does.list (does_box hS rfl rfl (by rfl)) rfl ?_; clear hS; rintro _ wx ⟨bo, rfl, hS, _⟩; (simp only [Act.put, List.setIfInBounds_toArray, List.set_cons_zero, List.set_cons_succ])) | ((with_reducible show wpList _ _ _ (⟨_, Op.load _ _, _, _, _, _⟩ :: _) _ _); (first | refine Gives.list (f_load hS rfl rfl (by rfl)) rfl ?_ | refine Gives.list (f_loadS hS rfl rfl (by rfl)) rfl ?_ | refine Gives.list (f_loadAt hS rfl rfl) rfl ?_ | refine Gives.list (f_loadAtS hS rfl rfl (by rfl)) rfl ?_ | refine Gives.list (f_loadAtF hS rfl rfl (by rfl)) rfl ?_); (simp only [Act.put, List.setIfInBounds_toArray, List.set_cons_zero, List.set_cons_succ])) | ((with_reducible show wpList _ _ _ (⟨_, Op.store _ _ _, _, _, _, _⟩ :: _) _ _); (first | refine Does.list (f_store hS rfl rfl rfl (by rfl) (by rfl)) rfl ?_ | refine Does.list (f_storeS hS rfl rfl rfl (by rfl) (by rfl) (by rfl)) rfl ?_); clear hS; rintro _ wx ⟨rfl, hS⟩; (simp only [List.set_cons_zero, List.set_cons_succ] at hS); (simp only [Act.put, List.setIfInBounds_toArray, List.set_cons_zero, List.set_cons_succ])) | ((with_reducible show wpList _ _ _ (⟨_, Op.alloc _, _, _, _, _⟩ :: _) _ _); refine Does.list (does_alloc hS rfl (by rfl)) rfl ?_; clear hS; rintro _ wx ⟨ba, rfl, hS, _⟩; (simp only [Act.put, List.setIfInBounds_toArray, List.set_cons_zero, List.set_cons_succ])) | ((with_reducible show wpList _ _ _ (⟨_, Op.buildSlice _ _ _, _, _, _, _⟩ :: _) _ _); refine Does.list (does_buildSlice (X := ?_) (cs := ?_) (E := ?_) hS rfl ?_ ?_) rfl ?_; rotate_left 3; (go_simp; rfl); rfl; clear hS; rintro _ wx ⟨bx, rfl, hS, _⟩; (simp only [Act.put, List.setIfInBounds_toArray, List.set_cons_zero, List.set_cons_succ])))
          go_roundw
          case rel => exact ⟨m / 10, dB (m / 10) ++ o, by simp, rfl, Lib.hid (dInv_s HI.out h9), ⟨by omega, by rw [ByteArray.size_append, dB_size]; omega⟩, hS.sel [] rfl (by decide)⟩
          case measure => simp [intOf]; omega
        · have h9I : ¬ (9 : Int) < (m : Int) := by omega
          have HO := Lib.hid (dInv_e HI.out h9)
          have hsz : ¬ 9223372036854775807 < 1 + o.size := by omega
          go_wp2_with (first | ((with_reducible show wpList _ _ _ (⟨_, Op.box _ _, _, _, _, _⟩ :: _) _ _); refine Does.list (does_box hS rfl rfl (by rfl)) rfl ?_; clear hS; rintro _ wx ⟨bo, rfl, hS, _⟩; (simp only [Act.put, List.setIfInBounds_toArray, List.set_cons_zero, List.set_cons_succ])) | ((with_reducible show wpList _ _ _ (⟨_, Op.load _ _, _, _, _, _⟩ :: _) _ _); (first | refine Gives.list (f_load hS rfl rfl (by rfl)) rfl ?_ | refine Gives.list (f_loadS hS rfl rfl (by rfl)) rfl ?_ | refine Gives.list (f_loadAt hS rfl rfl) rfl ?_ | refine Gives.list (f_loadAtS hS rfl rfl (by rfl)) rfl ?_ | refine Gives.list (f_loadAtF hS rfl rfl (by rfl)) rfl ?_); (simp only [Act.put, List.setIfInBounds_toArray, List.set_cons_zero, List.set_cons_succ])) | ((with_reducible show wpList _ _ _ (⟨_, Op.store _ _ _, _, _, _, _⟩ :: _) _ _); (first | refine Does.list (f_store hS rfl rfl rfl (by rfl) (by rfl)) rfl ?_ | refine Does.list (f_storeS hS rfl rfl rfl (by rfl) (by rfl) (by rfl)) rfl ?_); clear hS; rintro _ wx ⟨rfl, hS⟩; (simp only [List.set_cons_zero, List.set_cons_succ] at hS); (simp only [Act.put, List.setIfInBounds_toArray, List.set_cons_zero, List.set_cons_succ])) | ((with_reducible show wpList _ _ _ (⟨_, Op.alloc _, _, _, _, _⟩ :: _) _ _); refine Does.list (does_alloc hS rfl (by rfl)) rfl ?_; clear hS; rintro _ wx ⟨ba, rfl, hS, _⟩; (simp only [Act.put, List.setIfInBounds_toArray, List.set_cons_zero, List.set_cons_succ])) | ((with_reducible show wpList _ _ _ (⟨_, Op.buildSlice _ _ _, _, _, _, _⟩ :: _) _ _); refine Does.list (does_buildSlice (X := ?_) (cs := ?_) (E := ?_) hS rfl ?_ ?_) rfl ?_; rotate_left 3; (go_simp; rfl); rfl; clear hS; rintro _ wx ⟨bx, rfl, hS, _⟩; (simp only [Act.put, List.setIfInBounds_toArray, List.set_cons_zero, List.set_cons_succ])))
          go_ret
          exact ⟨by rw [HT.out, ← HO.out]; rfl, hS.mod0⟩
    · obtain ⟨M, rfl⟩ : ∃ M : Nat, n = (M : Int) := ⟨n.toNat, by omega⟩
      have HT : Hid (numT (M : Int) = bOf (Lib.decDigits M)) := Lib.hid (by
        unfold numT Lib.itoa
        rw [if_pos hi, if_neg hneg, show ((M : Int)).toNat = M by omega])
      have hM : M ≤ 100000 := by omega
      clear hi hb
      go_enter Tryd.func47, Tryd.ntmps47
      go_wp2_with (first | (go_at_call 66; refine (spec_in _ _ _ _).mono ?_; rintro e w' ⟨rfl, rfl⟩; (simp only [Hi.out])) | ((with_reducible show wpList _ _ _ (⟨_, Op.convert _ _ _, _, _, _, _⟩ :: _) _ _); refine Gives.list (does_str1 hS rfl rfl Tryd.underlying22 Tryd.underlying5 Tryd.underlying9) rfl ?_; (simp only [Act.put, List.setIfInBounds_toArray, List.set_cons_zero, List.set_cons_succ])) | ((with_reducible show wpList _ _ _ (⟨_, Op.box _ _, _, _, _, _⟩ :: _) _ _); refine Does.list (does_box hS rfl rfl (by rfl)) rfl ?_; clear hS; rintro _ wx ⟨bo, rfl, hS, _⟩; (simp only [Act.put, List.setIfInBounds_toArray, List.set_cons_zero, List.set_cons_succ])) | ((with_reducible show wpList _ _ _ (⟨_, Op.load _ _, _, _, _, _⟩ :: _) _ _); (first | refine Gives.list (f_load hS rfl rfl (by rfl)) rfl ?_ | refine Gives.list (f_loadS hS rfl rfl (by rfl)) rfl ?_ | refine Gives.list (f_loadAt hS rfl rfl) rfl ?_ | refine Gives.list (f_loadAtS hS rfl rfl (by rfl)) rfl ?_ | refine Gives.list (f_loadAtF hS rfl rfl (by rfl)) rfl ?_); (simp only [Act.put, List.setIfInBounds_toArray, List.set_cons_zero, List.set_cons_succ])) | ((with_reducible show wpList _ _ _ (⟨_, Op.store _ _ _, _, _, _, _⟩ :: _) _ _); (first | refine Does.list (f_store hS rfl rfl rfl (by rfl) (by rfl)) rfl ?_ | refine Does.list (f_storeS hS rfl rfl rfl (by rfl) (by rfl) (by rfl)) rfl ?_); clear hS; rintro _ wx ⟨rfl, hS⟩; (simp only [List.set_cons_zero, List.set_cons_succ] at hS); (simp only [Act.put, List.setIfInBounds_toArray, List.set_cons_zero, List.set_cons_succ])) | ((with_reducible show wpList _ _ _ (⟨_, Op.alloc _, _, _, _, _⟩ :: _) _ _); refine Does.list (does_alloc hS rfl (by rfl)) rfl ?_; clear hS; rintro _ wx ⟨ba, rfl, hS, _⟩; (simp only [Act.put, List.setIfInBounds_toArray, List.set_cons_zero, List.set_cons_succ])) | ((with_reducible show wpList _ _ _ (⟨_, Op.buildSlice _ _ _, _, _, _, _⟩ :: _) _ _); refine Does.list (does_buildSlice (X := ?_) (cs := ?_) (E := ?_) hS rfl ?_ ?_) rfl ?_; rotate_left 3; (go_simp; rfl); rfl; clear hS; rintro _ wx ⟨bx, rfl, hS, _⟩; (simp only [Act.put, List.setIfInBounds_toArray, List.set_cons_zero, List.set_cons_succ])))
      go_loopw [0, 4] (fun i s wr => ∃ (m : Nat) (o : ByteArray), i = .int .i64 (m : Int) ∧ s = .string o ∧ Hid (dInv M m o) ∧ (m ≤ M ∧ o.size + m ≤ 100010) ∧ Sat w wr []) (fun i _ _ => (intOf i).toNat)
      case atStart => exact ⟨M, _, rfl, rfl, Lib.hid (dInv_0 M), ⟨Nat.le_refl _, by show (dB M).size + M ≤ _; rw [dB_size]; omega⟩, hS.sel [] rfl (by decide)⟩
      case round =>
        clear hS
        obtain ⟨m, o, rfl, rfl, HI, ⟨hmM, hos⟩, hS⟩ := hrel
        by_cases h9 : 9 < m
        · have h9I : (9 : Int) < (m : Int) := by omega
          have hsz : ¬ 9223372036854775807 < (strOfNums [48 + ((m / 10 : Nat) : Int) % 10]).size + o.size := by rw [strOfNums_size]; simp; omega
          have hsz2 : ¬ 9223372036854775807 < (strOfNums [48 + ((m : Int) / 10) % 10]).size + o.size := by rw [strOfNums_size]; simp; omega
          go_wp2_with (first | ((with_reducible show wpList _ _ _ (⟨_, Op.convert _ _ _, _, _, _, _⟩ :: _) _ _); refine Gives.list (does_str1 hS rfl rfl Tryd.underlying22 Tryd.underlying5 Tryd.underlying9) rfl ?_; (simp only [Act.put, List.setIfInBounds_toArray, List.set_cons_zero, List.set_cons_succ])) | ((with_reducible show wpList _ _ _ (⟨_, Op.box _ _, _, _, _, _⟩ :: _) _ _); refine Does.list (does_box hS rfl rfl (by rfl)) rfl ?_; clear hS; rintro _ wx ⟨bo, rfl, hS, _⟩; (simp only [Act.put, List.setIfInBounds_toArray, List.set_cons_zero, List.set_cons_succ])) | ((with_reducible show wpList _ _ _ (⟨_, Op.load _ _, _, _, _, _⟩ :: _) _ _); (first | refine Gives.list (f_load hS rfl rfl (by rfl)) rfl ?_ | refine Gives.list (f_loadS hS rfl rfl (by rfl)) rfl ?_ | refine Gives.list (f_loadAt hS rfl rfl) rfl ?_ | refine Gives.list (f_loadAtS hS rfl rfl (by rfl)) rfl ?_ | refine Gives.list (f_loadAtF hS rfl rfl (by rfl)) rfl ?_); (simp only [Act.put, List.setIfInBounds_toArray, List.set_cons_zero, List.set_cons_succ])) | ((with_reducible show wpList _ _ _ (⟨_, Op.store _ _ _, _, _, _, _⟩ :: _) _ _); (first | refine Does.list (f_store hS rfl rfl rfl (by rfl) (by rfl)) rfl ?_ | refine Does.list (f_storeS hS rfl rfl rfl (by rfl) (by rfl) (by rfl)) rfl ?_); clear hS; rintro _ wx ⟨rfl, hS⟩; (simp only [List.set_cons_zero, List.set_cons_succ] at hS); (simp only [Act.put, List.setIfInBounds_toArray, List.set_cons_zero, List.set_cons_succ])) | ((with_reducible show wpList _ _ _ (⟨_, Op.alloc _, _, _, _, _⟩ :: _) _ _); refine Does.list (does_alloc hS rfl (by rfl)) rfl ?_; clear hS; rintro _ wx ⟨ba, rfl, hS, _⟩; (simp only [Act.put, List.setIfInBounds_toArray, List.set_cons_zero, List.set_cons_succ])) | ((with_reducible show wpList _ _ _ (⟨_, Op.buildSlice _ _ _, _, _, _, _⟩ :: _) _ _); refine Does.list (does_buildSlice (X := ?_) (cs := ?_) (E := ?_) hS rfl ?_ ?_) rfl ?_; rotate_left 3; (go_simp; rfl); rfl; clear hS; rintro _ wx ⟨bx, rfl, hS, _⟩; (simp only [Act.put, List.setIfInBounds_toArray, List.set_cons_zero, List.set_cons_succ])))
          go_roundw
          case rel => exact ⟨m / 10, dB (m / 10) ++ o, by simp, rfl, Lib.hid (dInv_s HI.out h9), ⟨by omega, by rw [ByteArray.size_append, dB_size]; omega⟩, hS.sel [] rfl (by decide)⟩
          case measure => simp [intOf]; omega
        · have h9I : ¬ (9 : Int) < (m : Int) := by omega
          have HO := Lib.hid (dInv_e HI.out h9)
          have hsz : ¬ 9223372036854775807 < 0 + o.size := by omega
          have hsz2 : ¬ 9223372036854775807 < o.size := by omega
          go_wp2_with (first | ((with_reducible show wpList _ _ _ (⟨_, Op.box _ _, _, _, _, _⟩ :: _) _ _); refine Does.list (does_box hS rfl rfl (by rfl)) rfl ?_; clear hS; rintro _ wx ⟨bo, rfl, hS, _⟩; (simp only [Act.put, List.setIfInBounds_toArray, List.set_cons_zero, List.set_cons_succ])) | ((with_reducible show wpList _ _ _ (⟨_, Op.load _ _, _, _, _, _⟩ :: _) _ _); (first | refine Gives.list (f_load hS rfl rfl (by rfl)) rfl ?_ | refine Gives.list (f_loadS hS rfl rfl (by rfl)) rfl ?_ | refine Gives.list (f_loadAt hS rfl rfl) rfl ?_ | refine Gives.list (f_loadAtS hS rfl rfl (by rfl)) rfl ?_ | refine Gives.list (f_loadAtF hS rfl rfl (by rfl)) rfl ?_); (simp only [Act.put, List.setIfInBounds_toArray, List.set_cons_zero, List.set_cons_succ])) | ((with_reducible show wpList _ _ _ (⟨_, Op.store _ _ _, _, _, _, _⟩ :: _) _ _); (first | refine Does.list (f_store hS rfl rfl rfl (by rfl) (by rfl)) rfl ?_ | refine Does.list (f_storeS hS rfl rfl rfl (by rfl) (by rfl) (by rfl)) rfl ?_); clear hS; rintro _ wx ⟨rfl, hS⟩; (simp only [List.set_cons_zero, List.set_cons_succ] at hS); (simp only [Act.put, List.setIfInBounds_toArray, List.set_cons_zero, List.set_cons_succ])) | ((with_reducible show wpList _ _ _ (⟨_, Op.alloc _, _, _, _, _⟩ :: _) _ _); refine Does.list (does_alloc hS rfl (by rfl)) rfl ?_; clear hS; rintro _ wx ⟨ba, rfl, hS, _⟩; (simp only [Act.put, List.setIfInBounds_toArray, List.set_cons_zero, List.set_cons_succ])) | ((with_reducible show wpList _ _ _ (⟨_, Op.buildSlice _ _ _, _, _, _, _⟩ :: _) _ _); refine Does.list (does_buildSlice (X := ?_) (cs := ?_) (E := ?_) hS rfl ?_ ?_) rfl ?_; rotate_left 3; (go_simp; rfl); rfl; clear hS; rintro _ wx ⟨bx, rfl, hS, _⟩; (simp only [Act.put, List.setIfInBounds_toArray, List.set_cons_zero, List.set_cons_succ])))
          go_ret
          exact ⟨by rw [HT.out, ← HO.out]; first | rfl | (congr 2; apply ByteArray.ext; simp), hS.mod0⟩
end Go.Proofs.YteafnieapifnnaaDoor
