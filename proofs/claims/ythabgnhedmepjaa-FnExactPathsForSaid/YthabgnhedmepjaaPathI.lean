/- PathsFor: contract of the program's function. -/
import Derived.Test.YthabgnhedmepjaaPathL
import Derived.Test.YthabgnhedmepjaaLeafI
namespace Go.Proofs.Ythabgnhedmepjaa
open Go.RowKit

theorem leafOf_bd {m : MemoryD} {a : Int} (hm : memOk m = true) (ha : inB a 0 7 = true) : 0 ≤ leafOf m a ∧ leafOf m a ≤ 3 := by
  have hex := mem_has hm ha
  obtain ⟨b0, hb0, hp0⟩ := List.any_eq_true.1 hex
  cases hf : (memAll m).find? (isAt a) with
  | none => exact absurd hp0 (List.find?_eq_none.1 hf b0 hb0)
  | some b =>
    have hb := List.mem_of_find?_eq_some hf
    unfold leafOf
    rw [hm, hf]
    unfold memOk at hm
    simp only [Bool.and_eq_true] at hm
    have h1 := List.all_eq_true.1 hm.1.1.2 b hb
    unfold blockOk at h1
    simp only [Bool.and_eq_true] at h1
    exact inB_of h1.2
theorem leafNow_bd {m : MemoryD} {us : List UseD} {a : Int} (hm : memOk m = true) (ha : inB a 0 7 = true) : ∀ k, (us.take k).all useOk = true → 0 ≤ leafNow m us k a ∧ leafNow m us k a ≤ 3
  | 0, _ => by rw [leafNow_zero]; exact leafOf_bd hm ha
  | k + 1, h => by
    by_cases hk : k < us.length
    · rw [List.take_succ_eq_append_getElem hk, List.all_append, Bool.and_eq_true] at h
      rw [leafNow_succ (List.getElem?_eq_getElem hk)]
      split
      · have h2 : useOk us[k] = true := by simpa using h.2
        unfold useOk at h2
        rw [Bool.and_eq_true] at h2
        exact inB_of h2.2
      · exact leafNow_bd hm ha k h.1
    · have e : us.take (k + 1) = us.take k := by rw [List.take_of_length_le (by omega), List.take_of_length_le (by omega)]
      have h2 := leafNow_bd hm ha k (by rw [← e]; exact h)
      unfold leafNow at h2 ⊢
      rw [e]
      exact h2
theorem memOk_nodup {m : MemoryD} (hm : memOk m = true) : (addrs (memAll m)).Nodup := by
  unfold memOk at hm
  simp only [Bool.and_eq_true, decide_eq_true_eq] at hm
  exact hm.1.2
set_option maxHeartbeats 4000000 in
set_option maxRecDepth 8000 in
theorem impl_PathsFor' (w : World) (cells : List Value) (F : List Nat) (m : MemoryD) (h : rMemory.has w F cells m) (v2 : Value) (F2 : List Nat) (us : List UseD) (h2 : SliceHas rUse w F2 [v2] us) (hall : (memAll m).length ≤ 1000000000) :
    Calls Try.prog 52 #[.agg cells.toArray, v2] w fun e w' => ∃ v', e = .returned v' ∧ Fresh Rep.int.rows w w' [v'] (pathsFor m us) := by
  obtain ⟨Au, cu, rfl, lu, _⟩ := SliceHas.form' h2
  have hS0 : Sat w w [.ro rMemory cells m, .ro rUse.slice [.slice Au us.length cu] us] := ((Sat.nil w).arg h2).arg h
  obtain ⟨Ab, cb, As, cs, rfl, hS⟩ := Sat.openRoMemory hS0
  replace hS : Sat w w [.ro rUse.slice [.slice Au us.length cu] us] := hS.sel [2] rfl (by decide)
  clear hS0 h2
  cases hok : memOk m
  case false =>
    have H := Lib.hid (pathsFor_mem (us := us) hok)
    go_enter Try.func52, Try.ntmps52
    go_wp2_with (first | ((with_reducible show wpList _ _ _ ({ dst := _, op := Op.box _ _, type := _, pos := _, after := _, guard := _ } :: _) _ _); refine Does.list (does_box hS rfl rfl (by rfl)) rfl ?_; clear hS; rintro _ wx ⟨bo, rfl, hS, _⟩; (simp only [Act.put, List.setIfInBounds_toArray, List.set_cons_zero, List.set_cons_succ])) | ((with_reducible show wpList _ _ _ ({ dst := _, op := Op.load _ _, type := _, pos := _, after := _, guard := _ } :: _) _ _); (first | refine Gives.list (f_load hS rfl rfl (by rfl)) rfl ?_ | refine Gives.list (f_loadS hS rfl rfl (by rfl)) rfl ?_ | refine Gives.list (f_loadAt hS rfl rfl) rfl ?_ | refine Gives.list (f_loadAtS hS rfl rfl (by rfl)) rfl ?_ | refine Gives.list (f_loadAtF hS rfl rfl (by rfl)) rfl ?_); (simp only [Act.put, List.setIfInBounds_toArray, List.set_cons_zero, List.set_cons_succ])) | ((with_reducible show wpList _ _ _ ({ dst := _, op := Op.store _ _ _, type := _, pos := _, after := _, guard := _ } :: _) _ _); (first | refine Does.list (f_store hS rfl rfl rfl (by rfl) (by rfl)) rfl ?_ | refine Does.list (f_storeS hS rfl rfl rfl (by rfl) (by rfl) (by rfl)) rfl ?_); clear hS; rintro _ wx ⟨rfl, hS⟩; (simp only [List.set_cons_zero, List.set_cons_succ] at hS); (simp only [Act.put, List.setIfInBounds_toArray, List.set_cons_zero, List.set_cons_succ])) | ((with_reducible show wpList _ _ _ ({ dst := _, op := Op.alloc _, type := _, pos := _, after := _, guard := _ } :: _) _ _); refine Does.list (does_alloc hS rfl (by rfl)) rfl ?_; clear hS; rintro _ wx ⟨ba, rfl, hS, _⟩; (simp only [Act.put, List.setIfInBounds_toArray, List.set_cons_zero, List.set_cons_succ])) | ((with_reducible show wpList _ _ _ ({ dst := _, op := Op.buildSlice _ _ _, type := _, pos := _, after := _, guard := _ } :: _) _ _); refine Does.list (does_buildSlice (X := ?_) (cs := ?_) (E := ?_) hS rfl ?_ ?_) rfl ?_; rotate_left 3; (go_simp; rfl); rfl; clear hS; rintro _ wx ⟨bx, rfl, hS, _⟩; (simp only [Act.put, List.setIfInBounds_toArray, List.set_cons_zero, List.set_cons_succ])) | (go_at_call 36; have hh := rMemory.mod0 h hS.mod0; refine (impl_MemoryValid' _ _ F m hh hall).mono ?_; clear hh; rintro e w' ⟨rfl, hM⟩; replace hS := hS.mod hM; clear hM))
    go_ret
    (exact ⟨_, rfl, by rw [H.out]; exact (Sat.nilRow Rep.int hS).result⟩)
  by_cases h40 : us.length ≤ 40
  case neg =>
    have H := Lib.hid (pathsFor_len (m := m) h40)
    have h40I : (40 : Int) < (us.length : Int) := by omega
    go_enter Try.func52, Try.ntmps52
    go_wp2_with (first | ((with_reducible show wpList _ _ _ ({ dst := _, op := Op.box _ _, type := _, pos := _, after := _, guard := _ } :: _) _ _); refine Does.list (does_box hS rfl rfl (by rfl)) rfl ?_; clear hS; rintro _ wx ⟨bo, rfl, hS, _⟩; (simp only [Act.put, List.setIfInBounds_toArray, List.set_cons_zero, List.set_cons_succ])) | ((with_reducible show wpList _ _ _ ({ dst := _, op := Op.load _ _, type := _, pos := _, after := _, guard := _ } :: _) _ _); (first | refine Gives.list (f_load hS rfl rfl (by rfl)) rfl ?_ | refine Gives.list (f_loadS hS rfl rfl (by rfl)) rfl ?_ | refine Gives.list (f_loadAt hS rfl rfl) rfl ?_ | refine Gives.list (f_loadAtS hS rfl rfl (by rfl)) rfl ?_ | refine Gives.list (f_loadAtF hS rfl rfl (by rfl)) rfl ?_); (simp only [Act.put, List.setIfInBounds_toArray, List.set_cons_zero, List.set_cons_succ])) | ((with_reducible show wpList _ _ _ ({ dst := _, op := Op.store _ _ _, type := _, pos := _, after := _, guard := _ } :: _) _ _); (first | refine Does.list (f_store hS rfl rfl rfl (by rfl) (by rfl)) rfl ?_ | refine Does.list (f_storeS hS rfl rfl rfl (by rfl) (by rfl) (by rfl)) rfl ?_); clear hS; rintro _ wx ⟨rfl, hS⟩; (simp only [List.set_cons_zero, List.set_cons_succ] at hS); (simp only [Act.put, List.setIfInBounds_toArray, List.set_cons_zero, List.set_cons_succ])) | ((with_reducible show wpList _ _ _ ({ dst := _, op := Op.alloc _, type := _, pos := _, after := _, guard := _ } :: _) _ _); refine Does.list (does_alloc hS rfl (by rfl)) rfl ?_; clear hS; rintro _ wx ⟨ba, rfl, hS, _⟩; (simp only [Act.put, List.setIfInBounds_toArray, List.set_cons_zero, List.set_cons_succ])) | ((with_reducible show wpList _ _ _ ({ dst := _, op := Op.buildSlice _ _ _, type := _, pos := _, after := _, guard := _ } :: _) _ _); refine Does.list (does_buildSlice (X := ?_) (cs := ?_) (E := ?_) hS rfl ?_ ?_) rfl ?_; rotate_left 3; (go_simp; rfl); rfl; clear hS; rintro _ wx ⟨bx, rfl, hS, _⟩; (simp only [Act.put, List.setIfInBounds_toArray, List.set_cons_zero, List.set_cons_succ])) | (go_at_call 36; have hh := rMemory.mod0 h hS.mod0; refine (impl_MemoryValid' _ _ F m hh hall).mono ?_; clear hh; rintro e w' ⟨rfl, hM⟩; replace hS := hS.mod hM; clear hM))
    go_ret
    (exact ⟨_, rfl, by rw [H.out]; exact (Sat.nilRow Rep.int hS).result⟩)
  have h40I : ¬ (40 : Int) < (us.length : Int) := by omega
  have Hok := Lib.hid hok
  have Hnd := Lib.hid (memOk_nodup hok)
  go_enter Try.func52, Try.ntmps52
  go_wp2_with (first | ((with_reducible show wpList _ _ _ ({ dst := _, op := Op.box _ _, type := _, pos := _, after := _, guard := _ } :: _) _ _); refine Does.list (does_box hS rfl rfl (by rfl)) rfl ?_; clear hS; rintro _ wx ⟨bo, rfl, hS, _⟩; (simp only [Act.put, List.setIfInBounds_toArray, List.set_cons_zero, List.set_cons_succ])) | ((with_reducible show wpList _ _ _ ({ dst := _, op := Op.load _ _, type := _, pos := _, after := _, guard := _ } :: _) _ _); (first | refine Gives.list (f_load hS rfl rfl (by rfl)) rfl ?_ | refine Gives.list (f_loadS hS rfl rfl (by rfl)) rfl ?_ | refine Gives.list (f_loadAt hS rfl rfl) rfl ?_ | refine Gives.list (f_loadAtS hS rfl rfl (by rfl)) rfl ?_ | refine Gives.list (f_loadAtF hS rfl rfl (by rfl)) rfl ?_); (simp only [Act.put, List.setIfInBounds_toArray, List.set_cons_zero, List.set_cons_succ])) | ((with_reducible show wpList _ _ _ ({ dst := _, op := Op.store _ _ _, type := _, pos := _, after := _, guard := _ } :: _) _ _); (first | refine Does.list (f_store hS rfl rfl rfl (by rfl) (by rfl)) rfl ?_ | refine Does.list (f_storeS hS rfl rfl rfl (by rfl) (by rfl) (by rfl)) rfl ?_); clear hS; rintro _ wx ⟨rfl, hS⟩; (simp only [List.set_cons_zero, List.set_cons_succ] at hS); (simp only [Act.put, List.setIfInBounds_toArray, List.set_cons_zero, List.set_cons_succ])) | ((with_reducible show wpList _ _ _ ({ dst := _, op := Op.alloc _, type := _, pos := _, after := _, guard := _ } :: _) _ _); refine Does.list (does_alloc hS rfl (by rfl)) rfl ?_; clear hS; rintro _ wx ⟨ba, rfl, hS, _⟩; (simp only [Act.put, List.setIfInBounds_toArray, List.set_cons_zero, List.set_cons_succ])) | ((with_reducible show wpList _ _ _ ({ dst := _, op := Op.buildSlice _ _ _, type := _, pos := _, after := _, guard := _ } :: _) _ _); refine Does.list (does_buildSlice (X := ?_) (cs := ?_) (E := ?_) hS rfl ?_ ?_) rfl ?_; rotate_left 3; (go_simp; rfl); rfl; clear hS; rintro _ wx ⟨bx, rfl, hS, _⟩; (simp only [Act.put, List.setIfInBounds_toArray, List.set_cons_zero, List.set_cons_succ])) | (go_at_call 36; have hh := rMemory.mod0 h hS.mod0; refine (impl_MemoryValid' _ _ F m hh hall).mono ?_; clear hh; rintro e w' ⟨rfl, hM⟩; replace hS := hS.mod hM; clear hM) | ((with_reducible show wpList _ _ _ ({ dst := _, op := Op.makeMap _ _, type := _, pos := _, after := _, guard := _ } :: _) _ _); refine Does.list (f_makeDict hS rfl) rfl ?_; clear hS; rintro _ wx ⟨ma, rfl, hS, _⟩; (simp only [Act.put, List.setIfInBounds_toArray, List.set_cons_zero, List.set_cons_succ])) | (go_at_call 74; have hh := rMemory.mod0 h hS.mod0; refine (impl_all _ _ F m hh hall).mono ?_; clear hh; rintro e wy ⟨v, rfl, hN⟩; replace hS := hS.fresh hN; clear hN; obtain ⟨A2, c2, rfl⟩ := hS.formOwn 0 rfl; replace hS := Sat.still (e' := rBlock.slice) hS))
  have Hall := Lib.hid hall
  clear hok hall
  go_loopw [23] (fun i wr => ∃ (k : Nat) (dd : List (Int × Value)), k ≤ (memAll m).length ∧ i = .int .i64 k ∧ (∀ x ∈ (memAll m).take k, dGet dd x.1 = some (.int .i64 x.2.2)) ∧ Sat w wr [.ro rBlock.slice [.slice A2 (memAll m).length c2] (memAll m), .own Rep.dict [.map (some ma)] dd, .box bo [.slice Ab m.1.length cb, .slice As m.2.length cs], .ro rUse.slice [.slice Au us.length cu] us]) (fun i _ => (memAll m).length - (intOf i).toNat)
  case atStart => exact ⟨0, [], Nat.zero_le _, rfl, by simp, hS⟩
  case round =>
    clear hS
    obtain ⟨k, dd, hk, rfl, hd, hS⟩ := hrel
    have hlb : (memAll m).length ≤ 1000000000 := Hall.out
    by_cases hlt : k < (memAll m).length
    · have hx := get_some hlt
      generalize (memAll m)[k] = b at hx
      have Hd2 := Lib.hid (dict_step Hnd.out hx hd)
      have Hx := Lib.hid hx
      clear hx hd
      obtain ⟨b1, b2, b3⟩ := b
      obtain ⟨ad, rfl, j0, j1, j2, hS⟩ := hS.elBlock A2 (memAll m).length c2 Hx.out
      dsimp only at hS
      go_wp2_with (first | ((with_reducible show wpList _ _ _ ({ dst := _, op := Op.box _ _, type := _, pos := _, after := _, guard := _ } :: _) _ _); refine Does.list (does_box hS rfl rfl (by rfl)) rfl ?_; clear hS; rintro _ wx ⟨bo, rfl, hS, _⟩; (simp only [Act.put, List.setIfInBounds_toArray, List.set_cons_zero, List.set_cons_succ])) | ((with_reducible show wpList _ _ _ ({ dst := _, op := Op.load _ _, type := _, pos := _, after := _, guard := _ } :: _) _ _); (first | refine Gives.list (f_load hS rfl rfl (by rfl)) rfl ?_ | refine Gives.list (f_loadS hS rfl rfl (by rfl)) rfl ?_ | refine Gives.list (f_loadAt hS rfl rfl) rfl ?_ | refine Gives.list (f_loadAtS hS rfl rfl (by rfl)) rfl ?_ | refine Gives.list (f_loadAtF hS rfl rfl (by rfl)) rfl ?_); (simp only [Act.put, List.setIfInBounds_toArray, List.set_cons_zero, List.set_cons_succ])) | ((with_reducible show wpList _ _ _ ({ dst := _, op := Op.store _ _ _, type := _, pos := _, after := _, guard := _ } :: _) _ _); (first | refine Does.list (f_store hS rfl rfl rfl (by rfl) (by rfl)) rfl ?_ | refine Does.list (f_storeS hS rfl rfl rfl (by rfl) (by rfl) (by rfl)) rfl ?_); clear hS; rintro _ wx ⟨rfl, hS⟩; (simp only [List.set_cons_zero, List.set_cons_succ] at hS); (simp only [Act.put, List.setIfInBounds_toArray, List.set_cons_zero, List.set_cons_succ])) | ((with_reducible show wpList _ _ _ ({ dst := _, op := Op.alloc _, type := _, pos := _, after := _, guard := _ } :: _) _ _); refine Does.list (does_alloc hS rfl (by rfl)) rfl ?_; clear hS; rintro _ wx ⟨ba, rfl, hS, _⟩; (simp only [Act.put, List.setIfInBounds_toArray, List.set_cons_zero, List.set_cons_succ])) | ((with_reducible show wpList _ _ _ ({ dst := _, op := Op.buildSlice _ _ _, type := _, pos := _, after := _, guard := _ } :: _) _ _); refine Does.list (does_buildSlice (X := ?_) (cs := ?_) (E := ?_) hS rfl ?_ ?_) rfl ?_; rotate_left 3; (go_simp; rfl); rfl; clear hS; rintro _ wx ⟨bx, rfl, hS, _⟩; (simp only [Act.put, List.setIfInBounds_toArray, List.set_cons_zero, List.set_cons_succ])) | ((with_reducible show wpList _ _ _ ({ dst := _, op := Op.mapUpdate _ _ _ _, type := _, pos := _, after := _, guard := _ } :: _) _ _); refine Does.list (f_put hS rfl rfl rfl rfl) rfl ?_; clear hS; rintro _ wx ⟨rfl, hS⟩; (simp only [List.set_cons_zero, List.set_cons_succ] at hS); (simp only [Act.put, List.setIfInBounds_toArray, List.set_cons_zero, List.set_cons_succ])))
      go_roundw
      case rel => exact ⟨k + 1, _, hlt, by go_num, Hd2.out, hS.sel [2, 3, 4, 5] rfl (by decide)⟩
      case measure => simp [intOf]; omega
    · obtain rfl : k = (memAll m).length := by omega
      rw [List.take_length] at hd
      have Hd : Hid (∀ a, inB a 0 7 = true → dGet dd a = some (.int .i64 (leafNow m us 0 a))) := fun a ha => by
        rw [leafNow_zero]
        exact dict_leaf Hok.out hd ha (mem_has Hok.out ha)
      clear hd
      go_wp2_with (first | ((with_reducible show wpList _ _ _ ({ dst := _, op := Op.box _ _, type := _, pos := _, after := _, guard := _ } :: _) _ _); refine Does.list (does_box hS rfl rfl (by rfl)) rfl ?_; clear hS; rintro _ wx ⟨bo, rfl, hS, _⟩; (simp only [Act.put, List.setIfInBounds_toArray, List.set_cons_zero, List.set_cons_succ])) | ((with_reducible show wpList _ _ _ ({ dst := _, op := Op.load _ _, type := _, pos := _, after := _, guard := _ } :: _) _ _); (first | refine Gives.list (f_load hS rfl rfl (by rfl)) rfl ?_ | refine Gives.list (f_loadS hS rfl rfl (by rfl)) rfl ?_ | refine Gives.list (f_loadAt hS rfl rfl) rfl ?_ | refine Gives.list (f_loadAtS hS rfl rfl (by rfl)) rfl ?_ | refine Gives.list (f_loadAtF hS rfl rfl (by rfl)) rfl ?_); (simp only [Act.put, List.setIfInBounds_toArray, List.set_cons_zero, List.set_cons_succ])) | ((with_reducible show wpList _ _ _ ({ dst := _, op := Op.store _ _ _, type := _, pos := _, after := _, guard := _ } :: _) _ _); (first | refine Does.list (f_store hS rfl rfl rfl (by rfl) (by rfl)) rfl ?_ | refine Does.list (f_storeS hS rfl rfl rfl (by rfl) (by rfl) (by rfl)) rfl ?_); clear hS; rintro _ wx ⟨rfl, hS⟩; (simp only [List.set_cons_zero, List.set_cons_succ] at hS); (simp only [Act.put, List.setIfInBounds_toArray, List.set_cons_zero, List.set_cons_succ])) | ((with_reducible show wpList _ _ _ ({ dst := _, op := Op.alloc _, type := _, pos := _, after := _, guard := _ } :: _) _ _); refine Does.list (does_alloc hS rfl (by rfl)) rfl ?_; clear hS; rintro _ wx ⟨ba, rfl, hS, _⟩; (simp only [Act.put, List.setIfInBounds_toArray, List.set_cons_zero, List.set_cons_succ])) | ((with_reducible show wpList _ _ _ ({ dst := _, op := Op.buildSlice _ _ _, type := _, pos := _, after := _, guard := _ } :: _) _ _); refine Does.list (does_buildSlice (X := ?_) (cs := ?_) (E := ?_) hS rfl ?_ ?_) rfl ?_; rotate_left 3; (go_simp; rfl); rfl; clear hS; rintro _ wx ⟨bx, rfl, hS, _⟩; (simp only [Act.put, List.setIfInBounds_toArray, List.set_cons_zero, List.set_cons_succ])))
      replace hS : Sat w wr [.own Rep.int.rows [.slice none 0 0] (pathsTo m us 0), .own Rep.dict [.map (some ma)] dd, .box bo [.slice Ab m.1.length cb, .slice As m.2.length cs], .ro rUse.slice [.slice Au us.length cu] us] := (Sat.nilRow Rep.int hS).sel [0, 2, 3, 4] rfl (by decide)
      go_loopw [35, 8] (fun i s wr => ∃ (k : Nat) (B : Option Addr) (q : Nat) (d2 : List (Int × Value)), k ≤ us.length ∧ i = .int .i64 k ∧ s = .slice B (pathsTo m us k).length q ∧ (us.take k).all useOk = true ∧ (∀ a, inB a 0 7 = true → dGet d2 a = some (.int .i64 (leafNow m us k a))) ∧ Sat w wr [.own Rep.int.rows [.slice B (pathsTo m us k).length q] (pathsTo m us k), .own Rep.dict [.map (some ma)] d2, .box bo [.slice Ab m.1.length cb, .slice As m.2.length cs], .ro rUse.slice [.slice Au us.length cu] us]) (fun i _ _ => us.length - (intOf i).toNat)
      case atStart => exact ⟨0, none, 0, dd, Nat.zero_le _, rfl, rfl, rfl, Hd.out, hS⟩
      case round =>
        clear hS Hd
        obtain ⟨k, B, q, d2, hk2, rfl, rfl, ho, hd, hS⟩ := hrel
        have hpl : (pathsTo m us k).length ≤ 120 := by have := pathsTo_len (m := m) (us := us) (k := k); omega
        by_cases hlt2 : k < us.length
        · have hx := get_some hlt2
          obtain ⟨⟨u1, u2, u3, u4⟩, hu⟩ : ∃ u, us[k] = u := ⟨_, rfl⟩
          cases huo : useOk us[k]
          · have H := Lib.hid (pathsFor_use (m := m) hx huo)
            rw [hu] at hx huo
            clear ho hu hd
            have Hx := Lib.hid hx
            clear hx
            obtain ⟨ad, rfl, j0, j1, j2, hS⟩ := hS.elUse Au us.length cu Hx.out
            unfold useOk at huo
            dsimp only at huo hS
            cases h1 : inB u1 0 7
            · clear huo
              go_wp2_with (first | ((with_reducible show wpList _ _ _ ({ dst := _, op := Op.box _ _, type := _, pos := _, after := _, guard := _ } :: _) _ _); refine Does.list (does_box hS rfl rfl (by rfl)) rfl ?_; clear hS; rintro _ wx ⟨bo, rfl, hS, _⟩; (simp only [Act.put, List.setIfInBounds_toArray, List.set_cons_zero, List.set_cons_succ])) | ((with_reducible show wpList _ _ _ ({ dst := _, op := Op.load _ _, type := _, pos := _, after := _, guard := _ } :: _) _ _); (first | refine Gives.list (f_load hS rfl rfl (by rfl)) rfl ?_ | refine Gives.list (f_loadS hS rfl rfl (by rfl)) rfl ?_ | refine Gives.list (f_loadAt hS rfl rfl) rfl ?_ | refine Gives.list (f_loadAtS hS rfl rfl (by rfl)) rfl ?_ | refine Gives.list (f_loadAtF hS rfl rfl (by rfl)) rfl ?_); (simp only [Act.put, List.setIfInBounds_toArray, List.set_cons_zero, List.set_cons_succ])) | ((with_reducible show wpList _ _ _ ({ dst := _, op := Op.store _ _ _, type := _, pos := _, after := _, guard := _ } :: _) _ _); (first | refine Does.list (f_store hS rfl rfl rfl (by rfl) (by rfl)) rfl ?_ | refine Does.list (f_storeS hS rfl rfl rfl (by rfl) (by rfl) (by rfl)) rfl ?_); clear hS; rintro _ wx ⟨rfl, hS⟩; (simp only [List.set_cons_zero, List.set_cons_succ] at hS); (simp only [Act.put, List.setIfInBounds_toArray, List.set_cons_zero, List.set_cons_succ])) | ((with_reducible show wpList _ _ _ ({ dst := _, op := Op.alloc _, type := _, pos := _, after := _, guard := _ } :: _) _ _); refine Does.list (does_alloc hS rfl (by rfl)) rfl ?_; clear hS; rintro _ wx ⟨ba, rfl, hS, _⟩; (simp only [Act.put, List.setIfInBounds_toArray, List.set_cons_zero, List.set_cons_succ])) | ((with_reducible show wpList _ _ _ ({ dst := _, op := Op.buildSlice _ _ _, type := _, pos := _, after := _, guard := _ } :: _) _ _); refine Does.list (does_buildSlice (X := ?_) (cs := ?_) (E := ?_) hS rfl ?_ ?_) rfl ?_; rotate_left 3; (go_simp; rfl); rfl; clear hS; rintro _ wx ⟨bx, rfl, hS, _⟩; (simp only [Act.put, List.setIfInBounds_toArray, List.set_cons_zero, List.set_cons_succ])) | (go_at_call 75; refine (impl_isAddress _ _).mono ?_; rintro e w' ⟨rfl, rfl⟩) | (go_at_call 76; refine (impl_isLeaf _ _).mono ?_; rintro e w' ⟨rfl, rfl⟩))
              go_ret
              (exact ⟨_, rfl, by rw [H.out]; exact (Sat.nilRow Rep.int hS).result⟩)
            · have h4 : inB u4 0 3 = false := by rw [h1] at huo; simpa using huo
              clear huo
              go_wp2_with (first | ((with_reducible show wpList _ _ _ ({ dst := _, op := Op.box _ _, type := _, pos := _, after := _, guard := _ } :: _) _ _); refine Does.list (does_box hS rfl rfl (by rfl)) rfl ?_; clear hS; rintro _ wx ⟨bo, rfl, hS, _⟩; (simp only [Act.put, List.setIfInBounds_toArray, List.set_cons_zero, List.set_cons_succ])) | ((with_reducible show wpList _ _ _ ({ dst := _, op := Op.load _ _, type := _, pos := _, after := _, guard := _ } :: _) _ _); (first | refine Gives.list (f_load hS rfl rfl (by rfl)) rfl ?_ | refine Gives.list (f_loadS hS rfl rfl (by rfl)) rfl ?_ | refine Gives.list (f_loadAt hS rfl rfl) rfl ?_ | refine Gives.list (f_loadAtS hS rfl rfl (by rfl)) rfl ?_ | refine Gives.list (f_loadAtF hS rfl rfl (by rfl)) rfl ?_); (simp only [Act.put, List.setIfInBounds_toArray, List.set_cons_zero, List.set_cons_succ])) | ((with_reducible show wpList _ _ _ ({ dst := _, op := Op.store _ _ _, type := _, pos := _, after := _, guard := _ } :: _) _ _); (first | refine Does.list (f_store hS rfl rfl rfl (by rfl) (by rfl)) rfl ?_ | refine Does.list (f_storeS hS rfl rfl rfl (by rfl) (by rfl) (by rfl)) rfl ?_); clear hS; rintro _ wx ⟨rfl, hS⟩; (simp only [List.set_cons_zero, List.set_cons_succ] at hS); (simp only [Act.put, List.setIfInBounds_toArray, List.set_cons_zero, List.set_cons_succ])) | ((with_reducible show wpList _ _ _ ({ dst := _, op := Op.alloc _, type := _, pos := _, after := _, guard := _ } :: _) _ _); refine Does.list (does_alloc hS rfl (by rfl)) rfl ?_; clear hS; rintro _ wx ⟨ba, rfl, hS, _⟩; (simp only [Act.put, List.setIfInBounds_toArray, List.set_cons_zero, List.set_cons_succ])) | ((with_reducible show wpList _ _ _ ({ dst := _, op := Op.buildSlice _ _ _, type := _, pos := _, after := _, guard := _ } :: _) _ _); refine Does.list (does_buildSlice (X := ?_) (cs := ?_) (E := ?_) hS rfl ?_ ?_) rfl ?_; rotate_left 3; (go_simp; rfl); rfl; clear hS; rintro _ wx ⟨bx, rfl, hS, _⟩; (simp only [Act.put, List.setIfInBounds_toArray, List.set_cons_zero, List.set_cons_succ])) | (go_at_call 75; refine (impl_isAddress _ _).mono ?_; rintro e w' ⟨rfl, rfl⟩) | (go_at_call 76; refine (impl_isLeaf _ _).mono ?_; rintro e w' ⟨rfl, rfl⟩))
              go_ret
              (exact ⟨_, rfl, by rw [H.out]; exact (Sat.nilRow Rep.int hS).result⟩)
          · have ho2' : (us.take (k + 1)).all useOk = true := by
              rw [List.take_succ_eq_append_getElem hlt2, List.all_append, ho]
              simp [huo]
            have ho2 := Lib.hid ho2'
            clear ho2'
            rw [hu] at hx huo
            obtain ⟨hin1, hin4⟩ : inB u1 0 7 = true ∧ inB u4 0 3 = true := by
              unfold useOk at huo
              simpa using huo
            have HP := Lib.hid (pathsTo_succ (m := m) hx)
            have Hget := Lib.hid (hd u1 hin1)
            have Hd2 := Lib.hid (dict_use hx hd)
            obtain ⟨hb0, hb1⟩ := leafNow_bd Hok.out hin1 k ho
            have hpe : pathOfF (leafNow m us k u1) = pathF (leafNow m us k u1) := by unfold pathOfF; rw [if_pos ⟨hb0, hb1⟩]
            have Hpe := Lib.hid hpe
            have hp3 : (pathF (leafNow m us k u1)).length = 3 := rfl
            have Hp3 := Lib.hid hp3
            have Hx := Lib.hid hx
            clear hx hu ho huo hd hpe hp3
            obtain ⟨ad, rfl, j0, j1, j2, hS⟩ := hS.elUse Au us.length cu Hx.out
            dsimp only at hS
            go_wp2_with (first | ((with_reducible show wpList _ _ _ ({ dst := _, op := Op.box _ _, type := _, pos := _, after := _, guard := _ } :: _) _ _); refine Does.list (does_box hS rfl rfl (by rfl)) rfl ?_; clear hS; rintro _ wx ⟨bo, rfl, hS, _⟩; (simp only [Act.put, List.setIfInBounds_toArray, List.set_cons_zero, List.set_cons_succ])) | ((with_reducible show wpList _ _ _ ({ dst := _, op := Op.load _ _, type := _, pos := _, after := _, guard := _ } :: _) _ _); (first | refine Gives.list (f_load hS rfl rfl (by rfl)) rfl ?_ | refine Gives.list (f_loadS hS rfl rfl (by rfl)) rfl ?_ | refine Gives.list (f_loadAt hS rfl rfl) rfl ?_ | refine Gives.list (f_loadAtS hS rfl rfl (by rfl)) rfl ?_ | refine Gives.list (f_loadAtF hS rfl rfl (by rfl)) rfl ?_); (simp only [Act.put, List.setIfInBounds_toArray, List.set_cons_zero, List.set_cons_succ])) | ((with_reducible show wpList _ _ _ ({ dst := _, op := Op.store _ _ _, type := _, pos := _, after := _, guard := _ } :: _) _ _); (first | refine Does.list (f_store hS rfl rfl rfl (by rfl) (by rfl)) rfl ?_ | refine Does.list (f_storeS hS rfl rfl rfl (by rfl) (by rfl) (by rfl)) rfl ?_); clear hS; rintro _ wx ⟨rfl, hS⟩; (simp only [List.set_cons_zero, List.set_cons_succ] at hS); (simp only [Act.put, List.setIfInBounds_toArray, List.set_cons_zero, List.set_cons_succ])) | ((with_reducible show wpList _ _ _ ({ dst := _, op := Op.alloc _, type := _, pos := _, after := _, guard := _ } :: _) _ _); refine Does.list (does_alloc hS rfl (by rfl)) rfl ?_; clear hS; rintro _ wx ⟨ba, rfl, hS, _⟩; (simp only [Act.put, List.setIfInBounds_toArray, List.set_cons_zero, List.set_cons_succ])) | ((with_reducible show wpList _ _ _ ({ dst := _, op := Op.buildSlice _ _ _, type := _, pos := _, after := _, guard := _ } :: _) _ _); refine Does.list (does_buildSlice (X := ?_) (cs := ?_) (E := ?_) hS rfl ?_ ?_) rfl ?_; rotate_left 3; (go_simp; rfl); rfl; clear hS; rintro _ wx ⟨bx, rfl, hS, _⟩; (simp only [Act.put, List.setIfInBounds_toArray, List.set_cons_zero, List.set_cons_succ])) | (go_at_call 75; refine (impl_isAddress _ _).mono ?_; rintro e w' ⟨rfl, rfl⟩) | (go_at_call 76; refine (impl_isLeaf _ _).mono ?_; rintro e w' ⟨rfl, rfl⟩) | ((with_reducible show wpList _ _ _ ({ dst := _, op := Op.lookup _ _ _ _, type := _, pos := _, after := _, guard := _ } :: _) _ _); refine Gives.list (f_get hS rfl rfl rfl (u := .int .i64 (leafNow m us k u1)) (by rw [Hget.out]; rfl)) rfl ?_; (simp only [Act.put, List.setIfInBounds_toArray, List.set_cons_zero, List.set_cons_succ])) | (go_at_call 80; refine (impl_path _ _ hb0 hb1).mono ?_; rintro e w' ⟨v, rfl, hN⟩; replace hS := hS.fresh hN; clear hN; obtain ⟨A3, c3, rfl⟩ := hS.formW 0 rfl; replace hS := Sat.still (e' := Rep.int.slice) hS) | (rw [Hp3.out] at hS ⊢; ((with_reducible show wpList _ _ _ ({ dst := _, op := Op.call { callee := Callee.builtin Builtin.append, args := _, argTypes := _ }, type := _, pos := _, after := _, guard := _ } :: _) _ _); refine Does.list (f_appendFlat Rep.int Rep.int hS rfl rfl rfl rfl rfl rfl (by decide) (by omega)) rfl ?_; clear hS; rintro _ wx ⟨A2, c2, rfl, hS⟩; (simp only [List.set_cons_zero, List.set_cons_succ] at hS); (simp only [Act.put, List.setIfInBounds_toArray, List.set_cons_zero, List.set_cons_succ]))) | ((with_reducible show wpList _ _ _ ({ dst := _, op := Op.mapUpdate _ _ _ _, type := _, pos := _, after := _, guard := _ } :: _) _ _); refine Does.list (f_put hS rfl rfl rfl rfl) rfl ?_; clear hS; rintro _ wx ⟨rfl, hS⟩; (simp only [List.set_cons_zero, List.set_cons_succ] at hS); (simp only [Act.put, List.setIfInBounds_toArray, List.set_cons_zero, List.set_cons_succ])))
            go_roundw
            case rel => exact ⟨k + 1, _, _, _, hlt2, by go_num, by rw [HP.out, List.length_append, Hpe.out, Hp3.out], ho2.out, Hd2.out, by rw [HP.out, List.length_append, Hpe.out, Hp3.out]; exact hS.sel [3, 4, 5, 6] rfl (by decide)⟩
            case measure => simp [intOf]; omega
        · obtain rfl : k = us.length := by omega
          rw [List.take_length] at ho
          have H := Lib.hid (pathsFor_ok Hok.out h40 ho)
          clear hd
          go_wp2_with (first | ((with_reducible show wpList _ _ _ ({ dst := _, op := Op.box _ _, type := _, pos := _, after := _, guard := _ } :: _) _ _); refine Does.list (does_box hS rfl rfl (by rfl)) rfl ?_; clear hS; rintro _ wx ⟨bo, rfl, hS, _⟩; (simp only [Act.put, List.setIfInBounds_toArray, List.set_cons_zero, List.set_cons_succ])) | ((with_reducible show wpList _ _ _ ({ dst := _, op := Op.load _ _, type := _, pos := _, after := _, guard := _ } :: _) _ _); (first | refine Gives.list (f_load hS rfl rfl (by rfl)) rfl ?_ | refine Gives.list (f_loadS hS rfl rfl (by rfl)) rfl ?_ | refine Gives.list (f_loadAt hS rfl rfl) rfl ?_ | refine Gives.list (f_loadAtS hS rfl rfl (by rfl)) rfl ?_ | refine Gives.list (f_loadAtF hS rfl rfl (by rfl)) rfl ?_); (simp only [Act.put, List.setIfInBounds_toArray, List.set_cons_zero, List.set_cons_succ])) | ((with_reducible show wpList _ _ _ ({ dst := _, op := Op.store _ _ _, type := _, pos := _, after := _, guard := _ } :: _) _ _); (first | refine Does.list (f_store hS rfl rfl rfl (by rfl) (by rfl)) rfl ?_ | refine Does.list (f_storeS hS rfl rfl rfl (by rfl) (by rfl) (by rfl)) rfl ?_); clear hS; rintro _ wx ⟨rfl, hS⟩; (simp only [List.set_cons_zero, List.set_cons_succ] at hS); (simp only [Act.put, List.setIfInBounds_toArray, List.set_cons_zero, List.set_cons_succ])) | ((with_reducible show wpList _ _ _ ({ dst := _, op := Op.alloc _, type := _, pos := _, after := _, guard := _ } :: _) _ _); refine Does.list (does_alloc hS rfl (by rfl)) rfl ?_; clear hS; rintro _ wx ⟨ba, rfl, hS, _⟩; (simp only [Act.put, List.setIfInBounds_toArray, List.set_cons_zero, List.set_cons_succ])) | ((with_reducible show wpList _ _ _ ({ dst := _, op := Op.buildSlice _ _ _, type := _, pos := _, after := _, guard := _ } :: _) _ _); refine Does.list (does_buildSlice (X := ?_) (cs := ?_) (E := ?_) hS rfl ?_ ?_) rfl ?_; rotate_left 3; (go_simp; rfl); rfl; clear hS; rintro _ wx ⟨bx, rfl, hS, _⟩; (simp only [Act.put, List.setIfInBounds_toArray, List.set_cons_zero, List.set_cons_succ])))
          go_ret
          exact ⟨_, rfl, by rw [H.out]; exact hS.result⟩
end Go.Proofs.Ythabgnhedmepjaa
