/- SameShapes. -/
import Derived.Test.YtnbaekjednmfjaaDoorShpS
import Derived.Test.YtnbaekjednmfjaaDoorEqL
namespace Go.Proofs.YtnbaekjednmfjaaDoor
open Go.RowKit

def sameShapes (a b : List ShapeD) : Bool := shapesOk a && (shapesOk b && eqB a b)
theorem sameSh_a {a b : List ShapeD} (h : shapesOk a = false) : sameShapes a b = false := by unfold sameShapes; rw [h]; rfl
theorem sameSh_b {a b : List ShapeD} (h : shapesOk b = false) : sameShapes a b = false := by unfold sameShapes; rw [h]; simp
theorem sameSh_ne {a b : List ShapeD} (h : a ≠ b) : sameShapes a b = false := by unfold sameShapes; rw [eqB_f h]; simp
theorem sameSh_eq {a b : List ShapeD} (h1 : shapesOk a = true) (h2 : shapesOk b = true) : sameShapes a b = eqB a b := by unfold sameShapes; rw [h1, h2]; rfl

set_option maxHeartbeats 4000000 in
set_option maxRecDepth 8000 in
theorem clo_SameShapes (w : World) (F G : List Nat) (n0 m0 : ByteArray) (n1 m1 : List ByteArray) (n2 m2 : Int) (A1 B1 : Option Addr) (c1 d1 : Nat)
    (hx : SliceHas Rep.str w F [.slice A1 n1.length c1] n1) (hy : SliceHas Rep.str w G [.slice B1 m1.length d1] m1) :
    Calls Tryd.prog 25 #[.agg #[.string n0, .slice A1 n1.length c1, .int .i64 n2], .agg #[.string m0, .slice B1 m1.length d1, .int .i64 m2]] w fun e w' => e = .returned (.bool (eqB ((n0, n1, n2) : ShapeD) (m0, m1, m2))) ∧ Mod [] w w' := by
  have hS : Sat w w [.ro Rep.str.slice [.slice A1 n1.length c1] n1, .ro Rep.str.slice [.slice B1 m1.length d1] m1] := ((Sat.nil w).arg hy).arg hx
  clear hx hy
  have hh : (n0 ≠ m0) ∨ (n0 = m0 ∧ n1 ≠ m1) ∨ (n0 = m0 ∧ n1 = m1 ∧ n2 ≠ m2) ∨ (n0 = m0 ∧ n1 = m1 ∧ n2 = m2) := by
    by_cases h0 : n0 = m0
    · by_cases h1 : n1 = m1
      · by_cases h2 : n2 = m2
        · exact .inr (.inr (.inr ⟨h0, h1, h2⟩))
        · exact .inr (.inr (.inl ⟨h0, h1, h2⟩))
      · exact .inr (.inl ⟨h0, h1⟩)
    · exact .inl h0
  rcases hh with h0 | ⟨h0, h1⟩ | ⟨h0, h1, h2⟩ | ⟨h0, h1, h2⟩
  · have t0 := toList_f h0
    have H : Hid (eqB ((n0, n1, n2) : ShapeD) (m0, m1, m2) = false) := Lib.hid (eqB_f (by simp [h0]))
    clear h0
    go_enter Tryd.func25, Tryd.ntmps25
    go_wp2_with (first | ((with_reducible show wpList _ _ _ (⟨_, Op.box _ _, _, _, _, _⟩ :: _) _ _); refine Does.list (does_box hS rfl rfl (by rfl)) rfl ?_; clear hS; rintro _ wx ⟨bo, rfl, hS, _⟩; (simp only [Act.put, List.setIfInBounds_toArray, List.set_cons_zero, List.set_cons_succ])) | ((with_reducible show wpList _ _ _ (⟨_, Op.load _ _, _, _, _, _⟩ :: _) _ _); (first | refine Gives.list (f_load hS rfl rfl (by rfl)) rfl ?_ | refine Gives.list (f_loadS hS rfl rfl (by rfl)) rfl ?_ | refine Gives.list (f_loadAt hS rfl rfl) rfl ?_ | refine Gives.list (f_loadAtS hS rfl rfl (by rfl)) rfl ?_ | refine Gives.list (f_loadAtF hS rfl rfl (by rfl)) rfl ?_); (simp only [Act.put, List.setIfInBounds_toArray, List.set_cons_zero, List.set_cons_succ])) | ((with_reducible show wpList _ _ _ (⟨_, Op.store _ _ _, _, _, _, _⟩ :: _) _ _); (first | refine Does.list (f_store hS rfl rfl rfl (by rfl) (by rfl)) rfl ?_ | refine Does.list (f_storeS hS rfl rfl rfl (by rfl) (by rfl) (by rfl)) rfl ?_); clear hS; rintro _ wx ⟨rfl, hS⟩; (simp only [List.set_cons_zero, List.set_cons_succ] at hS); (simp only [Act.put, List.setIfInBounds_toArray, List.set_cons_zero, List.set_cons_succ])) | ((with_reducible show wpList _ _ _ (⟨_, Op.alloc _, _, _, _, _⟩ :: _) _ _); refine Does.list (does_alloc hS rfl (by rfl)) rfl ?_; clear hS; rintro _ wx ⟨ba, rfl, hS, _⟩; (simp only [Act.put, List.setIfInBounds_toArray, List.set_cons_zero, List.set_cons_succ])) | ((with_reducible show wpList _ _ _ (⟨_, Op.buildSlice _ _ _, _, _, _, _⟩ :: _) _ _); refine Does.list (does_buildSlice (X := ?_) (cs := ?_) (E := ?_) hS rfl ?_ ?_) rfl ?_; rotate_left 3; (go_simp; rfl); rfl; clear hS; rintro _ wx ⟨bx, rfl, hS, _⟩; (simp only [Act.put, List.setIfInBounds_toArray, List.set_cons_zero, List.set_cons_succ])) | fail | ((with_reducible show wpD _ _ _ [] _ _); refine D_nil ?_) | ((with_reducible show wpD _ _ _ ((_, 0) :: _) _ _); (first | (refine D_skip rfl rfl ?_; (first | show wpD _ _ _ _ (Act.put _ (some _) _) _ | show wpD _ _ _ _ (Act.put _ none _) _); (simp only [Act.put, List.setIfInBounds_toArray, List.set_cons_zero, List.set_cons_succ])) | (refine D_pure (v := ?_) rfl rfl (fun wq => ?_) ?_; rotate_left 1; (show (Sem.run _ (execOp _ (Oper.mk _ _ _ _ _ _)) _) = _; go_simp; (try go_bits); with_reducible rfl); (first | show wpD _ _ _ _ (Act.put _ (some _) _) _ | show wpD _ _ _ _ (Act.put _ none _) _); (simp only [Act.put, List.setIfInBounds_toArray, List.set_cons_zero, List.set_cons_succ])))) | ((with_reducible show wpD _ _ _ ((_, 1) :: _) _ _); (first | (refine D_skip rfl rfl ?_; (first | show wpD _ _ _ _ (Act.put _ (some _) _) _ | show wpD _ _ _ _ (Act.put _ none _) _); (simp only [Act.put, List.setIfInBounds_toArray, List.set_cons_zero, List.set_cons_succ])) | ((first | refine D_load rfl rfl (fun x hx => f_load (hS.mod hx) rfl rfl (by rfl)) ?_ | refine D_load rfl rfl (fun x hx => f_loadS (hS.mod hx) rfl rfl (by rfl)) ?_ | refine D_load rfl rfl (fun x hx => f_loadAt (hS.mod hx) rfl rfl) ?_ | refine D_load rfl rfl (fun x hx => f_loadAtS (hS.mod hx) rfl rfl (by rfl)) ?_ | refine D_load rfl rfl (fun x hx => f_loadAtF (hS.mod hx) rfl rfl (by rfl)) ?_); (first | show wpD _ _ _ _ (Act.put _ (some _) _) _ | show wpD _ _ _ _ (Act.put _ none _) _); (simp only [Act.put, List.setIfInBounds_toArray, List.set_cons_zero, List.set_cons_succ])))) | ((with_reducible show wpD _ _ _ ((_, 2) :: _) _ _); (refine D_skip rfl rfl ?_; (first | show wpD _ _ _ _ (Act.put _ (some _) _) _ | show wpD _ _ _ _ (Act.put _ none _) _); (simp only [Act.put, List.setIfInBounds_toArray, List.set_cons_zero, List.set_cons_succ]))) | ((with_reducible show wpD _ _ _ ((_, 3) :: _) _ _); (refine D_skip rfl rfl ?_; (first | show wpD _ _ _ _ (Act.put _ (some _) _) _ | show wpD _ _ _ _ (Act.put _ none _) _); (simp only [Act.put, List.setIfInBounds_toArray, List.set_cons_zero, List.set_cons_succ]))) | ((with_reducible show wpD _ _ _ ((_, 2) :: _) _ _); ((refine D_calm rfl rfl (does_buildSlice (X := ?_) (cs := ?_) (E := ?_) hS rfl ?_ ?_) ?_); rotate_left 3; (go_simp; rfl); rfl; clear hS; rintro _ wx ⟨bx, rfl, hS, hM⟩; refine ⟨hM, ?_⟩; clear hM; (first | show wpD _ _ _ _ (Act.put _ (some _) _) _ | show wpD _ _ _ _ (Act.put _ none _) _); (simp only [Act.put, List.setIfInBounds_toArray, List.set_cons_zero, List.set_cons_succ]))) | ((with_reducible show wpD _ _ _ ((_, 2) :: _) _ _); ((first | refine D_calm rfl rfl (does_alloc hS rfl (by rfl)) ?_ | refine D_calm rfl rfl (does_box hS rfl rfl (by rfl)) ?_); clear hS; rintro _ wx ⟨bx, rfl, hS, hM⟩; refine ⟨hM, ?_⟩; clear hM; (first | show wpD _ _ _ _ (Act.put _ (some _) _) _ | show wpD _ _ _ _ (Act.put _ none _) _); (simp only [Act.put, List.setIfInBounds_toArray, List.set_cons_zero, List.set_cons_succ]))) | ((with_reducible show wpD _ _ _ ((_, 3) :: _) _ _); ((first | refine D_loud rfl rfl (f_store hS rfl rfl rfl (by rfl) (by rfl)) ?_ | refine D_loud rfl rfl (f_storeS hS rfl rfl rfl (by rfl) (by rfl) (by rfl)) ?_); clear hS; rintro _ wx ⟨rfl, hS⟩; (simp only [List.set_cons_zero, List.set_cons_succ] at hS); (first | show wpD _ _ _ _ (Act.put _ (some _) _) _ | show wpD _ _ _ _ (Act.put _ none _) _); (simp only [Act.put, List.setIfInBounds_toArray, List.set_cons_zero, List.set_cons_succ]))))
    go_ret
    exact ⟨ret_false H.out, hS.mod0⟩
  · have t0 := toList_t h0
    have He := Lib.hid (eqB_f h1)
    have H : Hid (eqB ((n0, n1, n2) : ShapeD) (m0, m1, m2) = false) := Lib.hid (eqB_f (by simp [h1]))
    clear h0 h1
    go_enter Tryd.func25, Tryd.ntmps25
    go_wp2_with (first | ((with_reducible show wpList _ _ _ (⟨_, Op.box _ _, _, _, _, _⟩ :: _) _ _); refine Does.list (does_box hS rfl rfl (by rfl)) rfl ?_; clear hS; rintro _ wx ⟨bo, rfl, hS, _⟩; (simp only [Act.put, List.setIfInBounds_toArray, List.set_cons_zero, List.set_cons_succ])) | ((with_reducible show wpList _ _ _ (⟨_, Op.load _ _, _, _, _, _⟩ :: _) _ _); (first | refine Gives.list (f_load hS rfl rfl (by rfl)) rfl ?_ | refine Gives.list (f_loadS hS rfl rfl (by rfl)) rfl ?_ | refine Gives.list (f_loadAt hS rfl rfl) rfl ?_ | refine Gives.list (f_loadAtS hS rfl rfl (by rfl)) rfl ?_ | refine Gives.list (f_loadAtF hS rfl rfl (by rfl)) rfl ?_); (simp only [Act.put, List.setIfInBounds_toArray, List.set_cons_zero, List.set_cons_succ])) | ((with_reducible show wpList _ _ _ (⟨_, Op.store _ _ _, _, _, _, _⟩ :: _) _ _); (first | refine Does.list (f_store hS rfl rfl rfl (by rfl) (by rfl)) rfl ?_ | refine Does.list (f_storeS hS rfl rfl rfl (by rfl) (by rfl) (by rfl)) rfl ?_); clear hS; rintro _ wx ⟨rfl, hS⟩; (simp only [List.set_cons_zero, List.set_cons_succ] at hS); (simp only [Act.put, List.setIfInBounds_toArray, List.set_cons_zero, List.set_cons_succ])) | ((with_reducible show wpList _ _ _ (⟨_, Op.alloc _, _, _, _, _⟩ :: _) _ _); refine Does.list (does_alloc hS rfl (by rfl)) rfl ?_; clear hS; rintro _ wx ⟨ba, rfl, hS, _⟩; (simp only [Act.put, List.setIfInBounds_toArray, List.set_cons_zero, List.set_cons_succ])) | ((with_reducible show wpList _ _ _ (⟨_, Op.buildSlice _ _ _, _, _, _, _⟩ :: _) _ _); refine Does.list (does_buildSlice (X := ?_) (cs := ?_) (E := ?_) hS rfl ?_ ?_) rfl ?_; rotate_left 3; (go_simp; rfl); rfl; clear hS; rintro _ wx ⟨bx, rfl, hS, _⟩; (simp only [Act.put, List.setIfInBounds_toArray, List.set_cons_zero, List.set_cons_succ])) | fail | ((with_reducible show wpD _ _ _ [] _ _); refine D_nil ?_) | ((with_reducible show wpD _ _ _ ((_, 0) :: _) _ _); (first | (refine D_skip rfl rfl ?_; (first | show wpD _ _ _ _ (Act.put _ (some _) _) _ | show wpD _ _ _ _ (Act.put _ none _) _); (simp only [Act.put, List.setIfInBounds_toArray, List.set_cons_zero, List.set_cons_succ])) | (refine D_pure (v := ?_) rfl rfl (fun wq => ?_) ?_; rotate_left 1; (show (Sem.run _ (execOp _ (Oper.mk _ _ _ _ _ _)) _) = _; go_simp; (try go_bits); with_reducible rfl); (first | show wpD _ _ _ _ (Act.put _ (some _) _) _ | show wpD _ _ _ _ (Act.put _ none _) _); (simp only [Act.put, List.setIfInBounds_toArray, List.set_cons_zero, List.set_cons_succ])))) | ((with_reducible show wpD _ _ _ ((_, 1) :: _) _ _); (first | (refine D_skip rfl rfl ?_; (first | show wpD _ _ _ _ (Act.put _ (some _) _) _ | show wpD _ _ _ _ (Act.put _ none _) _); (simp only [Act.put, List.setIfInBounds_toArray, List.set_cons_zero, List.set_cons_succ])) | ((first | refine D_load rfl rfl (fun x hx => f_load (hS.mod hx) rfl rfl (by rfl)) ?_ | refine D_load rfl rfl (fun x hx => f_loadS (hS.mod hx) rfl rfl (by rfl)) ?_ | refine D_load rfl rfl (fun x hx => f_loadAt (hS.mod hx) rfl rfl) ?_ | refine D_load rfl rfl (fun x hx => f_loadAtS (hS.mod hx) rfl rfl (by rfl)) ?_ | refine D_load rfl rfl (fun x hx => f_loadAtF (hS.mod hx) rfl rfl (by rfl)) ?_); (first | show wpD _ _ _ _ (Act.put _ (some _) _) _ | show wpD _ _ _ _ (Act.put _ none _) _); (simp only [Act.put, List.setIfInBounds_toArray, List.set_cons_zero, List.set_cons_succ])))) | ((with_reducible show wpD _ _ _ ((_, 2) :: _) _ _); (refine D_skip rfl rfl ?_; (first | show wpD _ _ _ _ (Act.put _ (some _) _) _ | show wpD _ _ _ _ (Act.put _ none _) _); (simp only [Act.put, List.setIfInBounds_toArray, List.set_cons_zero, List.set_cons_succ]))) | ((with_reducible show wpD _ _ _ ((_, 3) :: _) _ _); (refine D_skip rfl rfl ?_; (first | show wpD _ _ _ _ (Act.put _ (some _) _) _ | show wpD _ _ _ _ (Act.put _ none _) _); (simp only [Act.put, List.setIfInBounds_toArray, List.set_cons_zero, List.set_cons_succ]))) | ((with_reducible show wpD _ _ _ ((_, 2) :: _) _ _); ((refine D_calm rfl rfl (does_buildSlice (X := ?_) (cs := ?_) (E := ?_) hS rfl ?_ ?_) ?_); rotate_left 3; (go_simp; rfl); rfl; clear hS; rintro _ wx ⟨bx, rfl, hS, hM⟩; refine ⟨hM, ?_⟩; clear hM; (first | show wpD _ _ _ _ (Act.put _ (some _) _) _ | show wpD _ _ _ _ (Act.put _ none _) _); (simp only [Act.put, List.setIfInBounds_toArray, List.set_cons_zero, List.set_cons_succ]))) | ((with_reducible show wpD _ _ _ ((_, 2) :: _) _ _); ((first | refine D_calm rfl rfl (does_alloc hS rfl (by rfl)) ?_ | refine D_calm rfl rfl (does_box hS rfl rfl (by rfl)) ?_); clear hS; rintro _ wx ⟨bx, rfl, hS, hM⟩; refine ⟨hM, ?_⟩; clear hM; (first | show wpD _ _ _ _ (Act.put _ (some _) _) _ | show wpD _ _ _ _ (Act.put _ none _) _); (simp only [Act.put, List.setIfInBounds_toArray, List.set_cons_zero, List.set_cons_succ]))) | ((with_reducible show wpD _ _ _ ((_, 3) :: _) _ _); ((first | refine D_loud rfl rfl (f_store hS rfl rfl rfl (by rfl) (by rfl)) ?_ | refine D_loud rfl rfl (f_storeS hS rfl rfl rfl (by rfl) (by rfl) (by rfl)) ?_); clear hS; rintro _ wx ⟨rfl, hS⟩; (simp only [List.set_cons_zero, List.set_cons_succ] at hS); (first | show wpD _ _ _ _ (Act.put _ (some _) _) _ | show wpD _ _ _ _ (Act.put _ none _) _); (simp only [Act.put, List.setIfInBounds_toArray, List.set_cons_zero, List.set_cons_succ]))) | (go_at_call 26; obtain ⟨Fq, hFq⟩ := hS.has Rep.str.slice [.slice A1 n1.length c1]; obtain ⟨Fr, hFr⟩ := hS.has Rep.str.slice [.slice B1 m1.length d1]; refine (sl_Equal_str _ _ _ _ _ _ _ hFq hFr).mono ?_; rintro e wy ⟨rfl, hM⟩; replace hS := hS.mod hM; clear hFq hFr hM; (simp only [He.out])))
    go_ret
    exact ⟨ret_false H.out, hS.mod0⟩
  · have t0 := toList_t h0
    have He := Lib.hid (eqB_t h1)
    have H : Hid (eqB ((n0, n1, n2) : ShapeD) (m0, m1, m2) = false) := Lib.hid (eqB_f (by simp [h2]))
    have t2 : (n2 == m2) = false := by simpa using h2
    have t3 : decide (n2 = m2) = false := by simpa using h2
    clear h0 h1 h2
    go_enter Tryd.func25, Tryd.ntmps25
    go_wp2_with (first | ((with_reducible show wpList _ _ _ (⟨_, Op.box _ _, _, _, _, _⟩ :: _) _ _); refine Does.list (does_box hS rfl rfl (by rfl)) rfl ?_; clear hS; rintro _ wx ⟨bo, rfl, hS, _⟩; (simp only [Act.put, List.setIfInBounds_toArray, List.set_cons_zero, List.set_cons_succ])) | ((with_reducible show wpList _ _ _ (⟨_, Op.load _ _, _, _, _, _⟩ :: _) _ _); (first | refine Gives.list (f_load hS rfl rfl (by rfl)) rfl ?_ | refine Gives.list (f_loadS hS rfl rfl (by rfl)) rfl ?_ | refine Gives.list (f_loadAt hS rfl rfl) rfl ?_ | refine Gives.list (f_loadAtS hS rfl rfl (by rfl)) rfl ?_ | refine Gives.list (f_loadAtF hS rfl rfl (by rfl)) rfl ?_); (simp only [Act.put, List.setIfInBounds_toArray, List.set_cons_zero, List.set_cons_succ])) | ((with_reducible show wpList _ _ _ (⟨_, Op.store _ _ _, _, _, _, _⟩ :: _) _ _); (first | refine Does.list (f_store hS rfl rfl rfl (by rfl) (by rfl)) rfl ?_ | refine Does.list (f_storeS hS rfl rfl rfl (by rfl) (by rfl) (by rfl)) rfl ?_); clear hS; rintro _ wx ⟨rfl, hS⟩; (simp only [List.set_cons_zero, List.set_cons_succ] at hS); (simp only [Act.put, List.setIfInBounds_toArray, List.set_cons_zero, List.set_cons_succ])) | ((with_reducible show wpList _ _ _ (⟨_, Op.alloc _, _, _, _, _⟩ :: _) _ _); refine Does.list (does_alloc hS rfl (by rfl)) rfl ?_; clear hS; rintro _ wx ⟨ba, rfl, hS, _⟩; (simp only [Act.put, List.setIfInBounds_toArray, List.set_cons_zero, List.set_cons_succ])) | ((with_reducible show wpList _ _ _ (⟨_, Op.buildSlice _ _ _, _, _, _, _⟩ :: _) _ _); refine Does.list (does_buildSlice (X := ?_) (cs := ?_) (E := ?_) hS rfl ?_ ?_) rfl ?_; rotate_left 3; (go_simp; rfl); rfl; clear hS; rintro _ wx ⟨bx, rfl, hS, _⟩; (simp only [Act.put, List.setIfInBounds_toArray, List.set_cons_zero, List.set_cons_succ])) | fail | ((with_reducible show wpD _ _ _ [] _ _); refine D_nil ?_) | ((with_reducible show wpD _ _ _ ((_, 0) :: _) _ _); (first | (refine D_skip rfl rfl ?_; (first | show wpD _ _ _ _ (Act.put _ (some _) _) _ | show wpD _ _ _ _ (Act.put _ none _) _); (simp only [Act.put, List.setIfInBounds_toArray, List.set_cons_zero, List.set_cons_succ])) | (refine D_pure (v := ?_) rfl rfl (fun wq => ?_) ?_; rotate_left 1; (show (Sem.run _ (execOp _ (Oper.mk _ _ _ _ _ _)) _) = _; go_simp; (try go_bits); with_reducible rfl); (first | show wpD _ _ _ _ (Act.put _ (some _) _) _ | show wpD _ _ _ _ (Act.put _ none _) _); (simp only [Act.put, List.setIfInBounds_toArray, List.set_cons_zero, List.set_cons_succ])))) | ((with_reducible show wpD _ _ _ ((_, 1) :: _) _ _); (first | (refine D_skip rfl rfl ?_; (first | show wpD _ _ _ _ (Act.put _ (some _) _) _ | show wpD _ _ _ _ (Act.put _ none _) _); (simp only [Act.put, List.setIfInBounds_toArray, List.set_cons_zero, List.set_cons_succ])) | ((first | refine D_load rfl rfl (fun x hx => f_load (hS.mod hx) rfl rfl (by rfl)) ?_ | refine D_load rfl rfl (fun x hx => f_loadS (hS.mod hx) rfl rfl (by rfl)) ?_ | refine D_load rfl rfl (fun x hx => f_loadAt (hS.mod hx) rfl rfl) ?_ | refine D_load rfl rfl (fun x hx => f_loadAtS (hS.mod hx) rfl rfl (by rfl)) ?_ | refine D_load rfl rfl (fun x hx => f_loadAtF (hS.mod hx) rfl rfl (by rfl)) ?_); (first | show wpD _ _ _ _ (Act.put _ (some _) _) _ | show wpD _ _ _ _ (Act.put _ none _) _); (simp only [Act.put, List.setIfInBounds_toArray, List.set_cons_zero, List.set_cons_succ])))) | ((with_reducible show wpD _ _ _ ((_, 2) :: _) _ _); (refine D_skip rfl rfl ?_; (first | show wpD _ _ _ _ (Act.put _ (some _) _) _ | show wpD _ _ _ _ (Act.put _ none _) _); (simp only [Act.put, List.setIfInBounds_toArray, List.set_cons_zero, List.set_cons_succ]))) | ((with_reducible show wpD _ _ _ ((_, 3) :: _) _ _); (refine D_skip rfl rfl ?_; (first | show wpD _ _ _ _ (Act.put _ (some _) _) _ | show wpD _ _ _ _ (Act.put _ none _) _); (simp only [Act.put, List.setIfInBounds_toArray, List.set_cons_zero, List.set_cons_succ]))) | ((with_reducible show wpD _ _ _ ((_, 2) :: _) _ _); ((refine D_calm rfl rfl (does_buildSlice (X := ?_) (cs := ?_) (E := ?_) hS rfl ?_ ?_) ?_); rotate_left 3; (go_simp; rfl); rfl; clear hS; rintro _ wx ⟨bx, rfl, hS, hM⟩; refine ⟨hM, ?_⟩; clear hM; (first | show wpD _ _ _ _ (Act.put _ (some _) _) _ | show wpD _ _ _ _ (Act.put _ none _) _); (simp only [Act.put, List.setIfInBounds_toArray, List.set_cons_zero, List.set_cons_succ]))) | ((with_reducible show wpD _ _ _ ((_, 2) :: _) _ _); ((first | refine D_calm rfl rfl (does_alloc hS rfl (by rfl)) ?_ | refine D_calm rfl rfl (does_box hS rfl rfl (by rfl)) ?_); clear hS; rintro _ wx ⟨bx, rfl, hS, hM⟩; refine ⟨hM, ?_⟩; clear hM; (first | show wpD _ _ _ _ (Act.put _ (some _) _) _ | show wpD _ _ _ _ (Act.put _ none _) _); (simp only [Act.put, List.setIfInBounds_toArray, List.set_cons_zero, List.set_cons_succ]))) | ((with_reducible show wpD _ _ _ ((_, 3) :: _) _ _); ((first | refine D_loud rfl rfl (f_store hS rfl rfl rfl (by rfl) (by rfl)) ?_ | refine D_loud rfl rfl (f_storeS hS rfl rfl rfl (by rfl) (by rfl) (by rfl)) ?_); clear hS; rintro _ wx ⟨rfl, hS⟩; (simp only [List.set_cons_zero, List.set_cons_succ] at hS); (first | show wpD _ _ _ _ (Act.put _ (some _) _) _ | show wpD _ _ _ _ (Act.put _ none _) _); (simp only [Act.put, List.setIfInBounds_toArray, List.set_cons_zero, List.set_cons_succ]))) | (go_at_call 26; obtain ⟨Fq, hFq⟩ := hS.has Rep.str.slice [.slice A1 n1.length c1]; obtain ⟨Fr, hFr⟩ := hS.has Rep.str.slice [.slice B1 m1.length d1]; refine (sl_Equal_str _ _ _ _ _ _ _ hFq hFr).mono ?_; rintro e wy ⟨rfl, hM⟩; replace hS := hS.mod hM; clear hFq hFr hM; (simp only [He.out])))
    go_ret
    exact ⟨ret_false H.out, hS.mod0⟩
  · have t0 := toList_t h0
    have He := Lib.hid (eqB_t h1)
    have H : Hid (eqB ((n0, n1, n2) : ShapeD) (m0, m1, m2) = true) := Lib.hid (eqB_t (by rw [h0, h1, h2]))
    have t2 : (n2 == m2) = true := by simpa using h2
    have t3 : decide (n2 = m2) = true := by simpa using h2
    clear h0 h1 h2
    go_enter Tryd.func25, Tryd.ntmps25
    go_wp2_with (first | ((with_reducible show wpList _ _ _ (⟨_, Op.box _ _, _, _, _, _⟩ :: _) _ _); refine Does.list (does_box hS rfl rfl (by rfl)) rfl ?_; clear hS; rintro _ wx ⟨bo, rfl, hS, _⟩; (simp only [Act.put, List.setIfInBounds_toArray, List.set_cons_zero, List.set_cons_succ])) | ((with_reducible show wpList _ _ _ (⟨_, Op.load _ _, _, _, _, _⟩ :: _) _ _); (first | refine Gives.list (f_load hS rfl rfl (by rfl)) rfl ?_ | refine Gives.list (f_loadS hS rfl rfl (by rfl)) rfl ?_ | refine Gives.list (f_loadAt hS rfl rfl) rfl ?_ | refine Gives.list (f_loadAtS hS rfl rfl (by rfl)) rfl ?_ | refine Gives.list (f_loadAtF hS rfl rfl (by rfl)) rfl ?_); (simp only [Act.put, List.setIfInBounds_toArray, List.set_cons_zero, List.set_cons_succ])) | ((with_reducible show wpList _ _ _ (⟨_, Op.store _ _ _, _, _, _, _⟩ :: _) _ _); (first | refine Does.list (f_store hS rfl rfl rfl (by rfl) (by rfl)) rfl ?_ | refine Does.list (f_storeS hS rfl rfl rfl (by rfl) (by rfl) (by rfl)) rfl ?_); clear hS; rintro _ wx ⟨rfl, hS⟩; (simp only [List.set_cons_zero, List.set_cons_succ] at hS); (simp only [Act.put, List.setIfInBounds_toArray, List.set_cons_zero, List.set_cons_succ])) | ((with_reducible show wpList _ _ _ (⟨_, Op.alloc _, _, _, _, _⟩ :: _) _ _); refine Does.list (does_alloc hS rfl (by rfl)) rfl ?_; clear hS; rintro _ wx ⟨ba, rfl, hS, _⟩; (simp only [Act.put, List.setIfInBounds_toArray, List.set_cons_zero, List.set_cons_succ])) | ((with_reducible show wpList _ _ _ (⟨_, Op.buildSlice _ _ _, _, _, _, _⟩ :: _) _ _); refine Does.list (does_buildSlice (X := ?_) (cs := ?_) (E := ?_) hS rfl ?_ ?_) rfl ?_; rotate_left 3; (go_simp; rfl); rfl; clear hS; rintro _ wx ⟨bx, rfl, hS, _⟩; (simp only [Act.put, List.setIfInBounds_toArray, List.set_cons_zero, List.set_cons_succ])) | fail | ((with_reducible show wpD _ _ _ [] _ _); refine D_nil ?_) | ((with_reducible show wpD _ _ _ ((_, 0) :: _) _ _); (first | (refine D_skip rfl rfl ?_; (first | show wpD _ _ _ _ (Act.put _ (some _) _) _ | show wpD _ _ _ _ (Act.put _ none _) _); (simp only [Act.put, List.setIfInBounds_toArray, List.set_cons_zero, List.set_cons_succ])) | (refine D_pure (v := ?_) rfl rfl (fun wq => ?_) ?_; rotate_left 1; (show (Sem.run _ (execOp _ (Oper.mk _ _ _ _ _ _)) _) = _; go_simp; (try go_bits); with_reducible rfl); (first | show wpD _ _ _ _ (Act.put _ (some _) _) _ | show wpD _ _ _ _ (Act.put _ none _) _); (simp only [Act.put, List.setIfInBounds_toArray, List.set_cons_zero, List.set_cons_succ])))) | ((with_reducible show wpD _ _ _ ((_, 1) :: _) _ _); (first | (refine D_skip rfl rfl ?_; (first | show wpD _ _ _ _ (Act.put _ (some _) _) _ | show wpD _ _ _ _ (Act.put _ none _) _); (simp only [Act.put, List.setIfInBounds_toArray, List.set_cons_zero, List.set_cons_succ])) | ((first | refine D_load rfl rfl (fun x hx => f_load (hS.mod hx) rfl rfl (by rfl)) ?_ | refine D_load rfl rfl (fun x hx => f_loadS (hS.mod hx) rfl rfl (by rfl)) ?_ | refine D_load rfl rfl (fun x hx => f_loadAt (hS.mod hx) rfl rfl) ?_ | refine D_load rfl rfl (fun x hx => f_loadAtS (hS.mod hx) rfl rfl (by rfl)) ?_ | refine D_load rfl rfl (fun x hx => f_loadAtF (hS.mod hx) rfl rfl (by rfl)) ?_); (first | show wpD _ _ _ _ (Act.put _ (some _) _) _ | show wpD _ _ _ _ (Act.put _ none _) _); (simp only [Act.put, List.setIfInBounds_toArray, List.set_cons_zero, List.set_cons_succ])))) | ((with_reducible show wpD _ _ _ ((_, 2) :: _) _ _); (refine D_skip rfl rfl ?_; (first | show wpD _ _ _ _ (Act.put _ (some _) _) _ | show wpD _ _ _ _ (Act.put _ none _) _); (simp only [Act.put, List.setIfInBounds_toArray, List.set_cons_zero, List.set_cons_succ]))) | ((with_reducible show wpD _ _ _ ((_, 3) :: _) _ _); (refine D_skip rfl rfl ?_; (first | show wpD _ _ _ _ (Act.put _ (some _) _) _ | show wpD _ _ _ _ (Act.put _ none _) _); (simp only [Act.put, List.setIfInBounds_toArray, List.set_cons_zero, List.set_cons_succ]))) | ((with_reducible show wpD _ _ _ ((_, 2) :: _) _ _); ((refine D_calm rfl rfl (does_buildSlice (X := ?_) (cs := ?_) (E := ?_) hS rfl ?_ ?_) ?_); rotate_left 3; (go_simp; rfl); rfl; clear hS; rintro _ wx ⟨bx, rfl, hS, hM⟩; refine ⟨hM, ?_⟩; clear hM; (first | show wpD _ _ _ _ (Act.put _ (some _) _) _ | show wpD _ _ _ _ (Act.put _ none _) _); (simp only [Act.put, List.setIfInBounds_toArray, List.set_cons_zero, List.set_cons_succ]))) | ((with_reducible show wpD _ _ _ ((_, 2) :: _) _ _); ((first | refine D_calm rfl rfl (does_alloc hS rfl (by rfl)) ?_ | refine D_calm rfl rfl (does_box hS rfl rfl (by rfl)) ?_); clear hS; rintro _ wx ⟨bx, rfl, hS, hM⟩; refine ⟨hM, ?_⟩; clear hM; (first | show wpD _ _ _ _ (Act.put _ (some _) _) _ | show wpD _ _ _ _ (Act.put _ none _) _); (simp only [Act.put, List.setIfInBounds_toArray, List.set_cons_zero, List.set_cons_succ]))) | ((with_reducible show wpD _ _ _ ((_, 3) :: _) _ _); ((first | refine D_loud rfl rfl (f_store hS rfl rfl rfl (by rfl) (by rfl)) ?_ | refine D_loud rfl rfl (f_storeS hS rfl rfl rfl (by rfl) (by rfl) (by rfl)) ?_); clear hS; rintro _ wx ⟨rfl, hS⟩; (simp only [List.set_cons_zero, List.set_cons_succ] at hS); (first | show wpD _ _ _ _ (Act.put _ (some _) _) _ | show wpD _ _ _ _ (Act.put _ none _) _); (simp only [Act.put, List.setIfInBounds_toArray, List.set_cons_zero, List.set_cons_succ]))) | (go_at_call 26; obtain ⟨Fq, hFq⟩ := hS.has Rep.str.slice [.slice A1 n1.length c1]; obtain ⟨Fr, hFr⟩ := hS.has Rep.str.slice [.slice B1 m1.length d1]; refine (sl_Equal_str _ _ _ _ _ _ _ hFq hFr).mono ?_; rintro e wy ⟨rfl, hM⟩; replace hS := hS.mod hM; clear hFq hFr hM; (simp only [He.out])))
    go_ret
    exact ⟨ret_true H.out, hS.mod0⟩

set_option maxHeartbeats 4000000 in
set_option maxRecDepth 8000 in
theorem eqf_SameShapes (w : World) (F G : List Nat) (u v : Value) (xs ys : List ShapeD) (hx : SliceHas rShape w F [u] xs) (hy : SliceHas rShape w G [v] ys) :
    Calls Tryd.prog 24 #[u, v, .func (.func 25) #[] #[]] w fun e w' => e = .returned (.bool (eqB xs ys)) ∧ Mod [] w w' := by
  obtain ⟨A, c, rfl, hn, _⟩ := hx.form'
  obtain ⟨B, d, rfl, hm, _⟩ := hy.form'
  have hS : Sat w w [.ro rShape.slice [.slice A xs.length c] xs, .ro rShape.slice [.slice B ys.length d] ys] := ((Sat.nil w).arg hy).arg hx
  clear hx hy
  by_cases hnm : xs.length = ys.length
  · have Hnm := Lib.hid hnm
    have t0 : (((xs.length : Int) != (ys.length : Int))) = false := by rw [hnm]; simp
    have t1 : decide ((xs.length : Int) = (ys.length : Int)) = true := by rw [hnm]; simp
    clear hnm
    go_enter Tryd.func24, Tryd.ntmps24
    go_wp2
    go_loopw [17] (fun i wr => ∃ k : Nat, k ≤ xs.length ∧ i = .int .i64 k ∧ xs.take k = ys.take k ∧ Sat w wr [.ro rShape.slice [.slice A xs.length c] xs, .ro rShape.slice [.slice B ys.length d] ys]) (fun i _ => xs.length - (intOf i).toNat)
    case atStart => exact ⟨0, Nat.zero_le _, rfl, rfl, hS⟩
    case round =>
      clear hS
      obtain ⟨k, hk, rfl, htk, hS⟩ := hrel
      have Htk := Lib.hid htk
      clear htk
      by_cases hlt : k < xs.length
      · have hlt2 : k < ys.length := by rw [← Hnm.out]; exact hlt
        have hltI : (k : Int) < (ys.length : Int) := by omega
        by_cases heq : xs[k] = ys[k]
        · have H := Lib.hid (take_eq_succ Htk.out hlt hlt2 heq)
          have He := eqB_t heq
          clear heq
          obtain ⟨ad, A1, c1, rfl, j0, j1, hS⟩ := hS.elShape A xs.length c (get_some hlt)
          obtain ⟨ad2, B1, d1, rfl, k0, k1, hS⟩ := hS.elShape B ys.length d (get_some hlt2)
          obtain ⟨⟨n0, n1, n2⟩, hs⟩ : ∃ s, xs[k] = s := ⟨_, rfl⟩; obtain ⟨⟨m0, m1, m2⟩, hs2⟩ : ∃ s, ys[k] = s := ⟨_, rfl⟩; rw [hs] at hS He j0 j1; rw [hs2] at hS He k0 k1; dsimp only at hS j0 j1 k0 k1; replace He := Lib.hid He; clear hs hs2
          go_wp2_with (first | ((with_reducible show wpList _ _ _ (⟨_, Op.box _ _, _, _, _, _⟩ :: _) _ _); refine Does.list (does_box hS rfl rfl (by rfl)) rfl ?_; clear hS; rintro _ wx ⟨bo, rfl, hS, _⟩; (simp only [Act.put, List.setIfInBounds_toArray, List.set_cons_zero, List.set_cons_succ])) | ((with_reducible show wpList _ _ _ (⟨_, Op.load _ _, _, _, _, _⟩ :: _) _ _); (first | refine Gives.list (f_load hS rfl rfl (by rfl)) rfl ?_ | refine Gives.list (f_loadS hS rfl rfl (by rfl)) rfl ?_ | refine Gives.list (f_loadAt hS rfl rfl) rfl ?_ | refine Gives.list (f_loadAtS hS rfl rfl (by rfl)) rfl ?_ | refine Gives.list (f_loadAtF hS rfl rfl (by rfl)) rfl ?_); (simp only [Act.put, List.setIfInBounds_toArray, List.set_cons_zero, List.set_cons_succ])) | ((with_reducible show wpList _ _ _ (⟨_, Op.store _ _ _, _, _, _, _⟩ :: _) _ _); (first | refine Does.list (f_store hS rfl rfl rfl (by rfl) (by rfl)) rfl ?_ | refine Does.list (f_storeS hS rfl rfl rfl (by rfl) (by rfl) (by rfl)) rfl ?_); clear hS; rintro _ wx ⟨rfl, hS⟩; (simp only [List.set_cons_zero, List.set_cons_succ] at hS); (simp only [Act.put, List.setIfInBounds_toArray, List.set_cons_zero, List.set_cons_succ])) | ((with_reducible show wpList _ _ _ (⟨_, Op.alloc _, _, _, _, _⟩ :: _) _ _); refine Does.list (does_alloc hS rfl (by rfl)) rfl ?_; clear hS; rintro _ wx ⟨ba, rfl, hS, _⟩; (simp only [Act.put, List.setIfInBounds_toArray, List.set_cons_zero, List.set_cons_succ])) | ((with_reducible show wpList _ _ _ (⟨_, Op.buildSlice _ _ _, _, _, _, _⟩ :: _) _ _); refine Does.list (does_buildSlice (X := ?_) (cs := ?_) (E := ?_) hS rfl ?_ ?_) rfl ?_; rotate_left 3; (go_simp; rfl); rfl; clear hS; rintro _ wx ⟨bx, rfl, hS, _⟩; (simp only [Act.put, List.setIfInBounds_toArray, List.set_cons_zero, List.set_cons_succ])) | (go_at_call 25; obtain ⟨Fq, hFq⟩ := hS.has Rep.str.slice [.slice A1 n1.length c1]; obtain ⟨Fr, hFr⟩ := hS.has Rep.str.slice [.slice B1 m1.length d1]; refine (clo_SameShapes _ Fq Fr n0 m0 n1 m1 n2 m2 A1 B1 c1 d1 hFq hFr).mono ?_; rintro e w' ⟨rfl, hM⟩; replace hS := hS.mod hM; clear hM hFq hFr; (simp only [He.out])))
          go_roundw
          case rel => exact ⟨k + 1, hlt, by go_num, H.out, hS.sel [6, 7] rfl (by decide)⟩
          case measure => simp [intOf]; omega
        · have H := Lib.hid (eqB_f (ne_of_getElem hlt hlt2 heq))
          have He := eqB_f heq
          clear heq
          obtain ⟨ad, A1, c1, rfl, j0, j1, hS⟩ := hS.elShape A xs.length c (get_some hlt)
          obtain ⟨ad2, B1, d1, rfl, k0, k1, hS⟩ := hS.elShape B ys.length d (get_some hlt2)
          obtain ⟨⟨n0, n1, n2⟩, hs⟩ : ∃ s, xs[k] = s := ⟨_, rfl⟩; obtain ⟨⟨m0, m1, m2⟩, hs2⟩ : ∃ s, ys[k] = s := ⟨_, rfl⟩; rw [hs] at hS He j0 j1; rw [hs2] at hS He k0 k1; dsimp only at hS j0 j1 k0 k1; replace He := Lib.hid He; clear hs hs2
          go_wp2_with (first | ((with_reducible show wpList _ _ _ (⟨_, Op.box _ _, _, _, _, _⟩ :: _) _ _); refine Does.list (does_box hS rfl rfl (by rfl)) rfl ?_; clear hS; rintro _ wx ⟨bo, rfl, hS, _⟩; (simp only [Act.put, List.setIfInBounds_toArray, List.set_cons_zero, List.set_cons_succ])) | ((with_reducible show wpList _ _ _ (⟨_, Op.load _ _, _, _, _, _⟩ :: _) _ _); (first | refine Gives.list (f_load hS rfl rfl (by rfl)) rfl ?_ | refine Gives.list (f_loadS hS rfl rfl (by rfl)) rfl ?_ | refine Gives.list (f_loadAt hS rfl rfl) rfl ?_ | refine Gives.list (f_loadAtS hS rfl rfl (by rfl)) rfl ?_ | refine Gives.list (f_loadAtF hS rfl rfl (by rfl)) rfl ?_); (simp only [Act.put, List.setIfInBounds_toArray, List.set_cons_zero, List.set_cons_succ])) | ((with_reducible show wpList _ _ _ (⟨_, Op.store _ _ _, _, _, _, _⟩ :: _) _ _); (first | refine Does.list (f_store hS rfl rfl rfl (by rfl) (by rfl)) rfl ?_ | refine Does.list (f_storeS hS rfl rfl rfl (by rfl) (by rfl) (by rfl)) rfl ?_); clear hS; rintro _ wx ⟨rfl, hS⟩; (simp only [List.set_cons_zero, List.set_cons_succ] at hS); (simp only [Act.put, List.setIfInBounds_toArray, List.set_cons_zero, List.set_cons_succ])) | ((with_reducible show wpList _ _ _ (⟨_, Op.alloc _, _, _, _, _⟩ :: _) _ _); refine Does.list (does_alloc hS rfl (by rfl)) rfl ?_; clear hS; rintro _ wx ⟨ba, rfl, hS, _⟩; (simp only [Act.put, List.setIfInBounds_toArray, List.set_cons_zero, List.set_cons_succ])) | ((with_reducible show wpList _ _ _ (⟨_, Op.buildSlice _ _ _, _, _, _, _⟩ :: _) _ _); refine Does.list (does_buildSlice (X := ?_) (cs := ?_) (E := ?_) hS rfl ?_ ?_) rfl ?_; rotate_left 3; (go_simp; rfl); rfl; clear hS; rintro _ wx ⟨bx, rfl, hS, _⟩; (simp only [Act.put, List.setIfInBounds_toArray, List.set_cons_zero, List.set_cons_succ])) | (go_at_call 25; obtain ⟨Fq, hFq⟩ := hS.has Rep.str.slice [.slice A1 n1.length c1]; obtain ⟨Fr, hFr⟩ := hS.has Rep.str.slice [.slice B1 m1.length d1]; refine (clo_SameShapes _ Fq Fr n0 m0 n1 m1 n2 m2 A1 B1 c1 d1 hFq hFr).mono ?_; rintro e w' ⟨rfl, hM⟩; replace hS := hS.mod hM; clear hM hFq hFr; (simp only [He.out])))
          go_ret
          exact ⟨ret_false H.out, hS.mod0⟩
      · have H := Lib.hid (eqB_t (eq_of_take Htk.out (by omega) (by rw [← Hnm.out]; omega)))
        go_wp2_with (first | ((with_reducible show wpList _ _ _ (⟨_, Op.box _ _, _, _, _, _⟩ :: _) _ _); refine Does.list (does_box hS rfl rfl (by rfl)) rfl ?_; clear hS; rintro _ wx ⟨bo, rfl, hS, _⟩; (simp only [Act.put, List.setIfInBounds_toArray, List.set_cons_zero, List.set_cons_succ])) | ((with_reducible show wpList _ _ _ (⟨_, Op.load _ _, _, _, _, _⟩ :: _) _ _); (first | refine Gives.list (f_load hS rfl rfl (by rfl)) rfl ?_ | refine Gives.list (f_loadS hS rfl rfl (by rfl)) rfl ?_ | refine Gives.list (f_loadAt hS rfl rfl) rfl ?_ | refine Gives.list (f_loadAtS hS rfl rfl (by rfl)) rfl ?_ | refine Gives.list (f_loadAtF hS rfl rfl (by rfl)) rfl ?_); (simp only [Act.put, List.setIfInBounds_toArray, List.set_cons_zero, List.set_cons_succ])) | ((with_reducible show wpList _ _ _ (⟨_, Op.store _ _ _, _, _, _, _⟩ :: _) _ _); (first | refine Does.list (f_store hS rfl rfl rfl (by rfl) (by rfl)) rfl ?_ | refine Does.list (f_storeS hS rfl rfl rfl (by rfl) (by rfl) (by rfl)) rfl ?_); clear hS; rintro _ wx ⟨rfl, hS⟩; (simp only [List.set_cons_zero, List.set_cons_succ] at hS); (simp only [Act.put, List.setIfInBounds_toArray, List.set_cons_zero, List.set_cons_succ])) | ((with_reducible show wpList _ _ _ (⟨_, Op.alloc _, _, _, _, _⟩ :: _) _ _); refine Does.list (does_alloc hS rfl (by rfl)) rfl ?_; clear hS; rintro _ wx ⟨ba, rfl, hS, _⟩; (simp only [Act.put, List.setIfInBounds_toArray, List.set_cons_zero, List.set_cons_succ])) | ((with_reducible show wpList _ _ _ (⟨_, Op.buildSlice _ _ _, _, _, _, _⟩ :: _) _ _); refine Does.list (does_buildSlice (X := ?_) (cs := ?_) (E := ?_) hS rfl ?_ ?_) rfl ?_; rotate_left 3; (go_simp; rfl); rfl; clear hS; rintro _ wx ⟨bx, rfl, hS, _⟩; (simp only [Act.put, List.setIfInBounds_toArray, List.set_cons_zero, List.set_cons_succ])))
        go_ret
        exact ⟨ret_true H.out, hS.mod0⟩
  · have t0 : (((xs.length : Int) != (ys.length : Int))) = true := by simp; omega
    have H := Lib.hid (eqB_f (ne_of_len hnm))
    go_enter Tryd.func24, Tryd.ntmps24
    go_wp2
    go_ret
    exact ⟨ret_false H.out, hS.mod0⟩

set_option maxHeartbeats 1000000 in
set_option maxRecDepth 8000 in
theorem impl_SameShapes' (w : World) (hR : ResOk w) (F : List Nat) (u : Value) (xs : List ShapeD) (hx : SliceHas rShape w F [u] xs) (G : List Nat) (v : Value) (ys : List ShapeD) (hy : SliceHas rShape w G [v] ys) :
    Calls Tryd.prog 12 #[u, v] w fun e w' => e = .returned (.bool (sameShapes xs ys)) ∧ Mod [] w w' := by
  obtain ⟨A, c, rfl, hn, _⟩ := hx.form'
  obtain ⟨B, d, rfl, hm, _⟩ := hy.form'
  have hS : Sat w w [.ro rShape.slice [.slice A xs.length c] xs, .ro rShape.slice [.slice B ys.length d] ys] := ((Sat.nil w).arg hy).arg hx
  clear hx hy
  cases h1 : shapesOk xs
  · have H := Lib.hid (sameSh_a (b := ys) h1)
    go_enter Tryd.func12, Tryd.ntmps12
    go_wp2_with (first | ((with_reducible show wpList _ _ _ (⟨_, Op.box _ _, _, _, _, _⟩ :: _) _ _); refine Does.list (does_box hS rfl rfl (by rfl)) rfl ?_; clear hS; rintro _ wx ⟨bo, rfl, hS, _⟩; (simp only [Act.put, List.setIfInBounds_toArray, List.set_cons_zero, List.set_cons_succ])) | ((with_reducible show wpList _ _ _ (⟨_, Op.load _ _, _, _, _, _⟩ :: _) _ _); (first | refine Gives.list (f_load hS rfl rfl (by rfl)) rfl ?_ | refine Gives.list (f_loadS hS rfl rfl (by rfl)) rfl ?_ | refine Gives.list (f_loadAt hS rfl rfl) rfl ?_ | refine Gives.list (f_loadAtS hS rfl rfl (by rfl)) rfl ?_ | refine Gives.list (f_loadAtF hS rfl rfl (by rfl)) rfl ?_); (simp only [Act.put, List.setIfInBounds_toArray, List.set_cons_zero, List.set_cons_succ])) | ((with_reducible show wpList _ _ _ (⟨_, Op.store _ _ _, _, _, _, _⟩ :: _) _ _); (first | refine Does.list (f_store hS rfl rfl rfl (by rfl) (by rfl)) rfl ?_ | refine Does.list (f_storeS hS rfl rfl rfl (by rfl) (by rfl) (by rfl)) rfl ?_); clear hS; rintro _ wx ⟨rfl, hS⟩; (simp only [List.set_cons_zero, List.set_cons_succ] at hS); (simp only [Act.put, List.setIfInBounds_toArray, List.set_cons_zero, List.set_cons_succ])) | ((with_reducible show wpList _ _ _ (⟨_, Op.alloc _, _, _, _, _⟩ :: _) _ _); refine Does.list (does_alloc hS rfl (by rfl)) rfl ?_; clear hS; rintro _ wx ⟨ba, rfl, hS, _⟩; (simp only [Act.put, List.setIfInBounds_toArray, List.set_cons_zero, List.set_cons_succ])) | ((with_reducible show wpList _ _ _ (⟨_, Op.buildSlice _ _ _, _, _, _, _⟩ :: _) _ _); refine Does.list (does_buildSlice (X := ?_) (cs := ?_) (E := ?_) hS rfl ?_ ?_) rfl ?_; rotate_left 3; (go_simp; rfl); rfl; clear hS; rintro _ wx ⟨bx, rfl, hS, _⟩; (simp only [Act.put, List.setIfInBounds_toArray, List.set_cons_zero, List.set_cons_succ])) | (go_at_call 9; first | ((with_reducible show Calls _ _ #[.slice A _ _] _ _); obtain ⟨Fq, hFq⟩ := hS.has rShape.slice [.slice A xs.length c]; refine (impl_ShapesValid' _ (hR.mod0 hS.mod0) _ _ _ hFq).mono ?_; rintro e w' ⟨rfl, hM⟩; replace hS := hS.mod hM; clear hM hFq) | ((with_reducible show Calls _ _ #[.slice B _ _] _ _); obtain ⟨Fq, hFq⟩ := hS.has rShape.slice [.slice B ys.length d]; refine (impl_ShapesValid' _ (hR.mod0 hS.mod0) _ _ _ hFq).mono ?_; rintro e w' ⟨rfl, hM⟩; replace hS := hS.mod hM; clear hM hFq)))
    go_ret
    exact ⟨ret_false H.out, hS.mod0⟩
  cases h2 : shapesOk ys
  · have H := Lib.hid (sameSh_b (a := xs) h2)
    go_enter Tryd.func12, Tryd.ntmps12
    go_wp2_with (first | ((with_reducible show wpList _ _ _ (⟨_, Op.box _ _, _, _, _, _⟩ :: _) _ _); refine Does.list (does_box hS rfl rfl (by rfl)) rfl ?_; clear hS; rintro _ wx ⟨bo, rfl, hS, _⟩; (simp only [Act.put, List.setIfInBounds_toArray, List.set_cons_zero, List.set_cons_succ])) | ((with_reducible show wpList _ _ _ (⟨_, Op.load _ _, _, _, _, _⟩ :: _) _ _); (first | refine Gives.list (f_load hS rfl rfl (by rfl)) rfl ?_ | refine Gives.list (f_loadS hS rfl rfl (by rfl)) rfl ?_ | refine Gives.list (f_loadAt hS rfl rfl) rfl ?_ | refine Gives.list (f_loadAtS hS rfl rfl (by rfl)) rfl ?_ | refine Gives.list (f_loadAtF hS rfl rfl (by rfl)) rfl ?_); (simp only [Act.put, List.setIfInBounds_toArray, List.set_cons_zero, List.set_cons_succ])) | ((with_reducible show wpList _ _ _ (⟨_, Op.store _ _ _, _, _, _, _⟩ :: _) _ _); (first | refine Does.list (f_store hS rfl rfl rfl (by rfl) (by rfl)) rfl ?_ | refine Does.list (f_storeS hS rfl rfl rfl (by rfl) (by rfl) (by rfl)) rfl ?_); clear hS; rintro _ wx ⟨rfl, hS⟩; (simp only [List.set_cons_zero, List.set_cons_succ] at hS); (simp only [Act.put, List.setIfInBounds_toArray, List.set_cons_zero, List.set_cons_succ])) | ((with_reducible show wpList _ _ _ (⟨_, Op.alloc _, _, _, _, _⟩ :: _) _ _); refine Does.list (does_alloc hS rfl (by rfl)) rfl ?_; clear hS; rintro _ wx ⟨ba, rfl, hS, _⟩; (simp only [Act.put, List.setIfInBounds_toArray, List.set_cons_zero, List.set_cons_succ])) | ((with_reducible show wpList _ _ _ (⟨_, Op.buildSlice _ _ _, _, _, _, _⟩ :: _) _ _); refine Does.list (does_buildSlice (X := ?_) (cs := ?_) (E := ?_) hS rfl ?_ ?_) rfl ?_; rotate_left 3; (go_simp; rfl); rfl; clear hS; rintro _ wx ⟨bx, rfl, hS, _⟩; (simp only [Act.put, List.setIfInBounds_toArray, List.set_cons_zero, List.set_cons_succ])) | (go_at_call 9; first | ((with_reducible show Calls _ _ #[.slice A _ _] _ _); obtain ⟨Fq, hFq⟩ := hS.has rShape.slice [.slice A xs.length c]; refine (impl_ShapesValid' _ (hR.mod0 hS.mod0) _ _ _ hFq).mono ?_; rintro e w' ⟨rfl, hM⟩; replace hS := hS.mod hM; clear hM hFq) | ((with_reducible show Calls _ _ #[.slice B _ _] _ _); obtain ⟨Fq, hFq⟩ := hS.has rShape.slice [.slice B ys.length d]; refine (impl_ShapesValid' _ (hR.mod0 hS.mod0) _ _ _ hFq).mono ?_; rintro e w' ⟨rfl, hM⟩; replace hS := hS.mod hM; clear hM hFq)))
    go_ret
    exact ⟨ret_false H.out, hS.mod0⟩
  have H := Lib.hid (sameSh_eq h1 h2)
  go_enter Tryd.func12, Tryd.ntmps12
  go_wp2_with (first | ((with_reducible show wpList _ _ _ (⟨_, Op.box _ _, _, _, _, _⟩ :: _) _ _); refine Does.list (does_box hS rfl rfl (by rfl)) rfl ?_; clear hS; rintro _ wx ⟨bo, rfl, hS, _⟩; (simp only [Act.put, List.setIfInBounds_toArray, List.set_cons_zero, List.set_cons_succ])) | ((with_reducible show wpList _ _ _ (⟨_, Op.load _ _, _, _, _, _⟩ :: _) _ _); (first | refine Gives.list (f_load hS rfl rfl (by rfl)) rfl ?_ | refine Gives.list (f_loadS hS rfl rfl (by rfl)) rfl ?_ | refine Gives.list (f_loadAt hS rfl rfl) rfl ?_ | refine Gives.list (f_loadAtS hS rfl rfl (by rfl)) rfl ?_ | refine Gives.list (f_loadAtF hS rfl rfl (by rfl)) rfl ?_); (simp only [Act.put, List.setIfInBounds_toArray, List.set_cons_zero, List.set_cons_succ])) | ((with_reducible show wpList _ _ _ (⟨_, Op.store _ _ _, _, _, _, _⟩ :: _) _ _); (first | refine Does.list (f_store hS rfl rfl rfl (by rfl) (by rfl)) rfl ?_ | refine Does.list (f_storeS hS rfl rfl rfl (by rfl) (by rfl) (by rfl)) rfl ?_); clear hS; rintro _ wx ⟨rfl, hS⟩; (simp only [List.set_cons_zero, List.set_cons_succ] at hS); (simp only [Act.put, List.setIfInBounds_toArray, List.set_cons_zero, List.set_cons_succ])) | ((with_reducible show wpList _ _ _ (⟨_, Op.alloc _, _, _, _, _⟩ :: _) _ _); refine Does.list (does_alloc hS rfl (by rfl)) rfl ?_; clear hS; rintro _ wx ⟨ba, rfl, hS, _⟩; (simp only [Act.put, List.setIfInBounds_toArray, List.set_cons_zero, List.set_cons_succ])) | ((with_reducible show wpList _ _ _ (⟨_, Op.buildSlice _ _ _, _, _, _, _⟩ :: _) _ _); refine Does.list (does_buildSlice (X := ?_) (cs := ?_) (E := ?_) hS rfl ?_ ?_) rfl ?_; rotate_left 3; (go_simp; rfl); rfl; clear hS; rintro _ wx ⟨bx, rfl, hS, _⟩; (simp only [Act.put, List.setIfInBounds_toArray, List.set_cons_zero, List.set_cons_succ])) | (go_at_call 9; first | ((with_reducible show Calls _ _ #[.slice A _ _] _ _); obtain ⟨Fq, hFq⟩ := hS.has rShape.slice [.slice A xs.length c]; refine (impl_ShapesValid' _ (hR.mod0 hS.mod0) _ _ _ hFq).mono ?_; rintro e w' ⟨rfl, hM⟩; replace hS := hS.mod hM; clear hM hFq) | ((with_reducible show Calls _ _ #[.slice B _ _] _ _); obtain ⟨Fq, hFq⟩ := hS.has rShape.slice [.slice B ys.length d]; refine (impl_ShapesValid' _ (hR.mod0 hS.mod0) _ _ _ hFq).mono ?_; rintro e w' ⟨rfl, hM⟩; replace hS := hS.mod hM; clear hM hFq)) | (go_at_call 24; obtain ⟨Fq, hFq⟩ := hS.has rShape.slice [.slice A xs.length c]; obtain ⟨Fr, hFr⟩ := hS.has rShape.slice [.slice B ys.length d]; refine (eqf_SameShapes _ _ _ _ _ _ _ hFq hFr).mono ?_; rintro e w' ⟨rfl, hM⟩; replace hS := hS.mod hM; clear hM hFq hFr))
  go_ret
  exact ⟨ret_bool H.out.symm, hS.mod0⟩



































































































end Go.Proofs.YtnbaekjednmfjaaDoor
