/- Contracts of eq.. for structs with slices. -/
import Derived.Test.YtldknaajnnohiaaDoorEqA
import Derived.Test.YtldknaajnnohiaaDoorSatT
import Derived.Test.YtldknaajnnohiaaDoorFind
import Derived.Test.YtldknaajnnohiaaDoorTys
section
namespace Go.Proofs.YtldknaajnnohiaaDoor
open Go.RowKit
attribute [local go_sem] ext_cell













end Go.Proofs.YtldknaajnnohiaaDoor
end

section
namespace Go.Proofs.YtldknaajnnohiaaDoor
open Go.RowKit

theorem eqB_three {α β γ : Type} [DecidableEq α] [DecidableEq β] [DecidableEq γ] (a a' : α) (b b' : β) (c c' : γ) : eqB (a, b, c) (a', b', c') = (eqB a a' && (eqB b b' && eqB c c')) := by
  unfold eqB
  by_cases h1 : a = a' <;> by_cases h2 : b = b' <;> by_cases h3 : c = c' <;> simp [h1, h2, h3]
set_option maxHeartbeats 2000000 in
set_option maxRecDepth 8000 in
theorem eqPadded_any (w : World) (F G : List Nat) (cs ds : List Value) (x y : PaddedD) (hx : rPadded.has w F cs x) (hy : rPadded.has w G ds y) :
    Calls Tryd.prog 44 #[.agg cs.toArray, .agg ds.toArray] w fun e w' => e = .returned (.bool (eqB x y)) ∧ Mod [] w w' := by
  obtain ⟨A0, c0, F0, A1, c1, F1, A2, c2, F2, rfl, _, hx0, hx1, hx2⟩ := rPadded_open hx
  obtain ⟨B0, d0, G0, B1, d1, G1, B2, d2, G2, rfl, _, hy0, hy1, hy2⟩ := rPadded_open hy
  obtain ⟨x0, x1, x2⟩ := x
  obtain ⟨y0, y1, y2⟩ := y
  dsimp only at hx0 hx1 hx2 hy0 hy1 hy2
  have hS : Sat w w [.ro Rep.str.slice [.slice A0 x0.length c0] x0, .ro Rep.int.slice.slice [.slice A1 x1.length c1] x1, .ro Rep.bool.slice [.slice A2 x2.length c2] x2, .ro Rep.str.slice [.slice B0 y0.length d0] y0, .ro Rep.int.slice.slice [.slice B1 y1.length d1] y1, .ro Rep.bool.slice [.slice B2 y2.length d2] y2] := ((((((Sat.nil w).arg hy2).arg hy1).arg hy0).arg hx2).arg hx1).arg hx0
  clear hx hy hx0 hx1 hx2 hy0 hy1 hy2
  have hE := eqB_three x0 y0 x1 y1 x2 y2
  cases e0 : eqB x0 y0
  · rw [e0] at hE
    go_enter Tryd.func44, Tryd.ntmps44
    go_wp2_with (first | (go_at_call 108; obtain ⟨Fq, hFq⟩ := hS.has Rep.str.slice [.slice A0 x0.length c0]; obtain ⟨Fr, hFr⟩ := hS.has Rep.str.slice [.slice B0 y0.length d0]; refine (eqStringS_any _ _ _ _ _ _ _ hFq hFr).mono ?_; rintro e w' ⟨rfl, hM⟩; replace hS := hS.mod hM; clear hM hFq hFr; (simp only [e0])) | (go_at_call 109; obtain ⟨Fq, hFq⟩ := hS.has Rep.int.slice.slice [.slice A1 x1.length c1]; obtain ⟨Fr, hFr⟩ := hS.has Rep.int.slice.slice [.slice B1 y1.length d1]; refine (eqIntSS_any _ _ _ _ _ _ _ hFq hFr).mono ?_; rintro e w' ⟨rfl, hM⟩; replace hS := hS.mod hM; clear hM hFq hFr; (simp only [e1])) | (go_at_call 110; obtain ⟨Fq, hFq⟩ := hS.has Rep.bool.slice [.slice A2 x2.length c2]; obtain ⟨Fr, hFr⟩ := hS.has Rep.bool.slice [.slice B2 y2.length d2]; refine (eqBoolS_any _ _ _ _ _ _ _ hFq hFr).mono ?_; rintro e w' ⟨rfl, hM⟩; replace hS := hS.mod hM; clear hM hFq hFr; (simp only [e2])) | ((with_reducible show wpList _ _ _ (⟨_, Op.box _ _, _, _, _, _⟩ :: _) _ _); refine Does.list (does_box hS rfl rfl (by rfl)) rfl ?_; clear hS; rintro _ wx ⟨bo, rfl, hS, _⟩; (simp only [Act.put, List.setIfInBounds_toArray, List.set_cons_zero, List.set_cons_succ])) | ((with_reducible show wpList _ _ _ (⟨_, Op.load _ _, _, _, _, _⟩ :: _) _ _); (first | refine Gives.list (f_load hS rfl rfl (by rfl)) rfl ?_ | refine Gives.list (f_loadS hS rfl rfl (by rfl)) rfl ?_ | refine Gives.list (f_loadAt hS rfl rfl) rfl ?_ | refine Gives.list (f_loadAtS hS rfl rfl (by rfl)) rfl ?_ | refine Gives.list (f_loadAtF hS rfl rfl (by rfl)) rfl ?_); (simp only [Act.put, List.setIfInBounds_toArray, List.set_cons_zero, List.set_cons_succ])) | ((with_reducible show wpList _ _ _ (⟨_, Op.store _ _ _, _, _, _, _⟩ :: _) _ _); (first | refine Does.list (f_store hS rfl rfl rfl (by rfl) (by rfl)) rfl ?_ | refine Does.list (f_storeS hS rfl rfl rfl (by rfl) (by rfl) (by rfl)) rfl ?_); clear hS; rintro _ wx ⟨rfl, hS⟩; (simp only [List.set_cons_zero, List.set_cons_succ] at hS); (simp only [Act.put, List.setIfInBounds_toArray, List.set_cons_zero, List.set_cons_succ])) | ((with_reducible show wpList _ _ _ (⟨_, Op.alloc _, _, _, _, _⟩ :: _) _ _); refine Does.list (does_alloc hS rfl (by rfl)) rfl ?_; clear hS; rintro _ wx ⟨ba, rfl, hS, _⟩; (simp only [Act.put, List.setIfInBounds_toArray, List.set_cons_zero, List.set_cons_succ])) | ((with_reducible show wpList _ _ _ (⟨_, Op.buildSlice _ _ _, _, _, _, _⟩ :: _) _ _); refine Does.list (does_buildSlice (X := ?_) (cs := ?_) (E := ?_) hS rfl ?_ ?_) rfl ?_; rotate_left 3; (go_simp; rfl); rfl; clear hS; rintro _ wx ⟨bx, rfl, hS, _⟩; (simp only [Act.put, List.setIfInBounds_toArray, List.set_cons_zero, List.set_cons_succ])))
    go_ret
    exact ⟨ret_false (by rw [hE]; rfl), hS.mod0⟩
  cases e1 : eqB x1 y1
  · rw [e0, e1] at hE
    go_enter Tryd.func44, Tryd.ntmps44
    go_wp2_with (first | (go_at_call 108; obtain ⟨Fq, hFq⟩ := hS.has Rep.str.slice [.slice A0 x0.length c0]; obtain ⟨Fr, hFr⟩ := hS.has Rep.str.slice [.slice B0 y0.length d0]; refine (eqStringS_any _ _ _ _ _ _ _ hFq hFr).mono ?_; rintro e w' ⟨rfl, hM⟩; replace hS := hS.mod hM; clear hM hFq hFr; (simp only [e0])) | (go_at_call 109; obtain ⟨Fq, hFq⟩ := hS.has Rep.int.slice.slice [.slice A1 x1.length c1]; obtain ⟨Fr, hFr⟩ := hS.has Rep.int.slice.slice [.slice B1 y1.length d1]; refine (eqIntSS_any _ _ _ _ _ _ _ hFq hFr).mono ?_; rintro e w' ⟨rfl, hM⟩; replace hS := hS.mod hM; clear hM hFq hFr; (simp only [e1])) | (go_at_call 110; obtain ⟨Fq, hFq⟩ := hS.has Rep.bool.slice [.slice A2 x2.length c2]; obtain ⟨Fr, hFr⟩ := hS.has Rep.bool.slice [.slice B2 y2.length d2]; refine (eqBoolS_any _ _ _ _ _ _ _ hFq hFr).mono ?_; rintro e w' ⟨rfl, hM⟩; replace hS := hS.mod hM; clear hM hFq hFr; (simp only [e2])) | ((with_reducible show wpList _ _ _ (⟨_, Op.box _ _, _, _, _, _⟩ :: _) _ _); refine Does.list (does_box hS rfl rfl (by rfl)) rfl ?_; clear hS; rintro _ wx ⟨bo, rfl, hS, _⟩; (simp only [Act.put, List.setIfInBounds_toArray, List.set_cons_zero, List.set_cons_succ])) | ((with_reducible show wpList _ _ _ (⟨_, Op.load _ _, _, _, _, _⟩ :: _) _ _); (first | refine Gives.list (f_load hS rfl rfl (by rfl)) rfl ?_ | refine Gives.list (f_loadS hS rfl rfl (by rfl)) rfl ?_ | refine Gives.list (f_loadAt hS rfl rfl) rfl ?_ | refine Gives.list (f_loadAtS hS rfl rfl (by rfl)) rfl ?_ | refine Gives.list (f_loadAtF hS rfl rfl (by rfl)) rfl ?_); (simp only [Act.put, List.setIfInBounds_toArray, List.set_cons_zero, List.set_cons_succ])) | ((with_reducible show wpList _ _ _ (⟨_, Op.store _ _ _, _, _, _, _⟩ :: _) _ _); (first | refine Does.list (f_store hS rfl rfl rfl (by rfl) (by rfl)) rfl ?_ | refine Does.list (f_storeS hS rfl rfl rfl (by rfl) (by rfl) (by rfl)) rfl ?_); clear hS; rintro _ wx ⟨rfl, hS⟩; (simp only [List.set_cons_zero, List.set_cons_succ] at hS); (simp only [Act.put, List.setIfInBounds_toArray, List.set_cons_zero, List.set_cons_succ])) | ((with_reducible show wpList _ _ _ (⟨_, Op.alloc _, _, _, _, _⟩ :: _) _ _); refine Does.list (does_alloc hS rfl (by rfl)) rfl ?_; clear hS; rintro _ wx ⟨ba, rfl, hS, _⟩; (simp only [Act.put, List.setIfInBounds_toArray, List.set_cons_zero, List.set_cons_succ])) | ((with_reducible show wpList _ _ _ (⟨_, Op.buildSlice _ _ _, _, _, _, _⟩ :: _) _ _); refine Does.list (does_buildSlice (X := ?_) (cs := ?_) (E := ?_) hS rfl ?_ ?_) rfl ?_; rotate_left 3; (go_simp; rfl); rfl; clear hS; rintro _ wx ⟨bx, rfl, hS, _⟩; (simp only [Act.put, List.setIfInBounds_toArray, List.set_cons_zero, List.set_cons_succ])))
    go_ret
    exact ⟨ret_false (by rw [hE]; rfl), hS.mod0⟩
  cases e2 : eqB x2 y2
  all_goals
    rw [e0, e1, e2] at hE
    go_enter Tryd.func44, Tryd.ntmps44
    go_wp2_with (first | (go_at_call 108; obtain ⟨Fq, hFq⟩ := hS.has Rep.str.slice [.slice A0 x0.length c0]; obtain ⟨Fr, hFr⟩ := hS.has Rep.str.slice [.slice B0 y0.length d0]; refine (eqStringS_any _ _ _ _ _ _ _ hFq hFr).mono ?_; rintro e w' ⟨rfl, hM⟩; replace hS := hS.mod hM; clear hM hFq hFr; (simp only [e0])) | (go_at_call 109; obtain ⟨Fq, hFq⟩ := hS.has Rep.int.slice.slice [.slice A1 x1.length c1]; obtain ⟨Fr, hFr⟩ := hS.has Rep.int.slice.slice [.slice B1 y1.length d1]; refine (eqIntSS_any _ _ _ _ _ _ _ hFq hFr).mono ?_; rintro e w' ⟨rfl, hM⟩; replace hS := hS.mod hM; clear hM hFq hFr; (simp only [e1])) | (go_at_call 110; obtain ⟨Fq, hFq⟩ := hS.has Rep.bool.slice [.slice A2 x2.length c2]; obtain ⟨Fr, hFr⟩ := hS.has Rep.bool.slice [.slice B2 y2.length d2]; refine (eqBoolS_any _ _ _ _ _ _ _ hFq hFr).mono ?_; rintro e w' ⟨rfl, hM⟩; replace hS := hS.mod hM; clear hM hFq hFr; (simp only [e2])) | ((with_reducible show wpList _ _ _ (⟨_, Op.box _ _, _, _, _, _⟩ :: _) _ _); refine Does.list (does_box hS rfl rfl (by rfl)) rfl ?_; clear hS; rintro _ wx ⟨bo, rfl, hS, _⟩; (simp only [Act.put, List.setIfInBounds_toArray, List.set_cons_zero, List.set_cons_succ])) | ((with_reducible show wpList _ _ _ (⟨_, Op.load _ _, _, _, _, _⟩ :: _) _ _); (first | refine Gives.list (f_load hS rfl rfl (by rfl)) rfl ?_ | refine Gives.list (f_loadS hS rfl rfl (by rfl)) rfl ?_ | refine Gives.list (f_loadAt hS rfl rfl) rfl ?_ | refine Gives.list (f_loadAtS hS rfl rfl (by rfl)) rfl ?_ | refine Gives.list (f_loadAtF hS rfl rfl (by rfl)) rfl ?_); (simp only [Act.put, List.setIfInBounds_toArray, List.set_cons_zero, List.set_cons_succ])) | ((with_reducible show wpList _ _ _ (⟨_, Op.store _ _ _, _, _, _, _⟩ :: _) _ _); (first | refine Does.list (f_store hS rfl rfl rfl (by rfl) (by rfl)) rfl ?_ | refine Does.list (f_storeS hS rfl rfl rfl (by rfl) (by rfl) (by rfl)) rfl ?_); clear hS; rintro _ wx ⟨rfl, hS⟩; (simp only [List.set_cons_zero, List.set_cons_succ] at hS); (simp only [Act.put, List.setIfInBounds_toArray, List.set_cons_zero, List.set_cons_succ])) | ((with_reducible show wpList _ _ _ (⟨_, Op.alloc _, _, _, _, _⟩ :: _) _ _); refine Does.list (does_alloc hS rfl (by rfl)) rfl ?_; clear hS; rintro _ wx ⟨ba, rfl, hS, _⟩; (simp only [Act.put, List.setIfInBounds_toArray, List.set_cons_zero, List.set_cons_succ])) | ((with_reducible show wpList _ _ _ (⟨_, Op.buildSlice _ _ _, _, _, _, _⟩ :: _) _ _); refine Does.list (does_buildSlice (X := ?_) (cs := ?_) (E := ?_) hS rfl ?_ ?_) rfl ?_; rotate_left 3; (go_simp; rfl); rfl; clear hS; rintro _ wx ⟨bx, rfl, hS, _⟩; (simp only [Act.put, List.setIfInBounds_toArray, List.set_cons_zero, List.set_cons_succ])))
    go_ret
    first
    | exact ⟨ret_false (by rw [hE]; rfl), hS.mod0⟩
    | exact ⟨ret_true (by rw [hE]; rfl), hS.mod0⟩
end Go.Proofs.YtldknaajnnohiaaDoor
end
