/- FnExactRowText returns true for every input: the program's function is the reference's, in memory of its own. -/
import Derived.Test.YteafnieapifnnaaDoorTxR
import Derived.Test.YteafnieapifnnaaDoorEqA
import Derived.Test.YteafnieapifnnaaDoorToA
import Derived.Test.YteafnieapifnnaaDoorLdT
import Derived.Test.YteafnieapifnnaaDoorDoor
namespace Go.Proofs.YteafnieapifnnaaDoor
open Go.ChangeShapes Go.WideShapes Go.ChangeAt Go.RowKit

theorem szL_ints : ∀ row : List Int, (szL szZ) row = row.length
  | [] => rfl
  | x :: r => by
    have h := szL_ints r
    unfold szL at h ⊢
    rw [List.map_cons, List.sum_cons, List.length_cons]
    show r.length + 1 + (0 + _) = _
    omega
attribute [local go_sem] eqB_rfl
set_option maxHeartbeats 8000000 in
set_option maxRecDepth 100000 in
theorem fnExactRowText_calls (w : World) (ht : TabOk w) (v : Value) (F : List Nat) (row : List Int) (hx : SliceHas Rep.int w F [v] row) :
    Calls Tryd.prog 5 #[v] w fun e w' => e = .returned (.bool true) ∧ Mod [] w w' := by
  obtain ⟨A, c, rfl, hl, _⟩ := hx.form'
  have hS : Sat w w [.ro Rep.int.slice [.slice A row.length c] row] := (Sat.nil w).arg hx
  clear hx
  by_cases hq : 1048576 < row.length
  · go_enter Tryd.func5, Tryd.ntmps5
    go_wp2_with (first | ((with_reducible show wpList _ _ _ (⟨_, Op.box _ _, _, _, _, _⟩ :: _) _ _); refine Does.list (does_box hS rfl rfl (by rfl)) rfl ?_; clear hS; rintro _ wx ⟨bo, rfl, hS, _⟩; (simp only [Act.put, List.setIfInBounds_toArray, List.set_cons_zero, List.set_cons_succ])) | ((with_reducible show wpList _ _ _ (⟨_, Op.load _ _, _, _, _, _⟩ :: _) _ _); (first | refine Gives.list (f_load hS rfl rfl (by rfl)) rfl ?_ | refine Gives.list (f_loadS hS rfl rfl (by rfl)) rfl ?_ | refine Gives.list (f_loadAt hS rfl rfl) rfl ?_ | refine Gives.list (f_loadAtS hS rfl rfl (by rfl)) rfl ?_ | refine Gives.list (f_loadAtF hS rfl rfl (by rfl)) rfl ?_); (simp only [Act.put, List.setIfInBounds_toArray, List.set_cons_zero, List.set_cons_succ])) | ((with_reducible show wpList _ _ _ (⟨_, Op.store _ _ _, _, _, _, _⟩ :: _) _ _); (first | refine Does.list (f_store hS rfl rfl rfl (by rfl) (by rfl)) rfl ?_ | refine Does.list (f_storeS hS rfl rfl rfl (by rfl) (by rfl) (by rfl)) rfl ?_); clear hS; rintro _ wx ⟨rfl, hS⟩; (simp only [List.set_cons_zero, List.set_cons_succ] at hS); (simp only [Act.put, List.setIfInBounds_toArray, List.set_cons_zero, List.set_cons_succ])) | ((with_reducible show wpList _ _ _ (⟨_, Op.alloc _, _, _, _, _⟩ :: _) _ _); refine Does.list (does_alloc hS rfl (by rfl)) rfl ?_; clear hS; rintro _ wx ⟨ba, rfl, hS, _⟩; (simp only [Act.put, List.setIfInBounds_toArray, List.set_cons_zero, List.set_cons_succ])) | ((with_reducible show wpList _ _ _ (⟨_, Op.buildSlice _ _ _, _, _, _, _⟩ :: _) _ _); refine Does.list (does_buildSlice (X := ?_) (cs := ?_) (E := ?_) hS rfl ?_ ?_) rfl ?_; rotate_left 3; (go_simp; rfl); rfl; clear hS; rintro _ wx ⟨bx, rfl, hS, _⟩; (simp only [Act.put, List.setIfInBounds_toArray, List.set_cons_zero, List.set_cons_succ])))
    go_ret
    exact ⟨rfl, hS.mod0⟩
  have hsz : (szL szZ) row ≤ 1048576 := by
    have := szL_ints row
    omega
  go_enter Tryd.func5, Tryd.ntmps5
  go_wp2_with (first | (go_at_call 18; obtain ⟨Fq, hFq⟩ := hS.has Rep.int.slice [.slice A row.length c]; refine (toIntS_any _ _ _ row hFq hsz).mono ?_; rintro e w' ⟨v5, rfl, hN⟩; replace hS := hS.fresh hN; clear hN hFq; obtain ⟨A6, c6, rfl⟩ := hS.formW 0 rfl) | (go_at_call 17; obtain ⟨Fq, hFq⟩ := hS.has Rep.int.slice [.slice A6 row.length c6]; refine (spec_RowText _ Fq A6 c6 row hFq (by omega)).mono ?_; rintro e w' ⟨rfl, hM⟩; replace hS := hS.mod hM; clear hM hFq) | (go_at_call 19; obtain ⟨Fq, hFq⟩ := hS.has Rep.int.slice [.slice A6 row.length c6]; refine (impl_RowText _ (ht.mod0 hS.mod0) Fq A6 c6 row hFq).mono ?_; rintro e w' ⟨rfl, hM⟩; replace hS := hS.mod hM; clear hM hFq; obtain ⟨A7, rfl⟩ : ∃ A7, A7 = A6 := ⟨_, rfl⟩; obtain ⟨c7, rfl⟩ : ∃ c7, c7 = c6 := ⟨_, rfl⟩) | (go_at_call 20; obtain ⟨Fq, hFq⟩ := hS.has Rep.int.slice [.slice A7 row.length c7]; obtain ⟨Fr, hFr⟩ := hS.has Rep.int.slice [.slice A6 row.length c6]; refine (eqIntS_any _ _ _ _ _ _ _ hFq hFr).mono ?_; rintro e w' ⟨rfl, hM⟩; replace hS := hS.mod hM; clear hM hFq hFr; (simp only [eqB_rfl])) | ((with_reducible show wpList _ _ _ (⟨_, Op.box _ _, _, _, _, _⟩ :: _) _ _); refine Does.list (does_box hS rfl rfl (by rfl)) rfl ?_; clear hS; rintro _ wx ⟨bo, rfl, hS, _⟩; (simp only [Act.put, List.setIfInBounds_toArray, List.set_cons_zero, List.set_cons_succ])) | ((with_reducible show wpList _ _ _ (⟨_, Op.load _ _, _, _, _, _⟩ :: _) _ _); (first | refine Gives.list (f_load hS rfl rfl (by rfl)) rfl ?_ | refine Gives.list (f_loadS hS rfl rfl (by rfl)) rfl ?_ | refine Gives.list (f_loadAt hS rfl rfl) rfl ?_ | refine Gives.list (f_loadAtS hS rfl rfl (by rfl)) rfl ?_ | refine Gives.list (f_loadAtF hS rfl rfl (by rfl)) rfl ?_); (simp only [Act.put, List.setIfInBounds_toArray, List.set_cons_zero, List.set_cons_succ])) | ((with_reducible show wpList _ _ _ (⟨_, Op.store _ _ _, _, _, _, _⟩ :: _) _ _); (first | refine Does.list (f_store hS rfl rfl rfl (by rfl) (by rfl)) rfl ?_ | refine Does.list (f_storeS hS rfl rfl rfl (by rfl) (by rfl) (by rfl)) rfl ?_); clear hS; rintro _ wx ⟨rfl, hS⟩; (simp only [List.set_cons_zero, List.set_cons_succ] at hS); (simp only [Act.put, List.setIfInBounds_toArray, List.set_cons_zero, List.set_cons_succ])) | ((with_reducible show wpList _ _ _ (⟨_, Op.alloc _, _, _, _, _⟩ :: _) _ _); refine Does.list (does_alloc hS rfl (by rfl)) rfl ?_; clear hS; rintro _ wx ⟨ba, rfl, hS, _⟩; (simp only [Act.put, List.setIfInBounds_toArray, List.set_cons_zero, List.set_cons_succ])) | ((with_reducible show wpList _ _ _ (⟨_, Op.buildSlice _ _ _, _, _, _, _⟩ :: _) _ _); refine Does.list (does_buildSlice (X := ?_) (cs := ?_) (E := ?_) hS rfl ?_ ?_) rfl ?_; rotate_left 3; (go_simp; rfl); rfl; clear hS; rintro _ wx ⟨bx, rfl, hS, _⟩; (simp only [Act.put, List.setIfInBounds_toArray, List.set_cons_zero, List.set_cons_succ])))
  go_ret
  exact ⟨rfl, hS.mod0⟩

theorem fnExactRowText_met (os : Os) (args : Array Value) : laidMetH Tryd.prog Rows.fnExactRowTextRow.laid ((World.doorLaid Tryd.prog 400 os).forCall (fun _ _ => 0) ⟨#[], args, []⟩).memory :=
  laidMetH_of_parts3 (fuel := 8) (laidMet_of_run' 8 (by kernel_rfl) (by kernel_rfl)) (by kernel_rfl) (by kernel_rfl)
set_option maxRecDepth 100000 in
theorem fnExactRowText_lifted (os : Os) (started : os.Started) (H : Type) (enc : TypeId × Value → H) :
    ReturnsInHanded {} Tryd.checked os 5 .any (fun w args => (Rows.fnExactRowTextSpec.pre enc Tryd.prog Tryd.f5 [] false w args ∧ laidMetH Tryd.prog Rows.fnExactRowTextRow.laid w) ∧ sizedMet enc Tryd.prog Tryd.f5 (OpenSpec.ofChange Rows.fnExactRowTextSpec) false w args) (Rows.fnExactRowTextSpec.post enc Tryd.prog Tryd.f5 false true false false) := by
  refine returnsInHanded_of_change_and (C := Tryd.checked) (X := fun w _ => laidMetH Tryd.prog Rows.fnExactRowTextRow.laid w) (fun _ _ _ hh h => h.of_heap hh) (show ownKnob Tryd.prog.godebug = none by kernel_rfl) started (by kernel_rfl) Tryd.func5
    (ChangeSpec.witness_shaped (enc := enc) (C := Tryd.checked) (os := os) (X := fun w _ => laidMetH Tryd.prog Rows.fnExactRowTextRow.laid w) false (World.doorLaid Tryd.prog 400 os) #[.slice none 0 0] 8 rfl (World.shaped_of_RefB (by kernel_rfl) (by kernel_rfl)) (by kernel_rfl) (by kernel_rfl) (by kernel_rfl) (fnExactRowText_met os _)) ?_
  intro W base args ds gs before hval0 hW _ _ hL _
  have hval : ∀ (j : Nat) t v, Tryd.f5.params[j]? = some t → args[j]? = some v → Value.okWide Tryd.prog W .any base t v := hval0
  have hW' := hW
  obtain ⟨p, q, hA0, hV, rfl, hfz, hnd⟩ := hW
  have hA : DataW.TrodAll enc Tryd.prog W 0 (fun _ => true) true Tryd.f5.params.toList args.toList ds p := hA0
  rw [Tryd.params5] at hA hval
  obtain ⟨v0, vs0, d0, ds0, p0, q0, hargs, rfl, rfl, r0, s0⟩ := trodAll_cons hA
  obtain ⟨rfl, rfl, rfl⟩ := trodAll_nil s0
  obtain rfl : args = #[v0] := by cases args; simp_all
  have hL' : TabOk W := tab_of_laid3 hL
  obtain ⟨F0, x0, hx0⟩ := read_slice Tryd.underlying41 ((reads_slice Tryd.underlying41 (by kernel_rfl) (reads_int Tryd.underlying3 (by kernel_rfl)))) (hval 0 41 v0 rfl rfl) r0
  refine (fnExactRowText_calls W hL' v0 F0 x0 hx0).mono fun e W' ⟨he, hm⟩ => ?_
  subst he
  obtain rfl := vars_nil hV
  exact ⟨_, rfl, post_law (by kernel_rfl) (by kernel_rfl) (by kernel_rfl) rfl rfl Tryd.underlying4 hW' hm⟩

theorem fnExactRowText_row : Rows.FnExactRowTextSaid :=
  OpenClaim.holds_of_wide 5 Tryd.f5 rfl rfl rfl rfl rfl rfl rfl ⟨rfl, rfl, rfl, rfl, rfl⟩ rfl rfl rfl rfl rfl (by kernel_rfl) Tryd.func5 (show joinedFacts Tryd.prog 5 Tryd.f5 Rows.fnExactRowTextSpec Rows.fnExactRowTextRow = true from (by unfold joinedFacts; rw [gen_make, gen_lifts, gen_may]; kernel_rfl))
    (of_decide_eq_true (by kernel_rfl)) (by unfold Func.isWrapper; first | (rw [if_pos (by decide +kernel)]; kernel_rfl) | (rw [if_neg (by decide +kernel)]; exact ⟨rfl, rfl⟩))
    (fun os started H enc _ => fnExactRowText_lifted os started H enc)

theorem fnExactRowText_holds : Rows.FnExactRowTextCardSaid :=
  Claim7.holds_tied_plain_at .later [] _ _ _ _
    fnExactRowText_row (fun _ h => by cases h) (by kernel_rfl) (fun _ h => by cases h) fnExactRowText_row_tie rfl ⟨rfl, rfl⟩ (by exact gen_main) rfl
    (fun f fn hf hfn => by
      obtain rfl : f = 5 := Option.some.inj ((show Tryd.prog.funcNamed "loop.example/obliviousqueries/laws.FnExactRowText" = some 5 by kernel_rfl).symm.trans hf) |>.symm
      obtain rfl : fn = Tryd.f5 := (Option.some.inj (Tryd.func5.symm.trans hfn)).symm
      exact ⟨by kernel_rfl, fun j t ht => by
        rw [Tryd.params5] at ht
        have hm : t ∈ [41] := by simpa using Array.mem_of_getElem? ht
        have hall : ([41].all fun u => !Tryd.prog.wantsStandIn u) = true := by kernel_rfl
        exact (show Tryd.prog.wantsStandIn t = false by simpa using List.all_eq_true.1 hall t hm)⟩)
    (by kernel_rfl)

end Go.Proofs.YteafnieapifnnaaDoor
