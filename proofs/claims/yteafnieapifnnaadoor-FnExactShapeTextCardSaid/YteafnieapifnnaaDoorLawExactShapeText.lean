/- FnExactShapeText returns true for every input: the program's function is the reference's, in memory of its own. -/
import Derived.Test.YteafnieapifnnaaDoorTxS
import Derived.Test.YteafnieapifnnaaDoorEqA
import Derived.Test.YteafnieapifnnaaDoorToB
import Derived.Test.YteafnieapifnnaaDoorMkDefs
import Derived.Test.YteafnieapifnnaaDoorLdT
import Derived.Test.YteafnieapifnnaaDoorDoor
namespace Go.Proofs.YteafnieapifnnaaDoor
open Go.ChangeShapes Go.WideShapes Go.ChangeAt Go.RowKit
attribute [local go_sem] eqB_rfl

set_option maxHeartbeats 8000000 in
set_option maxRecDepth 100000 in
theorem fnExactShapeText_calls (w : World) (hR : ResOk w) (v : Value) (F : List Nat) (l : List ShapeD) (hx : SliceHas rShape w F [v] l) :
    Calls Tryd.prog 6 #[v] w fun e w' => e = .returned (.bool true) ∧ Mod [] w w' := by
  obtain ⟨A, c, rfl, hl, _⟩ := hx.form'
  have hS : Sat w w [.ro rShape.slice [.slice A l.length c] l] := (Sat.nil w).arg hx
  clear hx
  go_enter Tryd.func6, Tryd.ntmps6
  go_wp2_with (first | (go_at_call 21; obtain ⟨Fq, hFq⟩ := hS.has rShape.slice [.slice A l.length c]; refine (szShapeS_any _ _ _ l _ hFq (by omega) (by omega)).mono ?_; rintro e w' ⟨r2, rfl, hr2, hM⟩; replace hS := hS.mod hM; clear hM hFq; refine Hid.out ?_) | ((with_reducible show wpList _ _ _ (⟨_, Op.box _ _, _, _, _, _⟩ :: _) _ _); refine Does.list (does_box hS rfl rfl (by rfl)) rfl ?_; clear hS; rintro _ wx ⟨bo, rfl, hS, _⟩; (simp only [Act.put, List.setIfInBounds_toArray, List.set_cons_zero, List.set_cons_succ])) | ((with_reducible show wpList _ _ _ (⟨_, Op.load _ _, _, _, _, _⟩ :: _) _ _); (first | refine Gives.list (f_load hS rfl rfl (by rfl)) rfl ?_ | refine Gives.list (f_loadS hS rfl rfl (by rfl)) rfl ?_ | refine Gives.list (f_loadAt hS rfl rfl) rfl ?_ | refine Gives.list (f_loadAtS hS rfl rfl (by rfl)) rfl ?_ | refine Gives.list (f_loadAtF hS rfl rfl (by rfl)) rfl ?_); (simp only [Act.put, List.setIfInBounds_toArray, List.set_cons_zero, List.set_cons_succ])) | ((with_reducible show wpList _ _ _ (⟨_, Op.store _ _ _, _, _, _, _⟩ :: _) _ _); (first | refine Does.list (f_store hS rfl rfl rfl (by rfl) (by rfl)) rfl ?_ | refine Does.list (f_storeS hS rfl rfl rfl (by rfl) (by rfl) (by rfl)) rfl ?_); clear hS; rintro _ wx ⟨rfl, hS⟩; (simp only [List.set_cons_zero, List.set_cons_succ] at hS); (simp only [Act.put, List.setIfInBounds_toArray, List.set_cons_zero, List.set_cons_succ])) | ((with_reducible show wpList _ _ _ (⟨_, Op.alloc _, _, _, _, _⟩ :: _) _ _); refine Does.list (does_alloc hS rfl (by rfl)) rfl ?_; clear hS; rintro _ wx ⟨ba, rfl, hS, _⟩; (simp only [Act.put, List.setIfInBounds_toArray, List.set_cons_zero, List.set_cons_succ])) | ((with_reducible show wpList _ _ _ (⟨_, Op.buildSlice _ _ _, _, _, _, _⟩ :: _) _ _); refine Does.list (does_buildSlice (X := ?_) (cs := ?_) (E := ?_) hS rfl ?_ ?_) rfl ?_; rotate_left 3; (go_simp; rfl); rfl; clear hS; rintro _ wx ⟨bx, rfl, hS, _⟩; (simp only [Act.put, List.setIfInBounds_toArray, List.set_cons_zero, List.set_cons_succ])))
  refine Lib.hid ?_
  rcases hr2 with rfl | ⟨p2, q2⟩
  · go_wp2_with (first | ((with_reducible show wpList _ _ _ (⟨_, Op.box _ _, _, _, _, _⟩ :: _) _ _); refine Does.list (does_box hS rfl rfl (by rfl)) rfl ?_; clear hS; rintro _ wx ⟨bo, rfl, hS, _⟩; (simp only [Act.put, List.setIfInBounds_toArray, List.set_cons_zero, List.set_cons_succ])) | ((with_reducible show wpList _ _ _ (⟨_, Op.load _ _, _, _, _, _⟩ :: _) _ _); (first | refine Gives.list (f_load hS rfl rfl (by rfl)) rfl ?_ | refine Gives.list (f_loadS hS rfl rfl (by rfl)) rfl ?_ | refine Gives.list (f_loadAt hS rfl rfl) rfl ?_ | refine Gives.list (f_loadAtS hS rfl rfl (by rfl)) rfl ?_ | refine Gives.list (f_loadAtF hS rfl rfl (by rfl)) rfl ?_); (simp only [Act.put, List.setIfInBounds_toArray, List.set_cons_zero, List.set_cons_succ])) | ((with_reducible show wpList _ _ _ (⟨_, Op.store _ _ _, _, _, _, _⟩ :: _) _ _); (first | refine Does.list (f_store hS rfl rfl rfl (by rfl) (by rfl)) rfl ?_ | refine Does.list (f_storeS hS rfl rfl rfl (by rfl) (by rfl) (by rfl)) rfl ?_); clear hS; rintro _ wx ⟨rfl, hS⟩; (simp only [List.set_cons_zero, List.set_cons_succ] at hS); (simp only [Act.put, List.setIfInBounds_toArray, List.set_cons_zero, List.set_cons_succ])) | ((with_reducible show wpList _ _ _ (⟨_, Op.alloc _, _, _, _, _⟩ :: _) _ _); refine Does.list (does_alloc hS rfl (by rfl)) rfl ?_; clear hS; rintro _ wx ⟨ba, rfl, hS, _⟩; (simp only [Act.put, List.setIfInBounds_toArray, List.set_cons_zero, List.set_cons_succ])) | ((with_reducible show wpList _ _ _ (⟨_, Op.buildSlice _ _ _, _, _, _, _⟩ :: _) _ _); refine Does.list (does_buildSlice (X := ?_) (cs := ?_) (E := ?_) hS rfl ?_ ?_) rfl ?_; rotate_left 3; (go_simp; rfl); rfl; clear hS; rintro _ wx ⟨bx, rfl, hS, _⟩; (simp only [Act.put, List.setIfInBounds_toArray, List.set_cons_zero, List.set_cons_succ])))
    go_ret
    exact ⟨rfl, hS.mod0⟩
  have Hsz : Hid ((szL szShape) l ≤ 1048576) := Lib.hid (by omega)
  have hr0 : decide (r2 < 0) = false := decide_eq_false (by omega)
  have hr1 : ¬ r2 < 0 := by omega
  clear q2
  go_wp2_with (first | (go_at_call 23; obtain ⟨Fq, hFq⟩ := hS.has rShape.slice [.slice A l.length c]; refine (toShapeS_any _ _ _ l hFq Hsz.out).mono ?_; rintro e w' ⟨v5, rfl, hN⟩; replace hS := hS.fresh hN; clear hN hFq; obtain ⟨T, t, rfl⟩ := hS.formW 0 rfl) | (go_at_call 22; obtain ⟨Fq, hFq⟩ := hS.has rShape.slice [.slice T l.length t]; refine (spec_ShapeText _ Fq T t l hFq).mono ?_; rintro e w' ⟨rfl, hM⟩; replace hS := hS.mod hM; clear hM hFq) | (go_at_call 24; obtain ⟨Fq, hFq⟩ := hS.has rShape.slice [.slice T l.length t]; refine (impl_ShapeText _ (hR.mod0 hS.mod0) Fq T t l hFq).mono ?_; rintro e w' ⟨rfl, hM⟩; replace hS := hS.mod hM; clear hM hFq; obtain ⟨U, rfl⟩ : ∃ U, U = T := ⟨_, rfl⟩; obtain ⟨u, rfl⟩ : ∃ u, u = t := ⟨_, rfl⟩) | (go_at_call 25; obtain ⟨Fq, hFq⟩ := hS.has rShape.slice [.slice U l.length u]; obtain ⟨Fr, hFr⟩ := hS.has rShape.slice [.slice T l.length t]; refine (eqShapeS_any _ _ _ _ _ _ _ hFq hFr).mono ?_; rintro e w' ⟨rfl, hM⟩; replace hS := hS.mod hM; clear hM hFq hFr; (simp only [eqB_rfl])) | ((with_reducible show wpList _ _ _ (⟨_, Op.box _ _, _, _, _, _⟩ :: _) _ _); refine Does.list (does_box hS rfl rfl (by rfl)) rfl ?_; clear hS; rintro _ wx ⟨bo, rfl, hS, _⟩; (simp only [Act.put, List.setIfInBounds_toArray, List.set_cons_zero, List.set_cons_succ])) | ((with_reducible show wpList _ _ _ (⟨_, Op.load _ _, _, _, _, _⟩ :: _) _ _); (first | refine Gives.list (f_load hS rfl rfl (by rfl)) rfl ?_ | refine Gives.list (f_loadS hS rfl rfl (by rfl)) rfl ?_ | refine Gives.list (f_loadAt hS rfl rfl) rfl ?_ | refine Gives.list (f_loadAtS hS rfl rfl (by rfl)) rfl ?_ | refine Gives.list (f_loadAtF hS rfl rfl (by rfl)) rfl ?_); (simp only [Act.put, List.setIfInBounds_toArray, List.set_cons_zero, List.set_cons_succ])) | ((with_reducible show wpList _ _ _ (⟨_, Op.store _ _ _, _, _, _, _⟩ :: _) _ _); (first | refine Does.list (f_store hS rfl rfl rfl (by rfl) (by rfl)) rfl ?_ | refine Does.list (f_storeS hS rfl rfl rfl (by rfl) (by rfl) (by rfl)) rfl ?_); clear hS; rintro _ wx ⟨rfl, hS⟩; (simp only [List.set_cons_zero, List.set_cons_succ] at hS); (simp only [Act.put, List.setIfInBounds_toArray, List.set_cons_zero, List.set_cons_succ])) | ((with_reducible show wpList _ _ _ (⟨_, Op.alloc _, _, _, _, _⟩ :: _) _ _); refine Does.list (does_alloc hS rfl (by rfl)) rfl ?_; clear hS; rintro _ wx ⟨ba, rfl, hS, _⟩; (simp only [Act.put, List.setIfInBounds_toArray, List.set_cons_zero, List.set_cons_succ])) | ((with_reducible show wpList _ _ _ (⟨_, Op.buildSlice _ _ _, _, _, _, _⟩ :: _) _ _); refine Does.list (does_buildSlice (X := ?_) (cs := ?_) (E := ?_) hS rfl ?_ ?_) rfl ?_; rotate_left 3; (go_simp; rfl); rfl; clear hS; rintro _ wx ⟨bx, rfl, hS, _⟩; (simp only [Act.put, List.setIfInBounds_toArray, List.set_cons_zero, List.set_cons_succ])))
  go_ret
  exact ⟨rfl, hS.mod0⟩

theorem fnExactShapeText_met (os : Os) (args : Array Value) : laidMetH Tryd.prog Rows.fnExactShapeTextRow.laid ((World.doorLaid Tryd.prog 400 os).forCall (fun _ _ => 0) ⟨#[], args, []⟩).memory :=
  laidMetH_of_parts3 (fuel := 8) (laidMet_of_run' 8 (by kernel_rfl) (by kernel_rfl)) (by kernel_rfl) (by kernel_rfl)
set_option maxRecDepth 100000 in
theorem fnExactShapeText_lifted (os : Os) (started : os.Started) (H : Type) (enc : TypeId × Value → H) :
    ReturnsInHanded {} Tryd.checked os 6 .any (fun w args => (Rows.fnExactShapeTextSpec.pre enc Tryd.prog Tryd.f6 [] false w args ∧ laidMetH Tryd.prog Rows.fnExactShapeTextRow.laid w) ∧ sizedMet enc Tryd.prog Tryd.f6 (OpenSpec.ofChange Rows.fnExactShapeTextSpec) false w args) (Rows.fnExactShapeTextSpec.post enc Tryd.prog Tryd.f6 false true false false) := by
  refine returnsInHanded_of_change_and (C := Tryd.checked) (X := fun w _ => laidMetH Tryd.prog Rows.fnExactShapeTextRow.laid w) (fun _ _ _ hh h => h.of_heap hh) (show ownKnob Tryd.prog.godebug = none by kernel_rfl) started (by kernel_rfl) Tryd.func6
    (ChangeSpec.witness_shaped (enc := enc) (C := Tryd.checked) (os := os) (X := fun w _ => laidMetH Tryd.prog Rows.fnExactShapeTextRow.laid w) false (World.doorLaid Tryd.prog 400 os) #[.slice none 0 0] 8 rfl (World.shaped_of_RefB (by kernel_rfl) (by kernel_rfl)) (by kernel_rfl) (by kernel_rfl) (by kernel_rfl) (fnExactShapeText_met os _)) ?_
  intro W base args ds gs before hval0 hW _ _ hL _
  have hval : ∀ (j : Nat) t v, Tryd.f6.params[j]? = some t → args[j]? = some v → Value.okWide Tryd.prog W .any base t v := hval0
  have hW' := hW
  obtain ⟨p, q, hA0, hV, rfl, hfz, hnd⟩ := hW
  have hA : DataW.TrodAll enc Tryd.prog W 0 (fun _ => true) true Tryd.f6.params.toList args.toList ds p := hA0
  rw [Tryd.params6] at hA hval
  obtain ⟨v0, vs0, d0, ds0, p0, q0, hargs, rfl, rfl, r0, s0⟩ := trodAll_cons hA
  obtain ⟨rfl, rfl, rfl⟩ := trodAll_nil s0
  obtain rfl : args = #[v0] := by cases args; simp_all
  have hL' := tab_of_laid4 hL
  obtain ⟨F0, x0, hx0⟩ := read_slice Tryd.underlying46 ((reads_slice Tryd.underlying46 (by kernel_rfl) readsL_Shape)) (hval 0 46 v0 rfl rfl) r0
  refine (fnExactShapeText_calls W hL'.2 v0 F0 x0 hx0).mono fun e W' ⟨he, hm⟩ => ?_
  subst he
  obtain ⟨g0, rfl⟩ := vars_one hV
  exact ⟨_, rfl, post_law (by kernel_rfl) (by kernel_rfl) (by kernel_rfl) rfl rfl Tryd.underlying4 hW' hm⟩

theorem fnExactShapeText_row : Rows.FnExactShapeTextSaid :=
  OpenClaim.holds_of_wide 6 Tryd.f6 rfl rfl rfl rfl rfl rfl rfl ⟨rfl, rfl, rfl, rfl, rfl⟩ rfl rfl rfl rfl rfl (by kernel_rfl) Tryd.func6 (show joinedFacts Tryd.prog 6 Tryd.f6 Rows.fnExactShapeTextSpec Rows.fnExactShapeTextRow = true from (by unfold joinedFacts; rw [gen_make, gen_lifts, gen_may]; kernel_rfl))
    (of_decide_eq_true (by kernel_rfl)) (by unfold Func.isWrapper; first | (rw [if_pos (by decide +kernel)]; kernel_rfl) | (rw [if_neg (by decide +kernel)]; exact ⟨rfl, rfl⟩))
    (fun os started H enc _ => fnExactShapeText_lifted os started H enc)

theorem fnExactShapeText_holds : Rows.FnExactShapeTextCardSaid :=
  Claim7.holds_tied_plain_at .later [] _ _ _ _
    fnExactShapeText_row (fun _ h => by cases h) (by kernel_rfl) (fun _ h => by cases h) fnExactShapeText_row_tie rfl ⟨rfl, rfl⟩ (by exact gen_main) rfl
    (fun f fn hf hfn => by
      obtain rfl : f = 6 := Option.some.inj ((show Tryd.prog.funcNamed "loop.example/obliviousqueries/laws.FnExactShapeText" = some 6 by kernel_rfl).symm.trans hf) |>.symm
      obtain rfl : fn = Tryd.f6 := (Option.some.inj (Tryd.func6.symm.trans hfn)).symm
      exact ⟨by kernel_rfl, fun j t ht => by
        rw [Tryd.params6] at ht
        have hm : t ∈ [46] := by simpa using Array.mem_of_getElem? ht
        have hall : ([46].all fun u => !Tryd.prog.wantsStandIn u) = true := by kernel_rfl
        exact (show Tryd.prog.wantsStandIn t = false by simpa using List.all_eq_true.1 hall t hm)⟩)
    (by kernel_rfl)

end Go.Proofs.YteafnieapifnnaaDoor
