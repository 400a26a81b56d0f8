/- FnNumbersFresh returns true for every input: the order of both lists does not matter, and a list with rows is not fresh with itself. -/
import Derived.Test.YthabgnhedmepjaaDoorDrNF
import Derived.Test.YthabgnhedmepjaaDoorNum
import Derived.Test.YthabgnhedmepjaaDoorShare
import Derived.Test.YthabgnhedmepjaaDoorDoor
namespace Go.Proofs.YthabgnhedmepjaaDoor
open Go.ChangeShapes Go.WideShapes Go.ChangeAt Go.RowKit

theorem freshI_sym (a b : List SealedD) : freshI b a = freshI a b := by
  unfold freshI nums
  rw [List.map_append, List.map_append]
  exact decide_eq_decide.2 List.perm_append_comm.nodup_iff
theorem freshI_self {a : List SealedD} (h : a ≠ []) : freshI a a = false := by
  obtain ⟨x, xs, rfl⟩ : ∃ x xs, a = x :: xs := by cases a with | nil => exact absurd rfl h | cons x xs => exact ⟨x, xs, rfl⟩
  unfold freshI nums
  apply decide_eq_false
  simp
theorem roTwo {w0 w : World} {cs us vs : List Value} {code : List UInt8} {xs ys : List SealedD} (hS : Sat w0 w [.ro Rep.u8.slice cs code]) (hx : ∃ F, rSealed.slice.has w F us xs) (hy : ∃ F, rSealed.slice.has w F vs ys) : Sat w0 w [.ro rSealed.slice vs ys, .ro rSealed.slice us xs, .ro Rep.u8.slice cs code] := by
  have h1 := Sat.roMore (e := rSealed.slice) hS hx (fun R O h => by obtain ⟨O1, O2, rfl, ⟨rfl, _⟩, rfl⟩ := h; rfl)
  exact Sat.roMore (e := rSealed.slice) h1 hy (fun R O h => by obtain ⟨O1, O2, rfl, ⟨rfl, _⟩, O3, O4, rfl, ⟨rfl, _⟩, rfl⟩ := h; rfl)
set_option maxHeartbeats 8000000 in
set_option maxRecDepth 100000 in
theorem fnNumbersFresh_calls (w : World) (hR : ResOk w) (v : Value) (F : List Nat) (code : List UInt8) (hx : SliceHas Rep.u8 w F [v] code) :
    Calls Tryd.prog 6 #[v] w fun e w' => e = .returned (.bool true) ∧ Mod [] w w' := by
  obtain ⟨A, c, rfl, hl, _⟩ := hx.form'
  have hS : Sat w w [.ro Rep.u8.slice [.slice A code.length c] code] := (Sat.nil w).arg hx
  by_cases hq : 1048576 < code.length
  · go_enter Tryd.func6, Tryd.ntmps6
    go_wp2_with (first | ((with_reducible show wpList _ _ _ ({ dst := _, op := Op.box _ _, type := _, pos := _, after := _, guard := _ } :: _) _ _); refine Does.list (does_box hS rfl rfl (by rfl)) rfl ?_; clear hS; rintro _ wx ⟨bo, rfl, hS, _⟩; (simp only [Act.put, List.setIfInBounds_toArray, List.set_cons_zero, List.set_cons_succ])) | ((with_reducible show wpList _ _ _ ({ dst := _, op := Op.load _ _, type := _, pos := _, after := _, guard := _ } :: _) _ _); (first | refine Gives.list (f_load hS rfl rfl (by rfl)) rfl ?_ | refine Gives.list (f_loadS hS rfl rfl (by rfl)) rfl ?_ | refine Gives.list (f_loadAt hS rfl rfl) rfl ?_ | refine Gives.list (f_loadAtS hS rfl rfl (by rfl)) rfl ?_ | refine Gives.list (f_loadAtF hS rfl rfl (by rfl)) rfl ?_); (simp only [Act.put, List.setIfInBounds_toArray, List.set_cons_zero, List.set_cons_succ])) | ((with_reducible show wpList _ _ _ ({ dst := _, op := Op.store _ _ _, type := _, pos := _, after := _, guard := _ } :: _) _ _); (first | refine Does.list (f_store hS rfl rfl rfl (by rfl) (by rfl)) rfl ?_ | refine Does.list (f_storeS hS rfl rfl rfl (by rfl) (by rfl) (by rfl)) rfl ?_); clear hS; rintro _ wx ⟨rfl, hS⟩; (simp only [List.set_cons_zero, List.set_cons_succ] at hS); (simp only [Act.put, List.setIfInBounds_toArray, List.set_cons_zero, List.set_cons_succ])) | ((with_reducible show wpList _ _ _ ({ dst := _, op := Op.alloc _, type := _, pos := _, after := _, guard := _ } :: _) _ _); refine Does.list (does_alloc hS rfl (by rfl)) rfl ?_; clear hS; rintro _ wx ⟨ba, rfl, hS, _⟩; (simp only [Act.put, List.setIfInBounds_toArray, List.set_cons_zero, List.set_cons_succ])) | ((with_reducible show wpList _ _ _ ({ dst := _, op := Op.buildSlice _ _ _, type := _, pos := _, after := _, guard := _ } :: _) _ _); refine Does.list (does_buildSlice (X := ?_) (cs := ?_) (E := ?_) hS rfl ?_ ?_) rfl ?_; rotate_left 3; (go_simp; rfl); rfl; clear hS; rintro _ wx ⟨bx, rfl, hS, _⟩; (simp only [Act.put, List.setIfInBounds_toArray, List.set_cons_zero, List.set_cons_succ])))
    go_ret
    exact ⟨rfl, hS.mod0⟩
  go_enter Tryd.func6, Tryd.ntmps6
  go_wp2_with (first | ((with_reducible show wpList _ _ _ ({ dst := _, op := Op.box _ _, type := _, pos := _, after := _, guard := _ } :: _) _ _); refine Does.list (does_box hS rfl rfl (by rfl)) rfl ?_; clear hS; rintro _ wx ⟨bo, rfl, hS, _⟩; (simp only [Act.put, List.setIfInBounds_toArray, List.set_cons_zero, List.set_cons_succ])) | ((with_reducible show wpList _ _ _ ({ dst := _, op := Op.load _ _, type := _, pos := _, after := _, guard := _ } :: _) _ _); (first | refine Gives.list (f_load hS rfl rfl (by rfl)) rfl ?_ | refine Gives.list (f_loadS hS rfl rfl (by rfl)) rfl ?_ | refine Gives.list (f_loadAt hS rfl rfl) rfl ?_ | refine Gives.list (f_loadAtS hS rfl rfl (by rfl)) rfl ?_ | refine Gives.list (f_loadAtF hS rfl rfl (by rfl)) rfl ?_); (simp only [Act.put, List.setIfInBounds_toArray, List.set_cons_zero, List.set_cons_succ])) | ((with_reducible show wpList _ _ _ ({ dst := _, op := Op.store _ _ _, type := _, pos := _, after := _, guard := _ } :: _) _ _); (first | refine Does.list (f_store hS rfl rfl rfl (by rfl) (by rfl)) rfl ?_ | refine Does.list (f_storeS hS rfl rfl rfl (by rfl) (by rfl) (by rfl)) rfl ?_); clear hS; rintro _ wx ⟨rfl, hS⟩; (simp only [List.set_cons_zero, List.set_cons_succ] at hS); (simp only [Act.put, List.setIfInBounds_toArray, List.set_cons_zero, List.set_cons_succ])) | ((with_reducible show wpList _ _ _ ({ dst := _, op := Op.alloc _, type := _, pos := _, after := _, guard := _ } :: _) _ _); refine Does.list (does_alloc hS rfl (by rfl)) rfl ?_; clear hS; rintro _ wx ⟨ba, rfl, hS, _⟩; (simp only [Act.put, List.setIfInBounds_toArray, List.set_cons_zero, List.set_cons_succ])) | ((with_reducible show wpList _ _ _ ({ dst := _, op := Op.buildSlice _ _ _, type := _, pos := _, after := _, guard := _ } :: _) _ _); refine Does.list (does_buildSlice (X := ?_) (cs := ?_) (E := ?_) hS rfl ?_ ?_) rfl ?_; rotate_left 3; (go_simp; rfl); rfl; clear hS; rintro _ wx ⟨bx, rfl, hS, _⟩; (simp only [Act.put, List.setIfInBounds_toArray, List.set_cons_zero, List.set_cons_succ])) | (go_at_call 21; obtain ⟨Fq, hFq⟩ := hS.has Rep.u8.slice [.slice A code.length c]; refine (spec_DrawNumbersFresh _ Fq _ _ hFq).mono ?_; rintro e w' ⟨va, vb, xs, ys, rfl, ⟨hxl, hyl⟩, ⟨Fx, hFx⟩, ⟨Fy, hFy⟩, hM⟩; replace hS := hS.mod hM; clear hM hFq; obtain ⟨Ax, cx, rfl, _⟩ := SliceHas.form' hFx; obtain ⟨Ay, cy, rfl, _⟩ := SliceHas.form' hFy; replace hS := roTwo hS ⟨Fx, hFx⟩ ⟨Fy, hFy⟩; clear hFx hFy))
  have Hn : Hid (freshI [] [] = true) := Lib.hid (by decide)
  cases hs : freshI xs ys
  all_goals
    have Hs := Lib.hid hs
    have Hy := Lib.hid ((freshI_sym xs ys).trans hs)
    clear hs
    rcases Nat.eq_zero_or_pos xs.length with h0 | h0
    · have h0I : ((xs.length : Int) == 0) = true := by simp [h0]
      clear h0
      go_wp2_with (first | (go_at_call 22; (with_reducible show Calls _ _ #[.slice none _ _, .slice none _ _] _ _); refine (impl_NumbersFresh' _ _ [] [] (SliceHas.nil _) _ [] [] (SliceHas.nil _)).mono ?_; rintro e w' ⟨rfl, hM⟩; replace hS := hS.mod hM; clear hM; (simp only [Hn.out])) | (go_at_call 22; (with_reducible show Calls _ _ #[.slice Ax _ _, .slice Ay _ _] _ _); obtain ⟨Fq, hFq⟩ := hS.has rSealed.slice [.slice Ax xs.length cx]; obtain ⟨Fr, hFr⟩ := hS.has rSealed.slice [.slice Ay ys.length cy]; refine (impl_NumbersFresh' _ _ Fq _ hFq _ Fr _ hFr).mono ?_; rintro e w' ⟨rfl, hM⟩; replace hS := hS.mod hM; clear hM hFq hFr; (simp only [Hs.out])) | (go_at_call 23; (with_reducible show Calls _ _ #[.slice Ax _ _, .slice Ay _ _] _ _); obtain ⟨Fq, hFq⟩ := hS.has rSealed.slice [.slice Ax xs.length cx]; obtain ⟨Fr, hFr⟩ := hS.has rSealed.slice [.slice Ay ys.length cy]; refine (spec_NumbersFresh' _ _ Fq _ hFq _ Fr _ hFr (by omega)).mono ?_; rintro e w' ⟨rfl, hM⟩; replace hS := hS.mod hM; clear hM hFq hFr; (simp only [Hs.out])) | (go_at_call 22; (with_reducible show Calls _ _ #[.slice Ay _ _, .slice Ax _ _] _ _); obtain ⟨Fq, hFq⟩ := hS.has rSealed.slice [.slice Ay ys.length cy]; obtain ⟨Fr, hFr⟩ := hS.has rSealed.slice [.slice Ax xs.length cx]; refine (impl_NumbersFresh' _ _ Fq _ hFq _ Fr _ hFr).mono ?_; rintro e w' ⟨rfl, hM⟩; replace hS := hS.mod hM; clear hM hFq hFr; (simp only [Hy.out])) | (go_at_call 14; refine (laws_alive _ (hR.mod0 hS.mod0)).mono ?_; rintro e w' ⟨rfl, hM⟩; replace hS := hS.mod hM; clear hM) | ((with_reducible show wpList _ _ _ ({ dst := _, op := Op.box _ _, type := _, pos := _, after := _, guard := _ } :: _) _ _); refine Does.list (does_box hS rfl rfl (by rfl)) rfl ?_; clear hS; rintro _ wx ⟨bo, rfl, hS, _⟩; (simp only [Act.put, List.setIfInBounds_toArray, List.set_cons_zero, List.set_cons_succ])) | ((with_reducible show wpList _ _ _ ({ dst := _, op := Op.load _ _, type := _, pos := _, after := _, guard := _ } :: _) _ _); (first | refine Gives.list (f_load hS rfl rfl (by rfl)) rfl ?_ | refine Gives.list (f_loadS hS rfl rfl (by rfl)) rfl ?_ | refine Gives.list (f_loadAt hS rfl rfl) rfl ?_ | refine Gives.list (f_loadAtS hS rfl rfl (by rfl)) rfl ?_ | refine Gives.list (f_loadAtF hS rfl rfl (by rfl)) rfl ?_); (simp only [Act.put, List.setIfInBounds_toArray, List.set_cons_zero, List.set_cons_succ])) | ((with_reducible show wpList _ _ _ ({ dst := _, op := Op.store _ _ _, type := _, pos := _, after := _, guard := _ } :: _) _ _); (first | refine Does.list (f_store hS rfl rfl rfl (by rfl) (by rfl)) rfl ?_ | refine Does.list (f_storeS hS rfl rfl rfl (by rfl) (by rfl) (by rfl)) rfl ?_); clear hS; rintro _ wx ⟨rfl, hS⟩; (simp only [List.set_cons_zero, List.set_cons_succ] at hS); (simp only [Act.put, List.setIfInBounds_toArray, List.set_cons_zero, List.set_cons_succ])) | ((with_reducible show wpList _ _ _ ({ dst := _, op := Op.alloc _, type := _, pos := _, after := _, guard := _ } :: _) _ _); refine Does.list (does_alloc hS rfl (by rfl)) rfl ?_; clear hS; rintro _ wx ⟨ba, rfl, hS, _⟩; (simp only [Act.put, List.setIfInBounds_toArray, List.set_cons_zero, List.set_cons_succ])) | ((with_reducible show wpList _ _ _ ({ dst := _, op := Op.buildSlice _ _ _, type := _, pos := _, after := _, guard := _ } :: _) _ _); refine Does.list (does_buildSlice (X := ?_) (cs := ?_) (E := ?_) hS rfl ?_ ?_) rfl ?_; rotate_left 3; (go_simp; rfl); rfl; clear hS; rintro _ wx ⟨bx, rfl, hS, _⟩; (simp only [Act.put, List.setIfInBounds_toArray, List.set_cons_zero, List.set_cons_succ])))
      go_ret
      exact ⟨rfl, hS.mod0⟩
    · have h0I : ((xs.length : Int) == 0) = false := beq_eq_false_iff_ne.2 (by omega)
      have Hx := Lib.hid (freshI_self (a := xs) (by rintro rfl; simp at h0))
      clear h0
      go_wp2_with (first | (go_at_call 22; (with_reducible show Calls _ _ #[.slice none _ _, .slice none _ _] _ _); refine (impl_NumbersFresh' _ _ [] [] (SliceHas.nil _) _ [] [] (SliceHas.nil _)).mono ?_; rintro e w' ⟨rfl, hM⟩; replace hS := hS.mod hM; clear hM; (simp only [Hn.out])) | (go_at_call 22; (with_reducible show Calls _ _ #[.slice Ax _ _, .slice Ay _ _] _ _); obtain ⟨Fq, hFq⟩ := hS.has rSealed.slice [.slice Ax xs.length cx]; obtain ⟨Fr, hFr⟩ := hS.has rSealed.slice [.slice Ay ys.length cy]; refine (impl_NumbersFresh' _ _ Fq _ hFq _ Fr _ hFr).mono ?_; rintro e w' ⟨rfl, hM⟩; replace hS := hS.mod hM; clear hM hFq hFr; (simp only [Hs.out])) | (go_at_call 23; (with_reducible show Calls _ _ #[.slice Ax _ _, .slice Ay _ _] _ _); obtain ⟨Fq, hFq⟩ := hS.has rSealed.slice [.slice Ax xs.length cx]; obtain ⟨Fr, hFr⟩ := hS.has rSealed.slice [.slice Ay ys.length cy]; refine (spec_NumbersFresh' _ _ Fq _ hFq _ Fr _ hFr (by omega)).mono ?_; rintro e w' ⟨rfl, hM⟩; replace hS := hS.mod hM; clear hM hFq hFr; (simp only [Hs.out])) | (go_at_call 22; (with_reducible show Calls _ _ #[.slice Ay _ _, .slice Ax _ _] _ _); obtain ⟨Fq, hFq⟩ := hS.has rSealed.slice [.slice Ay ys.length cy]; obtain ⟨Fr, hFr⟩ := hS.has rSealed.slice [.slice Ax xs.length cx]; refine (impl_NumbersFresh' _ _ Fq _ hFq _ Fr _ hFr).mono ?_; rintro e w' ⟨rfl, hM⟩; replace hS := hS.mod hM; clear hM hFq hFr; (simp only [Hy.out])) | (go_at_call 22; (with_reducible show Calls _ _ #[.slice Ax _ _, .slice Ax _ _] _ _); obtain ⟨Fq, hFq⟩ := hS.has rSealed.slice [.slice Ax xs.length cx]; obtain ⟨Fr, hFr⟩ := hS.has rSealed.slice [.slice Ax xs.length cx]; refine (impl_NumbersFresh' _ _ Fq _ hFq _ Fr _ hFr).mono ?_; rintro e w' ⟨rfl, hM⟩; replace hS := hS.mod hM; clear hM hFq hFr; (simp only [Hx.out])) | (go_at_call 14; refine (laws_alive _ (hR.mod0 hS.mod0)).mono ?_; rintro e w' ⟨rfl, hM⟩; replace hS := hS.mod hM; clear hM) | ((with_reducible show wpList _ _ _ ({ dst := _, op := Op.box _ _, type := _, pos := _, after := _, guard := _ } :: _) _ _); refine Does.list (does_box hS rfl rfl (by rfl)) rfl ?_; clear hS; rintro _ wx ⟨bo, rfl, hS, _⟩; (simp only [Act.put, List.setIfInBounds_toArray, List.set_cons_zero, List.set_cons_succ])) | ((with_reducible show wpList _ _ _ ({ dst := _, op := Op.load _ _, type := _, pos := _, after := _, guard := _ } :: _) _ _); (first | refine Gives.list (f_load hS rfl rfl (by rfl)) rfl ?_ | refine Gives.list (f_loadS hS rfl rfl (by rfl)) rfl ?_ | refine Gives.list (f_loadAt hS rfl rfl) rfl ?_ | refine Gives.list (f_loadAtS hS rfl rfl (by rfl)) rfl ?_ | refine Gives.list (f_loadAtF hS rfl rfl (by rfl)) rfl ?_); (simp only [Act.put, List.setIfInBounds_toArray, List.set_cons_zero, List.set_cons_succ])) | ((with_reducible show wpList _ _ _ ({ dst := _, op := Op.store _ _ _, type := _, pos := _, after := _, guard := _ } :: _) _ _); (first | refine Does.list (f_store hS rfl rfl rfl (by rfl) (by rfl)) rfl ?_ | refine Does.list (f_storeS hS rfl rfl rfl (by rfl) (by rfl) (by rfl)) rfl ?_); clear hS; rintro _ wx ⟨rfl, hS⟩; (simp only [List.set_cons_zero, List.set_cons_succ] at hS); (simp only [Act.put, List.setIfInBounds_toArray, List.set_cons_zero, List.set_cons_succ])) | ((with_reducible show wpList _ _ _ ({ dst := _, op := Op.alloc _, type := _, pos := _, after := _, guard := _ } :: _) _ _); refine Does.list (does_alloc hS rfl (by rfl)) rfl ?_; clear hS; rintro _ wx ⟨ba, rfl, hS, _⟩; (simp only [Act.put, List.setIfInBounds_toArray, List.set_cons_zero, List.set_cons_succ])) | ((with_reducible show wpList _ _ _ ({ dst := _, op := Op.buildSlice _ _ _, type := _, pos := _, after := _, guard := _ } :: _) _ _); refine Does.list (does_buildSlice (X := ?_) (cs := ?_) (E := ?_) hS rfl ?_ ?_) rfl ?_; rotate_left 3; (go_simp; rfl); rfl; clear hS; rintro _ wx ⟨bx, rfl, hS, _⟩; (simp only [Act.put, List.setIfInBounds_toArray, List.set_cons_zero, List.set_cons_succ])))
      go_ret
      exact ⟨rfl, hS.mod0⟩

theorem fnNumbersFresh_met (os : Os) (args : Array Value) : laidMetH Tryd.prog Rows.fnNumbersFreshRow.laid ((World.doorLaid Tryd.prog 400 os).forCall (fun _ _ => 0) ⟨#[], args, []⟩).memory :=
  laidMetH_of_parts3 (fuel := 8) (laidMet_of_run' 8 (by kernel_rfl) (by kernel_rfl)) (by kernel_rfl) (by kernel_rfl)
set_option maxRecDepth 100000 in
theorem fnNumbersFresh_lifted (os : Os) (started : os.Started) (H : Type) (enc : TypeId × Value → H) :
    ReturnsInHanded {} Tryd.checked os 6 .any (fun w args => (Rows.fnNumbersFreshSpec.pre enc Tryd.prog Tryd.f6 [] false w args ∧ laidMetH Tryd.prog Rows.fnNumbersFreshRow.laid w) ∧ sizedMet enc Tryd.prog Tryd.f6 (OpenSpec.ofChange Rows.fnNumbersFreshSpec) false w args) (Rows.fnNumbersFreshSpec.post enc Tryd.prog Tryd.f6 false true false false) := by
  refine returnsInHanded_of_change_and (C := Tryd.checked) (X := fun w _ => laidMetH Tryd.prog Rows.fnNumbersFreshRow.laid w) (fun _ _ _ hh h => h.of_heap hh) (show ownKnob Tryd.prog.godebug = none by kernel_rfl) started (by kernel_rfl) Tryd.func6
    (ChangeSpec.witness_shaped (enc := enc) (C := Tryd.checked) (os := os) (X := fun w _ => laidMetH Tryd.prog Rows.fnNumbersFreshRow.laid w) false (World.doorLaid Tryd.prog 400 os) #[.slice none 0 0] 8 rfl (World.shaped_of_RefB (by kernel_rfl) (by kernel_rfl)) (by kernel_rfl) (by kernel_rfl) (by kernel_rfl) (fnNumbersFresh_met os _)) ?_
  intro W base args ds gs before hval0 hW _ _ hL _
  have hval : ∀ (j : Nat) t v, Tryd.f6.params[j]? = some t → args[j]? = some v → Value.okWide Tryd.prog W .any base t v := hval0
  have hW' := hW
  obtain ⟨p, q, hA0, hV, rfl, hfz, hnd⟩ := hW
  have hA : DataW.TrodAll enc Tryd.prog W 0 (fun _ => true) true Tryd.f6.params.toList args.toList ds p := hA0
  rw [Tryd.params6] at hA hval
  obtain ⟨v0, vs0, d0, ds0, p0, q0, hargs, rfl, rfl, r0, s0⟩ := trodAll_cons hA
  obtain ⟨rfl, rfl, rfl⟩ := trodAll_nil s0
  obtain rfl : args = #[v0] := by cases args; simp_all
  have hL' : ResOk W := res_of_laid hL
  obtain ⟨F0, x0, hx0⟩ := read_slice Tryd.underlying22 ((reads_slice Tryd.underlying22 (by kernel_rfl) (reads_u8 Tryd.underlying5 (by kernel_rfl)))) (hval 0 22 v0 rfl rfl) r0
  refine (fnNumbersFresh_calls W hL' v0 F0 x0 hx0).mono fun e W' ⟨he, hm⟩ => ?_
  subst he
  obtain ⟨g0, rfl⟩ := vars_one hV
  exact ⟨_, rfl, post_law (by kernel_rfl) (by kernel_rfl) (by kernel_rfl) rfl rfl Tryd.underlying4 hW' hm⟩

theorem fnNumbersFresh_row : Rows.FnNumbersFreshSaid :=
  OpenClaim.holds_of_wide 6 Tryd.f6 rfl rfl rfl rfl rfl rfl rfl ⟨rfl, rfl, rfl, rfl, rfl⟩ rfl rfl rfl rfl rfl (by kernel_rfl) Tryd.func6 (by kernel_rfl)
    (of_decide_eq_true (by kernel_rfl)) (by unfold Func.isWrapper; first | (rw [if_pos (by decide +kernel)]; kernel_rfl) | (rw [if_neg (by decide +kernel)]; exact ⟨rfl, rfl⟩))
    (fun os started H enc _ => fnNumbersFresh_lifted os started H enc)

theorem fnNumbersFresh_holds : Rows.FnNumbersFreshCardSaid :=
  Claim7.holds_tied_plain_at .later [] _ _ _ _
    fnNumbersFresh_row (fun _ h => by cases h) (by kernel_rfl) (fun _ h => by cases h) fnNumbersFresh_row_tie rfl ⟨rfl, rfl⟩ (by kernel_rfl) rfl
    (fun f fn hf hfn => by
      obtain rfl : f = 6 := Option.some.inj ((show Tryd.prog.funcNamed "loop.example/obliviousqueries/laws.FnNumbersFresh" = some 6 by kernel_rfl).symm.trans hf) |>.symm
      obtain rfl : fn = Tryd.f6 := (Option.some.inj (Tryd.func6.symm.trans hfn)).symm
      exact ⟨by kernel_rfl, fun j t ht => by
        rw [Tryd.params6] at ht
        have hm : t ∈ [22] := by simpa using Array.mem_of_getElem? ht
        have hall : ([22].all fun u => !Tryd.prog.wantsStandIn u) = true := by kernel_rfl
        exact (show Tryd.prog.wantsStandIn t = false by simpa using List.all_eq_true.1 hall t hm)⟩)
    (by kernel_rfl)

end Go.Proofs.YthabgnhedmepjaaDoor
