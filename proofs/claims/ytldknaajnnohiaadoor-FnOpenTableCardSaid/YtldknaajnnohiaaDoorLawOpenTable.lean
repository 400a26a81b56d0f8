/- FnOpenTable returns true for every input: opened tables are padded tables, with as many rows as sealed ones, and the names are the names. -/
import Derived.Test.YtldknaajnnohiaaDoorSAi
import Derived.Test.YtldknaajnnohiaaDoorSAs
import Derived.Test.YtldknaajnnohiaaDoorDrOb
import Derived.Test.YtldknaajnnohiaaDoorEqD
import Derived.Test.YtldknaajnnohiaaDoorSTp
import Derived.Test.YtldknaajnnohiaaDoorShareO
import Derived.Test.YtldknaajnnohiaaDoorGen
namespace Go.Proofs.YtldknaajnnohiaaDoor
open Go.ChangeShapes Go.WideShapes Go.ChangeAt Go.RowKit

theorem openTableF_zero {key : Int} {ns : List ByteArray} {l : List SealedD} (h : (openTableF key ns l).2 = false) : (openTableF key ns l).1 = zeroP := by
  unfold openTableF at h ⊢
  split at h
  · cases h
  · rename_i hc; rw [if_neg hc]
set_option maxHeartbeats 8000000 in
set_option maxRecDepth 100000 in
theorem fnOpenTable_calls (w : World) (hR : ResOk w) (v : Value) (F : List Nat) (code : List UInt8) (hx : SliceHas Rep.u8 w F [v] code) :
    Calls Tryd.prog 3 #[v] w fun e w' => e = .returned (.bool true) ∧ Mod [] w w' := by
  obtain ⟨A, c, rfl, hl, _⟩ := hx.form'
  have hS : Sat w w [.ro Rep.u8.slice [.slice A code.length c] code] := (Sat.nil w).arg hx
  by_cases hq : 1048576 < code.length
  · go_enter Tryd.func3, Tryd.ntmps3
    go_wp2_with (first | ((with_reducible show wpList _ _ _ (⟨_, Op.box _ _, _, _, _, _⟩ :: _) _ _); refine Does.list (does_box hS rfl rfl (by rfl)) rfl ?_; clear hS; rintro _ wx ⟨bo, rfl, hS, _⟩; (simp only [Act.put, List.setIfInBounds_toArray, List.set_cons_zero, List.set_cons_succ])) | ((with_reducible show wpList _ _ _ (⟨_, Op.load _ _, _, _, _, _⟩ :: _) _ _); (first | refine Gives.list (f_load hS rfl rfl (by rfl)) rfl ?_ | refine Gives.list (f_loadS hS rfl rfl (by rfl)) rfl ?_ | refine Gives.list (f_loadAt hS rfl rfl) rfl ?_ | refine Gives.list (f_loadAtS hS rfl rfl (by rfl)) rfl ?_ | refine Gives.list (f_loadAtF hS rfl rfl (by rfl)) rfl ?_); (simp only [Act.put, List.setIfInBounds_toArray, List.set_cons_zero, List.set_cons_succ])) | ((with_reducible show wpList _ _ _ (⟨_, Op.store _ _ _, _, _, _, _⟩ :: _) _ _); (first | refine Does.list (f_store hS rfl rfl rfl (by rfl) (by rfl)) rfl ?_ | refine Does.list (f_storeS hS rfl rfl rfl (by rfl) (by rfl) (by rfl)) rfl ?_); clear hS; rintro _ wx ⟨rfl, hS⟩; (simp only [List.set_cons_zero, List.set_cons_succ] at hS); (simp only [Act.put, List.setIfInBounds_toArray, List.set_cons_zero, List.set_cons_succ])) | ((with_reducible show wpList _ _ _ (⟨_, Op.alloc _, _, _, _, _⟩ :: _) _ _); refine Does.list (does_alloc hS rfl (by rfl)) rfl ?_; clear hS; rintro _ wx ⟨ba, rfl, hS, _⟩; (simp only [Act.put, List.setIfInBounds_toArray, List.set_cons_zero, List.set_cons_succ])) | ((with_reducible show wpList _ _ _ (⟨_, Op.buildSlice _ _ _, _, _, _, _⟩ :: _) _ _); refine Does.list (does_buildSlice (X := ?_) (cs := ?_) (E := ?_) hS rfl ?_ ?_) rfl ?_; rotate_left 3; (go_simp; rfl); rfl; clear hS; rintro _ wx ⟨bx, rfl, hS, _⟩; (simp only [Act.put, List.setIfInBounds_toArray, List.set_cons_zero, List.set_cons_succ])))
    go_ret
    exact ⟨rfl, hS.mod0⟩
  go_enter Tryd.func3, Tryd.ntmps3
  go_wp2_with (first | ((with_reducible show wpList _ _ _ (⟨_, Op.box _ _, _, _, _, _⟩ :: _) _ _); refine Does.list (does_box hS rfl rfl (by rfl)) rfl ?_; clear hS; rintro _ wx ⟨bo, rfl, hS, _⟩; (simp only [Act.put, List.setIfInBounds_toArray, List.set_cons_zero, List.set_cons_succ])) | ((with_reducible show wpList _ _ _ (⟨_, Op.load _ _, _, _, _, _⟩ :: _) _ _); (first | refine Gives.list (f_load hS rfl rfl (by rfl)) rfl ?_ | refine Gives.list (f_loadS hS rfl rfl (by rfl)) rfl ?_ | refine Gives.list (f_loadAt hS rfl rfl) rfl ?_ | refine Gives.list (f_loadAtS hS rfl rfl (by rfl)) rfl ?_ | refine Gives.list (f_loadAtF hS rfl rfl (by rfl)) rfl ?_); (simp only [Act.put, List.setIfInBounds_toArray, List.set_cons_zero, List.set_cons_succ])) | ((with_reducible show wpList _ _ _ (⟨_, Op.store _ _ _, _, _, _, _⟩ :: _) _ _); (first | refine Does.list (f_store hS rfl rfl rfl (by rfl) (by rfl)) rfl ?_ | refine Does.list (f_storeS hS rfl rfl rfl (by rfl) (by rfl) (by rfl)) rfl ?_); clear hS; rintro _ wx ⟨rfl, hS⟩; (simp only [List.set_cons_zero, List.set_cons_succ] at hS); (simp only [Act.put, List.setIfInBounds_toArray, List.set_cons_zero, List.set_cons_succ])) | ((with_reducible show wpList _ _ _ (⟨_, Op.alloc _, _, _, _, _⟩ :: _) _ _); refine Does.list (does_alloc hS rfl (by rfl)) rfl ?_; clear hS; rintro _ wx ⟨ba, rfl, hS, _⟩; (simp only [Act.put, List.setIfInBounds_toArray, List.set_cons_zero, List.set_cons_succ])) | ((with_reducible show wpList _ _ _ (⟨_, Op.buildSlice _ _ _, _, _, _, _⟩ :: _) _ _); refine Does.list (does_buildSlice (X := ?_) (cs := ?_) (E := ?_) hS rfl ?_ ?_) rfl ?_; rotate_left 3; (go_simp; rfl); rfl; clear hS; rintro _ wx ⟨bx, rfl, hS, _⟩; (simp only [Act.put, List.setIfInBounds_toArray, List.set_cons_zero, List.set_cons_succ])) | (go_at_call 15; obtain ⟨Fq, hFq⟩ := hS.has Rep.u8.slice [.slice A code.length c]; refine (spec_DrawOpenTable _ Fq _ _ hFq).mono ?_; rintro e w' ⟨key, v1, v2, ns, l, rfl, h1, h2, hM, hkb, hn5, hl7, hc7⟩; replace hS := roOpen (hS.mod hM) h1 h2; clear hM hFq h1 h2; obtain ⟨A1, a1, rfl, _, _⟩ := hS.formRo 1 rfl; obtain ⟨A2, a2, rfl, _, _⟩ := hS.formRo 0 rfl; have Hsm : Hid (SSmall l) := Lib.hid ⟨by omega, fun s hs => by have := hc7 s hs; omega⟩; clear hc7))
  obtain ⟨⟨⟨ms, rows, real⟩, ok⟩, hF⟩ : ∃ x, openTableF key ns l = x := ⟨_, rfl⟩
  have HF := Lib.hid hF
  cases ok
  · have hz : (ms, rows, real) = zeroP := by have h := openTableF_zero (key := key) (ns := ns) (l := l) (by rw [hF]); rw [hF] at h; exact h
    have hm : ms.length = 0 := by have h := congrArg (fun p : PaddedD => p.1.length) hz; exact h
    have hr : rows.length = 0 := by have h := congrArg (fun p : PaddedD => p.2.1.length) hz; exact h
    have hmI : ((ms.length : Int) == 0) = true := by simp [hm]
    have hrI : ((rows.length : Int) == 0) = true := by simp [hr]
    clear hz hm hr hF
    go_wp2_with (first | (go_at_call 16; obtain ⟨Fq, hFq⟩ := hS.has Rep.str.slice [.slice A1 ns.length a1]; obtain ⟨Fr, hFr⟩ := hS.has rSealed.slice [.slice A2 l.length a2]; refine (impl_OpenTable' key _ (hR.mod0 hS.mod0) Fq Fr _ _ ns l hFq hFr (by omega)).mono ?_; rintro e w' ⟨cs, rfl, hN⟩; (rw [HF.out] at hN); (simp only [HF.out]); replace hS := hS.fresh hN; clear hN hFq hFr; have hS2 := Sat.openOwnPadded hS; clear hS; obtain ⟨B1, d1, B2, d2, B3, d3, rfl, hS⟩ := hS2; (dsimp only at hS)) | (go_at_call 17; obtain ⟨Fq, hFq⟩ := hS.has Rep.str.slice [.slice A1 ns.length a1]; obtain ⟨Fr, hFr⟩ := hS.has rSealed.slice [.slice A2 l.length a2]; refine (spec_OpenTable' key _ Fq Fr _ _ ns l hFq hFr (by omega) Hsm.out).mono ?_; rintro e w' ⟨cs, rfl, hN⟩; (rw [HF.out] at hN); (simp only [HF.out]); replace hS := hS.fresh hN; clear hN hFq hFr; have hS2 := Sat.openOwnPadded hS; clear hS; obtain ⟨C1, e1, C2, e2, C3, e3, rfl, hS⟩ := hS2; (dsimp only at hS)) | (go_at_call 18; obtain ⟨Fq, hFq⟩ := hS.has Rep.str.slice [.slice B1 ms.length d1]; obtain ⟨Fr, hFr⟩ := hS.has Rep.int.slice.slice [.slice B2 rows.length d2]; obtain ⟨Fs, hFs⟩ := hS.has Rep.bool.slice [.slice B3 real.length d3]; obtain ⟨Ft, hFt⟩ := hS.has Rep.str.slice [.slice C1 ms.length e1]; obtain ⟨Fu, hFu⟩ := hS.has Rep.int.slice.slice [.slice C2 rows.length e2]; obtain ⟨Fv, hFv⟩ := hS.has Rep.bool.slice [.slice C3 real.length e3]; refine (laws_samePadded _ _ _ [.slice B1 ms.length d1, .slice B2 rows.length d2, .slice B3 real.length d3] [.slice C1 ms.length e1, .slice C2 rows.length e2, .slice C3 real.length e3] (ms, rows, real) (ms, rows, real) (rPadded_mk hFq hFr hFs) (rPadded_mk hFt hFu hFv)).mono ?_; rintro e w' ⟨rfl, hM⟩; (simp only [eqB_rfl]); replace hS := hS.mod hM; clear hM hFq hFr hFs hFt hFu hFv) | (go_at_call 19; refine (laws_alive _ (hR.mod0 hS.mod0)).mono ?_; rintro e w' ⟨rfl, hM⟩; replace hS := hS.mod hM; clear hM) | ((with_reducible show wpList _ _ _ (⟨_, Op.box _ _, _, _, _, _⟩ :: _) _ _); refine Does.list (does_box hS rfl rfl (by rfl)) rfl ?_; clear hS; rintro _ wx ⟨bo, rfl, hS, _⟩; (simp only [Act.put, List.setIfInBounds_toArray, List.set_cons_zero, List.set_cons_succ])) | ((with_reducible show wpList _ _ _ (⟨_, Op.load _ _, _, _, _, _⟩ :: _) _ _); (first | refine Gives.list (f_load hS rfl rfl (by rfl)) rfl ?_ | refine Gives.list (f_loadS hS rfl rfl (by rfl)) rfl ?_ | refine Gives.list (f_loadAt hS rfl rfl) rfl ?_ | refine Gives.list (f_loadAtS hS rfl rfl (by rfl)) rfl ?_ | refine Gives.list (f_loadAtF hS rfl rfl (by rfl)) rfl ?_); (simp only [Act.put, List.setIfInBounds_toArray, List.set_cons_zero, List.set_cons_succ])) | ((with_reducible show wpList _ _ _ (⟨_, Op.store _ _ _, _, _, _, _⟩ :: _) _ _); (first | refine Does.list (f_store hS rfl rfl rfl (by rfl) (by rfl)) rfl ?_ | refine Does.list (f_storeS hS rfl rfl rfl (by rfl) (by rfl) (by rfl)) rfl ?_); clear hS; rintro _ wx ⟨rfl, hS⟩; (simp only [List.set_cons_zero, List.set_cons_succ] at hS); (simp only [Act.put, List.setIfInBounds_toArray, List.set_cons_zero, List.set_cons_succ])) | ((with_reducible show wpList _ _ _ (⟨_, Op.alloc _, _, _, _, _⟩ :: _) _ _); refine Does.list (does_alloc hS rfl (by rfl)) rfl ?_; clear hS; rintro _ wx ⟨ba, rfl, hS, _⟩; (simp only [Act.put, List.setIfInBounds_toArray, List.set_cons_zero, List.set_cons_succ])) | ((with_reducible show wpList _ _ _ (⟨_, Op.buildSlice _ _ _, _, _, _, _⟩ :: _) _ _); refine Does.list (does_buildSlice (X := ?_) (cs := ?_) (E := ?_) hS rfl ?_ ?_) rfl ?_; rotate_left 3; (go_simp; rfl); rfl; clear hS; rintro _ wx ⟨bx, rfl, hS, _⟩; (simp only [Act.put, List.setIfInBounds_toArray, List.set_cons_zero, List.set_cons_succ])))
    go_ret
    exact ⟨rfl, hS.mod0⟩
  · obtain ⟨hp, hq, hl6⟩ := openTableF_ok (key := key) (ns := ns) (l := l) (by rw [hF])
    rw [hF] at hp hq
    have hmn : ms = ns := congrArg Prod.fst hq
    have hrl : rows.length = l.length := by have h := congrArg (fun p : PaddedD => p.2.1.length) hq; exact h.trans openRows_len
    have hrI : ((rows.length : Int) == (l.length : Int)) = true := by simp [hrl]
    have Hmn := Lib.hid (eqB_t hmn)
    have Hp := Lib.hid hp
    clear hF hp hq hmn hrl
    go_wp2_with (first | (go_at_call 16; obtain ⟨Fq, hFq⟩ := hS.has Rep.str.slice [.slice A1 ns.length a1]; obtain ⟨Fr, hFr⟩ := hS.has rSealed.slice [.slice A2 l.length a2]; refine (impl_OpenTable' key _ (hR.mod0 hS.mod0) Fq Fr _ _ ns l hFq hFr (by omega)).mono ?_; rintro e w' ⟨cs, rfl, hN⟩; (rw [HF.out] at hN); (simp only [HF.out]); replace hS := hS.fresh hN; clear hN hFq hFr; have hS2 := Sat.openOwnPadded hS; clear hS; obtain ⟨B1, d1, B2, d2, B3, d3, rfl, hS⟩ := hS2; (dsimp only at hS)) | (go_at_call 17; obtain ⟨Fq, hFq⟩ := hS.has Rep.str.slice [.slice A1 ns.length a1]; obtain ⟨Fr, hFr⟩ := hS.has rSealed.slice [.slice A2 l.length a2]; refine (spec_OpenTable' key _ Fq Fr _ _ ns l hFq hFr (by omega) Hsm.out).mono ?_; rintro e w' ⟨cs, rfl, hN⟩; (rw [HF.out] at hN); (simp only [HF.out]); replace hS := hS.fresh hN; clear hN hFq hFr; have hS2 := Sat.openOwnPadded hS; clear hS; obtain ⟨C1, e1, C2, e2, C3, e3, rfl, hS⟩ := hS2; (dsimp only at hS)) | (go_at_call 18; obtain ⟨Fq, hFq⟩ := hS.has Rep.str.slice [.slice B1 ms.length d1]; obtain ⟨Fr, hFr⟩ := hS.has Rep.int.slice.slice [.slice B2 rows.length d2]; obtain ⟨Fs, hFs⟩ := hS.has Rep.bool.slice [.slice B3 real.length d3]; obtain ⟨Ft, hFt⟩ := hS.has Rep.str.slice [.slice C1 ms.length e1]; obtain ⟨Fu, hFu⟩ := hS.has Rep.int.slice.slice [.slice C2 rows.length e2]; obtain ⟨Fv, hFv⟩ := hS.has Rep.bool.slice [.slice C3 real.length e3]; refine (laws_samePadded _ _ _ [.slice B1 ms.length d1, .slice B2 rows.length d2, .slice B3 real.length d3] [.slice C1 ms.length e1, .slice C2 rows.length e2, .slice C3 real.length e3] (ms, rows, real) (ms, rows, real) (rPadded_mk hFq hFr hFs) (rPadded_mk hFt hFu hFv)).mono ?_; rintro e w' ⟨rfl, hM⟩; (simp only [eqB_rfl]); replace hS := hS.mod hM; clear hM hFq hFr hFs hFt hFu hFv) | (go_at_call 20; obtain ⟨Fq, hFq⟩ := hS.has Rep.str.slice [.slice B1 ms.length d1]; obtain ⟨Fr, hFr⟩ := hS.has Rep.int.slice.slice [.slice B2 rows.length d2]; obtain ⟨Fs, hFs⟩ := hS.has Rep.bool.slice [.slice B3 real.length d3]; refine (impl_PaddedValid' _ (hR.mod0 hS.mod0) B1 B2 B3 d1 d2 d3 Fq Fr Fs ms rows real hFq hFr hFs).mono ?_; rintro e w' ⟨rfl, hM⟩; (simp only [Hp.out]); replace hS := hS.mod hM; clear hM hFq hFr hFs) | (go_at_call 21; obtain ⟨Fq, hFq⟩ := hS.has Rep.str.slice [.slice B1 ms.length d1]; obtain ⟨Fr, hFr⟩ := hS.has Rep.str.slice [.slice A1 ns.length a1]; refine (laws_sameTexts _ Fq Fr _ _ ms ns hFq hFr).mono ?_; rintro e w' ⟨rfl, hM⟩; (simp only [Hmn.out]); replace hS := hS.mod hM; clear hM hFq hFr) | (go_at_call 19; refine (laws_alive _ (hR.mod0 hS.mod0)).mono ?_; rintro e w' ⟨rfl, hM⟩; replace hS := hS.mod hM; clear hM) | ((with_reducible show wpList _ _ _ (⟨_, Op.box _ _, _, _, _, _⟩ :: _) _ _); refine Does.list (does_box hS rfl rfl (by rfl)) rfl ?_; clear hS; rintro _ wx ⟨bo, rfl, hS, _⟩; (simp only [Act.put, List.setIfInBounds_toArray, List.set_cons_zero, List.set_cons_succ])) | ((with_reducible show wpList _ _ _ (⟨_, Op.load _ _, _, _, _, _⟩ :: _) _ _); (first | refine Gives.list (f_load hS rfl rfl (by rfl)) rfl ?_ | refine Gives.list (f_loadS hS rfl rfl (by rfl)) rfl ?_ | refine Gives.list (f_loadAt hS rfl rfl) rfl ?_ | refine Gives.list (f_loadAtS hS rfl rfl (by rfl)) rfl ?_ | refine Gives.list (f_loadAtF hS rfl rfl (by rfl)) rfl ?_); (simp only [Act.put, List.setIfInBounds_toArray, List.set_cons_zero, List.set_cons_succ])) | ((with_reducible show wpList _ _ _ (⟨_, Op.store _ _ _, _, _, _, _⟩ :: _) _ _); (first | refine Does.list (f_store hS rfl rfl rfl (by rfl) (by rfl)) rfl ?_ | refine Does.list (f_storeS hS rfl rfl rfl (by rfl) (by rfl) (by rfl)) rfl ?_); clear hS; rintro _ wx ⟨rfl, hS⟩; (simp only [List.set_cons_zero, List.set_cons_succ] at hS); (simp only [Act.put, List.setIfInBounds_toArray, List.set_cons_zero, List.set_cons_succ])) | ((with_reducible show wpList _ _ _ (⟨_, Op.alloc _, _, _, _, _⟩ :: _) _ _); refine Does.list (does_alloc hS rfl (by rfl)) rfl ?_; clear hS; rintro _ wx ⟨ba, rfl, hS, _⟩; (simp only [Act.put, List.setIfInBounds_toArray, List.set_cons_zero, List.set_cons_succ])) | ((with_reducible show wpList _ _ _ (⟨_, Op.buildSlice _ _ _, _, _, _, _⟩ :: _) _ _); refine Does.list (does_buildSlice (X := ?_) (cs := ?_) (E := ?_) hS rfl ?_ ?_) rfl ?_; rotate_left 3; (go_simp; rfl); rfl; clear hS; rintro _ wx ⟨bx, rfl, hS, _⟩; (simp only [Act.put, List.setIfInBounds_toArray, List.set_cons_zero, List.set_cons_succ])))
    go_ret
    exact ⟨rfl, hS.mod0⟩

theorem fnOpenTable_met (os : Os) (args : Array Value) : laidMetH Tryd.prog Rows.fnOpenTableRow.laid ((World.doorLaid Tryd.prog 400 os).forCall (fun _ _ => 0) ⟨#[], args, []⟩).memory :=
  laidMetH_of_parts3 (fuel := 8) (laidMet_of_run' 8 (by kernel_rfl) (by kernel_rfl)) (by kernel_rfl) (by kernel_rfl)
set_option maxRecDepth 100000 in
theorem fnOpenTable_lifted (os : Os) (started : os.Started) (H : Type) (enc : TypeId × Value → H) :
    ReturnsInHanded {} Tryd.checked os 3 .any (fun w args => (Rows.fnOpenTableSpec.pre enc Tryd.prog Tryd.f3 [] false w args ∧ laidMetH Tryd.prog Rows.fnOpenTableRow.laid w) ∧ sizedMet enc Tryd.prog Tryd.f3 (OpenSpec.ofChange Rows.fnOpenTableSpec) false w args) (Rows.fnOpenTableSpec.post enc Tryd.prog Tryd.f3 false true false false) := by
  refine returnsInHanded_of_change_and (C := Tryd.checked) (X := fun w _ => laidMetH Tryd.prog Rows.fnOpenTableRow.laid w) (fun _ _ _ hh h => h.of_heap hh) (show ownKnob Tryd.prog.godebug = none by kernel_rfl) started (by kernel_rfl) Tryd.func3
    (ChangeSpec.witness_shaped (enc := enc) (C := Tryd.checked) (os := os) (X := fun w _ => laidMetH Tryd.prog Rows.fnOpenTableRow.laid w) false (World.doorLaid Tryd.prog 400 os) #[.slice none 0 0] 8 rfl (World.shaped_of_RefB (by kernel_rfl) (by kernel_rfl)) (by kernel_rfl) (by kernel_rfl) (by kernel_rfl) (fnOpenTable_met os _)) ?_
  intro W base args ds gs before hval0 hW _ _ hL _
  have hval : ∀ (j : Nat) t v, Tryd.f3.params[j]? = some t → args[j]? = some v → Value.okWide Tryd.prog W .any base t v := hval0
  have hW' := hW
  obtain ⟨p, q, hA0, hV, rfl, hfz, hnd⟩ := hW
  have hA : DataW.TrodAll enc Tryd.prog W 0 (fun _ => true) true Tryd.f3.params.toList args.toList ds p := hA0
  rw [Tryd.params3] at hA hval
  obtain ⟨v0, vs0, d0, ds0, p0, q0, hargs, rfl, rfl, r0, s0⟩ := trodAll_cons hA
  obtain ⟨rfl, rfl, rfl⟩ := trodAll_nil s0
  obtain rfl : args = #[v0] := by cases args; simp_all
  have hL' : ResOk W := res_of_laid hL
  obtain ⟨F0, x0, hx0⟩ := read_slice Tryd.underlying22 ((reads_slice Tryd.underlying22 (by kernel_rfl) (reads_u8 Tryd.underlying5 (by kernel_rfl)))) (hval 0 22 v0 rfl rfl) r0
  refine (fnOpenTable_calls W hL' v0 F0 x0 hx0).mono fun e W' ⟨he, hm⟩ => ?_
  subst he
  obtain ⟨g0, rfl⟩ := vars_one hV
  exact ⟨_, rfl, post_law (by kernel_rfl) (by kernel_rfl) (by kernel_rfl) rfl rfl Tryd.underlying4 hW' hm⟩

theorem fnOpenTable_row : Rows.FnOpenTableSaid :=
  OpenClaim.holds_of_wide 3 Tryd.f3 rfl rfl rfl rfl rfl rfl rfl ⟨rfl, rfl, rfl, rfl, rfl⟩ rfl rfl rfl rfl rfl (by kernel_rfl) Tryd.func3 (show joinedFacts Tryd.prog 3 Tryd.f3 Rows.fnOpenTableSpec Rows.fnOpenTableRow = true from (by unfold joinedFacts; rw [gen_make, gen_lifts, gen_may]; kernel_rfl))
    (of_decide_eq_true (by kernel_rfl)) (by unfold Func.isWrapper; first | (rw [if_pos (by decide +kernel)]; kernel_rfl) | (rw [if_neg (by decide +kernel)]; exact ⟨rfl, rfl⟩))
    (fun os started H enc _ => fnOpenTable_lifted os started H enc)

theorem fnOpenTable_holds : Rows.FnOpenTableCardSaid :=
  Claim7.holds_tied_plain_at .later [] _ _ _ _
    fnOpenTable_row (fun _ h => by cases h) (by kernel_rfl) (fun _ h => by cases h) fnOpenTable_row_tie rfl ⟨rfl, rfl⟩ (by exact gen_main) rfl
    (fun f fn hf hfn => by
      obtain rfl : f = 3 := Option.some.inj ((show Tryd.prog.funcNamed "loop.example/obliviousqueries/laws.FnOpenTable" = some 3 by kernel_rfl).symm.trans hf) |>.symm
      obtain rfl : fn = Tryd.f3 := (Option.some.inj (Tryd.func3.symm.trans hfn)).symm
      exact ⟨by kernel_rfl, fun j t ht => by
        rw [Tryd.params3] at ht
        have hm : t ∈ [22] := by simpa using Array.mem_of_getElem? ht
        have hall : ([22].all fun u => !Tryd.prog.wantsStandIn u) = true := by kernel_rfl
        exact (show Tryd.prog.wantsStandIn t = false by simpa using List.all_eq_true.1 hall t hm)⟩)
    (by kernel_rfl)

end Go.Proofs.YtldknaajnnohiaaDoor
