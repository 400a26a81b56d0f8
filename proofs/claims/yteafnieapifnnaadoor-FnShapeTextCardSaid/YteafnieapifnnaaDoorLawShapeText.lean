/- FnShapeText returns true for every input: shapes with the same text are the same: another size of the first shape gives another text. -/
import Derived.Test.YteafnieapifnnaaDoorTxS
import Derived.Test.YteafnieapifnnaaDoorDrSh
import Derived.Test.YteafnieapifnnaaDoorShareO
import Derived.Test.YteafnieapifnnaaDoorDrawB
import Derived.Test.YteafnieapifnnaaDoorNew
import Derived.Test.YteafnieapifnnaaDoorLdT
import Derived.Test.YteafnieapifnnaaDoorDoor
import Derived.Deep.DeepCutAuto
namespace Go.Proofs.YteafnieapifnnaaDoor
open Go.ChangeShapes Go.WideShapes Go.ChangeAt Go.RowKit

def digVal (l : List UInt8) : Nat := l.foldl (fun a d => 10 * a + (d.toNat - 48)) 0
theorem dig_val : ∀ (n u : Nat), u ≤ n → digVal (Lib.decDigits u) = u
  | n, u, h => by
    rw [Lib.decDigits]
    by_cases h9 : u < 10
    · rw [dif_pos h9]
      unfold digVal
      simp only [List.foldl_cons, List.foldl_nil, UInt8.toNat_ofNat']
      omega
    · rw [dif_neg h9]
      have ih := dig_val (n - 1) (u / 10) (by omega)
      unfold digVal at ih ⊢
      rw [List.foldl_append, ih]
      simp only [List.foldl_cons, List.foldl_nil, UInt8.toNat_ofNat']
      omega
termination_by n u => u
decreasing_by omega
theorem numT_inj {a b : Int} (ha : 1 ≤ a ∧ a ≤ 16) (hb : 1 ≤ b ∧ b ≤ 16) (h : numT a = numT b) : a = b := by
  unfold numT at h
  rw [if_pos (by simp only [inB, Bool.and_eq_true, decide_eq_true_eq]; omega), if_pos (by simp only [inB, Bool.and_eq_true, decide_eq_true_eq]; omega)] at h
  have h2 := congrArg (fun x : ByteArray => x.data.toList) h
  simp only [bOf_list] at h2
  unfold Lib.itoa at h2
  rw [if_neg (by omega), if_neg (by omega)] at h2
  have h3 := congrArg digVal h2
  rw [dig_val _ _ (Nat.le_refl _), dig_val _ _ (Nat.le_refl _)] at h3
  omega
theorem shTxt_cons {x : ShapeD} {rest : List ShapeD} (h : shapesOk (x :: rest) = true) : (shTxt (x :: rest)).data.toList = (x.1 ++ spB ++ bJoin x.2.1 spB ++ spB).data.toList ++ ((numT x.2.2).data.toList ++ Lib.joinTail smB.data.toList ((rest.map shapeT).map (·.data.toList))) := by
  rw [shTxt_t h]
  unfold bJoin
  rw [bOf_list, List.map_cons, List.map_cons, Lib.join_cons]
  unfold shapeT
  rw [app_list _ (numT x.2.2), List.append_assoc]
  rfl
theorem text_other {x : ShapeD} {rest : List ShapeD} {z : Int} (h : shapesOk (x :: rest) = true) (hz : x.2.2 ≠ z) (h1 : 1 ≤ z ∧ z ≤ 16) : shTxt ((x.1, x.2.1, z) :: rest) ≠ shTxt (x :: rest) := by
  intro e
  have hx := shapesOk_at h (k := 0) rfl
  cases hok : shapesOk ((x.1, x.2.1, z) :: rest)
  · rw [shTxt_f hok] at e
    have e2 := congrArg (fun b : ByteArray => b.data.toList.length) e
    have e3 := congrArg List.length (shTxt_cons h)
    simp only [bOf_list, List.length_nil] at e2
    rw [← e2, List.length_append, List.length_append] at e3
    have h7 := numT_pos (n := x.2.2) (by simp only [inB, Bool.and_eq_true, decide_eq_true_eq]; omega)
    have h8 : (numT x.2.2).data.toList.length = (numT x.2.2).size := Array.length_toList
    omega
  · have e2 := congrArg (fun b : ByteArray => b.data.toList) e
    rw [shTxt_cons h, shTxt_cons hok] at e2
    have e3 := List.append_cancel_right (List.append_cancel_left e2)
    exact hz (numT_inj ⟨hx.2.2.1, hx.2.2.2⟩ h1 (by rw [← bOf_of (numT x.2.2), ← bOf_of (numT z)]; exact congrArg bOf e3.symm))
theorem text_some {x : ShapeD} {rest : List ShapeD} (h : shapesOk (x :: rest) = true) : shTxt (x :: rest) ≠ ⟨#[]⟩ := by
  intro e
  have hx := shapesOk_at h (k := 0) rfl
  have e3 := congrArg List.length (shTxt_cons h)
  rw [e, List.length_append, List.length_append] at e3
  have h7 := numT_pos (n := x.2.2) (by simp only [inB, Bool.and_eq_true, decide_eq_true_eq]; omega)
  have h8 : (numT x.2.2).data.toList.length = (numT x.2.2).size := Array.length_toList
  have h9 : (⟨#[]⟩ : ByteArray).data.toList.length = 0 := rfl
  omega
theorem impl_ShapeText_n (w : World) (hR : ResOk w) (F : List Nat) (A : Option Addr) (n c : Nat) (l : List ShapeD) (hn : l.length = n) (hx : SliceHas rShape w F [.slice A n c] l) :
    Calls Tryd.prog 24 #[.slice A n c] w fun e w' => e = .returned (.string (shTxt l)) ∧ Mod [] w w' := by
  subst hn
  exact impl_ShapeText w hR F A c l hx
set_option maxHeartbeats 8000000 in
set_option maxRecDepth 100000 in
theorem fnShapeText_calls (w : World) (hR : ResOk w) (v : Value) (F : List Nat) (code : List UInt8) (hx : SliceHas Rep.u8 w F [v] code) :
    Calls Tryd.prog 8 #[v] w fun e w' => e = .returned (.bool true) ∧ Mod [] w w' := by
  obtain ⟨A, c, rfl, hl, _⟩ := hx.form'
  have hS : Sat w w [.ro Rep.u8.slice [.slice A code.length c] code] := (Sat.nil w).arg hx
  by_cases hq : 1048576 < code.length
  · go_enter Tryd.func8, Tryd.ntmps8
    go_wp2_with (first | ((with_reducible show wpList _ _ _ (⟨_, Op.box _ _, _, _, _, _⟩ :: _) _ _); refine Does.list (does_box hS rfl rfl (by rfl)) rfl ?_; clear hS; rintro _ wx ⟨bo, rfl, hS, _⟩; (simp only [Act.put, List.setIfInBounds_toArray, List.set_cons_zero, List.set_cons_succ])) | ((with_reducible show wpList _ _ _ (⟨_, Op.load _ _, _, _, _, _⟩ :: _) _ _); (first | refine Gives.list (f_load hS rfl rfl (by rfl)) rfl ?_ | refine Gives.list (f_loadS hS rfl rfl (by rfl)) rfl ?_ | refine Gives.list (f_loadAt hS rfl rfl) rfl ?_ | refine Gives.list (f_loadAtS hS rfl rfl (by rfl)) rfl ?_ | refine Gives.list (f_loadAtF hS rfl rfl (by rfl)) rfl ?_); (simp only [Act.put, List.setIfInBounds_toArray, List.set_cons_zero, List.set_cons_succ])) | ((with_reducible show wpList _ _ _ (⟨_, Op.store _ _ _, _, _, _, _⟩ :: _) _ _); (first | refine Does.list (f_store hS rfl rfl rfl (by rfl) (by rfl)) rfl ?_ | refine Does.list (f_storeS hS rfl rfl rfl (by rfl) (by rfl) (by rfl)) rfl ?_); clear hS; rintro _ wx ⟨rfl, hS⟩; (simp only [List.set_cons_zero, List.set_cons_succ] at hS); (simp only [Act.put, List.setIfInBounds_toArray, List.set_cons_zero, List.set_cons_succ])) | ((with_reducible show wpList _ _ _ (⟨_, Op.alloc _, _, _, _, _⟩ :: _) _ _); refine Does.list (does_alloc hS rfl (by rfl)) rfl ?_; clear hS; rintro _ wx ⟨ba, rfl, hS, _⟩; (simp only [Act.put, List.setIfInBounds_toArray, List.set_cons_zero, List.set_cons_succ])) | ((with_reducible show wpList _ _ _ (⟨_, Op.buildSlice _ _ _, _, _, _, _⟩ :: _) _ _); refine Does.list (does_buildSlice (X := ?_) (cs := ?_) (E := ?_) hS rfl ?_ ?_) rfl ?_; rotate_left 3; (go_simp; rfl); rfl; clear hS; rintro _ wx ⟨bx, rfl, hS, _⟩; (simp only [Act.put, List.setIfInBounds_toArray, List.set_cons_zero, List.set_cons_succ])))
    go_ret
    exact ⟨rfl, hS.mod0⟩
  go_enter Tryd.func8, Tryd.ntmps8
  go_wp2_with (first | ((with_reducible show wpList _ _ _ (⟨_, Op.box _ _, _, _, _, _⟩ :: _) _ _); refine Does.list (does_box hS rfl rfl (by rfl)) rfl ?_; clear hS; rintro _ wx ⟨bo, rfl, hS, _⟩; (simp only [Act.put, List.setIfInBounds_toArray, List.set_cons_zero, List.set_cons_succ])) | ((with_reducible show wpList _ _ _ (⟨_, Op.load _ _, _, _, _, _⟩ :: _) _ _); (first | refine Gives.list (f_load hS rfl rfl (by rfl)) rfl ?_ | refine Gives.list (f_loadS hS rfl rfl (by rfl)) rfl ?_ | refine Gives.list (f_loadAt hS rfl rfl) rfl ?_ | refine Gives.list (f_loadAtS hS rfl rfl (by rfl)) rfl ?_ | refine Gives.list (f_loadAtF hS rfl rfl (by rfl)) rfl ?_); (simp only [Act.put, List.setIfInBounds_toArray, List.set_cons_zero, List.set_cons_succ])) | ((with_reducible show wpList _ _ _ (⟨_, Op.store _ _ _, _, _, _, _⟩ :: _) _ _); (first | refine Does.list (f_store hS rfl rfl rfl (by rfl) (by rfl)) rfl ?_ | refine Does.list (f_storeS hS rfl rfl rfl (by rfl) (by rfl) (by rfl)) rfl ?_); clear hS; rintro _ wx ⟨rfl, hS⟩; (simp only [List.set_cons_zero, List.set_cons_succ] at hS); (simp only [Act.put, List.setIfInBounds_toArray, List.set_cons_zero, List.set_cons_succ])) | ((with_reducible show wpList _ _ _ (⟨_, Op.alloc _, _, _, _, _⟩ :: _) _ _); refine Does.list (does_alloc hS rfl (by rfl)) rfl ?_; clear hS; rintro _ wx ⟨ba, rfl, hS, _⟩; (simp only [Act.put, List.setIfInBounds_toArray, List.set_cons_zero, List.set_cons_succ])) | ((with_reducible show wpList _ _ _ (⟨_, Op.buildSlice _ _ _, _, _, _, _⟩ :: _) _ _); refine Does.list (does_buildSlice (X := ?_) (cs := ?_) (E := ?_) hS rfl ?_ ?_) rfl ?_; rotate_left 3; (go_simp; rfl); rfl; clear hS; rintro _ wx ⟨bx, rfl, hS, _⟩; (simp only [Act.put, List.setIfInBounds_toArray, List.set_cons_zero, List.set_cons_succ])) | (go_at_call 31; obtain ⟨Fq, hFq⟩ := hS.has Rep.u8.slice [.slice A code.length c]; refine (spec_DrawShapeText _ Fq _ _ hFq).mono ?_; rintro e w' ⟨v, xs, rfl, ⟨hxl, hxs⟩, hN⟩; replace hS := hS.fresh hN; clear hN hFq hxs; obtain ⟨Al, cl, rfl⟩ := hS.formOwn 0 rfl; replace hS := Sat.still (e' := rShape.slice) hS; have hS2 := Sat.share (hS.dupRo 0 rfl); clear hS; obtain ⟨css, hcl, hS⟩ := hS2; replace hS : Sat w _ [.ro (Rep.raw 3).slice [.slice Al xs.length cl] css, .ro (Rep.lnk rShape) [] (css, xs), .ro rShape.slice [.slice Al xs.length cl] xs, .ro Rep.u8.slice [.slice A code.length c] code] := hS))
  obtain ⟨s1, hs1⟩ : ∃ s, shTxt xs = s := ⟨_, rfl⟩
  have HS1 := Lib.hid hs1
  rcases Nat.eq_zero_or_pos xs.length with h0 | h0
  · have h0I : ((xs.length : Int) == 0) = true := by simp [h0]
    have he : (s1.toList == ([] : List UInt8)) = true := by
      rw [← hs1, List.length_eq_zero_iff.1 h0, show shTxt [] = ⟨#[]⟩ by unfold shTxt; split <;> rfl]
      exact toList_nil2
    clear h0 hs1
    go_wp2_with (first | (go_at_call 24; (with_reducible show Calls _ _ #[.slice Al _ cl] _ _); obtain ⟨Fq, hFq⟩ := hS.has rShape.slice [.slice Al xs.length cl]; refine (impl_ShapeText _ (hR.mod0 hS.mod0) Fq Al cl xs hFq).mono ?_; rintro e w' ⟨rfl, hM⟩; (rw [HS1.out]); replace hS := hS.mod hM; clear hM hFq) | (go_at_call 22; obtain ⟨Fq, hFq⟩ := hS.has rShape.slice [.slice Al xs.length cl]; refine (spec_ShapeText _ Fq Al cl xs hFq).mono ?_; rintro e w' ⟨rfl, hM⟩; (rw [HS1.out]); replace hS := hS.mod hM; clear hM hFq) | (go_at_call 14; refine (laws_alive _ (hR.mod0 hS.mod0)).mono ?_; rintro e w' ⟨rfl, hM⟩; replace hS := hS.mod hM; clear hM) | ((with_reducible show wpList _ _ _ (⟨_, Op.box _ _, _, _, _, _⟩ :: _) _ _); refine Does.list (does_box hS rfl rfl (by rfl)) rfl ?_; clear hS; rintro _ wx ⟨bo, rfl, hS, _⟩; (simp only [Act.put, List.setIfInBounds_toArray, List.set_cons_zero, List.set_cons_succ])) | ((with_reducible show wpList _ _ _ (⟨_, Op.load _ _, _, _, _, _⟩ :: _) _ _); (first | refine Gives.list (f_load hS rfl rfl (by rfl)) rfl ?_ | refine Gives.list (f_loadS hS rfl rfl (by rfl)) rfl ?_ | refine Gives.list (f_loadAt hS rfl rfl) rfl ?_ | refine Gives.list (f_loadAtS hS rfl rfl (by rfl)) rfl ?_ | refine Gives.list (f_loadAtF hS rfl rfl (by rfl)) rfl ?_); (simp only [Act.put, List.setIfInBounds_toArray, List.set_cons_zero, List.set_cons_succ])) | ((with_reducible show wpList _ _ _ (⟨_, Op.store _ _ _, _, _, _, _⟩ :: _) _ _); (first | refine Does.list (f_store hS rfl rfl rfl (by rfl) (by rfl)) rfl ?_ | refine Does.list (f_storeS hS rfl rfl rfl (by rfl) (by rfl) (by rfl)) rfl ?_); clear hS; rintro _ wx ⟨rfl, hS⟩; (simp only [List.set_cons_zero, List.set_cons_succ] at hS); (simp only [Act.put, List.setIfInBounds_toArray, List.set_cons_zero, List.set_cons_succ])) | ((with_reducible show wpList _ _ _ (⟨_, Op.alloc _, _, _, _, _⟩ :: _) _ _); refine Does.list (does_alloc hS rfl (by rfl)) rfl ?_; clear hS; rintro _ wx ⟨ba, rfl, hS, _⟩; (simp only [Act.put, List.setIfInBounds_toArray, List.set_cons_zero, List.set_cons_succ])) | ((with_reducible show wpList _ _ _ (⟨_, Op.buildSlice _ _ _, _, _, _, _⟩ :: _) _ _); refine Does.list (does_buildSlice (X := ?_) (cs := ?_) (E := ?_) hS rfl ?_ ?_) rfl ?_; rotate_left 3; (go_simp; rfl); rfl; clear hS; rintro _ wx ⟨bx, rfl, hS, _⟩; (simp only [Act.put, List.setIfInBounds_toArray, List.set_cons_zero, List.set_cons_succ])))
    go_ret
    exact ⟨rfl, hS.mod0⟩
  have h0I : ((xs.length : Int) == 0) = false := beq_eq_false_iff_ne.2 (by omega)
  obtain ⟨ok, hok⟩ : ∃ b, shapesOk xs = b := ⟨_, rfl⟩
  have Hok := Lib.hid hok
  cases ok
  · have he : (s1.toList == ([] : List UInt8)) = true := by
      rw [← hs1, shTxt_f hok]
      exact toList_nil2
    clear hs1 hok
    go_wp2_with (first | (go_at_call 24; (with_reducible show Calls _ _ #[.slice Al _ cl] _ _); obtain ⟨Fq, hFq⟩ := hS.has rShape.slice [.slice Al xs.length cl]; refine (impl_ShapeText _ (hR.mod0 hS.mod0) Fq Al cl xs hFq).mono ?_; rintro e w' ⟨rfl, hM⟩; (rw [HS1.out]); replace hS := hS.mod hM; clear hM hFq) | (go_at_call 22; obtain ⟨Fq, hFq⟩ := hS.has rShape.slice [.slice Al xs.length cl]; refine (spec_ShapeText _ Fq Al cl xs hFq).mono ?_; rintro e w' ⟨rfl, hM⟩; (rw [HS1.out]); replace hS := hS.mod hM; clear hM hFq) | (go_at_call 32; obtain ⟨Fq, hFq⟩ := hS.has rShape.slice [.slice Al xs.length cl]; refine (spec_ShapesValid' _ Fq _ xs hFq).mono ?_; rintro e w' ⟨rfl, hM⟩; (simp only [Hok.out]); replace hS := hS.mod hM; clear hM hFq) | (go_at_call 14; refine (laws_alive _ (hR.mod0 hS.mod0)).mono ?_; rintro e w' ⟨rfl, hM⟩; replace hS := hS.mod hM; clear hM) | ((with_reducible show wpList _ _ _ (⟨_, Op.box _ _, _, _, _, _⟩ :: _) _ _); refine Does.list (does_box hS rfl rfl (by rfl)) rfl ?_; clear hS; rintro _ wx ⟨bo, rfl, hS, _⟩; (simp only [Act.put, List.setIfInBounds_toArray, List.set_cons_zero, List.set_cons_succ])) | ((with_reducible show wpList _ _ _ (⟨_, Op.load _ _, _, _, _, _⟩ :: _) _ _); (first | refine Gives.list (f_load hS rfl rfl (by rfl)) rfl ?_ | refine Gives.list (f_loadS hS rfl rfl (by rfl)) rfl ?_ | refine Gives.list (f_loadAt hS rfl rfl) rfl ?_ | refine Gives.list (f_loadAtS hS rfl rfl (by rfl)) rfl ?_ | refine Gives.list (f_loadAtF hS rfl rfl (by rfl)) rfl ?_); (simp only [Act.put, List.setIfInBounds_toArray, List.set_cons_zero, List.set_cons_succ])) | ((with_reducible show wpList _ _ _ (⟨_, Op.store _ _ _, _, _, _, _⟩ :: _) _ _); (first | refine Does.list (f_store hS rfl rfl rfl (by rfl) (by rfl)) rfl ?_ | refine Does.list (f_storeS hS rfl rfl rfl (by rfl) (by rfl) (by rfl)) rfl ?_); clear hS; rintro _ wx ⟨rfl, hS⟩; (simp only [List.set_cons_zero, List.set_cons_succ] at hS); (simp only [Act.put, List.setIfInBounds_toArray, List.set_cons_zero, List.set_cons_succ])) | ((with_reducible show wpList _ _ _ (⟨_, Op.alloc _, _, _, _, _⟩ :: _) _ _); refine Does.list (does_alloc hS rfl (by rfl)) rfl ?_; clear hS; rintro _ wx ⟨ba, rfl, hS, _⟩; (simp only [Act.put, List.setIfInBounds_toArray, List.set_cons_zero, List.set_cons_succ])) | ((with_reducible show wpList _ _ _ (⟨_, Op.buildSlice _ _ _, _, _, _, _⟩ :: _) _ _); refine Does.list (does_buildSlice (X := ?_) (cs := ?_) (E := ?_) hS rfl ?_ ?_) rfl ?_; rotate_left 3; (go_simp; rfl); rfl; clear hS; rintro _ wx ⟨bx, rfl, hS, _⟩; (simp only [Act.put, List.setIfInBounds_toArray, List.set_cons_zero, List.set_cons_succ])))
    go_ret
    exact ⟨rfl, hS.mod0⟩
  obtain ⟨x0, hx0⟩ : ∃ x, xs[0]? = some x := ⟨_, get_some h0⟩
  obtain ⟨c0, hc0⟩ : ∃ x, css[0]? = some x := ⟨_, get_some (by rw [hcl]; exact h0)⟩
  have hS2 := Sat.lnkGet (hS.dupRo 1 rfl) hc0 hx0
  clear hS
  obtain ⟨A1, c1, rfl, i0, i2, hS4⟩ := Sat.openRoShape hS2
  clear hS2
  have hS5 := hS4.el (Rep.raw 3) Al xs.length cl hc0
  clear hS4
  obtain ⟨ad, ck, rfl, hckl, hS6⟩ := hS5
  obtain ⟨rfl, hS⟩ := Sat.roRaw (Sat.swap hS6)
  clear hS6
  obtain ⟨n0, ns0, z0⟩ := x0
  dsimp only at hS hc0 i0 i2
  replace hS : Sat w _ [.at ad [.string n0, .slice A1 ns0.length c1, .int .i64 z0], .ro Rep.str.slice [.slice A1 ns0.length c1] ns0, .ro (Rep.lnk rShape) [] (css, xs), .ro (Rep.raw 3).slice [.slice (some ad) xs.length cl] css, .ro rShape.slice [.slice (some ad) xs.length cl] xs] := hS.sel [0, 1, 2, 3, 5] rfl (by decide)
  have Hc0 := Lib.hid hc0
  have Hcl := Lib.hid hcl
  have hzb := shapesOk_at hok hx0
  obtain ⟨rest, hrest⟩ : ∃ rest, xs = (n0, ns0, z0) :: rest := by
    cases xs with
    | nil => cases hx0
    | cons y ys => simp only [List.getElem?_cons_zero, Option.some.injEq] at hx0; exact ⟨ys, by rw [hx0]⟩
  have Hrest := Lib.hid hrest
  have he : (s1.toList == ([] : List UInt8)) = false := by
    have h1 : s1 ≠ ⟨#[]⟩ := by rw [← hs1, hrest]; rw [hrest] at hok; exact text_some hok
    have h2 := toList_f h1
    rw [toList_nil] at h2
    exact h2
  have Hne : Hid (∀ z : Int, z0 ≠ z → (1 ≤ z ∧ z ≤ 16) → shTxt (xs.set 0 (n0, ns0, z)) ≠ s1) := Lib.hid (fun z h1 h2 => by
    rw [← hs1, hrest]
    rw [hrest] at hok
    exact text_other (x := (n0, ns0, z0)) hok h1 h2)
  have h0N : (0 : Int) < (xs.length : Int) := by omega
  clear hs1 hok hx0 hc0 hcl hrest
  by_cases hz : z0 = 16
  · have hzd : (z0 == 16) = true := by rw [hz]; rfl
    have Hz := Lib.hid hz
    clear hz
    obtain ⟨s2, hs2⟩ : ∃ s, shTxt (xs.set 0 (n0, ns0, 8)) = s := ⟨_, rfl⟩
    have HS2 := Lib.hid hs2
    have hd2 : (s2.toList == s1.toList) = false := by
      have h2 := toList_f (Hne.out 8 (by rw [Hz.out]; decide) (by decide))
      rw [hs2] at h2
      exact h2
    clear hs2
    go_upto_region 13 with (first | (go_at_call 24; (with_reducible show Calls _ _ #[.slice (some ad) _ cl] _ _); obtain ⟨Fq, hFq⟩ := hS.has rShape.slice [.slice (some ad) xs.length cl]; refine (impl_ShapeText _ (hR.mod0 hS.mod0) Fq (some ad) cl xs hFq).mono ?_; rintro e w' ⟨rfl, hM⟩; (rw [HS1.out]); replace hS := hS.mod hM; clear hM hFq) | (go_at_call 22; obtain ⟨Fq, hFq⟩ := hS.has rShape.slice [.slice (some ad) xs.length cl]; refine (spec_ShapeText _ Fq (some ad) cl xs hFq).mono ?_; rintro e w' ⟨rfl, hM⟩; (rw [HS1.out]); replace hS := hS.mod hM; clear hM hFq) | (go_at_call 32; obtain ⟨Fq, hFq⟩ := hS.has rShape.slice [.slice (some ad) xs.length cl]; refine (spec_ShapesValid' _ Fq _ xs hFq).mono ?_; rintro e w' ⟨rfl, hM⟩; (simp only [Hok.out]); replace hS := hS.mod hM; clear hM hFq) | ((with_reducible show wpList _ _ _ (⟨_, Op.call { callee := Callee.builtin Builtin.append, args := _, argTypes := _ }, _, _, _, _⟩ :: _) _ _); replace hS := (Sat.vec0 (Rep.raw 3) hS).lit (Nat.zero_le _); refine Does.list (f_appendFlat (Rep.raw 3) (Rep.raw 3) hS rfl rfl rfl rfl rfl rfl (by decide) (by omega)) rfl ?_; clear hS; rintro _ wx ⟨A2, c2, rfl, hS⟩; (simp only [List.set_cons_zero, List.set_cons_succ] at hS); (simp only [Act.put, List.setIfInBounds_toArray, List.set_cons_zero, List.set_cons_succ]); (simp only [Nat.zero_add, List.nil_append] at hS ⊢); obtain ⟨g2, o2, rfl⟩ := hS.rowAt 0 rfl h0) | ((with_reducible show wpList _ _ _ (⟨_, Op.store _ _ _, _, _, _, _⟩ :: _) _ _); refine Does.list (does_storeField (e := Rep.raw 3) (g := g2) (off := o2) (k := 0) (j := 2) [.string n0, .slice A1 ns0.length c1, .int .i64 16] 0 hS rfl rfl rfl rfl rfl (show o2 + 2 = o2 + (0 * 3 + 2) by omega) (show 2 < 3 by decide) Hc0.out (fun w F ck h => raw_upd (j := 2) (u := .int .i64 16) rfl h)) rfl ?_; clear hS; rintro _ wx ⟨rfl, hS⟩; (simp only [List.set_cons_zero, List.set_cons_succ] at hS); (simp only [Act.put, List.setIfInBounds_toArray, List.set_cons_zero, List.set_cons_succ]); obtain ⟨css2, hcs2⟩ : ∃ q, q = css.set 0 [.string n0, .slice A1 ns0.length c1, .int .i64 16] := ⟨_, rfl⟩; (rw [← hcs2] at hS); have Hc2 : Hid (css2[0]? = some [.string n0, .slice A1 ns0.length c1, .int .i64 16]) := Lib.hid (by rw [hcs2, List.getElem?_set, if_pos rfl, if_pos (by rw [Hcl.out]; exact h0)]); have Hcs2 := Lib.hid hcs2; clear hcs2) | ((with_reducible show wpList _ _ _ (⟨_, Op.store _ _ _, _, _, _, _⟩ :: _) _ _); refine Does.list (does_storeField (e := Rep.raw 3) (g := g2) (off := o2) (k := 0) (j := 2) [.string n0, .slice A1 ns0.length c1, .int .i64 8] 0 hS rfl rfl rfl rfl rfl (show o2 + 2 = o2 + (0 * 3 + 2) by omega) (show 2 < 3 by decide) Hc2.out (fun w F ck h => raw_upd (j := 2) (u := .int .i64 8) rfl h)) rfl ?_; clear hS; rintro _ wx ⟨rfl, hS⟩; (simp only [List.set_cons_zero, List.set_cons_succ] at hS); (simp only [Act.put, List.setIfInBounds_toArray, List.set_cons_zero, List.set_cons_succ])) | ((with_reducible show wpList _ _ _ (⟨_, Op.box _ _, _, _, _, _⟩ :: _) _ _); refine Does.list (does_box hS rfl rfl (by rfl)) rfl ?_; clear hS; rintro _ wx ⟨bo, rfl, hS, _⟩; (simp only [Act.put, List.setIfInBounds_toArray, List.set_cons_zero, List.set_cons_succ])) | ((with_reducible show wpList _ _ _ (⟨_, Op.load _ _, _, _, _, _⟩ :: _) _ _); (first | refine Gives.list (f_load hS rfl rfl (by rfl)) rfl ?_ | refine Gives.list (f_loadS hS rfl rfl (by rfl)) rfl ?_ | refine Gives.list (f_loadAt hS rfl rfl) rfl ?_ | refine Gives.list (f_loadAtS hS rfl rfl (by rfl)) rfl ?_ | refine Gives.list (f_loadAtF hS rfl rfl (by rfl)) rfl ?_); (simp only [Act.put, List.setIfInBounds_toArray, List.set_cons_zero, List.set_cons_succ])) | ((with_reducible show wpList _ _ _ (⟨_, Op.store _ _ _, _, _, _, _⟩ :: _) _ _); (first | refine Does.list (f_store hS rfl rfl rfl (by rfl) (by rfl)) rfl ?_ | refine Does.list (f_storeS hS rfl rfl rfl (by rfl) (by rfl) (by rfl)) rfl ?_); clear hS; rintro _ wx ⟨rfl, hS⟩; (simp only [List.set_cons_zero, List.set_cons_succ] at hS); (simp only [Act.put, List.setIfInBounds_toArray, List.set_cons_zero, List.set_cons_succ])) | ((with_reducible show wpList _ _ _ (⟨_, Op.alloc _, _, _, _, _⟩ :: _) _ _); refine Does.list (does_alloc hS rfl (by rfl)) rfl ?_; clear hS; rintro _ wx ⟨ba, rfl, hS, _⟩; (simp only [Act.put, List.setIfInBounds_toArray, List.set_cons_zero, List.set_cons_succ])) | ((with_reducible show wpList _ _ _ (⟨_, Op.buildSlice _ _ _, _, _, _, _⟩ :: _) _ _); refine Does.list (does_buildSlice (X := ?_) (cs := ?_) (E := ?_) hS rfl ?_ ?_) rfl ?_; rotate_left 3; (go_simp; rfl); rfl; clear hS; rintro _ wx ⟨bx, rfl, hS, _⟩; (simp only [Act.put, List.setIfInBounds_toArray, List.set_cons_zero, List.set_cons_succ])))
    rw [Hcs2.out, List.set_set] at hS
    have hS2 := (Sat.still (e' := (Rep.raw 3).slice) hS).dupRo 2 rfl
    clear hS
    have hS3 := Sat.roMap (b := rShape) (ds := [.string n0, .slice A1 ns0.length c1, .int .i64 8]) (y := (n0, ns0, 8)) hS2 (fun w F h => rShape_mk i0 h (by unfold I64; omega))
    clear hS2
    have hS4 := Sat.lnkSet 0 (hS3.sel (Γ' := [.ro rShape [.string n0, .slice A1 ns0.length c1, .int .i64 8] (n0, ns0, 8), .ro (Rep.lnk rShape) [] (css, xs), .ro (Rep.raw 3).slice [.slice (some ⟨g2, o2, none⟩) xs.length c2] (css.set 0 [.string n0, .slice A1 ns0.length c1, .int .i64 8]), .ro rShape.slice [.slice (some ad) xs.length cl] xs]) [0, 4, 1, 6] rfl (by decide))
    clear hS3
    have hS := Sat.unshare (Sat.swap hS4)
    clear hS4
    go_wp2_with (first | (go_at_call 24; obtain ⟨Fq, hFq⟩ := hS.has rShape.slice [.slice (some ⟨g2, o2, none⟩) xs.length c2]; refine (impl_ShapeText_n _ (hR.mod0 hS.mod0) Fq (some ⟨g2, o2, none⟩) xs.length c2 (xs.set 0 (n0, ns0, 8)) (by rw [List.length_set]) hFq).mono ?_; rintro e w' ⟨rfl, hM⟩; (rw [HS2.out]); replace hS := hS.mod hM; clear hM hFq) | (go_at_call 14; refine (laws_alive _ (hR.mod0 hS.mod0)).mono ?_; rintro e w' ⟨rfl, hM⟩; replace hS := hS.mod hM; clear hM) | ((with_reducible show wpList _ _ _ (⟨_, Op.box _ _, _, _, _, _⟩ :: _) _ _); refine Does.list (does_box hS rfl rfl (by rfl)) rfl ?_; clear hS; rintro _ wx ⟨bo, rfl, hS, _⟩; (simp only [Act.put, List.setIfInBounds_toArray, List.set_cons_zero, List.set_cons_succ])) | ((with_reducible show wpList _ _ _ (⟨_, Op.load _ _, _, _, _, _⟩ :: _) _ _); (first | refine Gives.list (f_load hS rfl rfl (by rfl)) rfl ?_ | refine Gives.list (f_loadS hS rfl rfl (by rfl)) rfl ?_ | refine Gives.list (f_loadAt hS rfl rfl) rfl ?_ | refine Gives.list (f_loadAtS hS rfl rfl (by rfl)) rfl ?_ | refine Gives.list (f_loadAtF hS rfl rfl (by rfl)) rfl ?_); (simp only [Act.put, List.setIfInBounds_toArray, List.set_cons_zero, List.set_cons_succ])) | ((with_reducible show wpList _ _ _ (⟨_, Op.store _ _ _, _, _, _, _⟩ :: _) _ _); (first | refine Does.list (f_store hS rfl rfl rfl (by rfl) (by rfl)) rfl ?_ | refine Does.list (f_storeS hS rfl rfl rfl (by rfl) (by rfl) (by rfl)) rfl ?_); clear hS; rintro _ wx ⟨rfl, hS⟩; (simp only [List.set_cons_zero, List.set_cons_succ] at hS); (simp only [Act.put, List.setIfInBounds_toArray, List.set_cons_zero, List.set_cons_succ])) | ((with_reducible show wpList _ _ _ (⟨_, Op.alloc _, _, _, _, _⟩ :: _) _ _); refine Does.list (does_alloc hS rfl (by rfl)) rfl ?_; clear hS; rintro _ wx ⟨ba, rfl, hS, _⟩; (simp only [Act.put, List.setIfInBounds_toArray, List.set_cons_zero, List.set_cons_succ])) | ((with_reducible show wpList _ _ _ (⟨_, Op.buildSlice _ _ _, _, _, _, _⟩ :: _) _ _); refine Does.list (does_buildSlice (X := ?_) (cs := ?_) (E := ?_) hS rfl ?_ ?_) rfl ?_; rotate_left 3; (go_simp; rfl); rfl; clear hS; rintro _ wx ⟨bx, rfl, hS, _⟩; (simp only [Act.put, List.setIfInBounds_toArray, List.set_cons_zero, List.set_cons_succ])))
    go_ret
    exact ⟨rfl, hS.mod0⟩
  · have hzd : (z0 == 16) = false := beq_eq_false_iff_ne.2 hz
    have Hz := Lib.hid hz
    clear hz
    obtain ⟨s2, hs2⟩ : ∃ s, shTxt (xs.set 0 (n0, ns0, 16)) = s := ⟨_, rfl⟩
    have HS2 := Lib.hid hs2
    have hd2 : (s2.toList == s1.toList) = false := by
      have h2 := toList_f (Hne.out 16 Hz.out (by decide))
      rw [hs2] at h2
      exact h2
    clear hs2
    go_upto_region 13 with (first | (go_at_call 24; (with_reducible show Calls _ _ #[.slice (some ad) _ cl] _ _); obtain ⟨Fq, hFq⟩ := hS.has rShape.slice [.slice (some ad) xs.length cl]; refine (impl_ShapeText _ (hR.mod0 hS.mod0) Fq (some ad) cl xs hFq).mono ?_; rintro e w' ⟨rfl, hM⟩; (rw [HS1.out]); replace hS := hS.mod hM; clear hM hFq) | (go_at_call 22; obtain ⟨Fq, hFq⟩ := hS.has rShape.slice [.slice (some ad) xs.length cl]; refine (spec_ShapeText _ Fq (some ad) cl xs hFq).mono ?_; rintro e w' ⟨rfl, hM⟩; (rw [HS1.out]); replace hS := hS.mod hM; clear hM hFq) | (go_at_call 32; obtain ⟨Fq, hFq⟩ := hS.has rShape.slice [.slice (some ad) xs.length cl]; refine (spec_ShapesValid' _ Fq _ xs hFq).mono ?_; rintro e w' ⟨rfl, hM⟩; (simp only [Hok.out]); replace hS := hS.mod hM; clear hM hFq) | ((with_reducible show wpList _ _ _ (⟨_, Op.call { callee := Callee.builtin Builtin.append, args := _, argTypes := _ }, _, _, _, _⟩ :: _) _ _); replace hS := (Sat.vec0 (Rep.raw 3) hS).lit (Nat.zero_le _); refine Does.list (f_appendFlat (Rep.raw 3) (Rep.raw 3) hS rfl rfl rfl rfl rfl rfl (by decide) (by omega)) rfl ?_; clear hS; rintro _ wx ⟨A2, c2, rfl, hS⟩; (simp only [List.set_cons_zero, List.set_cons_succ] at hS); (simp only [Act.put, List.setIfInBounds_toArray, List.set_cons_zero, List.set_cons_succ]); (simp only [Nat.zero_add, List.nil_append] at hS ⊢); obtain ⟨g2, o2, rfl⟩ := hS.rowAt 0 rfl h0) | ((with_reducible show wpList _ _ _ (⟨_, Op.store _ _ _, _, _, _, _⟩ :: _) _ _); refine Does.list (does_storeField (e := Rep.raw 3) (g := g2) (off := o2) (k := 0) (j := 2) [.string n0, .slice A1 ns0.length c1, .int .i64 16] 0 hS rfl rfl rfl rfl rfl (show o2 + 2 = o2 + (0 * 3 + 2) by omega) (show 2 < 3 by decide) Hc0.out (fun w F ck h => raw_upd (j := 2) (u := .int .i64 16) rfl h)) rfl ?_; clear hS; rintro _ wx ⟨rfl, hS⟩; (simp only [List.set_cons_zero, List.set_cons_succ] at hS); (simp only [Act.put, List.setIfInBounds_toArray, List.set_cons_zero, List.set_cons_succ]); obtain ⟨css2, hcs2⟩ : ∃ q, q = css.set 0 [.string n0, .slice A1 ns0.length c1, .int .i64 16] := ⟨_, rfl⟩; (rw [← hcs2] at hS); have Hc2 : Hid (css2[0]? = some [.string n0, .slice A1 ns0.length c1, .int .i64 16]) := Lib.hid (by rw [hcs2, List.getElem?_set, if_pos rfl, if_pos (by rw [Hcl.out]; exact h0)]); have Hcs2 := Lib.hid hcs2; clear hcs2) | ((with_reducible show wpList _ _ _ (⟨_, Op.box _ _, _, _, _, _⟩ :: _) _ _); refine Does.list (does_box hS rfl rfl (by rfl)) rfl ?_; clear hS; rintro _ wx ⟨bo, rfl, hS, _⟩; (simp only [Act.put, List.setIfInBounds_toArray, List.set_cons_zero, List.set_cons_succ])) | ((with_reducible show wpList _ _ _ (⟨_, Op.load _ _, _, _, _, _⟩ :: _) _ _); (first | refine Gives.list (f_load hS rfl rfl (by rfl)) rfl ?_ | refine Gives.list (f_loadS hS rfl rfl (by rfl)) rfl ?_ | refine Gives.list (f_loadAt hS rfl rfl) rfl ?_ | refine Gives.list (f_loadAtS hS rfl rfl (by rfl)) rfl ?_ | refine Gives.list (f_loadAtF hS rfl rfl (by rfl)) rfl ?_); (simp only [Act.put, List.setIfInBounds_toArray, List.set_cons_zero, List.set_cons_succ])) | ((with_reducible show wpList _ _ _ (⟨_, Op.store _ _ _, _, _, _, _⟩ :: _) _ _); (first | refine Does.list (f_store hS rfl rfl rfl (by rfl) (by rfl)) rfl ?_ | refine Does.list (f_storeS hS rfl rfl rfl (by rfl) (by rfl) (by rfl)) rfl ?_); clear hS; rintro _ wx ⟨rfl, hS⟩; (simp only [List.set_cons_zero, List.set_cons_succ] at hS); (simp only [Act.put, List.setIfInBounds_toArray, List.set_cons_zero, List.set_cons_succ])) | ((with_reducible show wpList _ _ _ (⟨_, Op.alloc _, _, _, _, _⟩ :: _) _ _); refine Does.list (does_alloc hS rfl (by rfl)) rfl ?_; clear hS; rintro _ wx ⟨ba, rfl, hS, _⟩; (simp only [Act.put, List.setIfInBounds_toArray, List.set_cons_zero, List.set_cons_succ])) | ((with_reducible show wpList _ _ _ (⟨_, Op.buildSlice _ _ _, _, _, _, _⟩ :: _) _ _); refine Does.list (does_buildSlice (X := ?_) (cs := ?_) (E := ?_) hS rfl ?_ ?_) rfl ?_; rotate_left 3; (go_simp; rfl); rfl; clear hS; rintro _ wx ⟨bx, rfl, hS, _⟩; (simp only [Act.put, List.setIfInBounds_toArray, List.set_cons_zero, List.set_cons_succ])))
    rw [Hcs2.out] at hS
    have hS2 := (Sat.still (e' := (Rep.raw 3).slice) hS).dupRo 2 rfl
    clear hS
    have hS3 := Sat.roMap (b := rShape) (ds := [.string n0, .slice A1 ns0.length c1, .int .i64 16]) (y := (n0, ns0, 16)) hS2 (fun w F h => rShape_mk i0 h (by unfold I64; omega))
    clear hS2
    have hS4 := Sat.lnkSet 0 (hS3.sel (Γ' := [.ro rShape [.string n0, .slice A1 ns0.length c1, .int .i64 16] (n0, ns0, 16), .ro (Rep.lnk rShape) [] (css, xs), .ro (Rep.raw 3).slice [.slice (some ⟨g2, o2, none⟩) xs.length c2] (css.set 0 [.string n0, .slice A1 ns0.length c1, .int .i64 16]), .ro rShape.slice [.slice (some ad) xs.length cl] xs]) [0, 4, 1, 6] rfl (by decide))
    clear hS3
    have hS := Sat.unshare (Sat.swap hS4)
    clear hS4
    go_wp2_with (first | (go_at_call 24; obtain ⟨Fq, hFq⟩ := hS.has rShape.slice [.slice (some ⟨g2, o2, none⟩) xs.length c2]; refine (impl_ShapeText_n _ (hR.mod0 hS.mod0) Fq (some ⟨g2, o2, none⟩) xs.length c2 (xs.set 0 (n0, ns0, 16)) (by rw [List.length_set]) hFq).mono ?_; rintro e w' ⟨rfl, hM⟩; (rw [HS2.out]); replace hS := hS.mod hM; clear hM hFq) | (go_at_call 14; refine (laws_alive _ (hR.mod0 hS.mod0)).mono ?_; rintro e w' ⟨rfl, hM⟩; replace hS := hS.mod hM; clear hM) | ((with_reducible show wpList _ _ _ (⟨_, Op.box _ _, _, _, _, _⟩ :: _) _ _); refine Does.list (does_box hS rfl rfl (by rfl)) rfl ?_; clear hS; rintro _ wx ⟨bo, rfl, hS, _⟩; (simp only [Act.put, List.setIfInBounds_toArray, List.set_cons_zero, List.set_cons_succ])) | ((with_reducible show wpList _ _ _ (⟨_, Op.load _ _, _, _, _, _⟩ :: _) _ _); (first | refine Gives.list (f_load hS rfl rfl (by rfl)) rfl ?_ | refine Gives.list (f_loadS hS rfl rfl (by rfl)) rfl ?_ | refine Gives.list (f_loadAt hS rfl rfl) rfl ?_ | refine Gives.list (f_loadAtS hS rfl rfl (by rfl)) rfl ?_ | refine Gives.list (f_loadAtF hS rfl rfl (by rfl)) rfl ?_); (simp only [Act.put, List.setIfInBounds_toArray, List.set_cons_zero, List.set_cons_succ])) | ((with_reducible show wpList _ _ _ (⟨_, Op.store _ _ _, _, _, _, _⟩ :: _) _ _); (first | refine Does.list (f_store hS rfl rfl rfl (by rfl) (by rfl)) rfl ?_ | refine Does.list (f_storeS hS rfl rfl rfl (by rfl) (by rfl) (by rfl)) rfl ?_); clear hS; rintro _ wx ⟨rfl, hS⟩; (simp only [List.set_cons_zero, List.set_cons_succ] at hS); (simp only [Act.put, List.setIfInBounds_toArray, List.set_cons_zero, List.set_cons_succ])) | ((with_reducible show wpList _ _ _ (⟨_, Op.alloc _, _, _, _, _⟩ :: _) _ _); refine Does.list (does_alloc hS rfl (by rfl)) rfl ?_; clear hS; rintro _ wx ⟨ba, rfl, hS, _⟩; (simp only [Act.put, List.setIfInBounds_toArray, List.set_cons_zero, List.set_cons_succ])) | ((with_reducible show wpList _ _ _ (⟨_, Op.buildSlice _ _ _, _, _, _, _⟩ :: _) _ _); refine Does.list (does_buildSlice (X := ?_) (cs := ?_) (E := ?_) hS rfl ?_ ?_) rfl ?_; rotate_left 3; (go_simp; rfl); rfl; clear hS; rintro _ wx ⟨bx, rfl, hS, _⟩; (simp only [Act.put, List.setIfInBounds_toArray, List.set_cons_zero, List.set_cons_succ])))
    go_ret
    exact ⟨rfl, hS.mod0⟩

theorem fnShapeText_met (os : Os) (args : Array Value) : laidMetH Tryd.prog Rows.fnShapeTextRow.laid ((World.doorLaid Tryd.prog 400 os).forCall (fun _ _ => 0) ⟨#[], args, []⟩).memory :=
  laidMetH_of_parts3 (fuel := 8) (laidMet_of_run' 8 (by kernel_rfl) (by kernel_rfl)) (by kernel_rfl) (by kernel_rfl)
set_option maxRecDepth 100000 in
theorem fnShapeText_lifted (os : Os) (started : os.Started) (H : Type) (enc : TypeId × Value → H) :
    ReturnsInHanded {} Tryd.checked os 8 .any (fun w args => (Rows.fnShapeTextSpec.pre enc Tryd.prog Tryd.f8 [] false w args ∧ laidMetH Tryd.prog Rows.fnShapeTextRow.laid w) ∧ sizedMet enc Tryd.prog Tryd.f8 (OpenSpec.ofChange Rows.fnShapeTextSpec) false w args) (Rows.fnShapeTextSpec.post enc Tryd.prog Tryd.f8 false true false false) := by
  refine returnsInHanded_of_change_and (C := Tryd.checked) (X := fun w _ => laidMetH Tryd.prog Rows.fnShapeTextRow.laid w) (fun _ _ _ hh h => h.of_heap hh) (show ownKnob Tryd.prog.godebug = none by kernel_rfl) started (by kernel_rfl) Tryd.func8
    (ChangeSpec.witness_shaped (enc := enc) (C := Tryd.checked) (os := os) (X := fun w _ => laidMetH Tryd.prog Rows.fnShapeTextRow.laid w) false (World.doorLaid Tryd.prog 400 os) #[.slice none 0 0] 8 rfl (World.shaped_of_RefB (by kernel_rfl) (by kernel_rfl)) (by kernel_rfl) (by kernel_rfl) (by kernel_rfl) (fnShapeText_met os _)) ?_
  intro W base args ds gs before hval0 hW _ _ hL _
  have hval : ∀ (j : Nat) t v, Tryd.f8.params[j]? = some t → args[j]? = some v → Value.okWide Tryd.prog W .any base t v := hval0
  have hW' := hW
  obtain ⟨p, q, hA0, hV, rfl, hfz, hnd⟩ := hW
  have hA : DataW.TrodAll enc Tryd.prog W 0 (fun _ => true) true Tryd.f8.params.toList args.toList ds p := hA0
  rw [Tryd.params8] at hA hval
  obtain ⟨v0, vs0, d0, ds0, p0, q0, hargs, rfl, rfl, r0, s0⟩ := trodAll_cons hA
  obtain ⟨rfl, rfl, rfl⟩ := trodAll_nil s0
  obtain rfl : args = #[v0] := by cases args; simp_all
  have hL' : ResOk W := (tab_of_laid4 hL).2
  obtain ⟨F0, x0, hx0⟩ := read_slice Tryd.underlying22 ((reads_slice Tryd.underlying22 (by kernel_rfl) (reads_u8 Tryd.underlying5 (by kernel_rfl)))) (hval 0 22 v0 rfl rfl) r0
  refine (fnShapeText_calls W hL' v0 F0 x0 hx0).mono fun e W' ⟨he, hm⟩ => ?_
  subst he
  obtain ⟨g0, rfl⟩ := vars_one hV
  exact ⟨_, rfl, post_law (by kernel_rfl) (by kernel_rfl) (by kernel_rfl) rfl rfl Tryd.underlying4 hW' hm⟩

theorem fnShapeText_row : Rows.FnShapeTextSaid :=
  OpenClaim.holds_of_wide 8 Tryd.f8 rfl rfl rfl rfl rfl rfl rfl ⟨rfl, rfl, rfl, rfl, rfl⟩ rfl rfl rfl rfl rfl (by kernel_rfl) Tryd.func8 (show joinedFacts Tryd.prog 8 Tryd.f8 Rows.fnShapeTextSpec Rows.fnShapeTextRow = true from (by unfold joinedFacts; rw [gen_make, gen_lifts, gen_may]; kernel_rfl))
    (of_decide_eq_true (by kernel_rfl)) (by unfold Func.isWrapper; first | (rw [if_pos (by decide +kernel)]; kernel_rfl) | (rw [if_neg (by decide +kernel)]; exact ⟨rfl, rfl⟩))
    (fun os started H enc _ => fnShapeText_lifted os started H enc)

theorem fnShapeText_holds : Rows.FnShapeTextCardSaid :=
  Claim7.holds_tied_plain_at .later [] _ _ _ _
    fnShapeText_row (fun _ h => by cases h) (by kernel_rfl) (fun _ h => by cases h) fnShapeText_row_tie rfl ⟨rfl, rfl⟩ (by exact gen_main) rfl
    (fun f fn hf hfn => by
      obtain rfl : f = 8 := Option.some.inj ((show Tryd.prog.funcNamed "loop.example/obliviousqueries/laws.FnShapeText" = some 8 by kernel_rfl).symm.trans hf) |>.symm
      obtain rfl : fn = Tryd.f8 := (Option.some.inj (Tryd.func8.symm.trans hfn)).symm
      exact ⟨by kernel_rfl, fun j t ht => by
        rw [Tryd.params8] at ht
        have hm : t ∈ [22] := by simpa using Array.mem_of_getElem? ht
        have hall : ([22].all fun u => !Tryd.prog.wantsStandIn u) = true := by kernel_rfl
        exact (show Tryd.prog.wantsStandIn t = false by simpa using List.all_eq_true.1 hall t hm)⟩)
    (by kernel_rfl)

end Go.Proofs.YteafnieapifnnaaDoor
