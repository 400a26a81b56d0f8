/- DrawShapesOf: a catalog that can be read. -/
import Derived.Test.YtnbaekjednmfjaaDoorDrCg
import Derived.Test.YtnbaekjednmfjaaDoorShO
import Derived.Test.YtnbaekjednmfjaaDoorShp
namespace Go.Proofs.YtnbaekjednmfjaaDoor
open Go.RowKit

set_option maxHeartbeats 1000000 in
set_option maxRecDepth 8000 in
theorem spec_DrawShapesOf (w : World) (F : List Nat) (v : Value) (code : List UInt8) (hx : SliceHas Rep.u8 w F [v] code) :
    Calls Tryd.prog 5 #[v] w fun e w' => ∃ (v2 : Value) (l : List NamedD), e = .returned v2 ∧ (LSmall l ∧ l.length ≤ 5) ∧ (∃ F, SliceHas rNamed w' F [v2] l) ∧ Mod [] w w' := by
  obtain ⟨A, c, rfl, hl, _⟩ := hx.form'
  have hS : Sat w w [.ro Rep.u8.slice [.slice A code.length c] code] := (Sat.nil w).arg hx
  clear hx
  go_enter Tryd.func5, Tryd.ntmps5
  go_wp2_with (first | (go_at_call 14; refine (spec_l20Open hS (i := 0) rfl).mono ?_; clear hS; rintro e w' ⟨br, Ar, nr, cr, cd, rfl, hS⟩) | (go_at_call 13; obtain ⟨hrd, up⟩ := Sat.rdF hS br; refine (spec_l20Catalog _ br _ _ _ _ 9 (by decide) (by decide) hrd (by omega)).mono ?_; rintro e w' ⟨v2, l, rfl, hl2, hF, ⟨p3, hp3, hrd2⟩, hM⟩; replace hS := (up _ _ hrd2 hM).1; clear up hrd hrd2 hM; (simp only [List.set_cons_zero, List.set_cons_succ] at hS)) | ((with_reducible show wpList _ _ _ (⟨_, Op.box _ _, _, _, _, _⟩ :: _) _ _); refine Does.list (does_box hS rfl rfl (by rfl)) rfl ?_; clear hS; rintro _ wx ⟨bo, rfl, hS, _⟩; (simp only [Act.put, List.setIfInBounds_toArray, List.set_cons_zero, List.set_cons_succ])) | ((with_reducible show wpList _ _ _ (⟨_, Op.load _ _, _, _, _, _⟩ :: _) _ _); (first | refine Gives.list (f_load hS rfl rfl (by rfl)) rfl ?_ | refine Gives.list (f_loadS hS rfl rfl (by rfl)) rfl ?_ | refine Gives.list (f_loadAt hS rfl rfl) rfl ?_ | refine Gives.list (f_loadAtS hS rfl rfl (by rfl)) rfl ?_ | refine Gives.list (f_loadAtF hS rfl rfl (by rfl)) rfl ?_); (simp only [Act.put, List.setIfInBounds_toArray, List.set_cons_zero, List.set_cons_succ])) | ((with_reducible show wpList _ _ _ (⟨_, Op.store _ _ _, _, _, _, _⟩ :: _) _ _); (first | refine Does.list (f_store hS rfl rfl rfl (by rfl) (by rfl)) rfl ?_ | refine Does.list (f_storeS hS rfl rfl rfl (by rfl) (by rfl) (by rfl)) rfl ?_); clear hS; rintro _ wx ⟨rfl, hS⟩; (simp only [List.set_cons_zero, List.set_cons_succ] at hS); (simp only [Act.put, List.setIfInBounds_toArray, List.set_cons_zero, List.set_cons_succ])) | ((with_reducible show wpList _ _ _ (⟨_, Op.alloc _, _, _, _, _⟩ :: _) _ _); refine Does.list (does_alloc hS rfl (by rfl)) rfl ?_; clear hS; rintro _ wx ⟨ba, rfl, hS, _⟩; (simp only [Act.put, List.setIfInBounds_toArray, List.set_cons_zero, List.set_cons_succ])) | ((with_reducible show wpList _ _ _ (⟨_, Op.buildSlice _ _ _, _, _, _, _⟩ :: _) _ _); refine Does.list (does_buildSlice (X := ?_) (cs := ?_) (E := ?_) hS rfl ?_ ?_) rfl ?_; rotate_left 3; (go_simp; rfl); rfl; clear hS; rintro _ wx ⟨bx, rfl, hS, _⟩; (simp only [Act.put, List.setIfInBounds_toArray, List.set_cons_zero, List.set_cons_succ])))
  go_ret
  exact ⟨_, l, rfl, hl2, hF, hS.mod0⟩
theorem shapesOf_ok (l : List NamedD) : shapesOk (shapesOf l) = true := by
  cases h : catOk l
  · rw [shapesOf_f h]; rfl
  · rw [shapesOf_t h]
    unfold catOk at h
    simp only [Bool.and_eq_true, decide_eq_true_eq] at h
    obtain ⟨h1, h2, h3⟩ := h
    unfold shapesOk
    simp only [Bool.and_eq_true, decide_eq_true_eq]
    refine ⟨List.all_eq_true.2 fun x hx => ?_, ?_, by rw [List.length_map]; exact h3⟩
    · obtain ⟨n, hn, rfl⟩ := List.mem_map.1 hx
      have hok := List.all_eq_true.1 h1 n hn
      unfold nmOk tableOk at hok
      simp only [Bool.and_eq_true, decide_eq_true_eq] at hok
      obtain ⟨k1, k2, k3, k4⟩ := hok
      unfold shapeOk shapeOf
      simp only [Bool.and_eq_true, decide_eq_true_eq]
      refine ⟨k1, k2, ?_, eqB_t ?_⟩
      · unfold padSize; split <;> (try split) <;> (try split) <;> (try split) <;> (try split) <;> omega
      · skip
        have hb : (0 : Int) ≤ (n.2.2.length : Int) ∧ (n.2.2.length : Int) ≤ 16 := by omega
        generalize (n.2.2.length : Int) = z at hb
        have hp : padSize z = 1 ∨ padSize z = 2 ∨ padSize z = 4 ∨ padSize z = 8 ∨ padSize z = 16 := by
          unfold padSize
          rw [if_pos hb]
          split <;> (try split) <;> (try split) <;> (try split) <;> simp
        rcases hp with h | h | h | h | h <;> rw [h] <;> decide
    · have e : shNames (l.map shapeOf) = nmNames l := by
        unfold shNames nmNames
        rw [List.map_map]
        rfl
      rw [e]; exact h2
theorem padSize_le {n : Nat} (h : n ≤ 16) : (n : Int) ≤ padSize (n : Int) := by
  unfold padSize
  rw [if_pos (by omega)]
  split <;> (try split) <;> (try split) <;> (try split) <;> omega
theorem shapesOf_at {l : List NamedD} {k : Nat} {x : ShapeD} (h : (shapesOf l)[k]? = some x) : ∃ n, l[k]? = some n ∧ x = shapeOf n ∧ (n.2.2.length : Int) ≤ x.2.2 := by
  cases hc : catOk l
  · rw [shapesOf_f hc] at h; cases h
  · rw [shapesOf_t hc, List.getElem?_map] at h
    cases hn : l[k]? with
    | none => rw [hn] at h; cases h
    | some n =>
      rw [hn] at h
      simp only [Option.map_some, Option.some.injEq] at h
      subst h
      refine ⟨n, rfl, rfl, ?_⟩
      unfold catOk at hc
      simp only [Bool.and_eq_true] at hc
      have hok := List.all_eq_true.1 hc.1 n (List.mem_of_getElem? hn)
      unfold nmOk tableOk at hok
      simp only [Bool.and_eq_true, decide_eq_true_eq] at hok
      exact padSize_le hok.2.2.1
theorem shapesOf_len (l : List NamedD) : (shapesOf l).length = 0 ∨ (shapesOf l).length = l.length := by
  cases hc : catOk l
  · left; rw [shapesOf_f hc]; rfl
  · right; rw [shapesOf_t hc, List.length_map]
end Go.Proofs.YtnbaekjednmfjaaDoor
