/- TableValid: contracts. -/
import Derived.Test.YtldknaajnnohiaaDoorCol
import Derived.Test.YtldknaajnnohiaaDoorSatT
import Derived.Test.YtldknaajnnohiaaDoorFuncs
import Derived.Test.YtldknaajnnohiaaDoorFind
section
namespace Go.Proofs.YtldknaajnnohiaaDoor
open Go.RowKit

section
variable {α : Type} {p : α → Bool} {l : List α} {k : Nat}
theorem all_bad (h : k < l.length) (h1 : p l[k] = false) : l.all p = false := List.all_eq_false.2 ⟨l[k], List.getElem_mem h, by simp [h1]⟩
theorem all_succ (h : k < l.length) (h0 : (l.take k).all p = true) (h1 : p l[k] = true) : (l.take (k + 1)).all p = true := by
  rw [List.take_succ_eq_append_getElem h, List.all_append, h0]
  simp [h1]
theorem all_end (h : l.length ≤ k) (h0 : (l.take k).all p = true) : l.all p = true := by rwa [List.take_of_length_le h] at h0
end
def fitRow (n : Nat) (r : List Int) : Bool := decide (r.length = n) && !r.any notValue
def tableOk (t : TableD) : Bool := namesOk t.1 && (decide (t.2.length ≤ 16) && t.2.all (fitRow t.1.length))
theorem fitRow_len {n : Nat} {r : List Int} (h : r.length ≠ n) : fitRow n r = false := by unfold fitRow; rw [decide_eq_false h]; rfl
theorem fitRow_any {n : Nat} {r : List Int} (h : r.any notValue = true) : fitRow n r = false := by unfold fitRow; rw [h]; simp
theorem fitRow_ok {n : Nat} {r : List Int} (h1 : r.length = n) (h2 : r.any notValue = false) : fitRow n r = true := by unfold fitRow; rw [decide_eq_true h1, h2]; rfl
theorem tableOk_n {ns : List ByteArray} {rows : List (List Int)} (h : namesOk ns = false) : tableOk (ns, rows) = false := by unfold tableOk; rw [h]; rfl
theorem tableOk_l {ns : List ByteArray} {rows : List (List Int)} (h : ¬rows.length ≤ 16) : tableOk (ns, rows) = false := by unfold tableOk; rw [decide_eq_false h]; simp
theorem tableOk_t {ns : List ByteArray} {rows : List (List Int)} (h1 : namesOk ns = true) (h2 : rows.length ≤ 16) : tableOk (ns, rows) = rows.all (fitRow ns.length) := by unfold tableOk; rw [h1, decide_eq_true h2]; rfl
/-! ### The program's side -/
set_option maxHeartbeats 2000000 in
set_option maxRecDepth 8000 in
theorem impl_rowsFit (w : World) (A1 : Option Addr) (n c1 : Nat) (F : List Nat) (v : Value) (rows : List (List Int)) (hx : SliceHas Rep.int.slice w F [v] rows) :
    Calls Tryd.prog 77 #[.slice A1 n c1, v] w fun e w' => e = .returned (.bool (rows.all (fitRow n))) ∧ Mod [] w w' := by
  obtain ⟨A2, c2, rfl, hc, _⟩ := hx.form'
  have hS : Sat w w [.ro Rep.int.slice.slice [.slice A2 rows.length c2] rows] := (Sat.nil w).arg hx
  clear hx
  go_enter Tryd.func77, Tryd.ntmps77
  go_wp2_with fail
  go_loopw [9] (fun i wr => ∃ k : Nat, k ≤ rows.length ∧ i = .int .i64 k ∧ (rows.take k).all (fitRow n) = true ∧ Sat w wr [.ro Rep.int.slice.slice [.slice A2 rows.length c2] rows]) (fun i _ => rows.length - (intOf i).toNat)
  case atStart => exact ⟨0, Nat.zero_le _, rfl, by simp, hS⟩
  case round =>
    clear hS
    obtain ⟨k, hk, rfl, ha, hS⟩ := hrel
    have Ha := Lib.hid ha
    clear ha
    by_cases hlt : k < rows.length
    · obtain ⟨ad, A', c', rfl, j0, j1, hS⟩ := hS.elSlice Rep.int A2 rows.length c2 (get_some hlt)
      by_cases hl : rows[k].length = n
      · have hb : ((rows[k].length : Int) != (n : Int)) = false := by rw [hl]; simp
        cases hany : rows[k].any notValue
        · have H := Lib.hid (all_succ hlt Ha.out (fitRow_ok hl hany))
          clear hl
          obtain ⟨r, hr⟩ : ∃ r, rows[k] = r := ⟨_, rfl⟩
          rw [hr] at hS hb hany j0
          clear hr
          go_wp2_with (first | ((with_reducible show wpList _ _ _ (⟨_, Op.box _ _, _, _, _, _⟩ :: _) _ _); refine Does.list (does_box hS rfl rfl (by rfl)) rfl ?_; clear hS; rintro _ wx ⟨bo, rfl, hS, _⟩; (simp only [Act.put, List.setIfInBounds_toArray, List.set_cons_zero, List.set_cons_succ])) | ((with_reducible show wpList _ _ _ (⟨_, Op.load _ _, _, _, _, _⟩ :: _) _ _); (first | refine Gives.list (f_load hS rfl rfl (by rfl)) rfl ?_ | refine Gives.list (f_loadS hS rfl rfl (by rfl)) rfl ?_ | refine Gives.list (f_loadAt hS rfl rfl) rfl ?_ | refine Gives.list (f_loadAtS hS rfl rfl (by rfl)) rfl ?_ | refine Gives.list (f_loadAtF hS rfl rfl (by rfl)) rfl ?_); (simp only [Act.put, List.setIfInBounds_toArray, List.set_cons_zero, List.set_cons_succ])) | ((with_reducible show wpList _ _ _ (⟨_, Op.store _ _ _, _, _, _, _⟩ :: _) _ _); (first | refine Does.list (f_store hS rfl rfl rfl (by rfl) (by rfl)) rfl ?_ | refine Does.list (f_storeS hS rfl rfl rfl (by rfl) (by rfl) (by rfl)) rfl ?_); clear hS; rintro _ wx ⟨rfl, hS⟩; (simp only [List.set_cons_zero, List.set_cons_succ] at hS); (simp only [Act.put, List.setIfInBounds_toArray, List.set_cons_zero, List.set_cons_succ])) | ((with_reducible show wpList _ _ _ (⟨_, Op.alloc _, _, _, _, _⟩ :: _) _ _); refine Does.list (does_alloc hS rfl (by rfl)) rfl ?_; clear hS; rintro _ wx ⟨ba, rfl, hS, _⟩; (simp only [Act.put, List.setIfInBounds_toArray, List.set_cons_zero, List.set_cons_succ])) | ((with_reducible show wpList _ _ _ (⟨_, Op.buildSlice _ _ _, _, _, _, _⟩ :: _) _ _); refine Does.list (does_buildSlice (X := ?_) (cs := ?_) (E := ?_) hS rfl ?_ ?_) rfl ?_; rotate_left 3; (go_simp; rfl); rfl; clear hS; rintro _ wx ⟨bx, rfl, hS, _⟩; (simp only [Act.put, List.setIfInBounds_toArray, List.set_cons_zero, List.set_cons_succ])) | (go_at_call 78; obtain ⟨Fq, hFq⟩ := hS.has Rep.int.slice [.slice A' r.length c']; refine (cf_rowsFit_1 _ Fq _ _ hFq).mono ?_; rintro e w' ⟨rfl, hM⟩; replace hS := hS.mod hM; clear hM hFq))
          go_roundw
          case rel => exact ⟨k + 1, hlt, by go_num, H.out, hS.sel [2] rfl (by decide)⟩
          case measure => simp [intOf]; omega
        · have H := Lib.hid (all_bad hlt (fitRow_any (n := n) hany))
          clear hl
          obtain ⟨r, hr⟩ : ∃ r, rows[k] = r := ⟨_, rfl⟩
          rw [hr] at hS hb hany j0
          clear hr
          go_wp2_with (first | ((with_reducible show wpList _ _ _ (⟨_, Op.box _ _, _, _, _, _⟩ :: _) _ _); refine Does.list (does_box hS rfl rfl (by rfl)) rfl ?_; clear hS; rintro _ wx ⟨bo, rfl, hS, _⟩; (simp only [Act.put, List.setIfInBounds_toArray, List.set_cons_zero, List.set_cons_succ])) | ((with_reducible show wpList _ _ _ (⟨_, Op.load _ _, _, _, _, _⟩ :: _) _ _); (first | refine Gives.list (f_load hS rfl rfl (by rfl)) rfl ?_ | refine Gives.list (f_loadS hS rfl rfl (by rfl)) rfl ?_ | refine Gives.list (f_loadAt hS rfl rfl) rfl ?_ | refine Gives.list (f_loadAtS hS rfl rfl (by rfl)) rfl ?_ | refine Gives.list (f_loadAtF hS rfl rfl (by rfl)) rfl ?_); (simp only [Act.put, List.setIfInBounds_toArray, List.set_cons_zero, List.set_cons_succ])) | ((with_reducible show wpList _ _ _ (⟨_, Op.store _ _ _, _, _, _, _⟩ :: _) _ _); (first | refine Does.list (f_store hS rfl rfl rfl (by rfl) (by rfl)) rfl ?_ | refine Does.list (f_storeS hS rfl rfl rfl (by rfl) (by rfl) (by rfl)) rfl ?_); clear hS; rintro _ wx ⟨rfl, hS⟩; (simp only [List.set_cons_zero, List.set_cons_succ] at hS); (simp only [Act.put, List.setIfInBounds_toArray, List.set_cons_zero, List.set_cons_succ])) | ((with_reducible show wpList _ _ _ (⟨_, Op.alloc _, _, _, _, _⟩ :: _) _ _); refine Does.list (does_alloc hS rfl (by rfl)) rfl ?_; clear hS; rintro _ wx ⟨ba, rfl, hS, _⟩; (simp only [Act.put, List.setIfInBounds_toArray, List.set_cons_zero, List.set_cons_succ])) | ((with_reducible show wpList _ _ _ (⟨_, Op.buildSlice _ _ _, _, _, _, _⟩ :: _) _ _); refine Does.list (does_buildSlice (X := ?_) (cs := ?_) (E := ?_) hS rfl ?_ ?_) rfl ?_; rotate_left 3; (go_simp; rfl); rfl; clear hS; rintro _ wx ⟨bx, rfl, hS, _⟩; (simp only [Act.put, List.setIfInBounds_toArray, List.set_cons_zero, List.set_cons_succ])) | (go_at_call 78; obtain ⟨Fq, hFq⟩ := hS.has Rep.int.slice [.slice A' r.length c']; refine (cf_rowsFit_1 _ Fq _ _ hFq).mono ?_; rintro e w' ⟨rfl, hM⟩; replace hS := hS.mod hM; clear hM hFq))
          go_ret
          exact ⟨ret_false H.out, hS.mod0⟩
      · have hb : ((rows[k].length : Int) != (n : Int)) = true := by simp; omega
        have H := Lib.hid (all_bad hlt (fitRow_len (n := n) hl))
        clear hl
        obtain ⟨r, hr⟩ : ∃ r, rows[k] = r := ⟨_, rfl⟩
        rw [hr] at hS hb j0
        clear hr
        go_wp2_with (first | ((with_reducible show wpList _ _ _ (⟨_, Op.box _ _, _, _, _, _⟩ :: _) _ _); refine Does.list (does_box hS rfl rfl (by rfl)) rfl ?_; clear hS; rintro _ wx ⟨bo, rfl, hS, _⟩; (simp only [Act.put, List.setIfInBounds_toArray, List.set_cons_zero, List.set_cons_succ])) | ((with_reducible show wpList _ _ _ (⟨_, Op.load _ _, _, _, _, _⟩ :: _) _ _); (first | refine Gives.list (f_load hS rfl rfl (by rfl)) rfl ?_ | refine Gives.list (f_loadS hS rfl rfl (by rfl)) rfl ?_ | refine Gives.list (f_loadAt hS rfl rfl) rfl ?_ | refine Gives.list (f_loadAtS hS rfl rfl (by rfl)) rfl ?_ | refine Gives.list (f_loadAtF hS rfl rfl (by rfl)) rfl ?_); (simp only [Act.put, List.setIfInBounds_toArray, List.set_cons_zero, List.set_cons_succ])) | ((with_reducible show wpList _ _ _ (⟨_, Op.store _ _ _, _, _, _, _⟩ :: _) _ _); (first | refine Does.list (f_store hS rfl rfl rfl (by rfl) (by rfl)) rfl ?_ | refine Does.list (f_storeS hS rfl rfl rfl (by rfl) (by rfl) (by rfl)) rfl ?_); clear hS; rintro _ wx ⟨rfl, hS⟩; (simp only [List.set_cons_zero, List.set_cons_succ] at hS); (simp only [Act.put, List.setIfInBounds_toArray, List.set_cons_zero, List.set_cons_succ])) | ((with_reducible show wpList _ _ _ (⟨_, Op.alloc _, _, _, _, _⟩ :: _) _ _); refine Does.list (does_alloc hS rfl (by rfl)) rfl ?_; clear hS; rintro _ wx ⟨ba, rfl, hS, _⟩; (simp only [Act.put, List.setIfInBounds_toArray, List.set_cons_zero, List.set_cons_succ])) | ((with_reducible show wpList _ _ _ (⟨_, Op.buildSlice _ _ _, _, _, _, _⟩ :: _) _ _); refine Does.list (does_buildSlice (X := ?_) (cs := ?_) (E := ?_) hS rfl ?_ ?_) rfl ?_; rotate_left 3; (go_simp; rfl); rfl; clear hS; rintro _ wx ⟨bx, rfl, hS, _⟩; (simp only [Act.put, List.setIfInBounds_toArray, List.set_cons_zero, List.set_cons_succ])))
        go_ret
        exact ⟨ret_false H.out, hS.mod0⟩
    · have H := Lib.hid (all_end (by omega) Ha.out)
      go_wp2_with (first | ((with_reducible show wpList _ _ _ (⟨_, Op.box _ _, _, _, _, _⟩ :: _) _ _); refine Does.list (does_box hS rfl rfl (by rfl)) rfl ?_; clear hS; rintro _ wx ⟨bo, rfl, hS, _⟩; (simp only [Act.put, List.setIfInBounds_toArray, List.set_cons_zero, List.set_cons_succ])) | ((with_reducible show wpList _ _ _ (⟨_, Op.load _ _, _, _, _, _⟩ :: _) _ _); (first | refine Gives.list (f_load hS rfl rfl (by rfl)) rfl ?_ | refine Gives.list (f_loadS hS rfl rfl (by rfl)) rfl ?_ | refine Gives.list (f_loadAt hS rfl rfl) rfl ?_ | refine Gives.list (f_loadAtS hS rfl rfl (by rfl)) rfl ?_ | refine Gives.list (f_loadAtF hS rfl rfl (by rfl)) rfl ?_); (simp only [Act.put, List.setIfInBounds_toArray, List.set_cons_zero, List.set_cons_succ])) | ((with_reducible show wpList _ _ _ (⟨_, Op.store _ _ _, _, _, _, _⟩ :: _) _ _); (first | refine Does.list (f_store hS rfl rfl rfl (by rfl) (by rfl)) rfl ?_ | refine Does.list (f_storeS hS rfl rfl rfl (by rfl) (by rfl) (by rfl)) rfl ?_); clear hS; rintro _ wx ⟨rfl, hS⟩; (simp only [List.set_cons_zero, List.set_cons_succ] at hS); (simp only [Act.put, List.setIfInBounds_toArray, List.set_cons_zero, List.set_cons_succ])) | ((with_reducible show wpList _ _ _ (⟨_, Op.alloc _, _, _, _, _⟩ :: _) _ _); refine Does.list (does_alloc hS rfl (by rfl)) rfl ?_; clear hS; rintro _ wx ⟨ba, rfl, hS, _⟩; (simp only [Act.put, List.setIfInBounds_toArray, List.set_cons_zero, List.set_cons_succ])) | ((with_reducible show wpList _ _ _ (⟨_, Op.buildSlice _ _ _, _, _, _, _⟩ :: _) _ _); refine Does.list (does_buildSlice (X := ?_) (cs := ?_) (E := ?_) hS rfl ?_ ?_) rfl ?_; rotate_left 3; (go_simp; rfl); rfl; clear hS; rintro _ wx ⟨bx, rfl, hS, _⟩; (simp only [Act.put, List.setIfInBounds_toArray, List.set_cons_zero, List.set_cons_succ])))
      go_ret
      exact ⟨ret_true H.out, hS.mod0⟩
set_option maxHeartbeats 2000000 in
set_option maxRecDepth 8000 in
theorem impl_TableValid' (w : World) (hR : ResOk w) (A1 A2 : Option Addr) (c1 c2 : Nat) (F G : List Nat) (ns : List ByteArray) (rows : List (List Int)) (hx : SliceHas Rep.str w F [.slice A1 ns.length c1] ns) (hy : SliceHas Rep.int.slice w G [.slice A2 rows.length c2] rows) :
    Calls Tryd.prog 94 #[.agg #[.slice A1 ns.length c1, .slice A2 rows.length c2]] w fun e w' => e = .returned (.bool (tableOk (ns, rows))) ∧ Mod [] w w' := by
  have hS : Sat w w [.ro Rep.str.slice [.slice A1 ns.length c1] ns, .ro Rep.int.slice.slice [.slice A2 rows.length c2] rows] := ((Sat.nil w).arg hy).arg hx
  clear hx hy
  cases h1 : namesOk ns
  · have H := Lib.hid (tableOk_n (rows := rows) h1)
    go_enter Tryd.func94, Tryd.ntmps94
    go_wp2_with (first | ((with_reducible show wpList _ _ _ (⟨_, Op.box _ _, _, _, _, _⟩ :: _) _ _); refine Does.list (does_box hS rfl rfl (by rfl)) rfl ?_; clear hS; rintro _ wx ⟨bo, rfl, hS, _⟩; (simp only [Act.put, List.setIfInBounds_toArray, List.set_cons_zero, List.set_cons_succ])) | ((with_reducible show wpList _ _ _ (⟨_, Op.load _ _, _, _, _, _⟩ :: _) _ _); (first | refine Gives.list (f_load hS rfl rfl (by rfl)) rfl ?_ | refine Gives.list (f_loadS hS rfl rfl (by rfl)) rfl ?_ | refine Gives.list (f_loadAt hS rfl rfl) rfl ?_ | refine Gives.list (f_loadAtS hS rfl rfl (by rfl)) rfl ?_ | refine Gives.list (f_loadAtF hS rfl rfl (by rfl)) rfl ?_); (simp only [Act.put, List.setIfInBounds_toArray, List.set_cons_zero, List.set_cons_succ])) | ((with_reducible show wpList _ _ _ (⟨_, Op.store _ _ _, _, _, _, _⟩ :: _) _ _); (first | refine Does.list (f_store hS rfl rfl rfl (by rfl) (by rfl)) rfl ?_ | refine Does.list (f_storeS hS rfl rfl rfl (by rfl) (by rfl) (by rfl)) rfl ?_); clear hS; rintro _ wx ⟨rfl, hS⟩; (simp only [List.set_cons_zero, List.set_cons_succ] at hS); (simp only [Act.put, List.setIfInBounds_toArray, List.set_cons_zero, List.set_cons_succ])) | ((with_reducible show wpList _ _ _ (⟨_, Op.alloc _, _, _, _, _⟩ :: _) _ _); refine Does.list (does_alloc hS rfl (by rfl)) rfl ?_; clear hS; rintro _ wx ⟨ba, rfl, hS, _⟩; (simp only [Act.put, List.setIfInBounds_toArray, List.set_cons_zero, List.set_cons_succ])) | ((with_reducible show wpList _ _ _ (⟨_, Op.buildSlice _ _ _, _, _, _, _⟩ :: _) _ _); refine Does.list (does_buildSlice (X := ?_) (cs := ?_) (E := ?_) hS rfl ?_ ?_) rfl ?_; rotate_left 3; (go_simp; rfl); rfl; clear hS; rintro _ wx ⟨bx, rfl, hS, _⟩; (simp only [Act.put, List.setIfInBounds_toArray, List.set_cons_zero, List.set_cons_succ])) | (go_at_call 68; obtain ⟨Fq, hFq⟩ := hS.has Rep.str.slice [.slice A1 ns.length c1]; refine (impl_columnsValid _ (hR.mod0 hS.mod0) Fq _ _ hFq).mono ?_; rintro e w' ⟨rfl, hM⟩; replace hS := hS.mod hM; clear hM hFq))
    go_ret
    exact ⟨ret_false H.out, hS.mod0⟩
  by_cases h2 : rows.length ≤ 16
  · have H := Lib.hid (tableOk_t h1 h2)
    have h3 : decide ((rows.length : Int) ≤ 16) = true := by simp; omega
    clear h2
    go_enter Tryd.func94, Tryd.ntmps94
    go_wp2_with (first | ((with_reducible show wpList _ _ _ (⟨_, Op.box _ _, _, _, _, _⟩ :: _) _ _); refine Does.list (does_box hS rfl rfl (by rfl)) rfl ?_; clear hS; rintro _ wx ⟨bo, rfl, hS, _⟩; (simp only [Act.put, List.setIfInBounds_toArray, List.set_cons_zero, List.set_cons_succ])) | ((with_reducible show wpList _ _ _ (⟨_, Op.load _ _, _, _, _, _⟩ :: _) _ _); (first | refine Gives.list (f_load hS rfl rfl (by rfl)) rfl ?_ | refine Gives.list (f_loadS hS rfl rfl (by rfl)) rfl ?_ | refine Gives.list (f_loadAt hS rfl rfl) rfl ?_ | refine Gives.list (f_loadAtS hS rfl rfl (by rfl)) rfl ?_ | refine Gives.list (f_loadAtF hS rfl rfl (by rfl)) rfl ?_); (simp only [Act.put, List.setIfInBounds_toArray, List.set_cons_zero, List.set_cons_succ])) | ((with_reducible show wpList _ _ _ (⟨_, Op.store _ _ _, _, _, _, _⟩ :: _) _ _); (first | refine Does.list (f_store hS rfl rfl rfl (by rfl) (by rfl)) rfl ?_ | refine Does.list (f_storeS hS rfl rfl rfl (by rfl) (by rfl) (by rfl)) rfl ?_); clear hS; rintro _ wx ⟨rfl, hS⟩; (simp only [List.set_cons_zero, List.set_cons_succ] at hS); (simp only [Act.put, List.setIfInBounds_toArray, List.set_cons_zero, List.set_cons_succ])) | ((with_reducible show wpList _ _ _ (⟨_, Op.alloc _, _, _, _, _⟩ :: _) _ _); refine Does.list (does_alloc hS rfl (by rfl)) rfl ?_; clear hS; rintro _ wx ⟨ba, rfl, hS, _⟩; (simp only [Act.put, List.setIfInBounds_toArray, List.set_cons_zero, List.set_cons_succ])) | ((with_reducible show wpList _ _ _ (⟨_, Op.buildSlice _ _ _, _, _, _, _⟩ :: _) _ _); refine Does.list (does_buildSlice (X := ?_) (cs := ?_) (E := ?_) hS rfl ?_ ?_) rfl ?_; rotate_left 3; (go_simp; rfl); rfl; clear hS; rintro _ wx ⟨bx, rfl, hS, _⟩; (simp only [Act.put, List.setIfInBounds_toArray, List.set_cons_zero, List.set_cons_succ])) | (go_at_call 68; obtain ⟨Fq, hFq⟩ := hS.has Rep.str.slice [.slice A1 ns.length c1]; refine (impl_columnsValid _ (hR.mod0 hS.mod0) Fq _ _ hFq).mono ?_; rintro e w' ⟨rfl, hM⟩; replace hS := hS.mod hM; clear hM hFq) | (go_at_call 77; obtain ⟨Fq, hFq⟩ := hS.has Rep.int.slice.slice [.slice A2 rows.length c2]; refine (impl_rowsFit _ A1 ns.length c1 Fq _ _ hFq).mono ?_; rintro e w' ⟨rfl, hM⟩; replace hS := hS.mod hM; clear hM hFq))
    go_ret
    exact ⟨ret_bool H.out.symm, hS.mod0⟩
  · have H := Lib.hid (tableOk_l (ns := ns) h2)
    have h3 : decide ((rows.length : Int) ≤ 16) = false := by simp; omega
    clear h2
    go_enter Tryd.func94, Tryd.ntmps94
    go_wp2_with (first | ((with_reducible show wpList _ _ _ (⟨_, Op.box _ _, _, _, _, _⟩ :: _) _ _); refine Does.list (does_box hS rfl rfl (by rfl)) rfl ?_; clear hS; rintro _ wx ⟨bo, rfl, hS, _⟩; (simp only [Act.put, List.setIfInBounds_toArray, List.set_cons_zero, List.set_cons_succ])) | ((with_reducible show wpList _ _ _ (⟨_, Op.load _ _, _, _, _, _⟩ :: _) _ _); (first | refine Gives.list (f_load hS rfl rfl (by rfl)) rfl ?_ | refine Gives.list (f_loadS hS rfl rfl (by rfl)) rfl ?_ | refine Gives.list (f_loadAt hS rfl rfl) rfl ?_ | refine Gives.list (f_loadAtS hS rfl rfl (by rfl)) rfl ?_ | refine Gives.list (f_loadAtF hS rfl rfl (by rfl)) rfl ?_); (simp only [Act.put, List.setIfInBounds_toArray, List.set_cons_zero, List.set_cons_succ])) | ((with_reducible show wpList _ _ _ (⟨_, Op.store _ _ _, _, _, _, _⟩ :: _) _ _); (first | refine Does.list (f_store hS rfl rfl rfl (by rfl) (by rfl)) rfl ?_ | refine Does.list (f_storeS hS rfl rfl rfl (by rfl) (by rfl) (by rfl)) rfl ?_); clear hS; rintro _ wx ⟨rfl, hS⟩; (simp only [List.set_cons_zero, List.set_cons_succ] at hS); (simp only [Act.put, List.setIfInBounds_toArray, List.set_cons_zero, List.set_cons_succ])) | ((with_reducible show wpList _ _ _ (⟨_, Op.alloc _, _, _, _, _⟩ :: _) _ _); refine Does.list (does_alloc hS rfl (by rfl)) rfl ?_; clear hS; rintro _ wx ⟨ba, rfl, hS, _⟩; (simp only [Act.put, List.setIfInBounds_toArray, List.set_cons_zero, List.set_cons_succ])) | ((with_reducible show wpList _ _ _ (⟨_, Op.buildSlice _ _ _, _, _, _, _⟩ :: _) _ _); refine Does.list (does_buildSlice (X := ?_) (cs := ?_) (E := ?_) hS rfl ?_ ?_) rfl ?_; rotate_left 3; (go_simp; rfl); rfl; clear hS; rintro _ wx ⟨bx, rfl, hS, _⟩; (simp only [Act.put, List.setIfInBounds_toArray, List.set_cons_zero, List.set_cons_succ])) | (go_at_call 68; obtain ⟨Fq, hFq⟩ := hS.has Rep.str.slice [.slice A1 ns.length c1]; refine (impl_columnsValid _ (hR.mod0 hS.mod0) Fq _ _ hFq).mono ?_; rintro e w' ⟨rfl, hM⟩; replace hS := hS.mod hM; clear hM hFq) | (go_at_call 77; obtain ⟨Fq, hFq⟩ := hS.has Rep.int.slice.slice [.slice A2 rows.length c2]; refine (impl_rowsFit _ A1 ns.length c1 Fq _ _ hFq).mono ?_; rintro e w' ⟨rfl, hM⟩; replace hS := hS.mod hM; clear hM hFq))
    go_ret
    exact ⟨ret_false H.out, hS.mod0⟩

/-! ### The reference's side -/















































































end Go.Proofs.YtldknaajnnohiaaDoor
end

section
namespace Go.Proofs.YtldknaajnnohiaaDoor
open Go.RowKit

def nmOk (x : NamedD) : Bool := nameOk x.1 && tableOk x.2
def nmNames (l : List NamedD) : List ByteArray := l.map (fun s => s.1)
def catOk (l : List NamedD) : Bool := l.all nmOk && (decide (nmNames l).Nodup && decide (l.length ≤ 4))
section
variable {l : List NamedD} {k : Nat}
end

/-! ### The program's side -/






































































end Go.Proofs.YtldknaajnnohiaaDoor
end

section
namespace Go.Proofs.YtldknaajnnohiaaDoor
open Go.RowKit































































































































































end Go.Proofs.YtldknaajnnohiaaDoor
end

section
namespace Go.Proofs.YtldknaajnnohiaaDoor
open Go.RowKit

def TSmall (t : TableD) : Prop := t.1.length ≤ 1048576 ∧ t.2.length ≤ 1048576 ∧ ∀ r ∈ t.2, r.length ≤ 1048576
def LSmall (l : List NamedD) : Prop := l.length ≤ 1048576 ∧ ∀ x ∈ l, TSmall x.2
set_option maxHeartbeats 2000000 in
set_option maxRecDepth 8000 in
theorem spec_l1OwnRowsInt (w : World) (F : List Nat) (v : Value) (rows : List (List Int)) (hx : SliceHas Rep.int.slice w F [v] rows) (hb1 : rows.length ≤ 1048576) (hb2 : ∀ r ∈ rows, r.length ≤ 1048576) :
    Calls Tryd.prog 159 #[v] w fun e w' => ∃ v', e = .returned v' ∧ Fresh Rep.int.rows.rows w w' [v'] rows := by
  obtain ⟨A, c, rfl, hn, _⟩ := hx.form'
  have hS : Sat w w [.ro Rep.int.slice.slice [.slice A rows.length c] rows] := (Sat.nil w).arg hx
  clear hx
  have Hb := Lib.hid hb2
  clear hb2
  go_enter Tryd.func159, Tryd.ntmps159
  go_wp2_with (first | ((with_reducible show wpList _ _ _ (⟨_, Op.box _ _, _, _, _, _⟩ :: _) _ _); refine Does.list (does_box hS rfl rfl (by rfl)) rfl ?_; clear hS; rintro _ wx ⟨bo, rfl, hS, _⟩; (simp only [Act.put, List.setIfInBounds_toArray, List.set_cons_zero, List.set_cons_succ])) | ((with_reducible show wpList _ _ _ (⟨_, Op.load _ _, _, _, _, _⟩ :: _) _ _); (first | refine Gives.list (f_load hS rfl rfl (by rfl)) rfl ?_ | refine Gives.list (f_loadS hS rfl rfl (by rfl)) rfl ?_ | refine Gives.list (f_loadAt hS rfl rfl) rfl ?_ | refine Gives.list (f_loadAtS hS rfl rfl (by rfl)) rfl ?_ | refine Gives.list (f_loadAtF hS rfl rfl (by rfl)) rfl ?_); (simp only [Act.put, List.setIfInBounds_toArray, List.set_cons_zero, List.set_cons_succ])) | ((with_reducible show wpList _ _ _ (⟨_, Op.store _ _ _, _, _, _, _⟩ :: _) _ _); (first | refine Does.list (f_store hS rfl rfl rfl (by rfl) (by rfl)) rfl ?_ | refine Does.list (f_storeS hS rfl rfl rfl (by rfl) (by rfl) (by rfl)) rfl ?_); clear hS; rintro _ wx ⟨rfl, hS⟩; (simp only [List.set_cons_zero, List.set_cons_succ] at hS); (simp only [Act.put, List.setIfInBounds_toArray, List.set_cons_zero, List.set_cons_succ])) | ((with_reducible show wpList _ _ _ (⟨_, Op.alloc _, _, _, _, _⟩ :: _) _ _); refine Does.list (does_alloc hS rfl (by rfl)) rfl ?_; clear hS; rintro _ wx ⟨ba, rfl, hS, _⟩; (simp only [Act.put, List.setIfInBounds_toArray, List.set_cons_zero, List.set_cons_succ])) | ((with_reducible show wpList _ _ _ (⟨_, Op.buildSlice _ _ _, _, _, _, _⟩ :: _) _ _); refine Does.list (does_buildSlice (X := ?_) (cs := ?_) (E := ?_) hS rfl ?_ ?_) rfl ?_; rotate_left 3; (go_simp; rfl); rfl; clear hS; rintro _ wx ⟨bx, rfl, hS, _⟩; (simp only [Act.put, List.setIfInBounds_toArray, List.set_cons_zero, List.set_cons_succ])))
  replace hS := (Sat.vec0 Rep.int.rows hS).lit (Nat.zero_le _)
  go_loopw [4, 3] (fun i s wr => ∃ (k : Nat) (B : Option Addr) (d : Nat), i = .int .i64 k ∧ s = .slice B k d ∧ k ≤ rows.length ∧ Sat w wr [.own Rep.int.rows.rows [.slice B k d] (rows.take k), .ro Rep.int.slice.slice [.slice A rows.length c] rows]) (fun i _ _ => rows.length - (intOf i).toNat)
  case atStart => exact ⟨0, _, _, rfl, rfl, Nat.zero_le _, hS⟩
  case round =>
    clear hS
    obtain ⟨k, B, d, rfl, rfl, hk, hS⟩ := hrel
    by_cases hlt : k < rows.length
    · have hltI : (k : Int) < (rows.length : Int) := by omega
      obtain ⟨ad, A', c', rfl, j0, j1, hS⟩ := hS.elSlice Rep.int A rows.length c (get_some hlt)
      have H : Hid (rows.take k ++ [rows[k]] = rows.take (k + 1)) := Lib.hid (List.take_succ_eq_append_getElem hlt).symm
      have hrb := Hb.out _ (List.getElem_mem hlt)
      obtain ⟨r, hr⟩ : ∃ r, rows[k] = r := ⟨_, rfl⟩
      rw [hr] at hS H hrb j0
      clear hr
      go_wp2_with (first | ((with_reducible show wpList _ _ _ (⟨_, Op.box _ _, _, _, _, _⟩ :: _) _ _); refine Does.list (does_box hS rfl rfl (by rfl)) rfl ?_; clear hS; rintro _ wx ⟨bo, rfl, hS, _⟩; (simp only [Act.put, List.setIfInBounds_toArray, List.set_cons_zero, List.set_cons_succ])) | ((with_reducible show wpList _ _ _ (⟨_, Op.load _ _, _, _, _, _⟩ :: _) _ _); (first | refine Gives.list (f_load hS rfl rfl (by rfl)) rfl ?_ | refine Gives.list (f_loadS hS rfl rfl (by rfl)) rfl ?_ | refine Gives.list (f_loadAt hS rfl rfl) rfl ?_ | refine Gives.list (f_loadAtS hS rfl rfl (by rfl)) rfl ?_ | refine Gives.list (f_loadAtF hS rfl rfl (by rfl)) rfl ?_); (simp only [Act.put, List.setIfInBounds_toArray, List.set_cons_zero, List.set_cons_succ])) | ((with_reducible show wpList _ _ _ (⟨_, Op.store _ _ _, _, _, _, _⟩ :: _) _ _); (first | refine Does.list (f_store hS rfl rfl rfl (by rfl) (by rfl)) rfl ?_ | refine Does.list (f_storeS hS rfl rfl rfl (by rfl) (by rfl) (by rfl)) rfl ?_); clear hS; rintro _ wx ⟨rfl, hS⟩; (simp only [List.set_cons_zero, List.set_cons_succ] at hS); (simp only [Act.put, List.setIfInBounds_toArray, List.set_cons_zero, List.set_cons_succ])) | ((with_reducible show wpList _ _ _ (⟨_, Op.alloc _, _, _, _, _⟩ :: _) _ _); refine Does.list (does_alloc hS rfl (by rfl)) rfl ?_; clear hS; rintro _ wx ⟨ba, rfl, hS, _⟩; (simp only [Act.put, List.setIfInBounds_toArray, List.set_cons_zero, List.set_cons_succ])) | ((with_reducible show wpList _ _ _ (⟨_, Op.buildSlice _ _ _, _, _, _, _⟩ :: _) _ _); refine Does.list (does_buildSlice (X := ?_) (cs := ?_) (E := ?_) hS rfl ?_ ?_) rfl ?_; rotate_left 3; (go_simp; rfl); rfl; clear hS; rintro _ wx ⟨bx, rfl, hS, _⟩; (simp only [Act.put, List.setIfInBounds_toArray, List.set_cons_zero, List.set_cons_succ])) | ((with_reducible show wpList _ _ _ (⟨_, Op.call { callee := Callee.builtin Builtin.append, args := _, argTypes := _ }, _, _, _, _⟩ :: _) _ _); replace hS := (Sat.vec0 Rep.int hS).lit (Nat.zero_le _); refine Does.list (f_appendFlat Rep.int Rep.int hS rfl rfl rfl rfl rfl rfl (by decide) (by omega)) rfl ?_; clear hS; rintro _ wx ⟨A2, c2, rfl, hS⟩; (simp only [List.set_cons_zero, List.set_cons_succ] at hS); (simp only [Act.put, List.setIfInBounds_toArray, List.set_cons_zero, List.set_cons_succ]); (simp only [Nat.zero_add, List.nil_append] at hS ⊢)) | ((with_reducible show wpList _ _ _ (⟨_, Op.call { callee := Callee.builtin Builtin.append, args := _, argTypes := _ }, _, _, _, _⟩ :: _) _ _); replace hS := Sat.vec1 (show Sat w _ [.own Rep.int.rows [.slice A2 r.length c2] r, .box bx [.slice A2 r.length c2], .own Rep.int.rows.rows [.slice B k d] (rows.take k), .ro Rep.int.slice.slice [.slice (some ad) rows.length c] rows] from hS.sel [1, 0, 4, 5] rfl (by decide)); refine Does.list (f_append Rep.int.rows hS rfl rfl rfl rfl rfl (by decide) (by omega)) rfl ?_; clear hS; rintro _ wx ⟨A2, c2, rfl, hS⟩; (simp only [List.set_cons_zero, List.set_cons_succ] at hS); (simp only [Act.put, List.setIfInBounds_toArray, List.set_cons_zero, List.set_cons_succ])))
      go_roundw
      case rel => exact ⟨k + 1, A2, c2, by go_num, rfl, hlt, by rw [← H.out]; exact hS.sel [0, 1] rfl (by decide)⟩
      case measure => simp [intOf]; omega
    · obtain rfl : k = rows.length := by omega
      rw [List.take_length] at hS
      go_wp2_with (first | ((with_reducible show wpList _ _ _ (⟨_, Op.box _ _, _, _, _, _⟩ :: _) _ _); refine Does.list (does_box hS rfl rfl (by rfl)) rfl ?_; clear hS; rintro _ wx ⟨bo, rfl, hS, _⟩; (simp only [Act.put, List.setIfInBounds_toArray, List.set_cons_zero, List.set_cons_succ])) | ((with_reducible show wpList _ _ _ (⟨_, Op.load _ _, _, _, _, _⟩ :: _) _ _); (first | refine Gives.list (f_load hS rfl rfl (by rfl)) rfl ?_ | refine Gives.list (f_loadS hS rfl rfl (by rfl)) rfl ?_ | refine Gives.list (f_loadAt hS rfl rfl) rfl ?_ | refine Gives.list (f_loadAtS hS rfl rfl (by rfl)) rfl ?_ | refine Gives.list (f_loadAtF hS rfl rfl (by rfl)) rfl ?_); (simp only [Act.put, List.setIfInBounds_toArray, List.set_cons_zero, List.set_cons_succ])) | ((with_reducible show wpList _ _ _ (⟨_, Op.store _ _ _, _, _, _, _⟩ :: _) _ _); (first | refine Does.list (f_store hS rfl rfl rfl (by rfl) (by rfl)) rfl ?_ | refine Does.list (f_storeS hS rfl rfl rfl (by rfl) (by rfl) (by rfl)) rfl ?_); clear hS; rintro _ wx ⟨rfl, hS⟩; (simp only [List.set_cons_zero, List.set_cons_succ] at hS); (simp only [Act.put, List.setIfInBounds_toArray, List.set_cons_zero, List.set_cons_succ])) | ((with_reducible show wpList _ _ _ (⟨_, Op.alloc _, _, _, _, _⟩ :: _) _ _); refine Does.list (does_alloc hS rfl (by rfl)) rfl ?_; clear hS; rintro _ wx ⟨ba, rfl, hS, _⟩; (simp only [Act.put, List.setIfInBounds_toArray, List.set_cons_zero, List.set_cons_succ])) | ((with_reducible show wpList _ _ _ (⟨_, Op.buildSlice _ _ _, _, _, _, _⟩ :: _) _ _); refine Does.list (does_buildSlice (X := ?_) (cs := ?_) (E := ?_) hS rfl ?_ ?_) rfl ?_; rotate_left 3; (go_simp; rfl); rfl; clear hS; rintro _ wx ⟨bx, rfl, hS, _⟩; (simp only [Act.put, List.setIfInBounds_toArray, List.set_cons_zero, List.set_cons_succ])))
      go_ret
      exact ⟨_, rfl, hS.result⟩



























end Go.Proofs.YtldknaajnnohiaaDoor
end
