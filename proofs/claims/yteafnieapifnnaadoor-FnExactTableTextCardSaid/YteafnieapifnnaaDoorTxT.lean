/- TableText, the program's and the reference's. -/
import Derived.Test.YteafnieapifnnaaDoorTxR
import Derived.Test.YteafnieapifnnaaDoorCat
namespace Go.Proofs.YteafnieapifnnaaDoor
open Go.RowKit

def slB : ByteArray := ⟨#[32, 47, 32]⟩
def tabT (t : TableD) : ByteArray := if tableOk t then bJoin (bJoin t.1 spB :: t.2.map rowT) slB else bOf []
theorem tabT_f {t : TableD} (h : tableOk t = false) : tabT t = bOf [] := by unfold tabT; rw [h]; rfl
theorem tabT_t {t : TableD} (h : tableOk t = true) : tabT t = bJoin (bJoin t.1 spB :: t.2.map rowT) slB := by unfold tabT; rw [h]; rfl
theorem tableOk_ns {ns : List ByteArray} {rows : List (List Int)} (h : tableOk (ns, rows) = true) : namesOk ns = true ∧ rows.length ≤ 16 := by
  unfold tableOk at h
  simp only [Bool.and_eq_true, decide_eq_true_eq] at h
  exact ⟨h.1, h.2.1⟩
theorem names_join {ns : List ByteArray} (h : namesOk ns = true) : (bJoin ns spB).size ≤ 54 := by
  have h1 := bJoin_size spB 8 ns (fun x hx => (namesOk_size h x hx).2)
  have h2 := (namesOk_len h).2
  rw [show spB.size = 1 from rfl] at h1
  omega
theorem rows_join {nj : ByteArray} {rows : List (List Int)} (h : nj.size ≤ 54) (h2 : rows.length ≤ 16) : (bJoin (nj :: rows.map rowT) slB).size ≤ 1000 := by
  have h1 := bJoin_size slB 54 (nj :: rows.map rowT) (fun x hx => by
    rcases List.mem_cons.1 hx with rfl | hx
    · exact h
    · obtain ⟨r, _, rfl⟩ := List.mem_map.1 hx
      exact Nat.le_trans (rowT_size r) (by decide))
  rw [List.length_cons, List.length_map, show slB.size = 3 from rfl] at h1
  omega
set_option maxHeartbeats 2000000 in
set_option maxRecDepth 8000 in
theorem impl_TableText (w : World) (hR : ResOk w) (ht : TabOk w) (A1 A2 : Option Addr) (c1 c2 : Nat) (F G : List Nat) (ns : List ByteArray) (rows : List (List Int)) (hx : SliceHas Rep.str w F [.slice A1 ns.length c1] ns) (hy : SliceHas Rep.int.slice w G [.slice A2 rows.length c2] rows) :
    Calls Tryd.prog 29 #[.agg #[.slice A1 ns.length c1, .slice A2 rows.length c2]] w fun e w' => e = .returned (.string (tabT (ns, rows))) ∧ Mod [] w w' := by
  have hS : Sat w w [.ro Rep.str.slice [.slice A1 ns.length c1] ns, .ro Rep.int.slice.slice [.slice A2 rows.length c2] rows] := ((Sat.nil w).arg hy).arg hx
  clear hx hy
  cases hok : tableOk (ns, rows)
  · have Ht := Lib.hid hok
    have H := Lib.hid (tabT_f hok)
    clear hok
    go_enter Tryd.func29, Tryd.ntmps29
    go_wp2_with (first | (go_at_call 60; obtain ⟨Fq, hFq⟩ := hS.has Rep.str.slice [.slice A1 ns.length c1]; obtain ⟨Fr, hFr⟩ := hS.has Rep.int.slice.slice [.slice A2 rows.length c2]; refine (impl_TableValid' _ (hR.mod0 hS.mod0) A1 A2 c1 c2 Fq Fr ns rows hFq hFr).mono ?_; rintro e w' ⟨rfl, hM⟩; replace hS := hS.mod hM; clear hM hFq hFr; (simp only [Ht.out])) | ((with_reducible show wpList _ _ _ (⟨_, Op.box _ _, _, _, _, _⟩ :: _) _ _); refine Does.list (does_box hS rfl rfl (by rfl)) rfl ?_; clear hS; rintro _ wx ⟨bo, rfl, hS, _⟩; (simp only [Act.put, List.setIfInBounds_toArray, List.set_cons_zero, List.set_cons_succ])) | ((with_reducible show wpList _ _ _ (⟨_, Op.load _ _, _, _, _, _⟩ :: _) _ _); (first | refine Gives.list (f_load hS rfl rfl (by rfl)) rfl ?_ | refine Gives.list (f_loadS hS rfl rfl (by rfl)) rfl ?_ | refine Gives.list (f_loadAt hS rfl rfl) rfl ?_ | refine Gives.list (f_loadAtS hS rfl rfl (by rfl)) rfl ?_ | refine Gives.list (f_loadAtF hS rfl rfl (by rfl)) rfl ?_); (simp only [Act.put, List.setIfInBounds_toArray, List.set_cons_zero, List.set_cons_succ])) | ((with_reducible show wpList _ _ _ (⟨_, Op.store _ _ _, _, _, _, _⟩ :: _) _ _); (first | refine Does.list (f_store hS rfl rfl rfl (by rfl) (by rfl)) rfl ?_ | refine Does.list (f_storeS hS rfl rfl rfl (by rfl) (by rfl) (by rfl)) rfl ?_); clear hS; rintro _ wx ⟨rfl, hS⟩; (simp only [List.set_cons_zero, List.set_cons_succ] at hS); (simp only [Act.put, List.setIfInBounds_toArray, List.set_cons_zero, List.set_cons_succ])) | ((with_reducible show wpList _ _ _ (⟨_, Op.alloc _, _, _, _, _⟩ :: _) _ _); refine Does.list (does_alloc hS rfl (by rfl)) rfl ?_; clear hS; rintro _ wx ⟨ba, rfl, hS, _⟩; (simp only [Act.put, List.setIfInBounds_toArray, List.set_cons_zero, List.set_cons_succ])) | ((with_reducible show wpList _ _ _ (⟨_, Op.buildSlice _ _ _, _, _, _, _⟩ :: _) _ _); refine Does.list (does_buildSlice (X := ?_) (cs := ?_) (E := ?_) hS rfl ?_ ?_) rfl ?_; rotate_left 3; (go_simp; rfl); rfl; clear hS; rintro _ wx ⟨bx, rfl, hS, _⟩; (simp only [Act.put, List.setIfInBounds_toArray, List.set_cons_zero, List.set_cons_succ])))
    go_ret
    exact ⟨by rw [H.out]; rfl, hS.mod0⟩
  · obtain ⟨hn, h16⟩ := tableOk_ns hok
    have hl6 := (namesOk_len hn).2
    obtain ⟨nj, hnj⟩ : ∃ x, bJoin ns spB = x := ⟨_, rfl⟩
    have hj54 : nj.size ≤ 54 := by rw [← hnj]; exact names_join hn
    have HJ : Hid (bJoin ns ⟨#[32]⟩ = nj) := Lib.hid hnj
    have H : Hid (tabT (ns, rows) = bJoin (nj :: rows.map rowT) slB) := Lib.hid (by rw [tabT_t hok, ← hnj])
    have HB : Hid ((bJoin (nj :: rows.map rowT) slB).size ≤ 1000) := Lib.hid (rows_join hj54 h16)
    have Ht := Lib.hid hok
    clear hok hn hnj
    go_enter Tryd.func29, Tryd.ntmps29
    go_wp2_with (first | (go_at_call 60; obtain ⟨Fq, hFq⟩ := hS.has Rep.str.slice [.slice A1 ns.length c1]; obtain ⟨Fr, hFr⟩ := hS.has Rep.int.slice.slice [.slice A2 rows.length c2]; refine (impl_TableValid' _ (hR.mod0 hS.mod0) A1 A2 c1 c2 Fq Fr ns rows hFq hFr).mono ?_; rintro e w' ⟨rfl, hM⟩; replace hS := hS.mod hM; clear hM hFq hFr; (simp only [Ht.out])) | (go_at_call 50; (with_reducible show Calls _ _ #[.slice A1 _ _, _] _ _); obtain ⟨Fq, hFq⟩ := hS.has Rep.str.slice [.slice A1 ns.length c1]; refine (join_n _ Fq A1 ns.length c1 ns ⟨#[32]⟩ hFq rfl (by omega) (by rw [HJ.out]; omega)).mono ?_; rintro e w' ⟨rfl, hM⟩; (rw [HJ.out]); replace hS := hS.mod hM; clear hM hFq) | ((with_reducible show wpList _ _ _ (⟨_, Op.box _ _, _, _, _, _⟩ :: _) _ _); refine Does.list (does_box hS rfl rfl (by rfl)) rfl ?_; clear hS; rintro _ wx ⟨bo, rfl, hS, _⟩; (simp only [Act.put, List.setIfInBounds_toArray, List.set_cons_zero, List.set_cons_succ])) | ((with_reducible show wpList _ _ _ (⟨_, Op.load _ _, _, _, _, _⟩ :: _) _ _); (first | refine Gives.list (f_load hS rfl rfl (by rfl)) rfl ?_ | refine Gives.list (f_loadS hS rfl rfl (by rfl)) rfl ?_ | refine Gives.list (f_loadAt hS rfl rfl) rfl ?_ | refine Gives.list (f_loadAtS hS rfl rfl (by rfl)) rfl ?_ | refine Gives.list (f_loadAtF hS rfl rfl (by rfl)) rfl ?_); (simp only [Act.put, List.setIfInBounds_toArray, List.set_cons_zero, List.set_cons_succ])) | ((with_reducible show wpList _ _ _ (⟨_, Op.store _ _ _, _, _, _, _⟩ :: _) _ _); (first | refine Does.list (f_store hS rfl rfl rfl (by rfl) (by rfl)) rfl ?_ | refine Does.list (f_storeS hS rfl rfl rfl (by rfl) (by rfl) (by rfl)) rfl ?_); clear hS; rintro _ wx ⟨rfl, hS⟩; (simp only [List.set_cons_zero, List.set_cons_succ] at hS); (simp only [Act.put, List.setIfInBounds_toArray, List.set_cons_zero, List.set_cons_succ])) | ((with_reducible show wpList _ _ _ (⟨_, Op.alloc _, _, _, _, _⟩ :: _) _ _); refine Does.list (does_alloc hS rfl (by rfl)) rfl ?_; clear hS; rintro _ wx ⟨ba, rfl, hS, _⟩; (simp only [Act.put, List.setIfInBounds_toArray, List.set_cons_zero, List.set_cons_succ])) | ((with_reducible show wpList _ _ _ (⟨_, Op.buildSlice _ _ _, _, _, _, _⟩ :: _) _ _); refine Does.list (does_buildSlice (X := ?_) (cs := ?_) (E := ?_) hS rfl ?_ ?_) rfl ?_; rotate_left 3; (go_simp; rfl); rfl; clear hS; rintro _ wx ⟨bx, rfl, hS, _⟩; (simp only [Act.put, List.setIfInBounds_toArray, List.set_cons_zero, List.set_cons_succ])))
    replace hS := Sat.strLit [nj] hS (by intro x hx; rw [List.mem_singleton.1 hx]; unfold maxLen; omega) (by show 1 ≤ maxLen; decide)
    replace hS : Sat w _ [.own Rep.str.rows [.slice (some ⟨bx, 0, none⟩) (0 + 1) 1] [nj], .ro Rep.str.slice [.slice A1 ns.length c1] ns, .ro Rep.int.slice.slice [.slice A2 rows.length c2] rows] := hS.sel [0, 2, 3] rfl (by decide)
    go_loopw [3, 16] (fun s i wr => ∃ (k : Nat) (B : Option Addr) (d : Nat), i = .int .i64 k ∧ s = .slice B (k + 1) d ∧ k ≤ rows.length ∧ Sat w wr [.own Rep.str.rows [.slice B (k + 1) d] (nj :: (rows.take k).map rowT), .ro Rep.str.slice [.slice A1 ns.length c1] ns, .ro Rep.int.slice.slice [.slice A2 rows.length c2] rows]) (fun _ i _ => rows.length - (intOf i).toNat)
    case atStart => exact ⟨0, _, 1, rfl, rfl, Nat.zero_le _, hS⟩
    case round =>
      clear hS
      obtain ⟨k, B, d, rfl, rfl, hk, hS⟩ := hrel
      by_cases hlt : k < rows.length
      · have hltI : (k : Int) < (rows.length : Int) := by omega
        obtain ⟨r, hrk⟩ : ∃ r, rows[k]? = some r := ⟨_, get_some hlt⟩
        obtain ⟨ad, A', c', rfl, j0, j1, hS⟩ := hS.elSlice Rep.int A2 rows.length c2 hrk
        have HM := Lib.hid (map_succ (f := rowT) hrk)
        clear hrk
        go_wp2_with (first | (go_at_call 19; obtain ⟨Fq, hFq⟩ := hS.has Rep.int.slice [.slice A' r.length c']; refine (impl_RowText _ (ht.mod0 hS.mod0) Fq A' c' r hFq).mono ?_; rintro e w' ⟨rfl, hM⟩; replace hS := hS.mod hM; clear hM hFq) | ((with_reducible show wpList _ _ _ (⟨_, Op.call { callee := Callee.builtin Builtin.append, args := _, argTypes := _ }, _, _, _, _⟩ :: _) _ _); refine Does.list (f_append Rep.str (Sat.vec1 (hS.str (s := rowT r) (by have := rowT_size r; unfold maxLen; omega))) rfl rfl rfl rfl rfl (by decide) (by omega)) rfl ?_; clear hS; rintro _ wx ⟨A5, c5, rfl, hS⟩; (simp only [List.set_cons_zero, List.set_cons_succ] at hS); (simp only [Act.put, List.setIfInBounds_toArray, List.set_cons_zero, List.set_cons_succ])) | ((with_reducible show wpList _ _ _ (⟨_, Op.box _ _, _, _, _, _⟩ :: _) _ _); refine Does.list (does_box hS rfl rfl (by rfl)) rfl ?_; clear hS; rintro _ wx ⟨bo, rfl, hS, _⟩; (simp only [Act.put, List.setIfInBounds_toArray, List.set_cons_zero, List.set_cons_succ])) | ((with_reducible show wpList _ _ _ (⟨_, Op.load _ _, _, _, _, _⟩ :: _) _ _); (first | refine Gives.list (f_load hS rfl rfl (by rfl)) rfl ?_ | refine Gives.list (f_loadS hS rfl rfl (by rfl)) rfl ?_ | refine Gives.list (f_loadAt hS rfl rfl) rfl ?_ | refine Gives.list (f_loadAtS hS rfl rfl (by rfl)) rfl ?_ | refine Gives.list (f_loadAtF hS rfl rfl (by rfl)) rfl ?_); (simp only [Act.put, List.setIfInBounds_toArray, List.set_cons_zero, List.set_cons_succ])) | ((with_reducible show wpList _ _ _ (⟨_, Op.store _ _ _, _, _, _, _⟩ :: _) _ _); (first | refine Does.list (f_store hS rfl rfl rfl (by rfl) (by rfl)) rfl ?_ | refine Does.list (f_storeS hS rfl rfl rfl (by rfl) (by rfl) (by rfl)) rfl ?_); clear hS; rintro _ wx ⟨rfl, hS⟩; (simp only [List.set_cons_zero, List.set_cons_succ] at hS); (simp only [Act.put, List.setIfInBounds_toArray, List.set_cons_zero, List.set_cons_succ])) | ((with_reducible show wpList _ _ _ (⟨_, Op.alloc _, _, _, _, _⟩ :: _) _ _); refine Does.list (does_alloc hS rfl (by rfl)) rfl ?_; clear hS; rintro _ wx ⟨ba, rfl, hS, _⟩; (simp only [Act.put, List.setIfInBounds_toArray, List.set_cons_zero, List.set_cons_succ])) | ((with_reducible show wpList _ _ _ (⟨_, Op.buildSlice _ _ _, _, _, _, _⟩ :: _) _ _); refine Does.list (does_buildSlice (X := ?_) (cs := ?_) (E := ?_) hS rfl ?_ ?_) rfl ?_; rotate_left 3; (go_simp; rfl); rfl; clear hS; rintro _ wx ⟨bx, rfl, hS, _⟩; (simp only [Act.put, List.setIfInBounds_toArray, List.set_cons_zero, List.set_cons_succ])))
        go_roundw
        case rel => exact ⟨k + 1, A5, c5, by go_num, rfl, hlt, by rw [← HM.out, ← List.cons_append]; exact hS.sel [2, 3, 4] rfl (by decide)⟩
        case measure => simp [intOf]; omega
      · obtain rfl : k = rows.length := by omega
        rw [List.take_length] at hS
        go_wp2_with (first | (go_at_call 50; obtain ⟨Fq, hFq⟩ := hS.has Rep.str.slice [.slice B (rows.length + 1) d]; refine (join_n _ Fq B (rows.length + 1) d (nj :: rows.map rowT) ⟨#[32, 47, 32]⟩ hFq (by rw [List.length_cons, List.length_map]) (by rw [List.length_cons, List.length_map]; omega) (Nat.le_trans HB.out (by decide))).mono ?_; rintro e w' ⟨rfl, hM⟩; replace hS := hS.mod hM; clear hM hFq) | ((with_reducible show wpList _ _ _ (⟨_, Op.box _ _, _, _, _, _⟩ :: _) _ _); refine Does.list (does_box hS rfl rfl (by rfl)) rfl ?_; clear hS; rintro _ wx ⟨bo, rfl, hS, _⟩; (simp only [Act.put, List.setIfInBounds_toArray, List.set_cons_zero, List.set_cons_succ])) | ((with_reducible show wpList _ _ _ (⟨_, Op.load _ _, _, _, _, _⟩ :: _) _ _); (first | refine Gives.list (f_load hS rfl rfl (by rfl)) rfl ?_ | refine Gives.list (f_loadS hS rfl rfl (by rfl)) rfl ?_ | refine Gives.list (f_loadAt hS rfl rfl) rfl ?_ | refine Gives.list (f_loadAtS hS rfl rfl (by rfl)) rfl ?_ | refine Gives.list (f_loadAtF hS rfl rfl (by rfl)) rfl ?_); (simp only [Act.put, List.setIfInBounds_toArray, List.set_cons_zero, List.set_cons_succ])) | ((with_reducible show wpList _ _ _ (⟨_, Op.store _ _ _, _, _, _, _⟩ :: _) _ _); (first | refine Does.list (f_store hS rfl rfl rfl (by rfl) (by rfl)) rfl ?_ | refine Does.list (f_storeS hS rfl rfl rfl (by rfl) (by rfl) (by rfl)) rfl ?_); clear hS; rintro _ wx ⟨rfl, hS⟩; (simp only [List.set_cons_zero, List.set_cons_succ] at hS); (simp only [Act.put, List.setIfInBounds_toArray, List.set_cons_zero, List.set_cons_succ])) | ((with_reducible show wpList _ _ _ (⟨_, Op.alloc _, _, _, _, _⟩ :: _) _ _); refine Does.list (does_alloc hS rfl (by rfl)) rfl ?_; clear hS; rintro _ wx ⟨ba, rfl, hS, _⟩; (simp only [Act.put, List.setIfInBounds_toArray, List.set_cons_zero, List.set_cons_succ])) | ((with_reducible show wpList _ _ _ (⟨_, Op.buildSlice _ _ _, _, _, _, _⟩ :: _) _ _); refine Does.list (does_buildSlice (X := ?_) (cs := ?_) (E := ?_) hS rfl ?_ ?_) rfl ?_; rotate_left 3; (go_simp; rfl); rfl; clear hS; rintro _ wx ⟨bx, rfl, hS, _⟩; (simp only [Act.put, List.setIfInBounds_toArray, List.set_cons_zero, List.set_cons_succ])))
        go_ret
        exact ⟨by rw [H.out]; rfl, hS.mod0⟩
theorem snoc_join {o y sep : ByteArray} {xs : List ByteArray} (h : o = bJoin xs sep) (hn : xs ≠ []) : o ++ sep ++ y = bJoin (xs ++ [y]) sep := by rw [h, bJoin_snoc y sep hn]
set_option maxHeartbeats 2000000 in
set_option maxRecDepth 8000 in
theorem spec_TableText (w : World) (A1 A2 : Option Addr) (c1 c2 : Nat) (F G : List Nat) (ns : List ByteArray) (rows : List (List Int)) (hx : SliceHas Rep.str w F [.slice A1 ns.length c1] ns) (hy : SliceHas Rep.int.slice w G [.slice A2 rows.length c2] rows) (hrl : ∀ r ∈ rows, r.length ≤ 1048576) :
    Calls Tryd.prog 27 #[.agg #[.slice A1 ns.length c1, .slice A2 rows.length c2]] w fun e w' => e = .returned (.string (tabT (ns, rows))) ∧ Mod [] w w' := by
  have hS : Sat w w [.ro Rep.str.slice [.slice A1 ns.length c1] ns, .ro Rep.int.slice.slice [.slice A2 rows.length c2] rows] := ((Sat.nil w).arg hy).arg hx
  clear hx hy
  have Hrl := Lib.hid hrl
  clear hrl
  cases hok : tableOk (ns, rows)
  · have Ht := Lib.hid hok
    have H := Lib.hid (tabT_f hok)
    clear hok
    go_enter Tryd.func27, Tryd.ntmps27
    go_wp2_with (first | (go_at_call 57; obtain ⟨Fq, hFq⟩ := hS.has Rep.str.slice [.slice A1 ns.length c1]; obtain ⟨Fr, hFr⟩ := hS.has Rep.int.slice.slice [.slice A2 rows.length c2]; refine (spec_TableValid' _ A1 A2 c1 c2 Fq Fr ns rows hFq hFr).mono ?_; rintro e w' ⟨rfl, hM⟩; replace hS := hS.mod hM; clear hM hFq hFr; (simp only [Ht.out])) | ((with_reducible show wpList _ _ _ (⟨_, Op.box _ _, _, _, _, _⟩ :: _) _ _); refine Does.list (does_box hS rfl rfl (by rfl)) rfl ?_; clear hS; rintro _ wx ⟨bo, rfl, hS, _⟩; (simp only [Act.put, List.setIfInBounds_toArray, List.set_cons_zero, List.set_cons_succ])) | ((with_reducible show wpList _ _ _ (⟨_, Op.load _ _, _, _, _, _⟩ :: _) _ _); (first | refine Gives.list (f_load hS rfl rfl (by rfl)) rfl ?_ | refine Gives.list (f_loadS hS rfl rfl (by rfl)) rfl ?_ | refine Gives.list (f_loadAt hS rfl rfl) rfl ?_ | refine Gives.list (f_loadAtS hS rfl rfl (by rfl)) rfl ?_ | refine Gives.list (f_loadAtF hS rfl rfl (by rfl)) rfl ?_); (simp only [Act.put, List.setIfInBounds_toArray, List.set_cons_zero, List.set_cons_succ])) | ((with_reducible show wpList _ _ _ (⟨_, Op.store _ _ _, _, _, _, _⟩ :: _) _ _); (first | refine Does.list (f_store hS rfl rfl rfl (by rfl) (by rfl)) rfl ?_ | refine Does.list (f_storeS hS rfl rfl rfl (by rfl) (by rfl) (by rfl)) rfl ?_); clear hS; rintro _ wx ⟨rfl, hS⟩; (simp only [List.set_cons_zero, List.set_cons_succ] at hS); (simp only [Act.put, List.setIfInBounds_toArray, List.set_cons_zero, List.set_cons_succ])) | ((with_reducible show wpList _ _ _ (⟨_, Op.alloc _, _, _, _, _⟩ :: _) _ _); refine Does.list (does_alloc hS rfl (by rfl)) rfl ?_; clear hS; rintro _ wx ⟨ba, rfl, hS, _⟩; (simp only [Act.put, List.setIfInBounds_toArray, List.set_cons_zero, List.set_cons_succ])) | ((with_reducible show wpList _ _ _ (⟨_, Op.buildSlice _ _ _, _, _, _, _⟩ :: _) _ _); refine Does.list (does_buildSlice (X := ?_) (cs := ?_) (E := ?_) hS rfl ?_ ?_) rfl ?_; rotate_left 3; (go_simp; rfl); rfl; clear hS; rintro _ wx ⟨bx, rfl, hS, _⟩; (simp only [Act.put, List.setIfInBounds_toArray, List.set_cons_zero, List.set_cons_succ])))
    go_ret
    exact ⟨by rw [H.out]; rfl, hS.mod0⟩
  · obtain ⟨hn, h16⟩ := tableOk_ns hok
    have hl6 := (namesOk_len hn).2
    have hl1 := (namesOk_len hn).1
    obtain ⟨nj, hnj⟩ : ∃ x, bJoin ns spB = x := ⟨_, rfl⟩
    have hj54 : nj.size ≤ 54 := by rw [← hnj]; exact names_join hn
    have HJ : Hid (bJoin ns spB = nj) := Lib.hid hnj
    have H : Hid (tabT (ns, rows) = bJoin (nj :: rows.map rowT) slB) := Lib.hid (by rw [tabT_t hok, ← hnj])
    have Hsz : Hid (∀ x ∈ ns, x.size ≤ 8) := Lib.hid (fun x hx => (namesOk_size hn x hx).2)
    have Ht := Lib.hid hok
    clear hok hn hnj
    obtain ⟨n0, hn0⟩ : ∃ x, ns[0]? = some x := ⟨_, get_some hl1⟩
    have hz0 := Hsz.out n0 (List.mem_of_getElem? hn0)
    have HO0 : Hid (n0 = bJoin (ns.take 1) spB) := Lib.hid (by rw [List.take_add_one, hn0]; show n0 = bJoin [n0] spB; rw [bJoin_one])
    obtain ⟨ad, rfl, _, hS⟩ := hS.elStr A1 ns.length c1 hn0
    replace hS : Sat w w [.at ad [.string n0], .ro Rep.str.slice [.slice (some ad) ns.length c1] ns, .ro Rep.int.slice.slice [.slice A2 rows.length c2] rows] := hS
    have hl1N : 0 < ns.length := by omega
    have hl1I : (0 : Int) < (ns.length : Int) := by omega
    clear hn0
    obtain ⟨A1, hA1⟩ : ∃ A1, some ad = A1 := ⟨_, rfl⟩
    subst hA1
    go_enter Tryd.func27, Tryd.ntmps27
    go_wp2_with (first | (go_at_call 57; obtain ⟨Fq, hFq⟩ := hS.has Rep.str.slice [.slice (some ad) ns.length c1]; obtain ⟨Fr, hFr⟩ := hS.has Rep.int.slice.slice [.slice A2 rows.length c2]; refine (spec_TableValid' _ (some ad) A2 c1 c2 Fq Fr ns rows hFq hFr).mono ?_; rintro e w' ⟨rfl, hM⟩; replace hS := hS.mod hM; clear hM hFq hFr; (simp only [Ht.out])) | ((with_reducible show wpList _ _ _ (⟨_, Op.box _ _, _, _, _, _⟩ :: _) _ _); refine Does.list (does_box hS rfl rfl (by rfl)) rfl ?_; clear hS; rintro _ wx ⟨bo, rfl, hS, _⟩; (simp only [Act.put, List.setIfInBounds_toArray, List.set_cons_zero, List.set_cons_succ])) | ((with_reducible show wpList _ _ _ (⟨_, Op.load _ _, _, _, _, _⟩ :: _) _ _); (first | refine Gives.list (f_load hS rfl rfl (by rfl)) rfl ?_ | refine Gives.list (f_loadS hS rfl rfl (by rfl)) rfl ?_ | refine Gives.list (f_loadAt hS rfl rfl) rfl ?_ | refine Gives.list (f_loadAtS hS rfl rfl (by rfl)) rfl ?_ | refine Gives.list (f_loadAtF hS rfl rfl (by rfl)) rfl ?_); (simp only [Act.put, List.setIfInBounds_toArray, List.set_cons_zero, List.set_cons_succ])) | ((with_reducible show wpList _ _ _ (⟨_, Op.store _ _ _, _, _, _, _⟩ :: _) _ _); (first | refine Does.list (f_store hS rfl rfl rfl (by rfl) (by rfl)) rfl ?_ | refine Does.list (f_storeS hS rfl rfl rfl (by rfl) (by rfl) (by rfl)) rfl ?_); clear hS; rintro _ wx ⟨rfl, hS⟩; (simp only [List.set_cons_zero, List.set_cons_succ] at hS); (simp only [Act.put, List.setIfInBounds_toArray, List.set_cons_zero, List.set_cons_succ])) | ((with_reducible show wpList _ _ _ (⟨_, Op.alloc _, _, _, _, _⟩ :: _) _ _); refine Does.list (does_alloc hS rfl (by rfl)) rfl ?_; clear hS; rintro _ wx ⟨ba, rfl, hS, _⟩; (simp only [Act.put, List.setIfInBounds_toArray, List.set_cons_zero, List.set_cons_succ])) | ((with_reducible show wpList _ _ _ (⟨_, Op.buildSlice _ _ _, _, _, _, _⟩ :: _) _ _); refine Does.list (does_buildSlice (X := ?_) (cs := ?_) (E := ?_) hS rfl ?_ ?_) rfl ?_; rotate_left 3; (go_simp; rfl); rfl; clear hS; rintro _ wx ⟨bx, rfl, hS, _⟩; (simp only [Act.put, List.setIfInBounds_toArray, List.set_cons_zero, List.set_cons_succ])))
    replace hS : Sat w _ [.ro Rep.str.slice [.slice (some ad) ns.length c1] ns, .ro Rep.int.slice.slice [.slice A2 rows.length c2] rows, .box bo [.slice (some ad) ns.length c1, .slice A2 rows.length c2]] := hS.sel [2, 3, 0] rfl (by decide)
    go_loopw [3, 4] (fun s i wr => ∃ (k : Nat) (o : ByteArray), i = .int .i64 k ∧ s = .string o ∧ (1 ≤ k ∧ k ≤ ns.length) ∧ Hid (o = bJoin (ns.take k) spB) ∧ o.size ≤ 9 * k ∧ Sat w wr [.ro Rep.str.slice [.slice (some ad) ns.length c1] ns, .ro Rep.int.slice.slice [.slice A2 rows.length c2] rows, .box bo [.slice (some ad) ns.length c1, .slice A2 rows.length c2]]) (fun _ i _ => ns.length - (intOf i).toNat)
    case atStart => exact ⟨1, n0, rfl, rfl, ⟨Nat.le_refl _, hl1⟩, HO0, by omega, hS⟩
    case round =>
      clear hS
      obtain ⟨k, o, rfl, rfl, ⟨hk1, hk⟩, HO, hos, hS⟩ := hrel
      by_cases hlt : k < ns.length
      · have hltI : (k : Int) < (ns.length : Int) := by omega
        obtain ⟨x, hxk⟩ : ∃ x, ns[k]? = some x := ⟨_, get_some hlt⟩
        have hxz := Hsz.out x (List.mem_of_getElem? hxk)
        have HT2 : Hid (ns.take k ++ [x] = ns.take (k + 1)) := Lib.hid (by rw [List.take_add_one, hxk]; rfl)
        have HNE : Hid (ns.take k ≠ []) := Lib.hid (fun e => by have h1 := congrArg List.length e; rw [List.length_take, List.length_nil] at h1; omega)
        obtain ⟨ad3, had3, _, hS⟩ := hS.elStr (some ad) ns.length c1 hxk
        cases had3
        clear hxk
        have hsz : ¬ 9223372036854775807 < o.size + 1 := by omega
        have hsz2 : ¬ 9223372036854775807 < o.size + 1 + x.size := by omega
        go_wp2_with (first | ((with_reducible show wpList _ _ _ (⟨_, Op.box _ _, _, _, _, _⟩ :: _) _ _); refine Does.list (does_box hS rfl rfl (by rfl)) rfl ?_; clear hS; rintro _ wx ⟨bo, rfl, hS, _⟩; (simp only [Act.put, List.setIfInBounds_toArray, List.set_cons_zero, List.set_cons_succ])) | ((with_reducible show wpList _ _ _ (⟨_, Op.load _ _, _, _, _, _⟩ :: _) _ _); (first | refine Gives.list (f_load hS rfl rfl (by rfl)) rfl ?_ | refine Gives.list (f_loadS hS rfl rfl (by rfl)) rfl ?_ | refine Gives.list (f_loadAt hS rfl rfl) rfl ?_ | refine Gives.list (f_loadAtS hS rfl rfl (by rfl)) rfl ?_ | refine Gives.list (f_loadAtF hS rfl rfl (by rfl)) rfl ?_); (simp only [Act.put, List.setIfInBounds_toArray, List.set_cons_zero, List.set_cons_succ])) | ((with_reducible show wpList _ _ _ (⟨_, Op.store _ _ _, _, _, _, _⟩ :: _) _ _); (first | refine Does.list (f_store hS rfl rfl rfl (by rfl) (by rfl)) rfl ?_ | refine Does.list (f_storeS hS rfl rfl rfl (by rfl) (by rfl) (by rfl)) rfl ?_); clear hS; rintro _ wx ⟨rfl, hS⟩; (simp only [List.set_cons_zero, List.set_cons_succ] at hS); (simp only [Act.put, List.setIfInBounds_toArray, List.set_cons_zero, List.set_cons_succ])) | ((with_reducible show wpList _ _ _ (⟨_, Op.alloc _, _, _, _, _⟩ :: _) _ _); refine Does.list (does_alloc hS rfl (by rfl)) rfl ?_; clear hS; rintro _ wx ⟨ba, rfl, hS, _⟩; (simp only [Act.put, List.setIfInBounds_toArray, List.set_cons_zero, List.set_cons_succ])) | ((with_reducible show wpList _ _ _ (⟨_, Op.buildSlice _ _ _, _, _, _, _⟩ :: _) _ _); refine Does.list (does_buildSlice (X := ?_) (cs := ?_) (E := ?_) hS rfl ?_ ?_) rfl ?_; rotate_left 3; (go_simp; rfl); rfl; clear hS; rintro _ wx ⟨bx, rfl, hS, _⟩; (simp only [Act.put, List.setIfInBounds_toArray, List.set_cons_zero, List.set_cons_succ])))
        go_roundw
        case rel => exact ⟨k + 1, _, by go_num, rfl, ⟨by omega, hlt⟩, Lib.hid (by rw [← HT2.out]; exact snoc_join HO.out HNE.out), by rw [ByteArray.size_append, ByteArray.size_append, show ByteArray.size ⟨#[32]⟩ = 1 from rfl]; omega, hS.sel [1, 2, 3] rfl (by decide)⟩
        case measure => simp [intOf]; omega
      · obtain rfl : k = ns.length := by omega
        have HO2 : Hid (o = nj) := Lib.hid (by have h := HO.out; rw [List.take_length] at h; rw [h]; exact HJ.out)
        obtain rfl := HO2.out
        go_wp2_with (first | ((with_reducible show wpList _ _ _ (⟨_, Op.box _ _, _, _, _, _⟩ :: _) _ _); refine Does.list (does_box hS rfl rfl (by rfl)) rfl ?_; clear hS; rintro _ wx ⟨bo, rfl, hS, _⟩; (simp only [Act.put, List.setIfInBounds_toArray, List.set_cons_zero, List.set_cons_succ])) | ((with_reducible show wpList _ _ _ (⟨_, Op.load _ _, _, _, _, _⟩ :: _) _ _); (first | refine Gives.list (f_load hS rfl rfl (by rfl)) rfl ?_ | refine Gives.list (f_loadS hS rfl rfl (by rfl)) rfl ?_ | refine Gives.list (f_loadAt hS rfl rfl) rfl ?_ | refine Gives.list (f_loadAtS hS rfl rfl (by rfl)) rfl ?_ | refine Gives.list (f_loadAtF hS rfl rfl (by rfl)) rfl ?_); (simp only [Act.put, List.setIfInBounds_toArray, List.set_cons_zero, List.set_cons_succ])) | ((with_reducible show wpList _ _ _ (⟨_, Op.store _ _ _, _, _, _, _⟩ :: _) _ _); (first | refine Does.list (f_store hS rfl rfl rfl (by rfl) (by rfl)) rfl ?_ | refine Does.list (f_storeS hS rfl rfl rfl (by rfl) (by rfl) (by rfl)) rfl ?_); clear hS; rintro _ wx ⟨rfl, hS⟩; (simp only [List.set_cons_zero, List.set_cons_succ] at hS); (simp only [Act.put, List.setIfInBounds_toArray, List.set_cons_zero, List.set_cons_succ])) | ((with_reducible show wpList _ _ _ (⟨_, Op.alloc _, _, _, _, _⟩ :: _) _ _); refine Does.list (does_alloc hS rfl (by rfl)) rfl ?_; clear hS; rintro _ wx ⟨ba, rfl, hS, _⟩; (simp only [Act.put, List.setIfInBounds_toArray, List.set_cons_zero, List.set_cons_succ])) | ((with_reducible show wpList _ _ _ (⟨_, Op.buildSlice _ _ _, _, _, _, _⟩ :: _) _ _); refine Does.list (does_buildSlice (X := ?_) (cs := ?_) (E := ?_) hS rfl ?_ ?_) rfl ?_; rotate_left 3; (go_simp; rfl); rfl; clear hS; rintro _ wx ⟨bx, rfl, hS, _⟩; (simp only [Act.put, List.setIfInBounds_toArray, List.set_cons_zero, List.set_cons_succ])))
        go_loopw [3, 5] (fun s i wr => ∃ (k : Nat) (o2 : ByteArray), i = .int .i64 k ∧ s = .string o2 ∧ k ≤ rows.length ∧ Hid (o2 = bJoin (o :: (rows.take k).map rowT) slB) ∧ o2.size ≤ 54 + 51 * k ∧ Sat w wr [.ro Rep.str.slice [.slice (some ad) ns.length c1] ns, .ro Rep.int.slice.slice [.slice A2 rows.length c2] rows, .box bo [.slice (some ad) ns.length c1, .slice A2 rows.length c2]]) (fun _ i _ => rows.length - (intOf i).toNat)
        case atStart => exact ⟨0, o, rfl, rfl, Nat.zero_le _, Lib.hid (by rw [List.take_zero, List.map_nil, bJoin_one]), by omega, hS⟩
        case round =>
          clear hS
          obtain ⟨k, o2, rfl, rfl, hk2, HO3, hos2, hS⟩ := hrel
          by_cases hlt2 : k < rows.length
          · have hltI : (k : Int) < (rows.length : Int) := by omega
            obtain ⟨r, hrk⟩ : ∃ r, rows[k]? = some r := ⟨_, get_some hlt2⟩
            have hrb := Hrl.out r (List.mem_of_getElem? hrk)
            have h48 := rowT_size r
            obtain ⟨ad4, A', c', rfl, j0, j1, hS⟩ := hS.elSlice Rep.int A2 rows.length c2 hrk
            have HM := Lib.hid (map_succ (f := rowT) hrk)
            clear hrk
            have hsz : ¬ 9223372036854775807 < o2.size + 3 := by omega
            have hsz2 : ¬ 9223372036854775807 < o2.size + 3 + (rowT r).size := by omega
            go_wp2_with (first | (go_at_call 17; obtain ⟨Fq, hFq⟩ := hS.has Rep.int.slice [.slice A' r.length c']; refine (spec_RowText _ Fq A' c' r hFq (by omega)).mono ?_; rintro e w' ⟨rfl, hM⟩; replace hS := hS.mod hM; clear hM hFq) | ((with_reducible show wpList _ _ _ (⟨_, Op.box _ _, _, _, _, _⟩ :: _) _ _); refine Does.list (does_box hS rfl rfl (by rfl)) rfl ?_; clear hS; rintro _ wx ⟨bo, rfl, hS, _⟩; (simp only [Act.put, List.setIfInBounds_toArray, List.set_cons_zero, List.set_cons_succ])) | ((with_reducible show wpList _ _ _ (⟨_, Op.load _ _, _, _, _, _⟩ :: _) _ _); (first | refine Gives.list (f_load hS rfl rfl (by rfl)) rfl ?_ | refine Gives.list (f_loadS hS rfl rfl (by rfl)) rfl ?_ | refine Gives.list (f_loadAt hS rfl rfl) rfl ?_ | refine Gives.list (f_loadAtS hS rfl rfl (by rfl)) rfl ?_ | refine Gives.list (f_loadAtF hS rfl rfl (by rfl)) rfl ?_); (simp only [Act.put, List.setIfInBounds_toArray, List.set_cons_zero, List.set_cons_succ])) | ((with_reducible show wpList _ _ _ (⟨_, Op.store _ _ _, _, _, _, _⟩ :: _) _ _); (first | refine Does.list (f_store hS rfl rfl rfl (by rfl) (by rfl)) rfl ?_ | refine Does.list (f_storeS hS rfl rfl rfl (by rfl) (by rfl) (by rfl)) rfl ?_); clear hS; rintro _ wx ⟨rfl, hS⟩; (simp only [List.set_cons_zero, List.set_cons_succ] at hS); (simp only [Act.put, List.setIfInBounds_toArray, List.set_cons_zero, List.set_cons_succ])) | ((with_reducible show wpList _ _ _ (⟨_, Op.alloc _, _, _, _, _⟩ :: _) _ _); refine Does.list (does_alloc hS rfl (by rfl)) rfl ?_; clear hS; rintro _ wx ⟨ba, rfl, hS, _⟩; (simp only [Act.put, List.setIfInBounds_toArray, List.set_cons_zero, List.set_cons_succ])) | ((with_reducible show wpList _ _ _ (⟨_, Op.buildSlice _ _ _, _, _, _, _⟩ :: _) _ _); refine Does.list (does_buildSlice (X := ?_) (cs := ?_) (E := ?_) hS rfl ?_ ?_) rfl ?_; rotate_left 3; (go_simp; rfl); rfl; clear hS; rintro _ wx ⟨bx, rfl, hS, _⟩; (simp only [Act.put, List.setIfInBounds_toArray, List.set_cons_zero, List.set_cons_succ])))
            go_roundw
            case rel => exact ⟨k + 1, _, by go_num, rfl, hlt2, Lib.hid (by rw [← HM.out, ← List.cons_append]; exact snoc_join HO3.out (by simp)), by rw [ByteArray.size_append, ByteArray.size_append, show ByteArray.size ⟨#[32, 47, 32]⟩ = 3 from rfl]; omega, hS.sel [2, 3, 4] rfl (by decide)⟩
            case measure => simp [intOf]; omega
          · obtain rfl : k = rows.length := by omega
            have H4 : Hid (tabT (ns, rows) = o2) := Lib.hid (by have h := HO3.out; rw [List.take_length] at h; rw [h]; exact H.out)
            go_wp2_with (first | ((with_reducible show wpList _ _ _ (⟨_, Op.box _ _, _, _, _, _⟩ :: _) _ _); refine Does.list (does_box hS rfl rfl (by rfl)) rfl ?_; clear hS; rintro _ wx ⟨bo, rfl, hS, _⟩; (simp only [Act.put, List.setIfInBounds_toArray, List.set_cons_zero, List.set_cons_succ])) | ((with_reducible show wpList _ _ _ (⟨_, Op.load _ _, _, _, _, _⟩ :: _) _ _); (first | refine Gives.list (f_load hS rfl rfl (by rfl)) rfl ?_ | refine Gives.list (f_loadS hS rfl rfl (by rfl)) rfl ?_ | refine Gives.list (f_loadAt hS rfl rfl) rfl ?_ | refine Gives.list (f_loadAtS hS rfl rfl (by rfl)) rfl ?_ | refine Gives.list (f_loadAtF hS rfl rfl (by rfl)) rfl ?_); (simp only [Act.put, List.setIfInBounds_toArray, List.set_cons_zero, List.set_cons_succ])) | ((with_reducible show wpList _ _ _ (⟨_, Op.store _ _ _, _, _, _, _⟩ :: _) _ _); (first | refine Does.list (f_store hS rfl rfl rfl (by rfl) (by rfl)) rfl ?_ | refine Does.list (f_storeS hS rfl rfl rfl (by rfl) (by rfl) (by rfl)) rfl ?_); clear hS; rintro _ wx ⟨rfl, hS⟩; (simp only [List.set_cons_zero, List.set_cons_succ] at hS); (simp only [Act.put, List.setIfInBounds_toArray, List.set_cons_zero, List.set_cons_succ])) | ((with_reducible show wpList _ _ _ (⟨_, Op.alloc _, _, _, _, _⟩ :: _) _ _); refine Does.list (does_alloc hS rfl (by rfl)) rfl ?_; clear hS; rintro _ wx ⟨ba, rfl, hS, _⟩; (simp only [Act.put, List.setIfInBounds_toArray, List.set_cons_zero, List.set_cons_succ])) | ((with_reducible show wpList _ _ _ (⟨_, Op.buildSlice _ _ _, _, _, _, _⟩ :: _) _ _); refine Does.list (does_buildSlice (X := ?_) (cs := ?_) (E := ?_) hS rfl ?_ ?_) rfl ?_; rotate_left 3; (go_simp; rfl); rfl; clear hS; rintro _ wx ⟨bx, rfl, hS, _⟩; (simp only [Act.put, List.setIfInBounds_toArray, List.set_cons_zero, List.set_cons_succ])))
            go_ret
            exact ⟨by rw [H4.out]; rfl, hS.mod0⟩
end Go.Proofs.YteafnieapifnnaaDoor
