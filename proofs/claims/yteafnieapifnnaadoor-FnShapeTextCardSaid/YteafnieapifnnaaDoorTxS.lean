/- ShapeText, the program's and the reference's. -/
import Derived.Test.YteafnieapifnnaaDoorTxR
import Derived.Test.YteafnieapifnnaaDoorShp
import Derived.Test.YteafnieapifnnaaDoorShpS
import Derived.Test.YteafnieapifnnaaDoorDrawB
namespace Go.Proofs.YteafnieapifnnaaDoor
open Go.RowKit

def smB : ByteArray := ⟨#[59, 32]⟩
def shapeT (s : ShapeD) : ByteArray := s.1 ++ spB ++ bJoin s.2.1 spB ++ spB ++ numT s.2.2
def shTxt (l : List ShapeD) : ByteArray := if shapesOk l then bJoin (l.map shapeT) smB else bOf []
theorem shTxt_f {l : List ShapeD} (h : shapesOk l = false) : shTxt l = bOf [] := by unfold shTxt; rw [h]; rfl
theorem shTxt_t {l : List ShapeD} (h : shapesOk l = true) : shTxt l = bJoin (l.map shapeT) smB := by unfold shTxt; rw [h]; rfl
theorem padSize_16 {z : Int} (h1 : 1 ≤ z) (h : padSize z = z) : z ≤ 16 := by
  by_cases hz : z ≤ 16
  · exact hz
  · exfalso
    unfold padSize at h
    rw [if_neg (by omega)] at h
    omega
theorem shapesOk_at {l : List ShapeD} {k : Nat} {s : ShapeD} (h : shapesOk l = true) (hs : l[k]? = some s) : (s.1.size ≤ 8) ∧ namesOk s.2.1 = true ∧ 1 ≤ s.2.2 ∧ s.2.2 ≤ 16 := by
  unfold shapesOk at h
  simp only [Bool.and_eq_true] at h
  have k1 := List.all_eq_true.1 h.1 s (List.mem_of_getElem? hs)
  unfold shapeOk at k1
  simp only [Bool.and_eq_true, decide_eq_true_eq] at k1
  obtain ⟨a, b, c, d⟩ := k1
  unfold eqB at d
  have d2 := of_decide_eq_true d
  exact ⟨(nameOk_size a).2, b, c, padSize_16 c d2⟩
theorem shapesOk_len {l : List ShapeD} (h : shapesOk l = true) : l.length ≤ 4 := by
  unfold shapesOk at h
  simp only [Bool.and_eq_true, decide_eq_true_eq] at h
  exact h.2.2
theorem names_join6 {ns : List ByteArray} (h : namesOk ns = true) : (bJoin ns spB).size ≤ 54 := by
  have h1 := bJoin_size spB 8 ns (fun x hx => (namesOk_size h x hx).2)
  have h2 := (namesOk_len h).2
  rw [show spB.size = 1 from rfl] at h1
  omega
theorem shapeT_size {s : ShapeD} (h1 : s.1.size ≤ 8) (h2 : namesOk s.2.1 = true) : (shapeT s).size ≤ 71 := by
  have h3 := names_join6 h2
  have h4 := numT_size s.2.2
  unfold shapeT
  rw [ByteArray.size_append, ByteArray.size_append, ByteArray.size_append, ByteArray.size_append, show spB.size = 1 from rfl]
  omega
theorem shapes_size {l : List ShapeD} (h : shapesOk l = true) : ∀ x ∈ l.map shapeT, x.size ≤ 71 := fun x hx => by
  obtain ⟨s, hs, rfl⟩ := List.mem_map.1 hx
  obtain ⟨k, hk, rfl⟩ := List.getElem_of_mem hs
  obtain ⟨a, b, _⟩ := shapesOk_at h (List.getElem?_eq_getElem hk)
  exact shapeT_size a b
set_option maxHeartbeats 4000000 in
set_option maxRecDepth 8000 in
theorem impl_ShapeText (w : World) (hR : ResOk w) (F : List Nat) (A : Option Addr) (c : Nat) (l : List ShapeD) (hx : SliceHas rShape w F [.slice A l.length c] l) :
    Calls Tryd.prog 24 #[.slice A l.length c] w fun e w' => e = .returned (.string (shTxt l)) ∧ Mod [] w w' := by
  have hS : Sat w w [.ro rShape.slice [.slice A l.length c] l] := (Sat.nil w).arg hx
  clear hx
  cases hok : shapesOk l
  · have Hok := Lib.hid hok
    have H := Lib.hid (shTxt_f hok)
    clear hok
    go_enter Tryd.func24, Tryd.ntmps24
    go_wp2_with (first | (go_at_call 13; obtain ⟨Fq, hFq⟩ := hS.has rShape.slice [.slice A l.length c]; refine (impl_ShapesValid' _ (hR.mod0 hS.mod0) Fq _ l hFq).mono ?_; rintro e w' ⟨rfl, hM⟩; replace hS := hS.mod hM; clear hM hFq; (simp only [Hok.out])) | ((with_reducible show wpList _ _ _ (⟨_, Op.box _ _, _, _, _, _⟩ :: _) _ _); refine Does.list (does_box hS rfl rfl (by rfl)) rfl ?_; clear hS; rintro _ wx ⟨bo, rfl, hS, _⟩; (simp only [Act.put, List.setIfInBounds_toArray, List.set_cons_zero, List.set_cons_succ])) | ((with_reducible show wpList _ _ _ (⟨_, Op.load _ _, _, _, _, _⟩ :: _) _ _); (first | refine Gives.list (f_load hS rfl rfl (by rfl)) rfl ?_ | refine Gives.list (f_loadS hS rfl rfl (by rfl)) rfl ?_ | refine Gives.list (f_loadAt hS rfl rfl) rfl ?_ | refine Gives.list (f_loadAtS hS rfl rfl (by rfl)) rfl ?_ | refine Gives.list (f_loadAtF hS rfl rfl (by rfl)) rfl ?_); (simp only [Act.put, List.setIfInBounds_toArray, List.set_cons_zero, List.set_cons_succ])) | ((with_reducible show wpList _ _ _ (⟨_, Op.store _ _ _, _, _, _, _⟩ :: _) _ _); (first | refine Does.list (f_store hS rfl rfl rfl (by rfl) (by rfl)) rfl ?_ | refine Does.list (f_storeS hS rfl rfl rfl (by rfl) (by rfl) (by rfl)) rfl ?_); clear hS; rintro _ wx ⟨rfl, hS⟩; (simp only [List.set_cons_zero, List.set_cons_succ] at hS); (simp only [Act.put, List.setIfInBounds_toArray, List.set_cons_zero, List.set_cons_succ])) | ((with_reducible show wpList _ _ _ (⟨_, Op.alloc _, _, _, _, _⟩ :: _) _ _); refine Does.list (does_alloc hS rfl (by rfl)) rfl ?_; clear hS; rintro _ wx ⟨ba, rfl, hS, _⟩; (simp only [Act.put, List.setIfInBounds_toArray, List.set_cons_zero, List.set_cons_succ])) | ((with_reducible show wpList _ _ _ (⟨_, Op.buildSlice _ _ _, _, _, _, _⟩ :: _) _ _); refine Does.list (does_buildSlice (X := ?_) (cs := ?_) (E := ?_) hS rfl ?_ ?_) rfl ?_; rotate_left 3; (go_simp; rfl); rfl; clear hS; rintro _ wx ⟨bx, rfl, hS, _⟩; (simp only [Act.put, List.setIfInBounds_toArray, List.set_cons_zero, List.set_cons_succ])))
    go_ret
    exact ⟨by rw [H.out]; rfl, hS.mod0⟩
  · have Hok := Lib.hid hok
    have H := Lib.hid (shTxt_t hok)
    have h4 := shapesOk_len hok
    have HB : Hid ((bJoin (l.map shapeT) ⟨#[59, 32]⟩).size ≤ 1000000000) := Lib.hid (by
      have h := bJoin_size smB 71 (l.map shapeT) (shapes_size hok)
      rw [List.length_map, show smB.size = 2 from rfl] at h
      exact Nat.le_trans h (by omega))
    clear hok
    go_enter Tryd.func24, Tryd.ntmps24
    go_wp2_with (first | (go_at_call 13; obtain ⟨Fq, hFq⟩ := hS.has rShape.slice [.slice A l.length c]; refine (impl_ShapesValid' _ (hR.mod0 hS.mod0) Fq _ l hFq).mono ?_; rintro e w' ⟨rfl, hM⟩; replace hS := hS.mod hM; clear hM hFq; (simp only [Hok.out])) | ((with_reducible show wpList _ _ _ (⟨_, Op.box _ _, _, _, _, _⟩ :: _) _ _); refine Does.list (does_box hS rfl rfl (by rfl)) rfl ?_; clear hS; rintro _ wx ⟨bo, rfl, hS, _⟩; (simp only [Act.put, List.setIfInBounds_toArray, List.set_cons_zero, List.set_cons_succ])) | ((with_reducible show wpList _ _ _ (⟨_, Op.load _ _, _, _, _, _⟩ :: _) _ _); (first | refine Gives.list (f_load hS rfl rfl (by rfl)) rfl ?_ | refine Gives.list (f_loadS hS rfl rfl (by rfl)) rfl ?_ | refine Gives.list (f_loadAt hS rfl rfl) rfl ?_ | refine Gives.list (f_loadAtS hS rfl rfl (by rfl)) rfl ?_ | refine Gives.list (f_loadAtF hS rfl rfl (by rfl)) rfl ?_); (simp only [Act.put, List.setIfInBounds_toArray, List.set_cons_zero, List.set_cons_succ])) | ((with_reducible show wpList _ _ _ (⟨_, Op.store _ _ _, _, _, _, _⟩ :: _) _ _); (first | refine Does.list (f_store hS rfl rfl rfl (by rfl) (by rfl)) rfl ?_ | refine Does.list (f_storeS hS rfl rfl rfl (by rfl) (by rfl) (by rfl)) rfl ?_); clear hS; rintro _ wx ⟨rfl, hS⟩; (simp only [List.set_cons_zero, List.set_cons_succ] at hS); (simp only [Act.put, List.setIfInBounds_toArray, List.set_cons_zero, List.set_cons_succ])) | ((with_reducible show wpList _ _ _ (⟨_, Op.alloc _, _, _, _, _⟩ :: _) _ _); refine Does.list (does_alloc hS rfl (by rfl)) rfl ?_; clear hS; rintro _ wx ⟨ba, rfl, hS, _⟩; (simp only [Act.put, List.setIfInBounds_toArray, List.set_cons_zero, List.set_cons_succ])) | ((with_reducible show wpList _ _ _ (⟨_, Op.buildSlice _ _ _, _, _, _, _⟩ :: _) _ _); refine Does.list (does_buildSlice (X := ?_) (cs := ?_) (E := ?_) hS rfl ?_ ?_) rfl ?_; rotate_left 3; (go_simp; rfl); rfl; clear hS; rintro _ wx ⟨bx, rfl, hS, _⟩; (simp only [Act.put, List.setIfInBounds_toArray, List.set_cons_zero, List.set_cons_succ])))
    replace hS := Sat.nilRow Rep.str hS
    go_loopw [3, 11] (fun s i wr => ∃ (k : Nat) (B : Option Addr) (d : Nat), i = .int .i64 k ∧ s = .slice B k d ∧ k ≤ l.length ∧ Sat w wr [.own Rep.str.rows [.slice B k d] ((l.take k).map shapeT), .ro rShape.slice [.slice A l.length c] l]) (fun _ i _ => l.length - (intOf i).toNat)
    case atStart => exact ⟨0, none, 0, rfl, rfl, Nat.zero_le _, hS⟩
    case round =>
      clear hS
      obtain ⟨k, B, d, rfl, rfl, hk, hS⟩ := hrel
      by_cases hlt : k < l.length
      · have hltI : (k : Int) < (l.length : Int) := by omega
        obtain ⟨s, hsk⟩ : ∃ s, l[k]? = some s := ⟨_, get_some hlt⟩
        obtain ⟨q1, q2, q3, q4⟩ := shapesOk_at Hok.out hsk
        obtain ⟨ad, A1, c1, rfl, j0, j1, hS⟩ := hS.elShape A l.length c hsk
        have HM := Lib.hid (map_succ (f := shapeT) hsk)
        obtain ⟨nm, ns, z⟩ := s
        dsimp only at hS q1 q2 q3 q4 j0 j1
        have hn6 := (namesOk_len q2).2
        obtain ⟨nj, hnj⟩ : ∃ x, bJoin ns spB = x := ⟨_, rfl⟩
        obtain ⟨nz, hnz⟩ : ∃ x, numT z = x := ⟨_, rfl⟩
        have hj54 : nj.size ≤ 54 := by rw [← hnj]; exact names_join6 q2
        have hz7 : nz.size ≤ 7 := by rw [← hnz]; exact numT_size z
        have HJ : Hid (bJoin ns ⟨#[32]⟩ = nj) := Lib.hid hnj
        have HZ := Lib.hid hnz
        have HS : Hid (shapeT (nm, ns, z) = nm ++ ⟨#[32]⟩ ++ nj ++ ⟨#[32]⟩ ++ nz) := Lib.hid (by unfold shapeT; dsimp only; rw [hnj, hnz]; rfl)
        clear hsk hnj hnz q2
        have z1 : ¬ 9223372036854775807 < nm.size + 1 := by omega
        have z2 : ¬ 9223372036854775807 < nm.size + 1 + nj.size := by omega
        have z3 : ¬ 9223372036854775807 < nm.size + 1 + nj.size + 1 := by omega
        have z4 : ¬ 9223372036854775807 < nm.size + 1 + nj.size + 1 + nz.size := by omega
        go_wp2_with (first | ((with_reducible show Code.wp _ (Code.region 7 _ true) _ _ _); refine wp_region_drawn [(0, 0), (1, 0), (2, 1), (3, 0), (4, 0), (5, 1), (9, 0), (10, 1), (6, 2), (7, 0), (8, 0), (11, 2), (12, 0), (13, 2), (14, 3), (15, 0)] (by kernel_rfl) (by kernel_rfl) (by intro _ _ dq _ _ hq; cases dq <;> exact hq) ?_; replace hS := hS.mod (Mod.drew (Mod.refl _ _)); (generalize hwd : World.drew _ = wz at hS ⊢); clear hwd) | ((with_reducible show wpD _ _ _ ((_, 2) :: _) _ _); (refine D_call (f := 50) (args := ?_) rfl rfl ?_ ?_); rotate_left 1; (show (Sem.run _ (execOp _ (Oper.mk _ _ _ _ _ _)) _) = _; go_simp; rfl); obtain ⟨Fq, hFq⟩ := hS.has Rep.str.slice [.slice A1 ns.length c1]; refine (join_n _ Fq A1 ns.length c1 ns ⟨#[32]⟩ hFq rfl (by omega) (by rw [HJ.out]; omega)).mono ?_; rintro e wy ⟨rfl, hM⟩; (rw [HJ.out]); replace hS := hS.mod hM; clear hFq; refine ⟨_, rfl, hM, ?_⟩; clear hM; (first | show wpD _ _ _ _ (Act.put _ (some _) _) _ | show wpD _ _ _ _ (Act.put _ none _) _); (simp only [Act.put, List.setIfInBounds_toArray, List.set_cons_zero, List.set_cons_succ])) | ((with_reducible show wpD _ _ _ ((_, 2) :: _) _ _); (refine D_call (f := 53) (args := ?_) rfl rfl ?_ ?_); rotate_left 1; (show (Sem.run _ (execOp _ (Oper.mk _ _ _ _ _ _)) _) = _; go_simp; rfl); refine (itoa_small _ z (by omega) (by omega)).mono ?_; rintro e wy ⟨rfl, hM⟩; (rw [HZ.out]); replace hS := hS.mod hM; refine ⟨_, rfl, hM, ?_⟩; clear hM; (first | show wpD _ _ _ _ (Act.put _ (some _) _) _ | show wpD _ _ _ _ (Act.put _ none _) _); (simp only [Act.put, List.setIfInBounds_toArray, List.set_cons_zero, List.set_cons_succ])) | ((with_reducible show wpD _ _ _ ((_, 3) :: _) _ _); refine D_loud rfl rfl (f_append Rep.str (Sat.vec1 (hS.str (s := nm ++ ⟨#[32]⟩ ++ nj ++ ⟨#[32]⟩ ++ nz) (by rw [ByteArray.size_append, ByteArray.size_append, ByteArray.size_append, ByteArray.size_append, show ByteArray.size ⟨#[32]⟩ = 1 from rfl]; unfold maxLen; omega))) rfl rfl rfl rfl rfl (by decide) (by omega)) ?_; clear hS; rintro _ wx ⟨A5, c5, rfl, hS⟩; (simp only [List.set_cons_zero, List.set_cons_succ] at hS); (first | show wpD _ _ _ _ (Act.put _ (some _) _) _ | show wpD _ _ _ _ (Act.put _ none _) _); (simp only [Act.put, List.setIfInBounds_toArray, List.set_cons_zero, List.set_cons_succ])) | ((with_reducible show wpD _ _ _ [] _ _); refine D_nil ?_) | ((with_reducible show wpD _ _ _ ((_, 0) :: _) _ _); (first | (refine D_skip rfl rfl ?_; (first | show wpD _ _ _ _ (Act.put _ (some _) _) _ | show wpD _ _ _ _ (Act.put _ none _) _); (simp only [Act.put, List.setIfInBounds_toArray, List.set_cons_zero, List.set_cons_succ])) | (refine D_pure (v := ?_) rfl rfl (fun wq => ?_) ?_; rotate_left 1; (show (Sem.run _ (execOp _ (Oper.mk _ _ _ _ _ _)) _) = _; go_simp; (try go_bits); with_reducible rfl); (first | show wpD _ _ _ _ (Act.put _ (some _) _) _ | show wpD _ _ _ _ (Act.put _ none _) _); (simp only [Act.put, List.setIfInBounds_toArray, List.set_cons_zero, List.set_cons_succ])))) | ((with_reducible show wpD _ _ _ ((_, 1) :: _) _ _); (first | (refine D_skip rfl rfl ?_; (first | show wpD _ _ _ _ (Act.put _ (some _) _) _ | show wpD _ _ _ _ (Act.put _ none _) _); (simp only [Act.put, List.setIfInBounds_toArray, List.set_cons_zero, List.set_cons_succ])) | ((first | refine D_load rfl rfl (fun x hx => f_load (hS.mod hx) rfl rfl (by rfl)) ?_ | refine D_load rfl rfl (fun x hx => f_loadS (hS.mod hx) rfl rfl (by rfl)) ?_ | refine D_load rfl rfl (fun x hx => f_loadAt (hS.mod hx) rfl rfl) ?_ | refine D_load rfl rfl (fun x hx => f_loadAtS (hS.mod hx) rfl rfl (by rfl)) ?_ | refine D_load rfl rfl (fun x hx => f_loadAtF (hS.mod hx) rfl rfl (by rfl)) ?_); (first | show wpD _ _ _ _ (Act.put _ (some _) _) _ | show wpD _ _ _ _ (Act.put _ none _) _); (simp only [Act.put, List.setIfInBounds_toArray, List.set_cons_zero, List.set_cons_succ])))) | ((with_reducible show wpD _ _ _ ((_, 2) :: _) _ _); (refine D_skip rfl rfl ?_; (first | show wpD _ _ _ _ (Act.put _ (some _) _) _ | show wpD _ _ _ _ (Act.put _ none _) _); (simp only [Act.put, List.setIfInBounds_toArray, List.set_cons_zero, List.set_cons_succ]))) | ((with_reducible show wpD _ _ _ ((_, 3) :: _) _ _); (refine D_skip rfl rfl ?_; (first | show wpD _ _ _ _ (Act.put _ (some _) _) _ | show wpD _ _ _ _ (Act.put _ none _) _); (simp only [Act.put, List.setIfInBounds_toArray, List.set_cons_zero, List.set_cons_succ]))) | ((with_reducible show wpD _ _ _ ((_, 2) :: _) _ _); ((refine D_calm rfl rfl (does_buildSlice (X := ?_) (cs := ?_) (E := ?_) hS rfl ?_ ?_) ?_); rotate_left 3; (go_simp; rfl); rfl; clear hS; rintro _ wx ⟨bx, rfl, hS, hM⟩; refine ⟨hM, ?_⟩; clear hM; (first | show wpD _ _ _ _ (Act.put _ (some _) _) _ | show wpD _ _ _ _ (Act.put _ none _) _); (simp only [Act.put, List.setIfInBounds_toArray, List.set_cons_zero, List.set_cons_succ]))) | ((with_reducible show wpD _ _ _ ((_, 2) :: _) _ _); ((first | refine D_calm rfl rfl (does_alloc hS rfl (by rfl)) ?_ | refine D_calm rfl rfl (does_box hS rfl rfl (by rfl)) ?_); clear hS; rintro _ wx ⟨bx, rfl, hS, hM⟩; refine ⟨hM, ?_⟩; clear hM; (first | show wpD _ _ _ _ (Act.put _ (some _) _) _ | show wpD _ _ _ _ (Act.put _ none _) _); (simp only [Act.put, List.setIfInBounds_toArray, List.set_cons_zero, List.set_cons_succ]))) | ((with_reducible show wpD _ _ _ ((_, 3) :: _) _ _); ((first | refine D_loud rfl rfl (f_store hS rfl rfl rfl (by rfl) (by rfl)) ?_ | refine D_loud rfl rfl (f_storeS hS rfl rfl rfl (by rfl) (by rfl) (by rfl)) ?_); clear hS; rintro _ wx ⟨rfl, hS⟩; (simp only [List.set_cons_zero, List.set_cons_succ] at hS); (first | show wpD _ _ _ _ (Act.put _ (some _) _) _ | show wpD _ _ _ _ (Act.put _ none _) _); (simp only [Act.put, List.setIfInBounds_toArray, List.set_cons_zero, List.set_cons_succ]))) | ((with_reducible show wpList _ _ _ (⟨_, Op.box _ _, _, _, _, _⟩ :: _) _ _); refine Does.list (does_box hS rfl rfl (by rfl)) rfl ?_; clear hS; rintro _ wx ⟨bo, rfl, hS, _⟩; (simp only [Act.put, List.setIfInBounds_toArray, List.set_cons_zero, List.set_cons_succ])) | ((with_reducible show wpList _ _ _ (⟨_, Op.load _ _, _, _, _, _⟩ :: _) _ _); (first | refine Gives.list (f_load hS rfl rfl (by rfl)) rfl ?_ | refine Gives.list (f_loadS hS rfl rfl (by rfl)) rfl ?_ | refine Gives.list (f_loadAt hS rfl rfl) rfl ?_ | refine Gives.list (f_loadAtS hS rfl rfl (by rfl)) rfl ?_ | refine Gives.list (f_loadAtF hS rfl rfl (by rfl)) rfl ?_); (simp only [Act.put, List.setIfInBounds_toArray, List.set_cons_zero, List.set_cons_succ])) | ((with_reducible show wpList _ _ _ (⟨_, Op.store _ _ _, _, _, _, _⟩ :: _) _ _); (first | refine Does.list (f_store hS rfl rfl rfl (by rfl) (by rfl)) rfl ?_ | refine Does.list (f_storeS hS rfl rfl rfl (by rfl) (by rfl) (by rfl)) rfl ?_); clear hS; rintro _ wx ⟨rfl, hS⟩; (simp only [List.set_cons_zero, List.set_cons_succ] at hS); (simp only [Act.put, List.setIfInBounds_toArray, List.set_cons_zero, List.set_cons_succ])) | ((with_reducible show wpList _ _ _ (⟨_, Op.alloc _, _, _, _, _⟩ :: _) _ _); refine Does.list (does_alloc hS rfl (by rfl)) rfl ?_; clear hS; rintro _ wx ⟨ba, rfl, hS, _⟩; (simp only [Act.put, List.setIfInBounds_toArray, List.set_cons_zero, List.set_cons_succ])) | ((with_reducible show wpList _ _ _ (⟨_, Op.buildSlice _ _ _, _, _, _, _⟩ :: _) _ _); refine Does.list (does_buildSlice (X := ?_) (cs := ?_) (E := ?_) hS rfl ?_ ?_) rfl ?_; rotate_left 3; (go_simp; rfl); rfl; clear hS; rintro _ wx ⟨bx, rfl, hS, _⟩; (simp only [Act.put, List.setIfInBounds_toArray, List.set_cons_zero, List.set_cons_succ])))
        go_roundw
        case rel => exact ⟨k + 1, A5, c5, by go_num, rfl, hlt, by rw [← HM.out, HS.out]; exact hS.sel [3, 4] rfl (by decide)⟩
        case measure => simp [intOf]; omega
      · obtain rfl : k = l.length := by omega
        rw [List.take_length] at hS
        go_wp2_with (first | (go_at_call 50; obtain ⟨Fq, hFq⟩ := hS.has Rep.str.slice [.slice B l.length d]; refine (join_n _ Fq B l.length d (l.map shapeT) ⟨#[59, 32]⟩ hFq (List.length_map _) (by rw [List.length_map]; omega) HB.out).mono ?_; rintro e w' ⟨rfl, hM⟩; replace hS := hS.mod hM; clear hM hFq) | ((with_reducible show wpList _ _ _ (⟨_, Op.box _ _, _, _, _, _⟩ :: _) _ _); refine Does.list (does_box hS rfl rfl (by rfl)) rfl ?_; clear hS; rintro _ wx ⟨bo, rfl, hS, _⟩; (simp only [Act.put, List.setIfInBounds_toArray, List.set_cons_zero, List.set_cons_succ])) | ((with_reducible show wpList _ _ _ (⟨_, Op.load _ _, _, _, _, _⟩ :: _) _ _); (first | refine Gives.list (f_load hS rfl rfl (by rfl)) rfl ?_ | refine Gives.list (f_loadS hS rfl rfl (by rfl)) rfl ?_ | refine Gives.list (f_loadAt hS rfl rfl) rfl ?_ | refine Gives.list (f_loadAtS hS rfl rfl (by rfl)) rfl ?_ | refine Gives.list (f_loadAtF hS rfl rfl (by rfl)) rfl ?_); (simp only [Act.put, List.setIfInBounds_toArray, List.set_cons_zero, List.set_cons_succ])) | ((with_reducible show wpList _ _ _ (⟨_, Op.store _ _ _, _, _, _, _⟩ :: _) _ _); (first | refine Does.list (f_store hS rfl rfl rfl (by rfl) (by rfl)) rfl ?_ | refine Does.list (f_storeS hS rfl rfl rfl (by rfl) (by rfl) (by rfl)) rfl ?_); clear hS; rintro _ wx ⟨rfl, hS⟩; (simp only [List.set_cons_zero, List.set_cons_succ] at hS); (simp only [Act.put, List.setIfInBounds_toArray, List.set_cons_zero, List.set_cons_succ])) | ((with_reducible show wpList _ _ _ (⟨_, Op.alloc _, _, _, _, _⟩ :: _) _ _); refine Does.list (does_alloc hS rfl (by rfl)) rfl ?_; clear hS; rintro _ wx ⟨ba, rfl, hS, _⟩; (simp only [Act.put, List.setIfInBounds_toArray, List.set_cons_zero, List.set_cons_succ])) | ((with_reducible show wpList _ _ _ (⟨_, Op.buildSlice _ _ _, _, _, _, _⟩ :: _) _ _); refine Does.list (does_buildSlice (X := ?_) (cs := ?_) (E := ?_) hS rfl ?_ ?_) rfl ?_; rotate_left 3; (go_simp; rfl); rfl; clear hS; rintro _ wx ⟨bx, rfl, hS, _⟩; (simp only [Act.put, List.setIfInBounds_toArray, List.set_cons_zero, List.set_cons_succ])))
        go_ret
        exact ⟨by rw [H.out]; rfl, hS.mod0⟩
def tailB (xs : List ByteArray) : ByteArray := bOf (Lib.joinTail spB.data.toList (xs.map (·.data.toList)))
theorem tailB_nil : tailB [] = bOf [] := rfl
theorem tailB_snoc (xs : List ByteArray) (y : ByteArray) : tailB (xs ++ [y]) = tailB xs ++ (spB ++ y) := by
  unfold tailB
  rw [List.map_append, List.map_cons, List.map_nil, joinTail_snoc, bOf_app, bOf_app, bOf_of, bOf_of]
theorem tailB_ne {xs : List ByteArray} (h : xs ≠ []) : tailB xs = spB ++ bJoin xs spB := by
  cases xs with
  | nil => exact absurd rfl h
  | cons x r =>
    unfold tailB bJoin
    rw [List.map_cons, Lib.join_cons, show Lib.joinTail spB.data.toList (x.data.toList :: r.map (·.data.toList)) = spB.data.toList ++ (x.data.toList ++ Lib.joinTail spB.data.toList (r.map (·.data.toList))) by simp [Lib.joinTail], bOf_app, bOf_of]
theorem app_bOf_nil (x : ByteArray) : x ++ bOf [] = x := by
  conv => lhs; rw [← bOf_of x, ← bOf_app, List.append_nil]
  exact bOf_of x
set_option maxHeartbeats 4000000 in
set_option maxRecDepth 8000 in
theorem spec_ShapeText (w : World) (F : List Nat) (A : Option Addr) (c : Nat) (l : List ShapeD) (hx : SliceHas rShape w F [.slice A l.length c] l) :
    Calls Tryd.prog 22 #[.slice A l.length c] w fun e w' => e = .returned (.string (shTxt l)) ∧ Mod [] w w' := by
  have hS : Sat w w [.ro rShape.slice [.slice A l.length c] l] := (Sat.nil w).arg hx
  clear hx
  cases hok : shapesOk l
  · have Hok := Lib.hid hok
    have H := Lib.hid (shTxt_f hok)
    clear hok
    go_enter Tryd.func22, Tryd.ntmps22
    go_wp2_with (first | ((with_reducible show wpList _ _ _ (⟨_, Op.box _ _, _, _, _, _⟩ :: _) _ _); refine Does.list (does_box hS rfl rfl (by rfl)) rfl ?_; clear hS; rintro _ wx ⟨bo, rfl, hS, _⟩; (simp only [Act.put, List.setIfInBounds_toArray, List.set_cons_zero, List.set_cons_succ])) | ((with_reducible show wpList _ _ _ (⟨_, Op.load _ _, _, _, _, _⟩ :: _) _ _); (first | refine Gives.list (f_load hS rfl rfl (by rfl)) rfl ?_ | refine Gives.list (f_loadS hS rfl rfl (by rfl)) rfl ?_ | refine Gives.list (f_loadAt hS rfl rfl) rfl ?_ | refine Gives.list (f_loadAtS hS rfl rfl (by rfl)) rfl ?_ | refine Gives.list (f_loadAtF hS rfl rfl (by rfl)) rfl ?_); (simp only [Act.put, List.setIfInBounds_toArray, List.set_cons_zero, List.set_cons_succ])) | ((with_reducible show wpList _ _ _ (⟨_, Op.store _ _ _, _, _, _, _⟩ :: _) _ _); (first | refine Does.list (f_store hS rfl rfl rfl (by rfl) (by rfl)) rfl ?_ | refine Does.list (f_storeS hS rfl rfl rfl (by rfl) (by rfl) (by rfl)) rfl ?_); clear hS; rintro _ wx ⟨rfl, hS⟩; (simp only [List.set_cons_zero, List.set_cons_succ] at hS); (simp only [Act.put, List.setIfInBounds_toArray, List.set_cons_zero, List.set_cons_succ])) | ((with_reducible show wpList _ _ _ (⟨_, Op.alloc _, _, _, _, _⟩ :: _) _ _); refine Does.list (does_alloc hS rfl (by rfl)) rfl ?_; clear hS; rintro _ wx ⟨ba, rfl, hS, _⟩; (simp only [Act.put, List.setIfInBounds_toArray, List.set_cons_zero, List.set_cons_succ])) | ((with_reducible show wpList _ _ _ (⟨_, Op.buildSlice _ _ _, _, _, _, _⟩ :: _) _ _); refine Does.list (does_buildSlice (X := ?_) (cs := ?_) (E := ?_) hS rfl ?_ ?_) rfl ?_; rotate_left 3; (go_simp; rfl); rfl; clear hS; rintro _ wx ⟨bx, rfl, hS, _⟩; (simp only [Act.put, List.setIfInBounds_toArray, List.set_cons_zero, List.set_cons_succ])))
    go_loopw [3, 4] (fun s i wr => i = .int .i64 0 ∧ s = .string ⟨#[]⟩ ∧ Sat w wr [.ro rShape.slice [.slice A l.length c] l]) (fun _ i _ => 0)
    case atStart => exact ⟨rfl, rfl, hS⟩
    case round =>
      clear hS
      obtain ⟨rfl, rfl, hS⟩ := hrel
      by_cases hlt : 0 < l.length
      · have hltI : (0 : Int) < (l.length : Int) := by omega
        go_wp2_with (first | (go_at_call 32; obtain ⟨Fq, hFq⟩ := hS.has rShape.slice [.slice A l.length c]; refine (spec_ShapesValid' _ Fq _ l hFq).mono ?_; rintro e w' ⟨rfl, hM⟩; replace hS := hS.mod hM; clear hM hFq; (simp only [Hok.out])) | ((with_reducible show wpList _ _ _ (⟨_, Op.box _ _, _, _, _, _⟩ :: _) _ _); refine Does.list (does_box hS rfl rfl (by rfl)) rfl ?_; clear hS; rintro _ wx ⟨bo, rfl, hS, _⟩; (simp only [Act.put, List.setIfInBounds_toArray, List.set_cons_zero, List.set_cons_succ])) | ((with_reducible show wpList _ _ _ (⟨_, Op.load _ _, _, _, _, _⟩ :: _) _ _); (first | refine Gives.list (f_load hS rfl rfl (by rfl)) rfl ?_ | refine Gives.list (f_loadS hS rfl rfl (by rfl)) rfl ?_ | refine Gives.list (f_loadAt hS rfl rfl) rfl ?_ | refine Gives.list (f_loadAtS hS rfl rfl (by rfl)) rfl ?_ | refine Gives.list (f_loadAtF hS rfl rfl (by rfl)) rfl ?_); (simp only [Act.put, List.setIfInBounds_toArray, List.set_cons_zero, List.set_cons_succ])) | ((with_reducible show wpList _ _ _ (⟨_, Op.store _ _ _, _, _, _, _⟩ :: _) _ _); (first | refine Does.list (f_store hS rfl rfl rfl (by rfl) (by rfl)) rfl ?_ | refine Does.list (f_storeS hS rfl rfl rfl (by rfl) (by rfl) (by rfl)) rfl ?_); clear hS; rintro _ wx ⟨rfl, hS⟩; (simp only [List.set_cons_zero, List.set_cons_succ] at hS); (simp only [Act.put, List.setIfInBounds_toArray, List.set_cons_zero, List.set_cons_succ])) | ((with_reducible show wpList _ _ _ (⟨_, Op.alloc _, _, _, _, _⟩ :: _) _ _); refine Does.list (does_alloc hS rfl (by rfl)) rfl ?_; clear hS; rintro _ wx ⟨ba, rfl, hS, _⟩; (simp only [Act.put, List.setIfInBounds_toArray, List.set_cons_zero, List.set_cons_succ])) | ((with_reducible show wpList _ _ _ (⟨_, Op.buildSlice _ _ _, _, _, _, _⟩ :: _) _ _); refine Does.list (does_buildSlice (X := ?_) (cs := ?_) (E := ?_) hS rfl ?_ ?_) rfl ?_; rotate_left 3; (go_simp; rfl); rfl; clear hS; rintro _ wx ⟨bx, rfl, hS, _⟩; (simp only [Act.put, List.setIfInBounds_toArray, List.set_cons_zero, List.set_cons_succ])))
        go_ret
        exact ⟨by rw [H.out]; rfl, hS.mod0⟩
      · have hltI : ¬ (0 : Int) < (l.length : Int) := by omega
        have hd : decide ((0 : Int) < (l.length : Int)) = false := decide_eq_false hltI
        go_wp2_with (first | (go_at_call 32; obtain ⟨Fq, hFq⟩ := hS.has rShape.slice [.slice A l.length c]; refine (spec_ShapesValid' _ Fq _ l hFq).mono ?_; rintro e w' ⟨rfl, hM⟩; replace hS := hS.mod hM; clear hM hFq; (simp only [Hok.out])) | ((with_reducible show wpList _ _ _ (⟨_, Op.box _ _, _, _, _, _⟩ :: _) _ _); refine Does.list (does_box hS rfl rfl (by rfl)) rfl ?_; clear hS; rintro _ wx ⟨bo, rfl, hS, _⟩; (simp only [Act.put, List.setIfInBounds_toArray, List.set_cons_zero, List.set_cons_succ])) | ((with_reducible show wpList _ _ _ (⟨_, Op.load _ _, _, _, _, _⟩ :: _) _ _); (first | refine Gives.list (f_load hS rfl rfl (by rfl)) rfl ?_ | refine Gives.list (f_loadS hS rfl rfl (by rfl)) rfl ?_ | refine Gives.list (f_loadAt hS rfl rfl) rfl ?_ | refine Gives.list (f_loadAtS hS rfl rfl (by rfl)) rfl ?_ | refine Gives.list (f_loadAtF hS rfl rfl (by rfl)) rfl ?_); (simp only [Act.put, List.setIfInBounds_toArray, List.set_cons_zero, List.set_cons_succ])) | ((with_reducible show wpList _ _ _ (⟨_, Op.store _ _ _, _, _, _, _⟩ :: _) _ _); (first | refine Does.list (f_store hS rfl rfl rfl (by rfl) (by rfl)) rfl ?_ | refine Does.list (f_storeS hS rfl rfl rfl (by rfl) (by rfl) (by rfl)) rfl ?_); clear hS; rintro _ wx ⟨rfl, hS⟩; (simp only [List.set_cons_zero, List.set_cons_succ] at hS); (simp only [Act.put, List.setIfInBounds_toArray, List.set_cons_zero, List.set_cons_succ])) | ((with_reducible show wpList _ _ _ (⟨_, Op.alloc _, _, _, _, _⟩ :: _) _ _); refine Does.list (does_alloc hS rfl (by rfl)) rfl ?_; clear hS; rintro _ wx ⟨ba, rfl, hS, _⟩; (simp only [Act.put, List.setIfInBounds_toArray, List.set_cons_zero, List.set_cons_succ])) | ((with_reducible show wpList _ _ _ (⟨_, Op.buildSlice _ _ _, _, _, _, _⟩ :: _) _ _); refine Does.list (does_buildSlice (X := ?_) (cs := ?_) (E := ?_) hS rfl ?_ ?_) rfl ?_; rotate_left 3; (go_simp; rfl); rfl; clear hS; rintro _ wx ⟨bx, rfl, hS, _⟩; (simp only [Act.put, List.setIfInBounds_toArray, List.set_cons_zero, List.set_cons_succ])))
        go_ret
        exact ⟨by rw [H.out]; rfl, hS.mod0⟩
  · have Hok := Lib.hid hok
    have H := Lib.hid (shTxt_t hok)
    have h4 := shapesOk_len hok
    clear hok
    go_enter Tryd.func22, Tryd.ntmps22
    go_wp2_with (first | ((with_reducible show wpList _ _ _ (⟨_, Op.box _ _, _, _, _, _⟩ :: _) _ _); refine Does.list (does_box hS rfl rfl (by rfl)) rfl ?_; clear hS; rintro _ wx ⟨bo, rfl, hS, _⟩; (simp only [Act.put, List.setIfInBounds_toArray, List.set_cons_zero, List.set_cons_succ])) | ((with_reducible show wpList _ _ _ (⟨_, Op.load _ _, _, _, _, _⟩ :: _) _ _); (first | refine Gives.list (f_load hS rfl rfl (by rfl)) rfl ?_ | refine Gives.list (f_loadS hS rfl rfl (by rfl)) rfl ?_ | refine Gives.list (f_loadAt hS rfl rfl) rfl ?_ | refine Gives.list (f_loadAtS hS rfl rfl (by rfl)) rfl ?_ | refine Gives.list (f_loadAtF hS rfl rfl (by rfl)) rfl ?_); (simp only [Act.put, List.setIfInBounds_toArray, List.set_cons_zero, List.set_cons_succ])) | ((with_reducible show wpList _ _ _ (⟨_, Op.store _ _ _, _, _, _, _⟩ :: _) _ _); (first | refine Does.list (f_store hS rfl rfl rfl (by rfl) (by rfl)) rfl ?_ | refine Does.list (f_storeS hS rfl rfl rfl (by rfl) (by rfl) (by rfl)) rfl ?_); clear hS; rintro _ wx ⟨rfl, hS⟩; (simp only [List.set_cons_zero, List.set_cons_succ] at hS); (simp only [Act.put, List.setIfInBounds_toArray, List.set_cons_zero, List.set_cons_succ])) | ((with_reducible show wpList _ _ _ (⟨_, Op.alloc _, _, _, _, _⟩ :: _) _ _); refine Does.list (does_alloc hS rfl (by rfl)) rfl ?_; clear hS; rintro _ wx ⟨ba, rfl, hS, _⟩; (simp only [Act.put, List.setIfInBounds_toArray, List.set_cons_zero, List.set_cons_succ])) | ((with_reducible show wpList _ _ _ (⟨_, Op.buildSlice _ _ _, _, _, _, _⟩ :: _) _ _); refine Does.list (does_buildSlice (X := ?_) (cs := ?_) (E := ?_) hS rfl ?_ ?_) rfl ?_; rotate_left 3; (go_simp; rfl); rfl; clear hS; rintro _ wx ⟨bx, rfl, hS, _⟩; (simp only [Act.put, List.setIfInBounds_toArray, List.set_cons_zero, List.set_cons_succ])))
    go_loopw [3, 4] (fun s i wr => ∃ (k : Nat) (o : ByteArray), i = .int .i64 k ∧ s = .string o ∧ k ≤ l.length ∧ Hid (o = bJoin ((l.take k).map shapeT) smB) ∧ o.size ≤ 80 * k ∧ Sat w wr [.ro rShape.slice [.slice A l.length c] l]) (fun _ i _ => l.length - (intOf i).toNat)
    case atStart => exact ⟨0, _, rfl, rfl, Nat.zero_le _, Lib.hid rfl, Nat.zero_le _, hS⟩
    case round =>
      clear hS
      obtain ⟨k, o, rfl, rfl, hk, HO, hos, hS⟩ := hrel
      by_cases hlt : k < l.length
      · have hltI : (k : Int) < (l.length : Int) := by omega
        obtain ⟨s, hsk⟩ : ∃ s, l[k]? = some s := ⟨_, get_some hlt⟩
        obtain ⟨q1, q2, q3, q4⟩ := shapesOk_at Hok.out hsk
        obtain ⟨ad, A1, c1, rfl, j0, j1, hS⟩ := hS.elShape A l.length c hsk
        have HM := Lib.hid (map_succ (f := shapeT) hsk)
        obtain ⟨nm, ns, z⟩ := s
        dsimp only at hS q1 q2 q3 q4 j0 j1
        have hn6 := (namesOk_len q2).2
        have HSZ : Hid (∀ x ∈ ns, x.size ≤ 8) := Lib.hid (fun x hx => (namesOk_size q2 x hx).2)
        have HNE : Hid (ns ≠ []) := Lib.hid (fun e => by have := (namesOk_len q2).1; rw [e] at this; simp at this)
        obtain ⟨nj, hnj⟩ : ∃ x, bJoin ns spB = x := ⟨_, rfl⟩
        obtain ⟨nz, hnz⟩ : ∃ x, numT z = x := ⟨_, rfl⟩
        have hz7 : nz.size ≤ 7 := by rw [← hnz]; exact numT_size z
        have HJ := Lib.hid hnj
        have HZ := Lib.hid hnz
        have HS : Hid (shapeT (nm, ns, z) = nm ++ spB ++ nj ++ spB ++ nz) := Lib.hid (by unfold shapeT; dsimp only; rw [hnj, hnz])
        clear hsk hnj hnz q2
        rcases Nat.eq_zero_or_pos k with hk0 | hk0
        · have hkI : ¬ (0 : Int) < (k : Int) := by omega
          obtain ⟨b, hbo⟩ : ∃ b, o = b := ⟨_, rfl⟩
          have HBase : Hid (b ++ shapeT (nm, ns, z) = bJoin ((l.take (k + 1)).map shapeT) smB) := Lib.hid (by
            have h := HO.out
            rw [hk0, List.take_zero, List.map_nil, bJoin_nil] at h
            rw [← HM.out, hk0, List.take_zero, List.map_nil, List.nil_append, bJoin_one, ← hbo, h, bOf_nil_app])
          subst hbo
          clear hk0
          have z1 : ¬ 9223372036854775807 < o.size + nm.size := by omega
          obtain ⟨b, hb⟩ : ∃ b, b = o := ⟨_, rfl⟩
          rw [← hb] at HBase
          have hbz : b.size ≤ 80 * k + 2 := by rw [hb]; omega
          have HB0 := Lib.hid hb
          clear hb
          go_wp2_with (first | (go_at_call 32; obtain ⟨Fq, hFq⟩ := hS.has rShape.slice [.slice (some ad) l.length c]; refine (spec_ShapesValid' _ Fq _ l hFq).mono ?_; rintro e w' ⟨rfl, hM⟩; replace hS := hS.mod hM; clear hM hFq; (simp only [Hok.out])) | ((with_reducible show wpList _ _ _ (⟨_, Op.box _ _, _, _, _, _⟩ :: _) _ _); refine Does.list (does_box hS rfl rfl (by rfl)) rfl ?_; clear hS; rintro _ wx ⟨bo, rfl, hS, _⟩; (simp only [Act.put, List.setIfInBounds_toArray, List.set_cons_zero, List.set_cons_succ])) | ((with_reducible show wpList _ _ _ (⟨_, Op.load _ _, _, _, _, _⟩ :: _) _ _); (first | refine Gives.list (f_load hS rfl rfl (by rfl)) rfl ?_ | refine Gives.list (f_loadS hS rfl rfl (by rfl)) rfl ?_ | refine Gives.list (f_loadAt hS rfl rfl) rfl ?_ | refine Gives.list (f_loadAtS hS rfl rfl (by rfl)) rfl ?_ | refine Gives.list (f_loadAtF hS rfl rfl (by rfl)) rfl ?_); (simp only [Act.put, List.setIfInBounds_toArray, List.set_cons_zero, List.set_cons_succ])) | ((with_reducible show wpList _ _ _ (⟨_, Op.store _ _ _, _, _, _, _⟩ :: _) _ _); (first | refine Does.list (f_store hS rfl rfl rfl (by rfl) (by rfl)) rfl ?_ | refine Does.list (f_storeS hS rfl rfl rfl (by rfl) (by rfl) (by rfl)) rfl ?_); clear hS; rintro _ wx ⟨rfl, hS⟩; (simp only [List.set_cons_zero, List.set_cons_succ] at hS); (simp only [Act.put, List.setIfInBounds_toArray, List.set_cons_zero, List.set_cons_succ])) | ((with_reducible show wpList _ _ _ (⟨_, Op.alloc _, _, _, _, _⟩ :: _) _ _); refine Does.list (does_alloc hS rfl (by rfl)) rfl ?_; clear hS; rintro _ wx ⟨ba, rfl, hS, _⟩; (simp only [Act.put, List.setIfInBounds_toArray, List.set_cons_zero, List.set_cons_succ])) | ((with_reducible show wpList _ _ _ (⟨_, Op.buildSlice _ _ _, _, _, _, _⟩ :: _) _ _); refine Does.list (does_buildSlice (X := ?_) (cs := ?_) (E := ?_) hS rfl ?_ ?_) rfl ?_; rotate_left 3; (go_simp; rfl); rfl; clear hS; rintro _ wx ⟨bx, rfl, hS, _⟩; (simp only [Act.put, List.setIfInBounds_toArray, List.set_cons_zero, List.set_cons_succ])))
          replace hS : Sat w _ [.at (ad.add (k * 3)) [.string nm, .slice A1 ns.length c1, .int .i64 z], .ro Rep.str.slice [.slice A1 ns.length c1] ns, .ro rShape.slice [.slice (some ad) l.length c] l] := hS
          go_loopw [3, 5] (fun s i wr => ∃ (j : Nat) (o2 : ByteArray), i = .int .i64 j ∧ s = .string o2 ∧ j ≤ ns.length ∧ Hid (o2 = b ++ nm ++ tailB (ns.take j)) ∧ o2.size ≤ b.size + 8 + 9 * j ∧ Sat w wr [.at (ad.add (k * 3)) [.string nm, .slice A1 ns.length c1, .int .i64 z], .ro Rep.str.slice [.slice A1 ns.length c1] ns, .ro rShape.slice [.slice (some ad) l.length c] l]) (fun _ i _ => ns.length - (intOf i).toNat)
          case atStart => exact ⟨0, _, rfl, rfl, Nat.zero_le _, Lib.hid (by rw [List.take_zero, tailB_nil, app_bOf_nil, HB0.out]), by rw [ByteArray.size_append, HB0.out]; omega, hS⟩
          case round =>
            clear hS
            obtain ⟨j, o2, rfl, rfl, hj, HO2, hos2, hS⟩ := hrel
            by_cases hjl : j < ns.length
            · have hjI : (j : Int) < (ns.length : Int) := by omega
              obtain ⟨x, hxj⟩ : ∃ x, ns[j]? = some x := ⟨_, get_some hjl⟩
              have hx8 := HSZ.out x (List.mem_of_getElem? hxj)
              have HT2 : Hid (ns.take j ++ [x] = ns.take (j + 1)) := Lib.hid (by rw [List.take_add_one, hxj]; rfl)
              obtain ⟨ad3, rfl, _, hS⟩ := hS.elStr A1 ns.length c1 hxj
              clear hxj
              have y1 : ¬ 9223372036854775807 < o2.size + 1 := by omega
              have y2 : ¬ 9223372036854775807 < o2.size + 1 + x.size := by omega
              go_wp2_with (first | ((with_reducible show wpList _ _ _ (⟨_, Op.box _ _, _, _, _, _⟩ :: _) _ _); refine Does.list (does_box hS rfl rfl (by rfl)) rfl ?_; clear hS; rintro _ wx ⟨bo, rfl, hS, _⟩; (simp only [Act.put, List.setIfInBounds_toArray, List.set_cons_zero, List.set_cons_succ])) | ((with_reducible show wpList _ _ _ (⟨_, Op.load _ _, _, _, _, _⟩ :: _) _ _); (first | refine Gives.list (f_load hS rfl rfl (by rfl)) rfl ?_ | refine Gives.list (f_loadS hS rfl rfl (by rfl)) rfl ?_ | refine Gives.list (f_loadAt hS rfl rfl) rfl ?_ | refine Gives.list (f_loadAtS hS rfl rfl (by rfl)) rfl ?_ | refine Gives.list (f_loadAtF hS rfl rfl (by rfl)) rfl ?_); (simp only [Act.put, List.setIfInBounds_toArray, List.set_cons_zero, List.set_cons_succ])) | ((with_reducible show wpList _ _ _ (⟨_, Op.store _ _ _, _, _, _, _⟩ :: _) _ _); (first | refine Does.list (f_store hS rfl rfl rfl (by rfl) (by rfl)) rfl ?_ | refine Does.list (f_storeS hS rfl rfl rfl (by rfl) (by rfl) (by rfl)) rfl ?_); clear hS; rintro _ wx ⟨rfl, hS⟩; (simp only [List.set_cons_zero, List.set_cons_succ] at hS); (simp only [Act.put, List.setIfInBounds_toArray, List.set_cons_zero, List.set_cons_succ])) | ((with_reducible show wpList _ _ _ (⟨_, Op.alloc _, _, _, _, _⟩ :: _) _ _); refine Does.list (does_alloc hS rfl (by rfl)) rfl ?_; clear hS; rintro _ wx ⟨ba, rfl, hS, _⟩; (simp only [Act.put, List.setIfInBounds_toArray, List.set_cons_zero, List.set_cons_succ])) | ((with_reducible show wpList _ _ _ (⟨_, Op.buildSlice _ _ _, _, _, _, _⟩ :: _) _ _); refine Does.list (does_buildSlice (X := ?_) (cs := ?_) (E := ?_) hS rfl ?_ ?_) rfl ?_; rotate_left 3; (go_simp; rfl); rfl; clear hS; rintro _ wx ⟨bx, rfl, hS, _⟩; (simp only [Act.put, List.setIfInBounds_toArray, List.set_cons_zero, List.set_cons_succ])))
              go_roundw
              case rel => exact ⟨j + 1, _, by go_num, rfl, hjl, Lib.hid (by rw [← HT2.out, tailB_snoc, HO2.out]; simp only [ByteArray.append_assoc]; rfl), by rw [ByteArray.size_append, ByteArray.size_append, show ByteArray.size ⟨#[32]⟩ = 1 from rfl]; omega, hS.sel [1, 2, 3] rfl (by decide)⟩
              case measure => simp [intOf]; omega
            · obtain rfl : j = ns.length := by omega
              have HE : Hid (o2 ++ ⟨#[32]⟩ ++ nz = bJoin ((l.take (k + 1)).map shapeT) smB) := Lib.hid (by
                have h := HO2.out
                rw [List.take_length, tailB_ne HNE.out, HJ.out] at h
                rw [← HBase.out, HS.out, h]
                simp only [ByteArray.append_assoc]
                rfl)
              have y1 : ¬ 9223372036854775807 < o2.size + 1 := by omega
              have y2 : ¬ 9223372036854775807 < o2.size + 1 + nz.size := by omega
              go_wp2_with (first | (go_at_call 47; refine (spec_NumberText _ z).mono ?_; rintro e w' ⟨rfl, hM⟩; (rw [HZ.out]); replace hS := hS.mod hM; clear hM) | ((with_reducible show wpList _ _ _ (⟨_, Op.box _ _, _, _, _, _⟩ :: _) _ _); refine Does.list (does_box hS rfl rfl (by rfl)) rfl ?_; clear hS; rintro _ wx ⟨bo, rfl, hS, _⟩; (simp only [Act.put, List.setIfInBounds_toArray, List.set_cons_zero, List.set_cons_succ])) | ((with_reducible show wpList _ _ _ (⟨_, Op.load _ _, _, _, _, _⟩ :: _) _ _); (first | refine Gives.list (f_load hS rfl rfl (by rfl)) rfl ?_ | refine Gives.list (f_loadS hS rfl rfl (by rfl)) rfl ?_ | refine Gives.list (f_loadAt hS rfl rfl) rfl ?_ | refine Gives.list (f_loadAtS hS rfl rfl (by rfl)) rfl ?_ | refine Gives.list (f_loadAtF hS rfl rfl (by rfl)) rfl ?_); (simp only [Act.put, List.setIfInBounds_toArray, List.set_cons_zero, List.set_cons_succ])) | ((with_reducible show wpList _ _ _ (⟨_, Op.store _ _ _, _, _, _, _⟩ :: _) _ _); (first | refine Does.list (f_store hS rfl rfl rfl (by rfl) (by rfl)) rfl ?_ | refine Does.list (f_storeS hS rfl rfl rfl (by rfl) (by rfl) (by rfl)) rfl ?_); clear hS; rintro _ wx ⟨rfl, hS⟩; (simp only [List.set_cons_zero, List.set_cons_succ] at hS); (simp only [Act.put, List.setIfInBounds_toArray, List.set_cons_zero, List.set_cons_succ])) | ((with_reducible show wpList _ _ _ (⟨_, Op.alloc _, _, _, _, _⟩ :: _) _ _); refine Does.list (does_alloc hS rfl (by rfl)) rfl ?_; clear hS; rintro _ wx ⟨ba, rfl, hS, _⟩; (simp only [Act.put, List.setIfInBounds_toArray, List.set_cons_zero, List.set_cons_succ])) | ((with_reducible show wpList _ _ _ (⟨_, Op.buildSlice _ _ _, _, _, _, _⟩ :: _) _ _); refine Does.list (does_buildSlice (X := ?_) (cs := ?_) (E := ?_) hS rfl ?_ ?_) rfl ?_; rotate_left 3; (go_simp; rfl); rfl; clear hS; rintro _ wx ⟨bx, rfl, hS, _⟩; (simp only [Act.put, List.setIfInBounds_toArray, List.set_cons_zero, List.set_cons_succ])))
              go_roundw
              case rel => exact ⟨k + 1, _, by go_num, rfl, hlt, Lib.hid (by exact HE.out), by rw [ByteArray.size_append, ByteArray.size_append, show ByteArray.size ⟨#[32]⟩ = 1 from rfl]; omega, hS.sel [2] rfl (by decide)⟩
              case measure => simp [intOf]; omega
        · have hkI : (0 : Int) < (k : Int) := by omega
          have HBase0 : Hid (o ++ smB ++ shapeT (nm, ns, z) = bJoin ((l.take (k + 1)).map shapeT) smB) := Lib.hid (by
            rw [← HM.out, HO.out, bJoin_snoc _ _ (take_ne hk0 hlt)])
          have z0 : ¬ 9223372036854775807 < o.size + 2 := by omega
          have z1 : ¬ 9223372036854775807 < o.size + 2 + nm.size := by omega
          obtain ⟨b, hb⟩ : ∃ b, b = o ++ smB := ⟨_, rfl⟩
          have HBase : Hid (b ++ shapeT (nm, ns, z) = bJoin ((l.take (k + 1)).map shapeT) smB) := Lib.hid (by rw [hb]; exact HBase0.out)
          have hbz : b.size ≤ 80 * k + 2 := by rw [hb, ByteArray.size_append, show smB.size = 2 from rfl]; omega
          have HB0 := Lib.hid hb
          have hbz2 : b.size = o.size + 2 := by rw [hb, ByteArray.size_append]; rfl
          have HZ2 := Lib.hid hbz2
          clear hb hbz2 HBase0
          go_wp2_with (first | (go_at_call 32; obtain ⟨Fq, hFq⟩ := hS.has rShape.slice [.slice (some ad) l.length c]; refine (spec_ShapesValid' _ Fq _ l hFq).mono ?_; rintro e w' ⟨rfl, hM⟩; replace hS := hS.mod hM; clear hM hFq; (simp only [Hok.out])) | ((with_reducible show wpList _ _ _ (⟨_, Op.box _ _, _, _, _, _⟩ :: _) _ _); refine Does.list (does_box hS rfl rfl (by rfl)) rfl ?_; clear hS; rintro _ wx ⟨bo, rfl, hS, _⟩; (simp only [Act.put, List.setIfInBounds_toArray, List.set_cons_zero, List.set_cons_succ])) | ((with_reducible show wpList _ _ _ (⟨_, Op.load _ _, _, _, _, _⟩ :: _) _ _); (first | refine Gives.list (f_load hS rfl rfl (by rfl)) rfl ?_ | refine Gives.list (f_loadS hS rfl rfl (by rfl)) rfl ?_ | refine Gives.list (f_loadAt hS rfl rfl) rfl ?_ | refine Gives.list (f_loadAtS hS rfl rfl (by rfl)) rfl ?_ | refine Gives.list (f_loadAtF hS rfl rfl (by rfl)) rfl ?_); (simp only [Act.put, List.setIfInBounds_toArray, List.set_cons_zero, List.set_cons_succ])) | ((with_reducible show wpList _ _ _ (⟨_, Op.store _ _ _, _, _, _, _⟩ :: _) _ _); (first | refine Does.list (f_store hS rfl rfl rfl (by rfl) (by rfl)) rfl ?_ | refine Does.list (f_storeS hS rfl rfl rfl (by rfl) (by rfl) (by rfl)) rfl ?_); clear hS; rintro _ wx ⟨rfl, hS⟩; (simp only [List.set_cons_zero, List.set_cons_succ] at hS); (simp only [Act.put, List.setIfInBounds_toArray, List.set_cons_zero, List.set_cons_succ])) | ((with_reducible show wpList _ _ _ (⟨_, Op.alloc _, _, _, _, _⟩ :: _) _ _); refine Does.list (does_alloc hS rfl (by rfl)) rfl ?_; clear hS; rintro _ wx ⟨ba, rfl, hS, _⟩; (simp only [Act.put, List.setIfInBounds_toArray, List.set_cons_zero, List.set_cons_succ])) | ((with_reducible show wpList _ _ _ (⟨_, Op.buildSlice _ _ _, _, _, _, _⟩ :: _) _ _); refine Does.list (does_buildSlice (X := ?_) (cs := ?_) (E := ?_) hS rfl ?_ ?_) rfl ?_; rotate_left 3; (go_simp; rfl); rfl; clear hS; rintro _ wx ⟨bx, rfl, hS, _⟩; (simp only [Act.put, List.setIfInBounds_toArray, List.set_cons_zero, List.set_cons_succ])))
          replace hS : Sat w _ [.at (ad.add (k * 3)) [.string nm, .slice A1 ns.length c1, .int .i64 z], .ro Rep.str.slice [.slice A1 ns.length c1] ns, .ro rShape.slice [.slice (some ad) l.length c] l] := hS
          go_loopw [3, 5] (fun s i wr => ∃ (j : Nat) (o2 : ByteArray), i = .int .i64 j ∧ s = .string o2 ∧ j ≤ ns.length ∧ Hid (o2 = b ++ nm ++ tailB (ns.take j)) ∧ o2.size ≤ b.size + 8 + 9 * j ∧ Sat w wr [.at (ad.add (k * 3)) [.string nm, .slice A1 ns.length c1, .int .i64 z], .ro Rep.str.slice [.slice A1 ns.length c1] ns, .ro rShape.slice [.slice (some ad) l.length c] l]) (fun _ i _ => ns.length - (intOf i).toNat)
          case atStart => exact ⟨0, _, rfl, rfl, Nat.zero_le _, Lib.hid (by rw [List.take_zero, tailB_nil, app_bOf_nil, HB0.out]; rfl), by rw [ByteArray.size_append, ByteArray.size_append, show ByteArray.size ⟨#[59, 32]⟩ = 2 from rfl]; rw [HZ2.out]; omega, hS⟩
          case round =>
            clear hS
            obtain ⟨j, o2, rfl, rfl, hj, HO2, hos2, hS⟩ := hrel
            by_cases hjl : j < ns.length
            · have hjI : (j : Int) < (ns.length : Int) := by omega
              obtain ⟨x, hxj⟩ : ∃ x, ns[j]? = some x := ⟨_, get_some hjl⟩
              have hx8 := HSZ.out x (List.mem_of_getElem? hxj)
              have HT2 : Hid (ns.take j ++ [x] = ns.take (j + 1)) := Lib.hid (by rw [List.take_add_one, hxj]; rfl)
              obtain ⟨ad3, rfl, _, hS⟩ := hS.elStr A1 ns.length c1 hxj
              clear hxj
              have y1 : ¬ 9223372036854775807 < o2.size + 1 := by omega
              have y2 : ¬ 9223372036854775807 < o2.size + 1 + x.size := by omega
              go_wp2_with (first | ((with_reducible show wpList _ _ _ (⟨_, Op.box _ _, _, _, _, _⟩ :: _) _ _); refine Does.list (does_box hS rfl rfl (by rfl)) rfl ?_; clear hS; rintro _ wx ⟨bo, rfl, hS, _⟩; (simp only [Act.put, List.setIfInBounds_toArray, List.set_cons_zero, List.set_cons_succ])) | ((with_reducible show wpList _ _ _ (⟨_, Op.load _ _, _, _, _, _⟩ :: _) _ _); (first | refine Gives.list (f_load hS rfl rfl (by rfl)) rfl ?_ | refine Gives.list (f_loadS hS rfl rfl (by rfl)) rfl ?_ | refine Gives.list (f_loadAt hS rfl rfl) rfl ?_ | refine Gives.list (f_loadAtS hS rfl rfl (by rfl)) rfl ?_ | refine Gives.list (f_loadAtF hS rfl rfl (by rfl)) rfl ?_); (simp only [Act.put, List.setIfInBounds_toArray, List.set_cons_zero, List.set_cons_succ])) | ((with_reducible show wpList _ _ _ (⟨_, Op.store _ _ _, _, _, _, _⟩ :: _) _ _); (first | refine Does.list (f_store hS rfl rfl rfl (by rfl) (by rfl)) rfl ?_ | refine Does.list (f_storeS hS rfl rfl rfl (by rfl) (by rfl) (by rfl)) rfl ?_); clear hS; rintro _ wx ⟨rfl, hS⟩; (simp only [List.set_cons_zero, List.set_cons_succ] at hS); (simp only [Act.put, List.setIfInBounds_toArray, List.set_cons_zero, List.set_cons_succ])) | ((with_reducible show wpList _ _ _ (⟨_, Op.alloc _, _, _, _, _⟩ :: _) _ _); refine Does.list (does_alloc hS rfl (by rfl)) rfl ?_; clear hS; rintro _ wx ⟨ba, rfl, hS, _⟩; (simp only [Act.put, List.setIfInBounds_toArray, List.set_cons_zero, List.set_cons_succ])) | ((with_reducible show wpList _ _ _ (⟨_, Op.buildSlice _ _ _, _, _, _, _⟩ :: _) _ _); refine Does.list (does_buildSlice (X := ?_) (cs := ?_) (E := ?_) hS rfl ?_ ?_) rfl ?_; rotate_left 3; (go_simp; rfl); rfl; clear hS; rintro _ wx ⟨bx, rfl, hS, _⟩; (simp only [Act.put, List.setIfInBounds_toArray, List.set_cons_zero, List.set_cons_succ])))
              go_roundw
              case rel => exact ⟨j + 1, _, by go_num, rfl, hjl, Lib.hid (by rw [← HT2.out, tailB_snoc, HO2.out]; simp only [ByteArray.append_assoc]; rfl), by rw [ByteArray.size_append, ByteArray.size_append, show ByteArray.size ⟨#[32]⟩ = 1 from rfl]; omega, hS.sel [1, 2, 3] rfl (by decide)⟩
              case measure => simp [intOf]; omega
            · obtain rfl : j = ns.length := by omega
              have HE : Hid (o2 ++ ⟨#[32]⟩ ++ nz = bJoin ((l.take (k + 1)).map shapeT) smB) := Lib.hid (by
                have h := HO2.out
                rw [List.take_length, tailB_ne HNE.out, HJ.out] at h
                rw [← HBase.out, HS.out, h]
                simp only [ByteArray.append_assoc]
                rfl)
              have y1 : ¬ 9223372036854775807 < o2.size + 1 := by omega
              have y2 : ¬ 9223372036854775807 < o2.size + 1 + nz.size := by omega
              go_wp2_with (first | (go_at_call 47; refine (spec_NumberText _ z).mono ?_; rintro e w' ⟨rfl, hM⟩; (rw [HZ.out]); replace hS := hS.mod hM; clear hM) | ((with_reducible show wpList _ _ _ (⟨_, Op.box _ _, _, _, _, _⟩ :: _) _ _); refine Does.list (does_box hS rfl rfl (by rfl)) rfl ?_; clear hS; rintro _ wx ⟨bo, rfl, hS, _⟩; (simp only [Act.put, List.setIfInBounds_toArray, List.set_cons_zero, List.set_cons_succ])) | ((with_reducible show wpList _ _ _ (⟨_, Op.load _ _, _, _, _, _⟩ :: _) _ _); (first | refine Gives.list (f_load hS rfl rfl (by rfl)) rfl ?_ | refine Gives.list (f_loadS hS rfl rfl (by rfl)) rfl ?_ | refine Gives.list (f_loadAt hS rfl rfl) rfl ?_ | refine Gives.list (f_loadAtS hS rfl rfl (by rfl)) rfl ?_ | refine Gives.list (f_loadAtF hS rfl rfl (by rfl)) rfl ?_); (simp only [Act.put, List.setIfInBounds_toArray, List.set_cons_zero, List.set_cons_succ])) | ((with_reducible show wpList _ _ _ (⟨_, Op.store _ _ _, _, _, _, _⟩ :: _) _ _); (first | refine Does.list (f_store hS rfl rfl rfl (by rfl) (by rfl)) rfl ?_ | refine Does.list (f_storeS hS rfl rfl rfl (by rfl) (by rfl) (by rfl)) rfl ?_); clear hS; rintro _ wx ⟨rfl, hS⟩; (simp only [List.set_cons_zero, List.set_cons_succ] at hS); (simp only [Act.put, List.setIfInBounds_toArray, List.set_cons_zero, List.set_cons_succ])) | ((with_reducible show wpList _ _ _ (⟨_, Op.alloc _, _, _, _, _⟩ :: _) _ _); refine Does.list (does_alloc hS rfl (by rfl)) rfl ?_; clear hS; rintro _ wx ⟨ba, rfl, hS, _⟩; (simp only [Act.put, List.setIfInBounds_toArray, List.set_cons_zero, List.set_cons_succ])) | ((with_reducible show wpList _ _ _ (⟨_, Op.buildSlice _ _ _, _, _, _, _⟩ :: _) _ _); refine Does.list (does_buildSlice (X := ?_) (cs := ?_) (E := ?_) hS rfl ?_ ?_) rfl ?_; rotate_left 3; (go_simp; rfl); rfl; clear hS; rintro _ wx ⟨bx, rfl, hS, _⟩; (simp only [Act.put, List.setIfInBounds_toArray, List.set_cons_zero, List.set_cons_succ])))
              go_roundw
              case rel => exact ⟨k + 1, _, by go_num, rfl, hlt, Lib.hid (by exact HE.out), by rw [ByteArray.size_append, ByteArray.size_append, show ByteArray.size ⟨#[32]⟩ = 1 from rfl]; omega, hS.sel [2] rfl (by decide)⟩
              case measure => simp [intOf]; omega
      · obtain rfl : k = l.length := by omega
        have hd : decide ((l.length : Int) < (l.length : Int)) = false := decide_eq_false (by omega)
        have HE : Hid (shTxt l = o) := Lib.hid (by have h := HO.out; rw [List.take_length] at h; rw [h]; exact H.out)
        go_wp2_with (first | (go_at_call 32; obtain ⟨Fq, hFq⟩ := hS.has rShape.slice [.slice A l.length c]; refine (spec_ShapesValid' _ Fq _ l hFq).mono ?_; rintro e w' ⟨rfl, hM⟩; replace hS := hS.mod hM; clear hM hFq; (simp only [Hok.out])) | ((with_reducible show wpList _ _ _ (⟨_, Op.box _ _, _, _, _, _⟩ :: _) _ _); refine Does.list (does_box hS rfl rfl (by rfl)) rfl ?_; clear hS; rintro _ wx ⟨bo, rfl, hS, _⟩; (simp only [Act.put, List.setIfInBounds_toArray, List.set_cons_zero, List.set_cons_succ])) | ((with_reducible show wpList _ _ _ (⟨_, Op.load _ _, _, _, _, _⟩ :: _) _ _); (first | refine Gives.list (f_load hS rfl rfl (by rfl)) rfl ?_ | refine Gives.list (f_loadS hS rfl rfl (by rfl)) rfl ?_ | refine Gives.list (f_loadAt hS rfl rfl) rfl ?_ | refine Gives.list (f_loadAtS hS rfl rfl (by rfl)) rfl ?_ | refine Gives.list (f_loadAtF hS rfl rfl (by rfl)) rfl ?_); (simp only [Act.put, List.setIfInBounds_toArray, List.set_cons_zero, List.set_cons_succ])) | ((with_reducible show wpList _ _ _ (⟨_, Op.store _ _ _, _, _, _, _⟩ :: _) _ _); (first | refine Does.list (f_store hS rfl rfl rfl (by rfl) (by rfl)) rfl ?_ | refine Does.list (f_storeS hS rfl rfl rfl (by rfl) (by rfl) (by rfl)) rfl ?_); clear hS; rintro _ wx ⟨rfl, hS⟩; (simp only [List.set_cons_zero, List.set_cons_succ] at hS); (simp only [Act.put, List.setIfInBounds_toArray, List.set_cons_zero, List.set_cons_succ])) | ((with_reducible show wpList _ _ _ (⟨_, Op.alloc _, _, _, _, _⟩ :: _) _ _); refine Does.list (does_alloc hS rfl (by rfl)) rfl ?_; clear hS; rintro _ wx ⟨ba, rfl, hS, _⟩; (simp only [Act.put, List.setIfInBounds_toArray, List.set_cons_zero, List.set_cons_succ])) | ((with_reducible show wpList _ _ _ (⟨_, Op.buildSlice _ _ _, _, _, _, _⟩ :: _) _ _); refine Does.list (does_buildSlice (X := ?_) (cs := ?_) (E := ?_) hS rfl ?_ ?_) rfl ?_; rotate_left 3; (go_simp; rfl); rfl; clear hS; rintro _ wx ⟨bx, rfl, hS, _⟩; (simp only [Act.put, List.setIfInBounds_toArray, List.set_cons_zero, List.set_cons_succ])))
        go_ret
        exact ⟨by rw [HE.out]; rfl, hS.mod0⟩
end Go.Proofs.YteafnieapifnnaaDoor
