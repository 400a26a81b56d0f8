/- The comparer of two sealed rows. -/
import Derived.Test.YtldknaajnnohiaaDoorEqL
import Derived.Test.YtldknaajnnohiaaDoorSatT
import Derived.Test.YtldknaajnnohiaaDoorEqA
section
namespace Go.Proofs.YtldknaajnnohiaaDoor
open Go.RowKit

end Go.Proofs.YtldknaajnnohiaaDoor
end

section
namespace Go.Proofs.YtldknaajnnohiaaDoor
open Go.RowKit

set_option maxHeartbeats 4000000 in
theorem laws_sameMarks (w : World) (F G : List Nat) (u v : Value) (xs ys : List Bool) (hx : SliceHas Rep.bool w F [u] xs) (hy : SliceHas Rep.bool w G [v] ys) :
    Calls Tryd.prog 33 #[u, v] w fun e w' => e = .returned (.bool (eqB xs ys)) ∧ Mod [] w w' := by
  obtain ⟨A, c, rfl, hn, _⟩ := hx.form'
  obtain ⟨B, d, rfl, hm, _⟩ := hy.form'
  have hS : Sat w w [.ro Rep.bool.slice [.slice A xs.length c] xs, .ro Rep.bool.slice [.slice B ys.length d] ys] := ((Sat.nil w).arg hy).arg hx
  clear hx hy
  by_cases hnm : xs.length = ys.length
  · have Hnm := Lib.hid hnm
    have t0 : (((xs.length : Int) != (ys.length : Int))) = false := by rw [hnm]; simp
    have t1 : decide ((xs.length : Int) = (ys.length : Int)) = true := by rw [hnm]; simp
    clear hnm
    go_enter Tryd.func33, Tryd.ntmps33
    go_wp2
    go_loopw [5] (fun i wr => ∃ k : Nat, k ≤ xs.length ∧ i = .int .i64 k ∧ xs.take k = ys.take k ∧ Sat w wr [.ro Rep.bool.slice [.slice A xs.length c] xs, .ro Rep.bool.slice [.slice B ys.length d] ys]) (fun i _ => xs.length - (intOf i).toNat)
    case atStart => exact ⟨0, Nat.zero_le _, rfl, rfl, hS⟩
    case round =>
      clear hS
      obtain ⟨k, hk, rfl, htk, hS⟩ := hrel
      have Htk := Lib.hid htk
      clear htk
      by_cases hlt : k < xs.length
      · have hlt2 : k < ys.length := by rw [← Hnm.out]; exact hlt
        have hltI : (k : Int) < (ys.length : Int) := by omega
        obtain ⟨ad, rfl, hS⟩ := hS.elBool A xs.length c (get_some hlt)
        obtain ⟨ad2, rfl, hS⟩ := hS.elBool B ys.length d (get_some hlt2)
        by_cases heq : xs[k] = ys[k]
        · have H := Lib.hid (take_eq_succ Htk.out hlt hlt2 heq)
          generalize xs[k] = x at hS heq
          generalize ys[k] = y at hS heq
          subst heq
          cases x
          all_goals
            go_wp2_with (first | ((with_reducible show Code.wp _ (Code.region 6 _ true) _ _ _); refine wp_region_drawn [(0, 0), (1, 0), (2, 0), (3, 1), (4, 0), (5, 0), (6, 0), (7, 1), (8, 0)] (by kernel_rfl) (by kernel_rfl) (by intro _ _ dq _ _ hq; cases dq <;> exact hq) ?_; replace hS := hS.mod (Mod.drew (Mod.refl _ _)); (generalize hwd : World.drew _ = wz at hS ⊢); clear hwd) | ((with_reducible show wpD _ _ _ [] _ _); refine D_nil ?_) | ((with_reducible show wpD _ _ _ ((_, 0) :: _) _ _); (first | (refine D_skip rfl rfl ?_; (first | show wpD _ _ _ _ (Act.put _ (some _) _) _ | show wpD _ _ _ _ (Act.put _ none _) _); (simp only [Act.put, List.setIfInBounds_toArray, List.set_cons_zero, List.set_cons_succ])) | (refine D_pure (v := ?_) rfl rfl (fun wq => ?_) ?_; rotate_left 1; (show (Sem.run _ (execOp _ (Oper.mk _ _ _ _ _ _)) _) = _; go_simp; (try go_bits); with_reducible rfl); (first | show wpD _ _ _ _ (Act.put _ (some _) _) _ | show wpD _ _ _ _ (Act.put _ none _) _); (simp only [Act.put, List.setIfInBounds_toArray, List.set_cons_zero, List.set_cons_succ])))) | ((with_reducible show wpD _ _ _ ((_, 1) :: _) _ _); (first | (refine D_skip rfl rfl ?_; (first | show wpD _ _ _ _ (Act.put _ (some _) _) _ | show wpD _ _ _ _ (Act.put _ none _) _); (simp only [Act.put, List.setIfInBounds_toArray, List.set_cons_zero, List.set_cons_succ])) | ((first | refine D_load rfl rfl (fun x hx => f_load (hS.mod hx) rfl rfl (by rfl)) ?_ | refine D_load rfl rfl (fun x hx => f_loadS (hS.mod hx) rfl rfl (by rfl)) ?_ | refine D_load rfl rfl (fun x hx => f_loadAt (hS.mod hx) rfl rfl) ?_ | refine D_load rfl rfl (fun x hx => f_loadAtS (hS.mod hx) rfl rfl (by rfl)) ?_ | refine D_load rfl rfl (fun x hx => f_loadAtF (hS.mod hx) rfl rfl (by rfl)) ?_); (first | show wpD _ _ _ _ (Act.put _ (some _) _) _ | show wpD _ _ _ _ (Act.put _ none _) _); (simp only [Act.put, List.setIfInBounds_toArray, List.set_cons_zero, List.set_cons_succ])))))
            go_roundw
            case rel => exact ⟨k + 1, hlt, by go_num, H.out, hS.sel [2, 3] rfl (by decide)⟩
            case measure => simp [intOf]; omega
        · have H := Lib.hid (eqB_f (ne_of_getElem hlt hlt2 heq))
          generalize xs[k] = x at hS heq
          generalize ys[k] = y at hS heq
          cases x <;> cases y
          all_goals first
            | exact absurd rfl heq
            | (go_wp2_with (first | ((with_reducible show Code.wp _ (Code.region 6 _ true) _ _ _); refine wp_region_drawn [(0, 0), (1, 0), (2, 0), (3, 1), (4, 0), (5, 0), (6, 0), (7, 1), (8, 0)] (by kernel_rfl) (by kernel_rfl) (by intro _ _ dq _ _ hq; cases dq <;> exact hq) ?_; replace hS := hS.mod (Mod.drew (Mod.refl _ _)); (generalize hwd : World.drew _ = wz at hS ⊢); clear hwd) | ((with_reducible show wpD _ _ _ [] _ _); refine D_nil ?_) | ((with_reducible show wpD _ _ _ ((_, 0) :: _) _ _); (first | (refine D_skip rfl rfl ?_; (first | show wpD _ _ _ _ (Act.put _ (some _) _) _ | show wpD _ _ _ _ (Act.put _ none _) _); (simp only [Act.put, List.setIfInBounds_toArray, List.set_cons_zero, List.set_cons_succ])) | (refine D_pure (v := ?_) rfl rfl (fun wq => ?_) ?_; rotate_left 1; (show (Sem.run _ (execOp _ (Oper.mk _ _ _ _ _ _)) _) = _; go_simp; (try go_bits); with_reducible rfl); (first | show wpD _ _ _ _ (Act.put _ (some _) _) _ | show wpD _ _ _ _ (Act.put _ none _) _); (simp only [Act.put, List.setIfInBounds_toArray, List.set_cons_zero, List.set_cons_succ])))) | ((with_reducible show wpD _ _ _ ((_, 1) :: _) _ _); (first | (refine D_skip rfl rfl ?_; (first | show wpD _ _ _ _ (Act.put _ (some _) _) _ | show wpD _ _ _ _ (Act.put _ none _) _); (simp only [Act.put, List.setIfInBounds_toArray, List.set_cons_zero, List.set_cons_succ])) | ((first | refine D_load rfl rfl (fun x hx => f_load (hS.mod hx) rfl rfl (by rfl)) ?_ | refine D_load rfl rfl (fun x hx => f_loadS (hS.mod hx) rfl rfl (by rfl)) ?_ | refine D_load rfl rfl (fun x hx => f_loadAt (hS.mod hx) rfl rfl) ?_ | refine D_load rfl rfl (fun x hx => f_loadAtS (hS.mod hx) rfl rfl (by rfl)) ?_ | refine D_load rfl rfl (fun x hx => f_loadAtF (hS.mod hx) rfl rfl (by rfl)) ?_); (first | show wpD _ _ _ _ (Act.put _ (some _) _) _ | show wpD _ _ _ _ (Act.put _ none _) _); (simp only [Act.put, List.setIfInBounds_toArray, List.set_cons_zero, List.set_cons_succ])))))
               go_ret
               exact ⟨ret_false H.out, hS.mod0⟩)
      · have H := Lib.hid (eqB_t (eq_of_take Htk.out (by omega) (by rw [← Hnm.out]; omega)))
        go_wp2_with (first | ((with_reducible show wpList _ _ _ (⟨_, Op.box _ _, _, _, _, _⟩ :: _) _ _); refine Does.list (does_box hS rfl rfl (by rfl)) rfl ?_; clear hS; rintro _ wx ⟨bo, rfl, hS, _⟩; (simp only [Act.put, List.setIfInBounds_toArray, List.set_cons_zero, List.set_cons_succ])))
        go_ret
        exact ⟨ret_true H.out, hS.mod0⟩
  · have t0 : (((xs.length : Int) != (ys.length : Int))) = true := by simp; omega
    have H := Lib.hid (eqB_f (ne_of_len hnm))
    go_enter Tryd.func33, Tryd.ntmps33
    go_wp2
    go_ret
    exact ⟨ret_false H.out, hS.mod0⟩

set_option maxHeartbeats 4000000 in
theorem laws_sameRows (w : World) (F G : List Nat) (u v : Value) (xs ys : List (List Int)) (hx : SliceHas Rep.int.slice w F [u] xs) (hy : SliceHas Rep.int.slice w G [v] ys) :
    Calls Tryd.prog 75 #[u, v] w fun e w' => e = .returned (.bool (eqB xs ys)) ∧ Mod [] w w' := by
  obtain ⟨A, c, rfl, hn, _⟩ := hx.form'
  obtain ⟨B, d, rfl, hm, _⟩ := hy.form'
  have hS : Sat w w [.ro Rep.int.slice.slice [.slice A xs.length c] xs, .ro Rep.int.slice.slice [.slice B ys.length d] ys] := ((Sat.nil w).arg hy).arg hx
  clear hx hy
  by_cases hnm : xs.length = ys.length
  · have Hnm := Lib.hid hnm
    have t0 : (((xs.length : Int) != (ys.length : Int))) = false := by rw [hnm]; simp
    have t1 : decide ((xs.length : Int) = (ys.length : Int)) = true := by rw [hnm]; simp
    clear hnm
    go_enter Tryd.func75, Tryd.ntmps75
    go_wp2
    go_loopw [5] (fun i wr => ∃ k : Nat, k ≤ xs.length ∧ i = .int .i64 k ∧ xs.take k = ys.take k ∧ Sat w wr [.ro Rep.int.slice.slice [.slice A xs.length c] xs, .ro Rep.int.slice.slice [.slice B ys.length d] ys]) (fun i _ => xs.length - (intOf i).toNat)
    case atStart => exact ⟨0, Nat.zero_le _, rfl, rfl, hS⟩
    case round =>
      clear hS
      obtain ⟨k, hk, rfl, htk, hS⟩ := hrel
      have Htk := Lib.hid htk
      clear htk
      by_cases hlt : k < xs.length
      · have hlt2 : k < ys.length := by rw [← Hnm.out]; exact hlt
        have hltI : (k : Int) < (ys.length : Int) := by omega
        obtain ⟨ad, A', c', rfl, j0, j1, hS⟩ := hS.elSlice Rep.int A xs.length c (get_some hlt)
        obtain ⟨ad2, B', d', rfl, k0, k1, hS⟩ := hS.elSlice Rep.int B ys.length d (get_some hlt2)
        by_cases heq : xs[k] = ys[k]
        · have H := Lib.hid (take_eq_succ Htk.out hlt hlt2 heq)
          have T2 := Lib.hid (eqB_t heq)
          clear heq
          generalize xs[k] = x at *
          generalize ys[k] = y at *
          skip
          go_wp2_with (first | ((with_reducible show Code.wp _ (Code.region 6 _ true) _ _ _); refine wp_region_drawn [(0, 0), (1, 0), (2, 0), (3, 1), (4, 0), (5, 0), (6, 0), (7, 1), (8, 2), (9, 0)] (by kernel_rfl) (by kernel_rfl) (by intro _ _ dq _ _ hq; cases dq <;> exact hq) ?_; replace hS := hS.mod (Mod.drew (Mod.refl _ _)); (generalize hwd : World.drew _ = wz at hS ⊢); clear hwd) | ((with_reducible show wpD _ _ _ [] _ _); refine D_nil ?_) | ((with_reducible show wpD _ _ _ ((_, 0) :: _) _ _); (first | (refine D_skip rfl rfl ?_; (first | show wpD _ _ _ _ (Act.put _ (some _) _) _ | show wpD _ _ _ _ (Act.put _ none _) _); (simp only [Act.put, List.setIfInBounds_toArray, List.set_cons_zero, List.set_cons_succ])) | (refine D_pure (v := ?_) rfl rfl (fun wq => ?_) ?_; rotate_left 1; (show (Sem.run _ (execOp _ (Oper.mk _ _ _ _ _ _)) _) = _; go_simp; (try go_bits); with_reducible rfl); (first | show wpD _ _ _ _ (Act.put _ (some _) _) _ | show wpD _ _ _ _ (Act.put _ none _) _); (simp only [Act.put, List.setIfInBounds_toArray, List.set_cons_zero, List.set_cons_succ])))) | ((with_reducible show wpD _ _ _ ((_, 1) :: _) _ _); (first | (refine D_skip rfl rfl ?_; (first | show wpD _ _ _ _ (Act.put _ (some _) _) _ | show wpD _ _ _ _ (Act.put _ none _) _); (simp only [Act.put, List.setIfInBounds_toArray, List.set_cons_zero, List.set_cons_succ])) | ((first | refine D_load rfl rfl (fun x hx => f_load (hS.mod hx) rfl rfl (by rfl)) ?_ | refine D_load rfl rfl (fun x hx => f_loadS (hS.mod hx) rfl rfl (by rfl)) ?_ | refine D_load rfl rfl (fun x hx => f_loadAt (hS.mod hx) rfl rfl) ?_ | refine D_load rfl rfl (fun x hx => f_loadAtS (hS.mod hx) rfl rfl (by rfl)) ?_ | refine D_load rfl rfl (fun x hx => f_loadAtF (hS.mod hx) rfl rfl (by rfl)) ?_); (first | show wpD _ _ _ _ (Act.put _ (some _) _) _ | show wpD _ _ _ _ (Act.put _ none _) _); (simp only [Act.put, List.setIfInBounds_toArray, List.set_cons_zero, List.set_cons_succ])))) | ((with_reducible show wpD _ _ _ ((_, 2) :: _) _ _); (refine D_call (f := 152) (args := ?_) rfl rfl ?_ ?_); rotate_left 1; (show (Sem.run _ (execOp _ (Oper.mk _ _ _ _ _ _)) _) = _; go_simp; rfl); obtain ⟨Fq, hFq⟩ := hS.has Rep.int.slice [.slice A' x.length c']; obtain ⟨Fr, hFr⟩ := hS.has Rep.int.slice [.slice B' y.length d']; refine (laws_sameInts _ Fq Fr _ _ x y hFq hFr).mono ?_; rintro e w' ⟨rfl, hM⟩; (simp only [T2.out]); replace hS := hS.mod hM; clear hFq hFr; refine ⟨_, rfl, hM, ?_⟩; clear hM; (first | show wpD _ _ _ _ (Act.put _ (some _) _) _ | show wpD _ _ _ _ (Act.put _ none _) _); (simp only [Act.put, List.setIfInBounds_toArray, List.set_cons_zero, List.set_cons_succ])))
          go_roundw
          case rel => exact ⟨k + 1, hlt, by go_num, H.out, hS.sel [4, 5] rfl (by decide)⟩
          case measure => simp [intOf]; omega
        · have H := Lib.hid (eqB_f (ne_of_getElem hlt hlt2 heq))
          have T2 := Lib.hid (eqB_f heq)
          clear heq
          generalize xs[k] = x at *
          generalize ys[k] = y at *
          skip
          go_wp2_with (first | ((with_reducible show Code.wp _ (Code.region 6 _ true) _ _ _); refine wp_region_drawn [(0, 0), (1, 0), (2, 0), (3, 1), (4, 0), (5, 0), (6, 0), (7, 1), (8, 2), (9, 0)] (by kernel_rfl) (by kernel_rfl) (by intro _ _ dq _ _ hq; cases dq <;> exact hq) ?_; replace hS := hS.mod (Mod.drew (Mod.refl _ _)); (generalize hwd : World.drew _ = wz at hS ⊢); clear hwd) | ((with_reducible show wpD _ _ _ [] _ _); refine D_nil ?_) | ((with_reducible show wpD _ _ _ ((_, 0) :: _) _ _); (first | (refine D_skip rfl rfl ?_; (first | show wpD _ _ _ _ (Act.put _ (some _) _) _ | show wpD _ _ _ _ (Act.put _ none _) _); (simp only [Act.put, List.setIfInBounds_toArray, List.set_cons_zero, List.set_cons_succ])) | (refine D_pure (v := ?_) rfl rfl (fun wq => ?_) ?_; rotate_left 1; (show (Sem.run _ (execOp _ (Oper.mk _ _ _ _ _ _)) _) = _; go_simp; (try go_bits); with_reducible rfl); (first | show wpD _ _ _ _ (Act.put _ (some _) _) _ | show wpD _ _ _ _ (Act.put _ none _) _); (simp only [Act.put, List.setIfInBounds_toArray, List.set_cons_zero, List.set_cons_succ])))) | ((with_reducible show wpD _ _ _ ((_, 1) :: _) _ _); (first | (refine D_skip rfl rfl ?_; (first | show wpD _ _ _ _ (Act.put _ (some _) _) _ | show wpD _ _ _ _ (Act.put _ none _) _); (simp only [Act.put, List.setIfInBounds_toArray, List.set_cons_zero, List.set_cons_succ])) | ((first | refine D_load rfl rfl (fun x hx => f_load (hS.mod hx) rfl rfl (by rfl)) ?_ | refine D_load rfl rfl (fun x hx => f_loadS (hS.mod hx) rfl rfl (by rfl)) ?_ | refine D_load rfl rfl (fun x hx => f_loadAt (hS.mod hx) rfl rfl) ?_ | refine D_load rfl rfl (fun x hx => f_loadAtS (hS.mod hx) rfl rfl (by rfl)) ?_ | refine D_load rfl rfl (fun x hx => f_loadAtF (hS.mod hx) rfl rfl (by rfl)) ?_); (first | show wpD _ _ _ _ (Act.put _ (some _) _) _ | show wpD _ _ _ _ (Act.put _ none _) _); (simp only [Act.put, List.setIfInBounds_toArray, List.set_cons_zero, List.set_cons_succ])))) | ((with_reducible show wpD _ _ _ ((_, 2) :: _) _ _); (refine D_call (f := 152) (args := ?_) rfl rfl ?_ ?_); rotate_left 1; (show (Sem.run _ (execOp _ (Oper.mk _ _ _ _ _ _)) _) = _; go_simp; rfl); obtain ⟨Fq, hFq⟩ := hS.has Rep.int.slice [.slice A' x.length c']; obtain ⟨Fr, hFr⟩ := hS.has Rep.int.slice [.slice B' y.length d']; refine (laws_sameInts _ Fq Fr _ _ x y hFq hFr).mono ?_; rintro e w' ⟨rfl, hM⟩; (simp only [T2.out]); replace hS := hS.mod hM; clear hFq hFr; refine ⟨_, rfl, hM, ?_⟩; clear hM; (first | show wpD _ _ _ _ (Act.put _ (some _) _) _ | show wpD _ _ _ _ (Act.put _ none _) _); (simp only [Act.put, List.setIfInBounds_toArray, List.set_cons_zero, List.set_cons_succ])))
          go_ret
          exact ⟨ret_false H.out, hS.mod0⟩
      · have H := Lib.hid (eqB_t (eq_of_take Htk.out (by omega) (by rw [← Hnm.out]; omega)))
        go_wp2_with (first | ((with_reducible show wpList _ _ _ (⟨_, Op.box _ _, _, _, _, _⟩ :: _) _ _); refine Does.list (does_box hS rfl rfl (by rfl)) rfl ?_; clear hS; rintro _ wx ⟨bo, rfl, hS, _⟩; (simp only [Act.put, List.setIfInBounds_toArray, List.set_cons_zero, List.set_cons_succ])))
        go_ret
        exact ⟨ret_true H.out, hS.mod0⟩
  · have t0 : (((xs.length : Int) != (ys.length : Int))) = true := by simp; omega
    have H := Lib.hid (eqB_f (ne_of_len hnm))
    go_enter Tryd.func75, Tryd.ntmps75
    go_wp2
    go_ret
    exact ⟨ret_false H.out, hS.mod0⟩

set_option maxHeartbeats 4000000 in
theorem laws_samePadded (w : World) (F G : List Nat) (cs ds : List Value) (x y : PaddedD) (hx : rPadded.has w F cs x) (hy : rPadded.has w G ds y) :
    Calls Tryd.prog 18 #[.agg cs.toArray, .agg ds.toArray] w fun e w' => e = .returned (.bool (eqB x y)) ∧ Mod [] w w' := by
  obtain ⟨A1, a1, F1, A2, a2, F2, A3, a3, F3, rfl, -, h1, h2, h3⟩ := rPadded_open hx
  obtain ⟨B1, b1, G1, B2, b2, G2, B3, b3, G3, rfl, -, k1, k2, k3⟩ := rPadded_open hy
  obtain ⟨x1, x2, x3⟩ := x
  obtain ⟨y1, y2, y3⟩ := y
  dsimp only at h1 h2 h3 k1 k2 k3 ⊢
  clear hx hy
  have hE := eqB_three x1 y1 x2 y2 x3 y3
  have hS : Sat w w [.ro Rep.str.slice [.slice A1 x1.length a1] x1, .ro Rep.int.slice.slice [.slice A2 x2.length a2] x2, .ro Rep.bool.slice [.slice A3 x3.length a3] x3, .ro Rep.str.slice [.slice B1 y1.length b1] y1, .ro Rep.int.slice.slice [.slice B2 y2.length b2] y2, .ro Rep.bool.slice [.slice B3 y3.length b3] y3] := ((((((Sat.nil w).arg k3).arg k2).arg k1).arg h3).arg h2).arg h1
  clear h1 h2 h3 k1 k2 k3
  rcases e1 : eqB x1 y1 <;> rcases e2 : eqB x2 y2 <;> rcases e3 : eqB x3 y3
  all_goals
    rw [e1, e2, e3] at hE
    have H := Lib.hid hE
    have T1 := Lib.hid e1
    have T2 := Lib.hid e2
    have T3 := Lib.hid e3
    clear e1 e2 e3 hE
    go_enter Tryd.func18, Tryd.ntmps18
    go_wp2_with (first | (go_at_call 21; obtain ⟨Fq, hFq⟩ := hS.has Rep.str.slice [.slice A1 x1.length a1]; obtain ⟨Fr, hFr⟩ := hS.has Rep.str.slice [.slice B1 y1.length b1]; refine (laws_sameTexts _ Fq Fr _ _ x1 y1 hFq hFr).mono ?_; rintro e w' ⟨rfl, hM⟩; (simp only [T1.out]); replace hS := hS.mod hM; clear hM hFq hFr) | (go_at_call 75; obtain ⟨Fq, hFq⟩ := hS.has Rep.int.slice.slice [.slice A2 x2.length a2]; obtain ⟨Fr, hFr⟩ := hS.has Rep.int.slice.slice [.slice B2 y2.length b2]; refine (laws_sameRows _ Fq Fr _ _ x2 y2 hFq hFr).mono ?_; rintro e w' ⟨rfl, hM⟩; (simp only [T2.out]); replace hS := hS.mod hM; clear hM hFq hFr) | (go_at_call 33; obtain ⟨Fq, hFq⟩ := hS.has Rep.bool.slice [.slice A3 x3.length a3]; obtain ⟨Fr, hFr⟩ := hS.has Rep.bool.slice [.slice B3 y3.length b3]; refine (laws_sameMarks _ Fq Fr _ _ x3 y3 hFq hFr).mono ?_; rintro e w' ⟨rfl, hM⟩; (simp only [T3.out]); replace hS := hS.mod hM; clear hM hFq hFr) | ((with_reducible show wpList _ _ _ (⟨_, Op.box _ _, _, _, _, _⟩ :: _) _ _); refine Does.list (does_box hS rfl rfl (by rfl)) rfl ?_; clear hS; rintro _ wx ⟨bo, rfl, hS, _⟩; (simp only [Act.put, List.setIfInBounds_toArray, List.set_cons_zero, List.set_cons_succ])) | ((with_reducible show wpList _ _ _ (⟨_, Op.load _ _, _, _, _, _⟩ :: _) _ _); (first | refine Gives.list (f_load hS rfl rfl (by rfl)) rfl ?_ | refine Gives.list (f_loadS hS rfl rfl (by rfl)) rfl ?_ | refine Gives.list (f_loadAt hS rfl rfl) rfl ?_ | refine Gives.list (f_loadAtS hS rfl rfl (by rfl)) rfl ?_ | refine Gives.list (f_loadAtF hS rfl rfl (by rfl)) rfl ?_); (simp only [Act.put, List.setIfInBounds_toArray, List.set_cons_zero, List.set_cons_succ])))
    go_ret
    exact ⟨by rw [H.out]; rfl, hS.mod0⟩

end Go.Proofs.YtldknaajnnohiaaDoor
end
