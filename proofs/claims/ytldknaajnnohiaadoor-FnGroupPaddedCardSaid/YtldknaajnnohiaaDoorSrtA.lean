/- How the program compares two rows of a padded table: what it calls, and the two function literals. -/
import Derived.Test.YtldknaajnnohiaaDoorSho
import Derived.Test.YtldknaajnnohiaaDoorSPl
import Derived.Test.YtldknaajnnohiaaDoorFind
import Derived.Test.YtldknaajnnohiaaDoorSatT
import Derived.Test.YtldknaajnnohiaaDoorTys
import Derived.Test.YtldknaajnnohiaaDoorNew
import Derived.Test.YtldknaajnnohiaaDoorFuncs
import Derived.Test.YtldknaajnnohiaaDoorApnd
import Derived.Test.YtldknaajnnohiaaDoorSrt
section
namespace Go.Proofs.YtldknaajnnohiaaDoor
open Go.RowKit

instance : Ty Tryd.prog 139 .nilFunc 1 false := ⟨by kernel_rfl, by kernel_rfl⟩
instance : ByTy Tryd.prog 139 8 := ⟨by kernel_rfl⟩
theorem cmp_isNaN (x : Int) (w : World) : Calls Tryd.prog 197 #[.int .i64 x] w fun e w' => e = .returned (.bool false) ∧ w = w' := by
  have h1 : (x != x) = false := by simp
  go_enter Tryd.func197, Tryd.ntmps197
  go_wp2_with fail
  go_ret
  first | exact ⟨rfl, rfl⟩ | exact ⟨by simp, rfl⟩
def cmpI (x y : Int) : Int := if x < y then -1 else if y < x then 1 else 0
theorem cmpI_lt (x y : Int) : decide (cmpI x y < 0) = decide (x < y) := by
  unfold cmpI
  by_cases h : x < y
  · simp [h]
  · rw [if_neg h]
    by_cases h2 : y < x
    · simp [h, h2]
    · simp [h, h2]
theorem cmpI_zero {x : Int} : cmpI x x = 0 := by unfold cmpI; simp
theorem cmp_Compare (x y : Int) (w : World) : Calls Tryd.prog 174 #[.int .i64 x, .int .i64 y] w fun e w' => e = .returned (.int .i64 (cmpI x y)) ∧ w = w' := by
  by_cases h1 : x < y
  · have H : cmpI x y = -1 := by unfold cmpI; rw [if_pos h1]
    go_enter Tryd.func174, Tryd.ntmps174
    go_wp2_with (first | (go_at_call 197; refine (cmp_isNaN _ _).mono ?_; rintro e w' ⟨rfl, rfl⟩))
    go_ret
    exact ⟨ret_int H.symm, rfl⟩
  by_cases h2 : y < x
  · have H : cmpI x y = 1 := by unfold cmpI; rw [if_neg h1, if_pos h2]
    go_enter Tryd.func174, Tryd.ntmps174
    go_wp2_with (first | (go_at_call 197; refine (cmp_isNaN _ _).mono ?_; rintro e w' ⟨rfl, rfl⟩))
    go_ret
    exact ⟨ret_int H.symm, rfl⟩
  · have H : cmpI x y = 0 := by unfold cmpI; rw [if_neg h1, if_neg h2]
    go_enter Tryd.func174, Tryd.ntmps174
    go_wp2_with (first | (go_at_call 197; refine (cmp_isNaN _ _).mono ?_; rintro e w' ⟨rfl, rfl⟩))
    go_ret
    exact ⟨ret_int H.symm, rfl⟩

/-! ### Rows by their values -/
set_option maxHeartbeats 2000000 in
theorem sl_Compare (w : World) (F G : List Nat) (v u : Value) (xs ys : List Int) (hx : SliceHas Rep.int w F [v] xs) (hy : SliceHas Rep.int w G [u] ys) :
    Calls Tryd.prog 124 #[v, u] w fun e w' => ∃ r : Int, e = .returned (.int .i64 r) ∧ decide (r < 0) = lessL xs ys ∧ Mod [] w w' := by
  obtain ⟨A, c, rfl, hl, _⟩ := hx.form'
  obtain ⟨B, d, rfl, hl2, _⟩ := hy.form'
  have hS : Sat w w [.ro Rep.int.slice [.slice A xs.length c] xs, .ro Rep.int.slice [.slice B ys.length d] ys] := ((Sat.nil w).arg hy).arg hx
  clear hx hy
  go_enter Tryd.func124, Tryd.ntmps124
  go_wp2_with (first | ((with_reducible show wpList _ _ _ (⟨_, Op.box _ _, _, _, _, _⟩ :: _) _ _); refine Does.list (does_box hS rfl rfl (by rfl)) rfl ?_; clear hS; rintro _ wx ⟨bo, rfl, hS, _⟩; (simp only [Act.put, sA, sZ, sS])))
  go_loopw [11] (fun i wr => ∃ k : Nat, k ≤ xs.length ∧ k ≤ ys.length ∧ i = .int .i64 k ∧ Hid (xs.take k = ys.take k) ∧ Sat w wr [.ro Rep.int.slice [.slice A xs.length c] xs, .ro Rep.int.slice [.slice B ys.length d] ys]) (fun i _ => xs.length - (intOf i).toNat)
  case atStart => exact ⟨0, Nat.zero_le _, Nat.zero_le _, rfl, Lib.hid rfl, hS⟩
  case round =>
    clear hS
    obtain ⟨k, hk, hk2, rfl, hT, hS⟩ := hrel
    by_cases hlt : k < xs.length
    case neg =>
      have hltI : ¬ (k : Int) < (xs.length : Int) := by omega
      have H := Lib.hid (lessL_end hk hk2 hT.out (.inl (by omega)))
      by_cases h2 : xs.length < ys.length
      · have h2I : (xs.length : Int) < (ys.length : Int) := by omega
        rw [decide_eq_true h2] at H
        go_wp2_with (first | ((with_reducible show wpList _ _ _ (⟨_, Op.box _ _, _, _, _, _⟩ :: _) _ _); refine Does.list (does_box hS rfl rfl (by rfl)) rfl ?_; clear hS; rintro _ wx ⟨bo, rfl, hS, _⟩; (simp only [Act.put, sA, sZ, sS])))
        go_ret
        exact ⟨-1, rfl, by rw [H.out]; rfl, hS.mod0⟩
      · have h2I : ¬ (xs.length : Int) < (ys.length : Int) := by omega
        rw [decide_eq_false h2] at H
        go_wp2_with (first | ((with_reducible show wpList _ _ _ (⟨_, Op.box _ _, _, _, _, _⟩ :: _) _ _); refine Does.list (does_box hS rfl rfl (by rfl)) rfl ?_; clear hS; rintro _ wx ⟨bo, rfl, hS, _⟩; (simp only [Act.put, sA, sZ, sS])))
        go_ret
        exact ⟨0, rfl, by rw [H.out]; rfl, hS.mod0⟩
    have hltI : (k : Int) < (xs.length : Int) := by omega
    by_cases hge : ys.length ≤ k
    · have hgeI : (ys.length : Int) ≤ (k : Int) := by omega
      have H := Lib.hid (lessL_end hk hk2 hT.out (.inr (by omega)))
      rw [decide_eq_false (by omega)] at H
      obtain ⟨ad, rfl, hz, hS⟩ := hS.elInt A xs.length c (get_some hlt)
      go_wp2_with (first | ((with_reducible show wpList _ _ _ (⟨_, Op.load _ _, _, _, _, _⟩ :: _) _ _); (first | refine Gives.list (f_load hS rfl rfl (by rfl)) rfl ?_ | refine Gives.list (f_loadS hS rfl rfl (by rfl)) rfl ?_ | refine Gives.list (f_loadAt hS rfl rfl) rfl ?_ | refine Gives.list (f_loadAtS hS rfl rfl (by rfl)) rfl ?_ | refine Gives.list (f_loadAtF hS rfl rfl (by rfl)) rfl ?_); (simp only [Act.put, sA, sZ, sS])))
      go_ret
      exact ⟨1, rfl, by rw [H.out]; rfl, hS.mod0⟩
    have hlt2 : k < ys.length := by omega
    have hgeI : ¬ (ys.length : Int) ≤ (k : Int) := by omega
    have hlt2I : (k : Int) < (ys.length : Int) := by omega
    obtain ⟨ad, rfl, hz, hS⟩ := hS.elInt A xs.length c (get_some hlt)
    obtain ⟨ad2, rfl, hz2, hS⟩ := hS.elInt B ys.length d (get_some hlt2)
    by_cases he : xs[k] = ys[k]
    · have H := Lib.hid (take_succ_same hlt hlt2 hT.out he)
      have hc0 : (cmpI xs[k] ys[k] != 0) = false := by rw [he, cmpI_zero]; rfl
      generalize xs[k] = x at hS hc0
      generalize ys[k] = y at hS hc0
      clear he
      go_wp2_with (first | (go_at_call 174; refine (cmp_Compare _ _ _).mono ?_; rintro e w' ⟨rfl, rfl⟩) | ((with_reducible show wpList _ _ _ (⟨_, Op.load _ _, _, _, _, _⟩ :: _) _ _); (first | refine Gives.list (f_load hS rfl rfl (by rfl)) rfl ?_ | refine Gives.list (f_loadS hS rfl rfl (by rfl)) rfl ?_ | refine Gives.list (f_loadAt hS rfl rfl) rfl ?_ | refine Gives.list (f_loadAtS hS rfl rfl (by rfl)) rfl ?_ | refine Gives.list (f_loadAtF hS rfl rfl (by rfl)) rfl ?_); (simp only [Act.put, sA, sZ, sS])))
      go_roundw
      case rel => exact ⟨k + 1, hlt, hlt2, by go_num, H, hS.sel [2, 3] rfl (by decide)⟩
      case measure => simp [intOf]; omega
    · have H := Lib.hid (lessL_at hlt hlt2 hT.out he)
      have hc0 : (cmpI xs[k] ys[k] != 0) = true := by
        rw [bne_iff_ne]; unfold cmpI
        by_cases h1 : xs[k] < ys[k]
        · rw [if_pos h1]; decide
        · rw [if_neg h1, if_pos (by omega)]; decide
      generalize xs[k] = x at hS hc0 H
      generalize ys[k] = y at hS hc0 H
      clear he
      go_wp2_with (first | (go_at_call 174; refine (cmp_Compare _ _ _).mono ?_; rintro e w' ⟨rfl, rfl⟩) | ((with_reducible show wpList _ _ _ (⟨_, Op.load _ _, _, _, _, _⟩ :: _) _ _); (first | refine Gives.list (f_load hS rfl rfl (by rfl)) rfl ?_ | refine Gives.list (f_loadS hS rfl rfl (by rfl)) rfl ?_ | refine Gives.list (f_loadAt hS rfl rfl) rfl ?_ | refine Gives.list (f_loadAtS hS rfl rfl (by rfl)) rfl ?_ | refine Gives.list (f_loadAtF hS rfl rfl (by rfl)) rfl ?_); (simp only [Act.put, sA, sZ, sS])))
      go_ret
      exact ⟨_, rfl, by rw [H.out, cmpI_lt], hS.mod0⟩

/-! ### Rows by a column, then by their values -/
def ltK (c : Int) (down : Bool) (xs ys : List Int) : Bool := ltR c down (xs, true) (ys, true)
theorem ltK_of {c : Int} {down b : Bool} {xs ys : List Int} : ltR c down (xs, b) (ys, b) = ltK c down xs ys := by
  unfold ltK
  rw [ltR_same (a := (xs, b)) (b := (ys, b)) rfl, ltR_same (a := (xs, true)) (b := (ys, true)) rfl]; rfl
theorem ltK_lex {c : Int} {down : Bool} {xs ys : List Int} (h : 0 ≤ c → xs.getD c.toNat 0 = ys.getD c.toNat 0) : ltK c down xs ys = lessL xs ys := ltR_lex rfl h
theorem ltK_key {j : Nat} {down : Bool} {xs ys : List Int} (h1 : j < xs.length) (h2 : j < ys.length) (h : xs[j] ≠ ys[j]) : ltK (j : Int) down xs ys = (decide (xs[j] < ys[j]) != down) := by
  have e1 : keyOf (j : Int) (xs, true) = xs[j] := by unfold keyOf; rw [Int.toNat_natCast, List.getD_eq_getElem?_getD, List.getElem?_eq_getElem h1]; rfl
  have e2 : keyOf (j : Int) (ys, true) = ys[j] := by unfold keyOf; rw [Int.toNat_natCast, List.getD_eq_getElem?_getD, List.getElem?_eq_getElem h2]; rfl
  have h3 := ltR_key (c := (j : Int)) (down := down) (a := (xs, true)) (b := (ys, true)) rfl (by omega) (by rw [e1, e2]; exact h)
  rw [e1, e2] at h3
  exact h3
set_option maxHeartbeats 4000000 in
set_option maxRecDepth 8000 in
theorem clo_rowOrder (w : World) (F G Fa Fd : List Nat) (v u : Value) (xs ys : List Int) (hx : SliceHas Rep.int w F [v] xs) (hy : SliceHas Rep.int w G [u] ys) (ba bd : Nat) (c : Int) (down : Bool) (ha : (Rep.cellR ⟨ba, 0, none⟩).has w Fa [] [.int .i64 c]) (hd : (Rep.cellR ⟨bd, 0, none⟩).has w Fd [] [.bool down]) (hc : c = -1 ∨ ∃ j : Nat, c = (j : Int) ∧ j < xs.length ∧ j < ys.length) :
    Calls Tryd.prog 184 #[v, u, .pointer (some ⟨ba, 0, none⟩), .pointer (some ⟨bd, 0, none⟩)] w fun e w' => ∃ r : Int, e = .returned (.int .i64 r) ∧ decide (r < 0) = ltK c down xs ys ∧ Mod [] w w' := by
  obtain ⟨A, c1, rfl, hl, _⟩ := hx.form'
  obtain ⟨B, c2, rfl, hl2, _⟩ := hy.form'
  have hS : Sat w w [.at ⟨ba, 0, none⟩ [.int .i64 c], .at ⟨bd, 0, none⟩ [.bool down], .ro Rep.int.slice [.slice A xs.length c1] xs, .ro Rep.int.slice [.slice B ys.length c2] ys] := ((((Sat.nil w).arg hy).arg hx).argAt hd).argAt ha
  clear hx hy ha hd
  rcases hc with rfl | ⟨j, rfl, hj1, hj2⟩
  · have H : Hid (ltK (-1) down xs ys = lessL xs ys) := Lib.hid (ltK_lex (by intro h; omega))
    go_enter Tryd.func184, Tryd.ntmps184
    go_wp2_with (first | ((with_reducible show Code.wp _ (Code.region 1 _ true) _ _ _); refine wp_region_drawn [(0, 1), (1, 0), (2, 0), (3, 0), (4, 1), (5, 0), (6, 1), (7, 0), (8, 1), (9, 0), (10, 1), (11, 0), (12, 0)] (by kernel_rfl) (by kernel_rfl) (by intro _ _ dq _ _ hq; cases dq <;> exact hq) ?_; replace hS := hS.mod (Mod.drew (Mod.refl _ _)); (generalize hwd : World.drew _ = wz at hS ⊢); clear hwd) | ((with_reducible show wpD _ _ _ [] _ _); refine D_nil ?_) | ((with_reducible show wpD _ _ _ ((_, 0) :: _) _ _); (first | (refine D_skip rfl rfl ?_; (first | show wpD _ _ _ _ (Act.put _ (some _) _) _ | show wpD _ _ _ _ (Act.put _ none _) _); (simp only [Act.put, sA, sZ, sS])) | (refine D_pure (v := ?_) rfl rfl (fun wq => ?_) ?_; rotate_left 1; (show (Sem.run _ (execOp _ (Oper.mk _ _ _ _ _ _)) _) = _; go_simp; (try go_bits); with_reducible rfl); (first | show wpD _ _ _ _ (Act.put _ (some _) _) _ | show wpD _ _ _ _ (Act.put _ none _) _); (simp only [Act.put, sA, sZ, sS])))) | ((with_reducible show wpD _ _ _ ((_, 1) :: _) _ _); (first | (refine D_skip rfl rfl ?_; (first | show wpD _ _ _ _ (Act.put _ (some _) _) _ | show wpD _ _ _ _ (Act.put _ none _) _); (simp only [Act.put, sA, sZ, sS])) | ((first | refine D_load rfl rfl (fun x hx => f_load (hS.mod hx) rfl rfl (by rfl)) ?_ | refine D_load rfl rfl (fun x hx => f_loadS (hS.mod hx) rfl rfl (by rfl)) ?_ | refine D_load rfl rfl (fun x hx => f_loadAt (hS.mod hx) rfl rfl) ?_ | refine D_load rfl rfl (fun x hx => f_loadAtS (hS.mod hx) rfl rfl (by rfl)) ?_ | refine D_load rfl rfl (fun x hx => f_loadAtF (hS.mod hx) rfl rfl (by rfl)) ?_); (first | show wpD _ _ _ _ (Act.put _ (some _) _) _ | show wpD _ _ _ _ (Act.put _ none _) _); (simp only [Act.put, sA, sZ, sS])))) | (go_at_call 124; obtain ⟨Fq, hFq⟩ := hS.has Rep.int.slice [.slice A xs.length c1]; obtain ⟨Fn, hFn⟩ := hS.has Rep.int.slice [.slice B ys.length c2]; refine (sl_Compare _ Fq Fn _ _ xs ys hFq hFn).mono ?_; rintro e w' ⟨r, rfl, hr, hM⟩; replace hS := hS.mod hM; clear hM hFq hFn))
    go_ret
    exact ⟨r, rfl, by rw [hr, H.out], hS.mod0⟩
  have hj1I : (j : Int) < (xs.length : Int) := by omega
  have hj2I : (j : Int) < (ys.length : Int) := by omega
  have hge : decide ((0 : Int) ≤ (j : Int)) = true := by simp
  obtain ⟨ad, e1, hz, hS⟩ := hS.elInt A xs.length c1 (get_some hj1)
  obtain ⟨ad2, e2, hz2, hS⟩ := hS.elInt B ys.length c2 (get_some hj2)
  by_cases he : xs[j] = ys[j]
  · have H : Hid (ltK (j : Int) down xs ys = lessL xs ys) := Lib.hid (ltK_lex (fun _ => by
      rw [Int.toNat_natCast, List.getD_eq_getElem?_getD, List.getD_eq_getElem?_getD, List.getElem?_eq_getElem hj1, List.getElem?_eq_getElem hj2]
      exact congrArg (fun z => (some z).getD 0) he))
    have hne : (xs[j] != ys[j]) = false := by rw [he]; simp
    generalize xs[j] = x at hS hne
    generalize ys[j] = y at hS hne
    subst e1 e2
    obtain ⟨A, hA⟩ : ∃ A, A = some ad := ⟨_, rfl⟩
    obtain ⟨B, hB⟩ : ∃ A, A = some ad2 := ⟨_, rfl⟩
    clear he
    subst hA hB
    go_enter Tryd.func184, Tryd.ntmps184
    go_wp2_with (first | ((with_reducible show Code.wp _ (Code.region 1 _ true) _ _ _); refine wp_region_drawn [(0, 1), (1, 0), (2, 0), (3, 0), (4, 1), (5, 0), (6, 1), (7, 0), (8, 1), (9, 0), (10, 1), (11, 0), (12, 0)] (by kernel_rfl) (by kernel_rfl) (by intro _ _ dq _ _ hq; cases dq <;> exact hq) ?_; replace hS := hS.mod (Mod.drew (Mod.refl _ _)); (generalize hwd : World.drew _ = wz at hS ⊢); clear hwd) | ((with_reducible show wpD _ _ _ [] _ _); refine D_nil ?_) | ((with_reducible show wpD _ _ _ ((_, 0) :: _) _ _); (first | (refine D_skip rfl rfl ?_; (first | show wpD _ _ _ _ (Act.put _ (some _) _) _ | show wpD _ _ _ _ (Act.put _ none _) _); (simp only [Act.put, sA, sZ, sS])) | (refine D_pure (v := ?_) rfl rfl (fun wq => ?_) ?_; rotate_left 1; (show (Sem.run _ (execOp _ (Oper.mk _ _ _ _ _ _)) _) = _; go_simp; (try go_bits); with_reducible rfl); (first | show wpD _ _ _ _ (Act.put _ (some _) _) _ | show wpD _ _ _ _ (Act.put _ none _) _); (simp only [Act.put, sA, sZ, sS])))) | ((with_reducible show wpD _ _ _ ((_, 1) :: _) _ _); (first | (refine D_skip rfl rfl ?_; (first | show wpD _ _ _ _ (Act.put _ (some _) _) _ | show wpD _ _ _ _ (Act.put _ none _) _); (simp only [Act.put, sA, sZ, sS])) | ((first | refine D_load rfl rfl (fun x hx => f_load (hS.mod hx) rfl rfl (by rfl)) ?_ | refine D_load rfl rfl (fun x hx => f_loadS (hS.mod hx) rfl rfl (by rfl)) ?_ | refine D_load rfl rfl (fun x hx => f_loadAt (hS.mod hx) rfl rfl) ?_ | refine D_load rfl rfl (fun x hx => f_loadAtS (hS.mod hx) rfl rfl (by rfl)) ?_ | refine D_load rfl rfl (fun x hx => f_loadAtF (hS.mod hx) rfl rfl (by rfl)) ?_); (first | show wpD _ _ _ _ (Act.put _ (some _) _) _ | show wpD _ _ _ _ (Act.put _ none _) _); (simp only [Act.put, sA, sZ, sS])))) | (go_at_call 124; obtain ⟨Fq, hFq⟩ := hS.has Rep.int.slice [.slice (some ad) xs.length c1]; obtain ⟨Fn, hFn⟩ := hS.has Rep.int.slice [.slice (some ad2) ys.length c2]; refine (sl_Compare _ Fq Fn _ _ xs ys hFq hFn).mono ?_; rintro e w' ⟨r, rfl, hr, hM⟩; replace hS := hS.mod hM; clear hM hFq hFn))
    go_ret
    exact ⟨r, rfl, by rw [hr, H.out], hS.mod0⟩
  · have H := Lib.hid (ltK_key (down := down) hj1 hj2 he)
    have hne : (xs[j] != ys[j]) = true := by rw [bne_iff_ne]; exact he
    have he2 := Lib.hid he
    generalize xs[j] = x at hS hne H he2
    generalize ys[j] = y at hS hne H he2
    subst e1 e2
    clear he
    cases down
    · go_enter Tryd.func184, Tryd.ntmps184
      go_wp2_with (first | ((with_reducible show Code.wp _ (Code.region 1 _ true) _ _ _); refine wp_region_drawn [(0, 1), (1, 0), (2, 0), (3, 0), (4, 1), (5, 0), (6, 1), (7, 0), (8, 1), (9, 0), (10, 1), (11, 0), (12, 0)] (by kernel_rfl) (by kernel_rfl) (by intro _ _ dq _ _ hq; cases dq <;> exact hq) ?_; replace hS := hS.mod (Mod.drew (Mod.refl _ _)); (generalize hwd : World.drew _ = wz at hS ⊢); clear hwd) | ((with_reducible show Code.wp _ (Code.region 4 _ true) _ _ _); refine wp_region_drawn [(0, 0), (1, 1), (2, 0), (3, 1), (4, 0), (5, 1), (6, 0), (7, 1), (8, 2), (9, 0)] (by kernel_rfl) (by kernel_rfl) (by intro _ _ dq _ _ hq; cases dq <;> exact hq) ?_; replace hS := hS.mod (Mod.drew (Mod.refl _ _)); (generalize hwd : World.drew _ = wz at hS ⊢); clear hwd) | ((with_reducible show wpD _ _ _ ((_, 2) :: _) _ _); (refine D_call (f := 174) (args := ?_) rfl rfl ?_ ?_); rotate_left 1; (show (Sem.run _ (execOp _ (Oper.mk _ _ _ _ _ _)) _) = _; go_simp; rfl); refine (cmp_Compare _ _ _).mono ?_; rintro e wy ⟨rfl, rfl⟩; refine ⟨_, rfl, Mod.refl _ _, ?_⟩; (first | show wpD _ _ _ _ (Act.put _ (some _) _) _ | show wpD _ _ _ _ (Act.put _ none _) _); (simp only [Act.put, sA, sZ, sS])) | ((with_reducible show wpD _ _ _ [] _ _); refine D_nil ?_) | ((with_reducible show wpD _ _ _ ((_, 0) :: _) _ _); (first | (refine D_skip rfl rfl ?_; (first | show wpD _ _ _ _ (Act.put _ (some _) _) _ | show wpD _ _ _ _ (Act.put _ none _) _); (simp only [Act.put, sA, sZ, sS])) | (refine D_pure (v := ?_) rfl rfl (fun wq => ?_) ?_; rotate_left 1; (show (Sem.run _ (execOp _ (Oper.mk _ _ _ _ _ _)) _) = _; go_simp; (try go_bits); with_reducible rfl); (first | show wpD _ _ _ _ (Act.put _ (some _) _) _ | show wpD _ _ _ _ (Act.put _ none _) _); (simp only [Act.put, sA, sZ, sS])))) | ((with_reducible show wpD _ _ _ ((_, 1) :: _) _ _); (first | (refine D_skip rfl rfl ?_; (first | show wpD _ _ _ _ (Act.put _ (some _) _) _ | show wpD _ _ _ _ (Act.put _ none _) _); (simp only [Act.put, sA, sZ, sS])) | ((first | refine D_load rfl rfl (fun x hx => f_load (hS.mod hx) rfl rfl (by rfl)) ?_ | refine D_load rfl rfl (fun x hx => f_loadS (hS.mod hx) rfl rfl (by rfl)) ?_ | refine D_load rfl rfl (fun x hx => f_loadAt (hS.mod hx) rfl rfl) ?_ | refine D_load rfl rfl (fun x hx => f_loadAtS (hS.mod hx) rfl rfl (by rfl)) ?_ | refine D_load rfl rfl (fun x hx => f_loadAtF (hS.mod hx) rfl rfl (by rfl)) ?_); (first | show wpD _ _ _ _ (Act.put _ (some _) _) _ | show wpD _ _ _ _ (Act.put _ none _) _); (simp only [Act.put, sA, sZ, sS])))) | ((with_reducible show wpList _ _ _ (⟨_, Op.load _ _, _, _, _, _⟩ :: _) _ _); (first | refine Gives.list (f_load hS rfl rfl (by rfl)) rfl ?_ | refine Gives.list (f_loadS hS rfl rfl (by rfl)) rfl ?_ | refine Gives.list (f_loadAt hS rfl rfl) rfl ?_ | refine Gives.list (f_loadAtS hS rfl rfl (by rfl)) rfl ?_ | refine Gives.list (f_loadAtF hS rfl rfl (by rfl)) rfl ?_); (simp only [Act.put, sA, sZ, sS])))
      go_ret
      exact ⟨_, rfl, by rw [H.out, cmpI_lt]; simp, hS.mod0⟩
    · go_enter Tryd.func184, Tryd.ntmps184
      go_wp2_with (first | ((with_reducible show Code.wp _ (Code.region 1 _ true) _ _ _); refine wp_region_drawn [(0, 1), (1, 0), (2, 0), (3, 0), (4, 1), (5, 0), (6, 1), (7, 0), (8, 1), (9, 0), (10, 1), (11, 0), (12, 0)] (by kernel_rfl) (by kernel_rfl) (by intro _ _ dq _ _ hq; cases dq <;> exact hq) ?_; replace hS := hS.mod (Mod.drew (Mod.refl _ _)); (generalize hwd : World.drew _ = wz at hS ⊢); clear hwd) | ((with_reducible show Code.wp _ (Code.region 3 _ true) _ _ _); refine wp_region_drawn [(0, 0), (1, 1), (2, 0), (3, 1), (4, 0), (5, 1), (6, 0), (7, 1), (8, 2), (9, 0)] (by kernel_rfl) (by kernel_rfl) (by intro _ _ dq _ _ hq; cases dq <;> exact hq) ?_; replace hS := hS.mod (Mod.drew (Mod.refl _ _)); (generalize hwd : World.drew _ = wz at hS ⊢); clear hwd) | ((with_reducible show wpD _ _ _ ((_, 2) :: _) _ _); (refine D_call (f := 174) (args := ?_) rfl rfl ?_ ?_); rotate_left 1; (show (Sem.run _ (execOp _ (Oper.mk _ _ _ _ _ _)) _) = _; go_simp; rfl); refine (cmp_Compare _ _ _).mono ?_; rintro e wy ⟨rfl, rfl⟩; refine ⟨_, rfl, Mod.refl _ _, ?_⟩; (first | show wpD _ _ _ _ (Act.put _ (some _) _) _ | show wpD _ _ _ _ (Act.put _ none _) _); (simp only [Act.put, sA, sZ, sS])) | ((with_reducible show wpD _ _ _ [] _ _); refine D_nil ?_) | ((with_reducible show wpD _ _ _ ((_, 0) :: _) _ _); (first | (refine D_skip rfl rfl ?_; (first | show wpD _ _ _ _ (Act.put _ (some _) _) _ | show wpD _ _ _ _ (Act.put _ none _) _); (simp only [Act.put, sA, sZ, sS])) | (refine D_pure (v := ?_) rfl rfl (fun wq => ?_) ?_; rotate_left 1; (show (Sem.run _ (execOp _ (Oper.mk _ _ _ _ _ _)) _) = _; go_simp; (try go_bits); with_reducible rfl); (first | show wpD _ _ _ _ (Act.put _ (some _) _) _ | show wpD _ _ _ _ (Act.put _ none _) _); (simp only [Act.put, sA, sZ, sS])))) | ((with_reducible show wpD _ _ _ ((_, 1) :: _) _ _); (first | (refine D_skip rfl rfl ?_; (first | show wpD _ _ _ _ (Act.put _ (some _) _) _ | show wpD _ _ _ _ (Act.put _ none _) _); (simp only [Act.put, sA, sZ, sS])) | ((first | refine D_load rfl rfl (fun x hx => f_load (hS.mod hx) rfl rfl (by rfl)) ?_ | refine D_load rfl rfl (fun x hx => f_loadS (hS.mod hx) rfl rfl (by rfl)) ?_ | refine D_load rfl rfl (fun x hx => f_loadAt (hS.mod hx) rfl rfl) ?_ | refine D_load rfl rfl (fun x hx => f_loadAtS (hS.mod hx) rfl rfl (by rfl)) ?_ | refine D_load rfl rfl (fun x hx => f_loadAtF (hS.mod hx) rfl rfl (by rfl)) ?_); (first | show wpD _ _ _ _ (Act.put _ (some _) _) _ | show wpD _ _ _ _ (Act.put _ none _) _); (simp only [Act.put, sA, sZ, sS])))) | ((with_reducible show wpList _ _ _ (⟨_, Op.load _ _, _, _, _, _⟩ :: _) _ _); (first | refine Gives.list (f_load hS rfl rfl (by rfl)) rfl ?_ | refine Gives.list (f_loadS hS rfl rfl (by rfl)) rfl ?_ | refine Gives.list (f_loadAt hS rfl rfl) rfl ?_ | refine Gives.list (f_loadAtS hS rfl rfl (by rfl)) rfl ?_ | refine Gives.list (f_loadAtF hS rfl rfl (by rfl)) rfl ?_); (simp only [Act.put, sA, sZ, sS])))
      go_ret
      refine ⟨_, rfl, ?_, hS.mod0⟩
      rw [H.out, cmpI_lt]
      have h2 := he2.out
      by_cases h3 : x < y
      · simp [h3]; omega
      · simp [h3]; omega

/-! ### Places of a padded table -/
theorem f_loadAtB {P : Program} {o : Oper} {a : Act} {w w0 : World} {Γ : List Fact} {T : TypeId} {z : Value} {p : Operand} {b j i : Nat} {u : Value} {cs : List Value} (hS : Sat w0 w Γ) (ho : o.op = .load T p) (hp : a.eval p = .pointer (some ⟨b, j + 1, none⟩)) [hi : CellsIn Γ ⟨b, 0, none⟩ cs i] [hT : Ty P T z 1 false] (hu : cs[j + 1]? = some u) : Gives P o a w u :=
  f_loadAtF (ad := ⟨b, 0, none⟩) hS ho (by simpa using hp) hu
set_option maxHeartbeats 4000000 in
set_option maxRecDepth 8000 in
theorem clo_sorted (w : World) (Fp Fc Fa Fd G H' : List Nat) (bp bc ba bd : Nat) (s1 : Value) (A2 A3 : Option Addr) (c2 c3 : Nat) (rows : List (List Int)) (real : List Bool) (c : Int) (down : Bool) (hp : (Rep.cellR ⟨bp, 0, none⟩).has w Fp [] [s1, .slice A2 rows.length c2, .slice A3 real.length c3]) (hcl : (Rep.cellR ⟨bc, 0, none⟩).has w Fc [] [.func (.func 184) #[] #[.pointer (some ⟨ba, 0, none⟩), .pointer (some ⟨bd, 0, none⟩)]])
    (ha : (Rep.cellR ⟨ba, 0, none⟩).has w Fa [] [.int .i64 c]) (hd : (Rep.cellR ⟨bd, 0, none⟩).has w Fd [] [.bool down]) (hy : SliceHas Rep.int.slice w G [.slice A2 rows.length c2] rows) (hz : SliceHas Rep.bool w H' [.slice A3 real.length c3] real) (hl : real.length = rows.length) (m : Nat) (hm : ∀ r ∈ rows, r.length = m) (hc : c = -1 ∨ ∃ j : Nat, c = (j : Int) ∧ j < m) (i k : Nat) (hi : i < rows.length) (hk : k < rows.length) :
    Calls Tryd.prog 164 #[.int .i64 (i : Int), .int .i64 (k : Int), .pointer (some ⟨bp, 0, none⟩), .pointer (some ⟨bc, 0, none⟩)] w fun e w' => (∃ r : Int, e = .returned (.int .i64 r) ∧ decide (r < 0) = ltR c down (rows[i], real[i]'(by omega)) (rows[k], real[k]'(by omega))) ∧ Mod [] w w' := by
  have hS : Sat w w [.at ⟨bp, 0, none⟩ [s1, .slice A2 rows.length c2, .slice A3 real.length c3], .at ⟨bc, 0, none⟩ [.func (.func 184) #[] #[.pointer (some ⟨ba, 0, none⟩), .pointer (some ⟨bd, 0, none⟩)]], .ro Rep.int.slice.slice [.slice A2 rows.length c2] rows, .ro Rep.bool.slice [.slice A3 real.length c3] real] := ((((Sat.nil w).arg hz).arg hy).argAt hcl).argAt hp
  clear hp hcl hy hz
  have hi3 : i < real.length := by omega
  have hk3 : k < real.length := by omega
  have hiI : (i : Int) < (rows.length : Int) := by omega
  have hkI : (k : Int) < (rows.length : Int) := by omega
  have hi3I : (i : Int) < (real.length : Int) := by omega
  have hk3I : (k : Int) < (real.length : Int) := by omega
  obtain ⟨ad3, rfl, hS⟩ := hS.elBool A3 real.length c3 (get_some hi3)
  obtain ⟨_, e3, hS⟩ := hS.elBool (some ad3) real.length c3 (get_some hk3)
  cases e3
  by_cases hr : real[i] = real[k]
  · have H : Hid (ltR c down (rows[i], real[i]) (rows[k], real[k]) = ltK c down rows[i] rows[k]) := Lib.hid (by rw [hr]; exact ltK_of)
    have hne : (real[i] != real[k]) = false := by rw [hr]; simp
    have hix := hm _ (List.getElem_mem hi)
    have hkx := hm _ (List.getElem_mem hk)
    have hc' : c = -1 ∨ ∃ j : Nat, c = (j : Int) ∧ j < rows[i].length ∧ j < rows[k].length := by
      rcases hc with h | ⟨j, h1, h2⟩
      · exact .inl h
      · exact .inr ⟨j, h1, by omega, by omega⟩
    obtain ⟨ad2, Ax, cx, rfl, i0, i1, hS⟩ := hS.elSlice Rep.int A2 rows.length c2 (get_some hi)
    obtain ⟨_, Ay, cy, e2, k0, k1, hS⟩ := hS.elSlice Rep.int (some ad2) rows.length c2 (get_some hk)
    cases e2
    generalize real[i] = ri at hS hne H
    generalize real[k] = rk at hS hne H
    generalize rows[i] = xs at hS hc' H i0 i1
    generalize rows[k] = ys at hS hc' H k0 k1
    clear hix hkx hr hm hc
    have hrk : ri = rk := by simpa using hne
    subst hrk
    cases ri
    all_goals
      go_enter Tryd.func164, Tryd.ntmps164
      go_wp2_with (first | ((with_reducible show Code.wp _ (Code.region 1 _ true) _ _ _); refine wp_region_drawn [(0, 0), (1, 1), (2, 0), (3, 0), (4, 1), (5, 0), (6, 1), (7, 0), (8, 0), (9, 1), (10, 0)] (by kernel_rfl) (by kernel_rfl) (by intro _ _ dq _ _ hq; cases dq <;> exact hq) ?_; replace hS := hS.mod (Mod.drew (Mod.refl _ _)); (generalize hwd : World.drew _ = wz at hS ⊢); clear hwd) | ((with_reducible show Code.wp _ (Code.region 5 _ true) _ _ _); refine wp_region_drawn [(0, 1), (1, 0), (2, 1), (3, 0), (4, 0), (5, 1), (6, 0), (7, 1), (8, 0), (9, 0), (10, 1), (11, 2), (12, 0)] (by kernel_rfl) (by kernel_rfl) (by intro _ _ dq _ _ hq; cases dq <;> exact hq) ?_; replace hS := hS.mod (Mod.drew (Mod.refl _ _)); (generalize hwd : World.drew _ = wz at hS ⊢); clear hwd) | ((with_reducible show wpD _ _ _ ((_, 2) :: _) _ _); (refine D_call (f := 184) (args := ?_) rfl rfl ?_ ?_); rotate_left 1; (show (Sem.run _ (execOp _ (Oper.mk _ _ _ _ _ _)) _) = _; go_simp; rfl); obtain ⟨Fq, hFq⟩ := hS.has Rep.int.slice [.slice Ax xs.length cx]; obtain ⟨Fn, hFn⟩ := hS.has Rep.int.slice [.slice Ay ys.length cy]; refine (clo_rowOrder _ Fq Fn _ _ _ _ xs ys hFq hFn ba bd c down ((Rep.cellR _).mod0 ha hS.mod0) ((Rep.cellR _).mod0 hd hS.mod0) hc').mono ?_; rintro e wy ⟨r, rfl, hr, hM⟩; replace hS := hS.mod hM; clear hFq hFn; refine ⟨_, rfl, hM, ?_⟩; clear hM; (first | show wpD _ _ _ _ (Act.put _ (some _) _) _ | show wpD _ _ _ _ (Act.put _ none _) _); (simp only [Act.put, sA, sZ, sS])) | ((with_reducible show wpD _ _ _ ((_, 1) :: _) _ _); refine D_load rfl rfl (fun x hx => f_loadAtB (hS.mod hx) rfl rfl (by rfl)) ?_; (first | show wpD _ _ _ _ (Act.put _ (some _) _) _ | show wpD _ _ _ _ (Act.put _ none _) _); (simp only [Act.put, sA, sZ, sS])) | ((with_reducible show wpD _ _ _ [] _ _); refine D_nil ?_) | ((with_reducible show wpD _ _ _ ((_, 0) :: _) _ _); (first | (refine D_skip rfl rfl ?_; (first | show wpD _ _ _ _ (Act.put _ (some _) _) _ | show wpD _ _ _ _ (Act.put _ none _) _); (simp only [Act.put, sA, sZ, sS])) | (refine D_pure (v := ?_) rfl rfl (fun wq => ?_) ?_; rotate_left 1; (show (Sem.run _ (execOp _ (Oper.mk _ _ _ _ _ _)) _) = _; go_simp; (try go_bits); with_reducible rfl); (first | show wpD _ _ _ _ (Act.put _ (some _) _) _ | show wpD _ _ _ _ (Act.put _ none _) _); (simp only [Act.put, sA, sZ, sS])))) | ((with_reducible show wpD _ _ _ ((_, 1) :: _) _ _); (first | (refine D_skip rfl rfl ?_; (first | show wpD _ _ _ _ (Act.put _ (some _) _) _ | show wpD _ _ _ _ (Act.put _ none _) _); (simp only [Act.put, sA, sZ, sS])) | ((first | refine D_load rfl rfl (fun x hx => f_load (hS.mod hx) rfl rfl (by rfl)) ?_ | refine D_load rfl rfl (fun x hx => f_loadS (hS.mod hx) rfl rfl (by rfl)) ?_ | refine D_load rfl rfl (fun x hx => f_loadAt (hS.mod hx) rfl rfl) ?_ | refine D_load rfl rfl (fun x hx => f_loadAtS (hS.mod hx) rfl rfl (by rfl)) ?_ | refine D_load rfl rfl (fun x hx => f_loadAtF (hS.mod hx) rfl rfl (by rfl)) ?_); (first | show wpD _ _ _ _ (Act.put _ (some _) _) _ | show wpD _ _ _ _ (Act.put _ none _) _); (simp only [Act.put, sA, sZ, sS])))))
      go_ret
      exact ⟨⟨r, rfl, by rw [hr, H.out]⟩, hS.mod0⟩
  · have H : Hid (ltR c down (rows[i], real[i]) (rows[k], real[k]) = real[i]) := Lib.hid (ltR_real hr)
    have hne : (real[i] != real[k]) = true := by rw [bne_iff_ne]; exact hr
    generalize real[i] = ri at hS hne H
    generalize real[k] = rk at hS hne H
    generalize rows[i] = xs at H
    generalize rows[k] = ys at H
    clear hr
    cases ri
    · obtain rfl : rk = true := by cases rk; cases hne; rfl
      go_enter Tryd.func164, Tryd.ntmps164
      go_wp2_with (first | ((with_reducible show Code.wp _ (Code.region 1 _ true) _ _ _); refine wp_region_drawn [(0, 0), (1, 1), (2, 0), (3, 0), (4, 1), (5, 0), (6, 1), (7, 0), (8, 0), (9, 1), (10, 0)] (by kernel_rfl) (by kernel_rfl) (by intro _ _ dq _ _ hq; cases dq <;> exact hq) ?_; replace hS := hS.mod (Mod.drew (Mod.refl _ _)); (generalize hwd : World.drew _ = wz at hS ⊢); clear hwd) | ((with_reducible show wpD _ _ _ ((_, 1) :: _) _ _); refine D_load rfl rfl (fun x hx => f_loadAtB (hS.mod hx) rfl rfl (by rfl)) ?_; (first | show wpD _ _ _ _ (Act.put _ (some _) _) _ | show wpD _ _ _ _ (Act.put _ none _) _); (simp only [Act.put, sA, sZ, sS])) | ((with_reducible show wpD _ _ _ [] _ _); refine D_nil ?_) | ((with_reducible show wpD _ _ _ ((_, 0) :: _) _ _); (first | (refine D_skip rfl rfl ?_; (first | show wpD _ _ _ _ (Act.put _ (some _) _) _ | show wpD _ _ _ _ (Act.put _ none _) _); (simp only [Act.put, sA, sZ, sS])) | (refine D_pure (v := ?_) rfl rfl (fun wq => ?_) ?_; rotate_left 1; (show (Sem.run _ (execOp _ (Oper.mk _ _ _ _ _ _)) _) = _; go_simp; (try go_bits); with_reducible rfl); (first | show wpD _ _ _ _ (Act.put _ (some _) _) _ | show wpD _ _ _ _ (Act.put _ none _) _); (simp only [Act.put, sA, sZ, sS])))) | ((with_reducible show wpD _ _ _ ((_, 1) :: _) _ _); (first | (refine D_skip rfl rfl ?_; (first | show wpD _ _ _ _ (Act.put _ (some _) _) _ | show wpD _ _ _ _ (Act.put _ none _) _); (simp only [Act.put, sA, sZ, sS])) | ((first | refine D_load rfl rfl (fun x hx => f_load (hS.mod hx) rfl rfl (by rfl)) ?_ | refine D_load rfl rfl (fun x hx => f_loadS (hS.mod hx) rfl rfl (by rfl)) ?_ | refine D_load rfl rfl (fun x hx => f_loadAt (hS.mod hx) rfl rfl) ?_ | refine D_load rfl rfl (fun x hx => f_loadAtS (hS.mod hx) rfl rfl (by rfl)) ?_ | refine D_load rfl rfl (fun x hx => f_loadAtF (hS.mod hx) rfl rfl (by rfl)) ?_); (first | show wpD _ _ _ _ (Act.put _ (some _) _) _ | show wpD _ _ _ _ (Act.put _ none _) _); (simp only [Act.put, sA, sZ, sS])))) | ((with_reducible show wpList _ _ _ (⟨_, Op.load _ _, _, _, _, _⟩ :: _) _ _); refine Gives.list (f_loadAtB hS rfl rfl (by rfl)) rfl ?_; (simp only [Act.put, sA, sZ, sS])) | ((with_reducible show wpList _ _ _ (⟨_, Op.load _ _, _, _, _, _⟩ :: _) _ _); (first | refine Gives.list (f_load hS rfl rfl (by rfl)) rfl ?_ | refine Gives.list (f_loadS hS rfl rfl (by rfl)) rfl ?_ | refine Gives.list (f_loadAt hS rfl rfl) rfl ?_ | refine Gives.list (f_loadAtS hS rfl rfl (by rfl)) rfl ?_ | refine Gives.list (f_loadAtF hS rfl rfl (by rfl)) rfl ?_); (simp only [Act.put, sA, sZ, sS])))
      go_ret
      exact ⟨⟨1, rfl, by rw [H.out]; rfl⟩, hS.mod0⟩
    · obtain rfl : rk = false := by cases rk; rfl; cases hne
      go_enter Tryd.func164, Tryd.ntmps164
      go_wp2_with (first | ((with_reducible show Code.wp _ (Code.region 1 _ true) _ _ _); refine wp_region_drawn [(0, 0), (1, 1), (2, 0), (3, 0), (4, 1), (5, 0), (6, 1), (7, 0), (8, 0), (9, 1), (10, 0)] (by kernel_rfl) (by kernel_rfl) (by intro _ _ dq _ _ hq; cases dq <;> exact hq) ?_; replace hS := hS.mod (Mod.drew (Mod.refl _ _)); (generalize hwd : World.drew _ = wz at hS ⊢); clear hwd) | ((with_reducible show wpD _ _ _ ((_, 1) :: _) _ _); refine D_load rfl rfl (fun x hx => f_loadAtB (hS.mod hx) rfl rfl (by rfl)) ?_; (first | show wpD _ _ _ _ (Act.put _ (some _) _) _ | show wpD _ _ _ _ (Act.put _ none _) _); (simp only [Act.put, sA, sZ, sS])) | ((with_reducible show wpD _ _ _ [] _ _); refine D_nil ?_) | ((with_reducible show wpD _ _ _ ((_, 0) :: _) _ _); (first | (refine D_skip rfl rfl ?_; (first | show wpD _ _ _ _ (Act.put _ (some _) _) _ | show wpD _ _ _ _ (Act.put _ none _) _); (simp only [Act.put, sA, sZ, sS])) | (refine D_pure (v := ?_) rfl rfl (fun wq => ?_) ?_; rotate_left 1; (show (Sem.run _ (execOp _ (Oper.mk _ _ _ _ _ _)) _) = _; go_simp; (try go_bits); with_reducible rfl); (first | show wpD _ _ _ _ (Act.put _ (some _) _) _ | show wpD _ _ _ _ (Act.put _ none _) _); (simp only [Act.put, sA, sZ, sS])))) | ((with_reducible show wpD _ _ _ ((_, 1) :: _) _ _); (first | (refine D_skip rfl rfl ?_; (first | show wpD _ _ _ _ (Act.put _ (some _) _) _ | show wpD _ _ _ _ (Act.put _ none _) _); (simp only [Act.put, sA, sZ, sS])) | ((first | refine D_load rfl rfl (fun x hx => f_load (hS.mod hx) rfl rfl (by rfl)) ?_ | refine D_load rfl rfl (fun x hx => f_loadS (hS.mod hx) rfl rfl (by rfl)) ?_ | refine D_load rfl rfl (fun x hx => f_loadAt (hS.mod hx) rfl rfl) ?_ | refine D_load rfl rfl (fun x hx => f_loadAtS (hS.mod hx) rfl rfl (by rfl)) ?_ | refine D_load rfl rfl (fun x hx => f_loadAtF (hS.mod hx) rfl rfl (by rfl)) ?_); (first | show wpD _ _ _ _ (Act.put _ (some _) _) _ | show wpD _ _ _ _ (Act.put _ none _) _); (simp only [Act.put, sA, sZ, sS])))) | ((with_reducible show wpList _ _ _ (⟨_, Op.load _ _, _, _, _, _⟩ :: _) _ _); refine Gives.list (f_loadAtB hS rfl rfl (by rfl)) rfl ?_; (simp only [Act.put, sA, sZ, sS])) | ((with_reducible show wpList _ _ _ (⟨_, Op.load _ _, _, _, _, _⟩ :: _) _ _); (first | refine Gives.list (f_load hS rfl rfl (by rfl)) rfl ?_ | refine Gives.list (f_loadS hS rfl rfl (by rfl)) rfl ?_ | refine Gives.list (f_loadAt hS rfl rfl) rfl ?_ | refine Gives.list (f_loadAtS hS rfl rfl (by rfl)) rfl ?_ | refine Gives.list (f_loadAtF hS rfl rfl (by rfl)) rfl ?_); (simp only [Act.put, sA, sZ, sS])))
      go_ret
      exact ⟨⟨-1, rfl, by rw [H.out]; rfl⟩, hS.mod0⟩
end Go.Proofs.YtldknaajnnohiaaDoor
end

section
namespace Go.Proofs.YtldknaajnnohiaaDoor
open Go.RowKit

set_option maxHeartbeats 4000000 in
set_option maxRecDepth 8000 in
theorem impl_add_t {w0 w : World} {Γ : List Fact} (bp k : Nat) (s1 : Value) (B2 B3 Ar : Option Addr) (d2 d3 cr : Nat) (rows : List (List Int)) (real : List Bool) (r : List Int) (hk : k ≤ 1000000) (hrb : r.length ≤ 1000000)
    (hS : Sat w0 w (.box bp [s1, .slice B2 k d2, .slice B3 k d3] :: .own Rep.int.rows.rows [.slice B2 k d2] rows :: .own Rep.bool.rows [.slice B3 k d3] real :: .ro Rep.int.slice [.slice Ar r.length cr] r :: Γ)) :
    Calls Tryd.prog 121 #[.pointer (some ⟨bp, 0, none⟩), .slice Ar r.length cr, .bool true] w fun e w' => e = .returned (.tuple #[]) ∧ ∃ B2 d2 B3 d3, Sat w0 w' (.box bp [s1, .slice B2 (k + 1) d2, .slice B3 (k + 1) d3] :: .own Rep.int.rows.rows [.slice B2 (k + 1) d2] (rows ++ [r]) :: .own Rep.bool.rows [.slice B3 (k + 1) d3] (real ++ [true]) :: .ro Rep.int.slice [.slice Ar r.length cr] r :: Γ) := by
  go_enter Tryd.func121, Tryd.ntmps121
  go_wp2_with (first | ((with_reducible show Code.wp _ (Code.region 2 _ true) _ _ _); refine wp_region_drawn [(0, 0), (1, 0), (2, 0), (3, 0), (4, 1), (5, 0), (6, 2), (7, 2), (8, 3), (9, 0), (10, 0), (11, 3)] (by kernel_rfl) (by kernel_rfl) (by intro _ _ dq _ _ hq; cases dq <;> exact hq) ?_; replace hS := hS.mod (Mod.drew (Mod.refl _ _)); (generalize hwd : World.drew _ = wz at hS ⊢); clear hwd) | ((with_reducible show wpD _ _ _ ((_, 2) :: _) _ _); (refine D_call (f := 93) (args := ?_) rfl rfl ?_ ?_); rotate_left 1; (show (Sem.run _ (execOp _ (Oper.mk _ _ _ _ _ _)) _) = _; go_simp; rfl); obtain ⟨Fq, hFq⟩ := hS.has Rep.int.slice [.slice Ar r.length cr]; refine (sl_Clone_int _ Fq _ _ _ _ hFq hrb).mono ?_; rintro e wy ⟨v1, rfl, hN⟩; have hM := hN.mod0; replace hS := hS.fresh hN; clear hN hFq; obtain ⟨A9, c9, rfl⟩ := hS.formOwn 0 rfl; refine ⟨_, rfl, hM, ?_⟩; clear hM; (first | show wpD _ _ _ _ (Act.put _ (some _) _) _ | show wpD _ _ _ _ (Act.put _ none _) _); (simp only [Act.put, sA, sZ, sS])) | ((with_reducible show wpD _ _ _ ((_, 3) :: _) _ _); refine D_loud rfl rfl (f_append Rep.int.rows (Sat.vec1 (Sat.swap hS)) rfl rfl rfl rfl rfl (by decide) (by omega)) ?_; clear hS; rintro _ wx ⟨B2', d2', rfl, hS⟩; (simp only [sZ, sS] at hS); (first | show wpD _ _ _ _ (Act.put _ (some _) _) _ | show wpD _ _ _ _ (Act.put _ none _) _); (simp only [Act.put, sA, sZ, sS])) | ((with_reducible show wpD _ _ _ ((_, 3) :: _) _ _); refine D_loud rfl rfl (f_store (u := .slice _ _ _) hS rfl rfl rfl (by rfl) (by rfl)) ?_; clear hS; rintro _ wx ⟨rfl, hS⟩; (simp only [sZ, sS] at hS); (first | show wpD _ _ _ _ (Act.put _ (some _) _) _ | show wpD _ _ _ _ (Act.put _ none _) _); (simp only [Act.put, sA, sZ, sS])) | ((with_reducible show wpD _ _ _ [] _ _); refine D_nil ?_) | ((with_reducible show wpD _ _ _ ((_, 0) :: _) _ _); (first | (refine D_skip rfl rfl ?_; (first | show wpD _ _ _ _ (Act.put _ (some _) _) _ | show wpD _ _ _ _ (Act.put _ none _) _); (simp only [Act.put, sA, sZ, sS])) | (refine D_pure (v := ?_) rfl rfl (fun wq => ?_) ?_; rotate_left 1; (show (Sem.run _ (execOp _ (Oper.mk _ _ _ _ _ _)) _) = _; go_simp; (try go_bits); with_reducible rfl); (first | show wpD _ _ _ _ (Act.put _ (some _) _) _ | show wpD _ _ _ _ (Act.put _ none _) _); (simp only [Act.put, sA, sZ, sS])))) | ((with_reducible show wpD _ _ _ ((_, 1) :: _) _ _); (first | (refine D_skip rfl rfl ?_; (first | show wpD _ _ _ _ (Act.put _ (some _) _) _ | show wpD _ _ _ _ (Act.put _ none _) _); (simp only [Act.put, sA, sZ, sS])) | ((first | refine D_load rfl rfl (fun x hx => f_load (hS.mod hx) rfl rfl (by rfl)) ?_ | refine D_load rfl rfl (fun x hx => f_loadS (hS.mod hx) rfl rfl (by rfl)) ?_ | refine D_load rfl rfl (fun x hx => f_loadAt (hS.mod hx) rfl rfl) ?_ | refine D_load rfl rfl (fun x hx => f_loadAtS (hS.mod hx) rfl rfl (by rfl)) ?_ | refine D_load rfl rfl (fun x hx => f_loadAtF (hS.mod hx) rfl rfl (by rfl)) ?_); (first | show wpD _ _ _ _ (Act.put _ (some _) _) _ | show wpD _ _ _ _ (Act.put _ none _) _); (simp only [Act.put, sA, sZ, sS])))) | ((with_reducible show wpD _ _ _ ((_, 2) :: _) _ _); ((refine D_calm rfl rfl (does_buildSlice (X := ?_) (cs := ?_) (E := ?_) hS rfl ?_ ?_) ?_); rotate_left 3; (go_simp; rfl); rfl; clear hS; rintro _ wx ⟨bx, rfl, hS, hM⟩; refine ⟨hM, ?_⟩; clear hM; (first | show wpD _ _ _ _ (Act.put _ (some _) _) _ | show wpD _ _ _ _ (Act.put _ none _) _); (simp only [Act.put, sA, sZ, sS]))) | ((with_reducible show wpList _ _ _ (⟨_, Op.call { callee := Callee.builtin Builtin.append, args := _, argTypes := _ }, _, _, _, _⟩ :: _) _ _); (first | refine Does.list (f_append Rep.bool (Sat.vec1 (hS.bool true)) rfl rfl rfl rfl rfl (by decide) (by omega)) rfl ?_ | refine Does.list (f_append Rep.bool (Sat.vec1 (hS.bool false)) rfl rfl rfl rfl rfl (by decide) (by omega)) rfl ?_); clear hS; rintro _ wx ⟨B3', d3', rfl, hS⟩; (simp only [sZ, sS] at hS); (simp only [Act.put, sA, sZ, sS])) | ((with_reducible show wpList _ _ _ (⟨_, Op.store _ _ _, _, _, _, _⟩ :: _) _ _); (first | refine Does.list (f_store (u := .int .i64 _) hS rfl rfl rfl (by rfl) (by rfl)) rfl ?_ | refine Does.list (f_store (u := .slice _ _ _) hS rfl rfl rfl (by rfl) (by rfl)) rfl ?_ | refine Does.list (f_store (u := .string _) hS rfl rfl rfl (by rfl) (by rfl)) rfl ?_ | refine Does.list (f_store (u := .bool _) hS rfl rfl rfl (by rfl) (by rfl)) rfl ?_); clear hS; rintro _ wx ⟨rfl, hS⟩; (simp only [sZ, sS] at hS); (simp only [Act.put, sA, sZ, sS])) | ((with_reducible show wpList _ _ _ (⟨_, Op.load _ _, _, _, _, _⟩ :: _) _ _); (first | refine Gives.list (f_load hS rfl rfl (by rfl)) rfl ?_ | refine Gives.list (f_loadS hS rfl rfl (by rfl)) rfl ?_ | refine Gives.list (f_loadAt hS rfl rfl) rfl ?_ | refine Gives.list (f_loadAtS hS rfl rfl (by rfl)) rfl ?_ | refine Gives.list (f_loadAtF hS rfl rfl (by rfl)) rfl ?_); (simp only [Act.put, sA, sZ, sS])) | ((with_reducible show wpList _ _ _ (⟨_, Op.buildSlice _ _ _, _, _, _, _⟩ :: _) _ _); refine Does.list (does_buildSlice (X := ?_) (cs := ?_) (E := ?_) hS rfl ?_ ?_) rfl ?_; rotate_left 3; (go_simp; rfl); rfl; clear hS; rintro _ wx ⟨bx, rfl, hS, _⟩; (simp only [Act.put, sA, sZ, sS])))
  (try simp only [Exit.inBlock, Exit.then])
  (first | refine bodyPost_ret (results_none rfl _ _ _) rfl ?_ | refine bodyPost_end (results_none rfl _ _ _) rfl ?_)

  exact ⟨rfl, _, _, _, _, hS⟩
set_option maxHeartbeats 4000000 in
set_option maxRecDepth 8000 in
theorem impl_add_f {w0 w : World} {Γ : List Fact} (bp k m : Nat) (v : Value) (B1 B2 B3 : Option Addr) (d1 d2 d3 : Nat) (rows : List (List Int)) (real : List Bool) (hk : k ≤ 1000000) (hm : m ≤ 1000000)
    (hS : Sat w0 w (.box bp [.slice B1 m d1, .slice B2 k d2, .slice B3 k d3] :: .own Rep.int.rows.rows [.slice B2 k d2] rows :: .own Rep.bool.rows [.slice B3 k d3] real :: Γ)) :
    Calls Tryd.prog 121 #[.pointer (some ⟨bp, 0, none⟩), v, .bool false] w fun e w' => e = .returned (.tuple #[]) ∧ ∃ B2 d2 B3 d3, Sat w0 w' (.box bp [.slice B1 m d1, .slice B2 (k + 1) d2, .slice B3 (k + 1) d3] :: .own Rep.int.rows.rows [.slice B2 (k + 1) d2] (rows ++ [List.replicate m 0]) :: .own Rep.bool.rows [.slice B3 (k + 1) d3] (real ++ [false]) :: Γ) := by
  go_enter Tryd.func121, Tryd.ntmps121
  go_wp2_with (first | ((with_reducible show Code.wp _ (Code.region 2 _ true) _ _ _); refine wp_region_drawn [(0, 0), (1, 0), (2, 0), (3, 0), (4, 1), (5, 0), (6, 2), (7, 2), (8, 3), (9, 0), (10, 0), (11, 3)] (by kernel_rfl) (by kernel_rfl) (by intro _ _ dq _ _ hq; cases dq <;> exact hq) ?_; replace hS := hS.mod (Mod.drew (Mod.refl _ _)); (generalize hwd : World.drew _ = wz at hS ⊢); clear hwd) | ((with_reducible show wpD _ _ _ ((_, 2) :: _) _ _); (refine D_call (f := 93) (args := ?_) rfl rfl ?_ ?_); rotate_left 1; (show (Sem.run _ (execOp _ (Oper.mk _ _ _ _ _ _)) _) = _; go_simp; rfl); obtain ⟨Fq, hFq⟩ := hS.has Rep.int.slice [.slice (some ⟨bm, 0, none⟩) m m]; refine (sl_Clone_int _ Fq _ _ _ _ hFq (by rw [List.length_replicate]; omega)).mono ?_; rintro e wy ⟨v1, rfl, hN⟩; have hM := hN.mod0; replace hS := hS.fresh hN; clear hN hFq; obtain ⟨A9, c9, rfl⟩ := hS.formOwnN (n := m) 0 rfl List.length_replicate; refine ⟨_, rfl, hM, ?_⟩; clear hM; (first | show wpD _ _ _ _ (Act.put _ (some _) _) _ | show wpD _ _ _ _ (Act.put _ none _) _); (simp only [Act.put, sA, sZ, sS])) | ((with_reducible show wpD _ _ _ ((_, 3) :: _) _ _); refine D_loud rfl rfl (f_append Rep.int.rows (Sat.vec1 (Sat.swap hS)) rfl rfl rfl rfl rfl (by decide) (by omega)) ?_; clear hS; rintro _ wx ⟨B2', d2', rfl, hS⟩; (simp only [sZ, sS] at hS); (first | show wpD _ _ _ _ (Act.put _ (some _) _) _ | show wpD _ _ _ _ (Act.put _ none _) _); (simp only [Act.put, sA, sZ, sS])) | ((with_reducible show wpD _ _ _ ((_, 3) :: _) _ _); refine D_loud rfl rfl (f_store (u := .slice _ _ _) hS rfl rfl rfl (by rfl) (by rfl)) ?_; clear hS; rintro _ wx ⟨rfl, hS⟩; (simp only [sZ, sS] at hS); (first | show wpD _ _ _ _ (Act.put _ (some _) _) _ | show wpD _ _ _ _ (Act.put _ none _) _); (simp only [Act.put, sA, sZ, sS])) | ((with_reducible show wpD _ _ _ [] _ _); refine D_nil ?_) | ((with_reducible show wpD _ _ _ ((_, 0) :: _) _ _); (first | (refine D_skip rfl rfl ?_; (first | show wpD _ _ _ _ (Act.put _ (some _) _) _ | show wpD _ _ _ _ (Act.put _ none _) _); (simp only [Act.put, sA, sZ, sS])) | (refine D_pure (v := ?_) rfl rfl (fun wq => ?_) ?_; rotate_left 1; (show (Sem.run _ (execOp _ (Oper.mk _ _ _ _ _ _)) _) = _; go_simp; (try go_bits); with_reducible rfl); (first | show wpD _ _ _ _ (Act.put _ (some _) _) _ | show wpD _ _ _ _ (Act.put _ none _) _); (simp only [Act.put, sA, sZ, sS])))) | ((with_reducible show wpD _ _ _ ((_, 1) :: _) _ _); (first | (refine D_skip rfl rfl ?_; (first | show wpD _ _ _ _ (Act.put _ (some _) _) _ | show wpD _ _ _ _ (Act.put _ none _) _); (simp only [Act.put, sA, sZ, sS])) | ((first | refine D_load rfl rfl (fun x hx => f_load (hS.mod hx) rfl rfl (by rfl)) ?_ | refine D_load rfl rfl (fun x hx => f_loadS (hS.mod hx) rfl rfl (by rfl)) ?_ | refine D_load rfl rfl (fun x hx => f_loadAt (hS.mod hx) rfl rfl) ?_ | refine D_load rfl rfl (fun x hx => f_loadAtS (hS.mod hx) rfl rfl (by rfl)) ?_ | refine D_load rfl rfl (fun x hx => f_loadAtF (hS.mod hx) rfl rfl (by rfl)) ?_); (first | show wpD _ _ _ _ (Act.put _ (some _) _) _ | show wpD _ _ _ _ (Act.put _ none _) _); (simp only [Act.put, sA, sZ, sS])))) | ((with_reducible show wpD _ _ _ ((_, 2) :: _) _ _); ((refine D_calm rfl rfl (does_buildSlice (X := ?_) (cs := ?_) (E := ?_) hS rfl ?_ ?_) ?_); rotate_left 3; (go_simp; rfl); rfl; clear hS; rintro _ wx ⟨bx, rfl, hS, hM⟩; refine ⟨hM, ?_⟩; clear hM; (first | show wpD _ _ _ _ (Act.put _ (some _) _) _ | show wpD _ _ _ _ (Act.put _ none _) _); (simp only [Act.put, sA, sZ, sS]))) | ((with_reducible show wpList _ _ _ (⟨_, Op.makeSlice _ _ _, _, _, _, _⟩ :: _) _ _); refine Does.list (does_make (e := Rep.int) (n := m) (zx := 0) hS rfl rfl rfl rfl rfl (by decide) (fun _ => ⟨rfl, rfl, by unfold I64; omega⟩) (by decide) (by omega)) rfl ?_; clear hS; rintro _ wx ⟨bm, rfl, hS, _⟩; (simp only [Act.put, sA, sZ, sS])) | ((with_reducible show wpList _ _ _ (⟨_, Op.call { callee := Callee.builtin Builtin.append, args := _, argTypes := _ }, _, _, _, _⟩ :: _) _ _); (first | refine Does.list (f_append Rep.bool (Sat.vec1 (hS.bool true)) rfl rfl rfl rfl rfl (by decide) (by omega)) rfl ?_ | refine Does.list (f_append Rep.bool (Sat.vec1 (hS.bool false)) rfl rfl rfl rfl rfl (by decide) (by omega)) rfl ?_); clear hS; rintro _ wx ⟨B3', d3', rfl, hS⟩; (simp only [sZ, sS] at hS); (simp only [Act.put, sA, sZ, sS])) | ((with_reducible show wpList _ _ _ (⟨_, Op.store _ _ _, _, _, _, _⟩ :: _) _ _); (first | refine Does.list (f_store (u := .int .i64 _) hS rfl rfl rfl (by rfl) (by rfl)) rfl ?_ | refine Does.list (f_store (u := .slice _ _ _) hS rfl rfl rfl (by rfl) (by rfl)) rfl ?_ | refine Does.list (f_store (u := .string _) hS rfl rfl rfl (by rfl) (by rfl)) rfl ?_ | refine Does.list (f_store (u := .bool _) hS rfl rfl rfl (by rfl) (by rfl)) rfl ?_); clear hS; rintro _ wx ⟨rfl, hS⟩; (simp only [sZ, sS] at hS); (simp only [Act.put, sA, sZ, sS])) | ((with_reducible show wpList _ _ _ (⟨_, Op.load _ _, _, _, _, _⟩ :: _) _ _); (first | refine Gives.list (f_load hS rfl rfl (by rfl)) rfl ?_ | refine Gives.list (f_loadS hS rfl rfl (by rfl)) rfl ?_ | refine Gives.list (f_loadAt hS rfl rfl) rfl ?_ | refine Gives.list (f_loadAtS hS rfl rfl (by rfl)) rfl ?_ | refine Gives.list (f_loadAtF hS rfl rfl (by rfl)) rfl ?_); (simp only [Act.put, sA, sZ, sS])) | ((with_reducible show wpList _ _ _ (⟨_, Op.buildSlice _ _ _, _, _, _, _⟩ :: _) _ _); refine Does.list (does_buildSlice (X := ?_) (cs := ?_) (E := ?_) hS rfl ?_ ?_) rfl ?_; rotate_left 3; (go_simp; rfl); rfl; clear hS; rintro _ wx ⟨bx, rfl, hS, _⟩; (simp only [Act.put, sA, sZ, sS])))
  (try simp only [Exit.inBlock, Exit.then])
  (first | refine bodyPost_ret (results_none rfl _ _ _) rfl ?_ | refine bodyPost_end (results_none rfl _ _ _) rfl ?_)

  exact ⟨rfl, _, _, _, _, hS.drop⟩
set_option maxHeartbeats 1000000 in
theorem impl_rowOrder {w0 w : World} {Γ : List Fact} (A1 : Option Addr) (c1 : Nat) (ns : List ByteArray) (col : ByteArray) (down : Bool)
    (hS : Sat w0 w (.ro Rep.str.slice [.slice A1 ns.length c1] ns :: Γ)) :
    Calls Tryd.prog 162 #[.slice A1 ns.length c1, .string col, .bool down] w fun e w' => ∃ ba bd, e = .returned (.func (.func 184) #[] #[.pointer (some ⟨ba, 0, none⟩), .pointer (some ⟨bd, 0, none⟩)]) ∧ Sat w0 w' (.box ba [.int .i64 (colOf ns col)] :: .box bd [.bool down] :: .ro Rep.str.slice [.slice A1 ns.length c1] ns :: Γ) := by
  go_enter Tryd.func162, Tryd.ntmps162
  go_wp2_with (first | (go_at_call 120; obtain ⟨Fq, hFq⟩ := hS.has Rep.str.slice [.slice A1 ns.length c1]; refine (sl_Index_str _ Fq _ ns col hFq).mono ?_; rintro e w' ⟨rfl, hM⟩; replace hS := hS.mod hM; clear hM hFq) | ((with_reducible show wpList _ _ _ (⟨_, Op.store _ _ _, _, _, _, _⟩ :: _) _ _); (first | refine Does.list (f_store (u := .int .i64 _) hS rfl rfl rfl (by rfl) (by rfl)) rfl ?_ | refine Does.list (f_store (u := .slice _ _ _) hS rfl rfl rfl (by rfl) (by rfl)) rfl ?_ | refine Does.list (f_store (u := .string _) hS rfl rfl rfl (by rfl) (by rfl)) rfl ?_ | refine Does.list (f_store (u := .bool _) hS rfl rfl rfl (by rfl) (by rfl)) rfl ?_); clear hS; rintro _ wx ⟨rfl, hS⟩; (simp only [sZ, sS] at hS); (simp only [Act.put, sA, sZ, sS])) | ((with_reducible show wpList _ _ _ (⟨_, Op.box _ _, _, _, _, _⟩ :: _) _ _); refine Does.list (does_box hS rfl rfl (by rfl)) rfl ?_; clear hS; rintro _ wx ⟨bo, rfl, hS, _⟩; (simp only [Act.put, sA, sZ, sS])) | ((with_reducible show wpList _ _ _ (⟨_, Op.alloc _, _, _, _, _⟩ :: _) _ _); refine Does.list (does_alloc hS rfl (by rfl)) rfl ?_; clear hS; rintro _ wx ⟨ba, rfl, hS, _⟩; (simp only [Act.put, sA, sZ, sS])))
  go_ret
  exact ⟨_, _, rfl, hS⟩
end Go.Proofs.YtldknaajnnohiaaDoor
end
