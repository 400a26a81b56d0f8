/- Two elements of a list of one's own change places; loads of bools from rows of one's own. No function of the program occurs here. -/
import Derived.Test.YtldknaajnnohiaaDoorShareO
import Derived.Test.YtldknaajnnohiaaDoorSPl
import Derived.Test.YtldknaajnnohiaaDoorSho
import Derived.Test.YtldknaajnnohiaaDoorSrtA
import Derived.Test.YtldknaajnnohiaaDoorNtS
import Derived.Test.YtldknaajnnohiaaDoorNtI
import Derived.Test.YtldknaajnnohiaaDoorCopy
import Derived.Deep.DeepCutAuto
section
namespace Go.Proofs.YtldknaajnnohiaaDoor
open Go.RowKit

section
variable {α : Type} {e : Rep α} {w w0 : World} {Γ : List Fact}
theorem lnkAll_perm {P Q : List (List Value × α)} (hp : P.Perm Q) : ∀ {F : List Nat}, lnkAll e w F (P.map Prod.fst) (P.map Prod.snd) → ∃ F', F.Perm F' ∧ lnkAll e w F' (Q.map Prod.fst) (Q.map Prod.snd) := by
  induction hp with
  | nil => intro F h; exact ⟨F, .refl _, h⟩
  | cons p _ ih =>
    rintro F ⟨F1, F2, rfl, h1, h2⟩
    obtain ⟨F3, hq, h3⟩ := ih h2
    exact ⟨F1 ++ F3, hq.append_left F1, F1, F3, rfl, h1, h3⟩
  | swap p q l =>
    rintro F ⟨F1, F2, rfl, h1, F3, F4, rfl, h3, h4⟩
    refine ⟨F3 ++ (F1 ++ F4), ?_, F3, F1 ++ F4, rfl, h3, F1, F4, rfl, h1, h4⟩
    rw [← List.append_assoc, ← List.append_assoc]
    exact List.perm_append_comm.append_right F4
  | trans _ _ ih1 ih2 =>
    intro F h
    obtain ⟨F1, p1, h1⟩ := ih1 h
    obtain ⟨F2, p2, h2⟩ := ih2 h1
    exact ⟨F2, p1.trans p2, h2⟩
theorem Sat.lnkSwap {css : List (List Value)} {xs : List α} {ca cb : List Value} {x y : α} {a b : Nat} (h : Sat w0 w (.own (Rep.lnk e) [] (css, xs) :: Γ)) (h1 : css[a]? = some ca) (h2 : css[b]? = some cb) (h3 : xs[a]? = some x) (h4 : xs[b]? = some y) :
    Sat w0 w (.own (Rep.lnk e) [] ((css.set a cb).set b ca, (xs.set a y).set b x) :: Γ) := by
  obtain ⟨R, O, ⟨O1, O2, rfl, ⟨_, hG⟩, k2⟩, k3, k4, k5, k6⟩ := h
  have hl := lnkAll_len hG
  have e1 : (css.zip xs).map Prod.fst = css := by rw [List.map_fst_zip]; dsimp only at hl ⊢; omega
  have e2 : (css.zip xs).map Prod.snd = xs := by rw [List.map_snd_zip]; dsimp only at hl ⊢; omega
  have ha : (css.zip xs)[a]? = some (ca, x) := by rw [List.getElem?_zip_eq_some]; exact ⟨h1, h3⟩
  have hb : (css.zip xs)[b]? = some (cb, y) := by rw [List.getElem?_zip_eq_some]; exact ⟨h2, h4⟩
  have hp := (set_set_perm ha hb).symm
  obtain ⟨F', p1, h5⟩ := lnkAll_perm (e := e) (w := w) hp (F := O1) (by rw [e1, e2]; exact hG)
  rw [List.map_set, List.map_set, List.map_set, List.map_set, e1, e2] at h5
  have hq : (O1 ++ O2).Perm (F' ++ O2) := p1.append_right O2
  exact ⟨R, F' ++ O2, ⟨F', O2, rfl, ⟨rfl, h5⟩, k2⟩, k3.perm hq, fun g hg => k4 g (hq.mem_iff.2 hg), k5, k6⟩
end
end Go.Proofs.YtldknaajnnohiaaDoor
end

section
namespace Go.Proofs.YtldknaajnnohiaaDoor
open Go.RowKit

set_option maxHeartbeats 2000000 in
theorem spec_l1Less (w : World) (F G : List Nat) (v u : Value) (xs ys : List Int) (hx : SliceHas Rep.int w F [v] xs) (hy : SliceHas Rep.int w G [u] ys) :
    Calls Tryd.prog 186 #[v, u] w fun e w' => e = .returned (.bool (lessL xs ys)) ∧ Mod [] w w' := by
  obtain ⟨A, c, rfl, hl, _⟩ := hx.form'
  obtain ⟨B, d, rfl, hl2, _⟩ := hy.form'
  have hS : Sat w w [.ro Rep.int.slice [.slice A xs.length c] xs, .ro Rep.int.slice [.slice B ys.length d] ys] := ((Sat.nil w).arg hy).arg hx
  clear hx hy
  go_enter Tryd.func186, Tryd.ntmps186
  go_wp2_with (first | ((with_reducible show wpList _ _ _ (⟨_, Op.box _ _, _, _, _, _⟩ :: _) _ _); refine Does.list (does_box hS rfl rfl (by rfl)) rfl ?_; clear hS; rintro _ wx ⟨bo, rfl, hS, _⟩; (simp only [Act.put, sA, sZ, sS])))
  go_loopw [5] (fun i wr => ∃ k : Nat, k ≤ xs.length ∧ k ≤ ys.length ∧ i = .int .i64 k ∧ Hid (xs.take k = ys.take k) ∧ Sat w wr [.ro Rep.int.slice [.slice A xs.length c] xs, .ro Rep.int.slice [.slice B ys.length d] ys]) (fun i _ => xs.length - (intOf i).toNat)
  case atStart => exact ⟨0, Nat.zero_le _, Nat.zero_le _, rfl, Lib.hid rfl, hS⟩
  case round =>
    clear hS
    obtain ⟨k, hk, hk2, rfl, hT, hS⟩ := hrel
    by_cases hlt : k < xs.length
    case neg =>
      have hd : decide (k < xs.length) = false := decide_eq_false hlt
      have H := Lib.hid (lessL_end hk hk2 hT.out (.inl (by omega)))
      go_wp2_with (first | ((with_reducible show wpList _ _ _ (⟨_, Op.box _ _, _, _, _, _⟩ :: _) _ _); refine Does.list (does_box hS rfl rfl (by rfl)) rfl ?_; clear hS; rintro _ wx ⟨bo, rfl, hS, _⟩; (simp only [Act.put, sA, sZ, sS])))
      go_ret
      exact ⟨ret_bool H.out.symm, hS.mod0⟩
    have hltI : (k : Int) < (xs.length : Int) := by omega
    have hd : decide (k < xs.length) = true := decide_eq_true hlt
    by_cases hlt2 : k < ys.length
    case neg =>
      have hd2 : decide (k < ys.length) = false := decide_eq_false hlt2
      have H := Lib.hid (lessL_end hk hk2 hT.out (.inr (by omega)))
      go_wp2_with (first | ((with_reducible show wpList _ _ _ (⟨_, Op.box _ _, _, _, _, _⟩ :: _) _ _); refine Does.list (does_box hS rfl rfl (by rfl)) rfl ?_; clear hS; rintro _ wx ⟨bo, rfl, hS, _⟩; (simp only [Act.put, sA, sZ, sS])))
      go_ret
      exact ⟨ret_bool H.out.symm, hS.mod0⟩
    have hd2 : decide (k < ys.length) = true := decide_eq_true hlt2
    have hlt2I : (k : Int) < (ys.length : Int) := by omega
    obtain ⟨ad, rfl, hz, hS⟩ := hS.elInt A xs.length c (get_some hlt)
    obtain ⟨ad2, rfl, hz2, hS⟩ := hS.elInt B ys.length d (get_some hlt2)
    by_cases he : xs[k] = ys[k]
    · have H := Lib.hid (take_succ_same hlt hlt2 hT.out he)
      have hc0 : (xs[k] != ys[k]) = false := by rw [he]; simp
      generalize xs[k] = x at hS hc0
      generalize ys[k] = y at hS hc0
      clear he
      go_wp2_with (first | ((with_reducible show Code.wp _ (Code.region 4 _ true) _ _ _); refine wp_region_drawn [(0, 0), (1, 0), (2, 0), (3, 1), (4, 0), (5, 0), (6, 0), (7, 1), (8, 0)] (by kernel_rfl) (by kernel_rfl) (by intro _ _ dq _ _ hq; cases dq <;> exact hq) ?_; replace hS := hS.mod (Mod.drew (Mod.refl _ _)); (generalize hwd : World.drew _ = wz at hS ⊢); clear hwd) | ((with_reducible show wpD _ _ _ [] _ _); refine D_nil ?_) | ((with_reducible show wpD _ _ _ ((_, 0) :: _) _ _); (first | (refine D_skip rfl rfl ?_; (first | show wpD _ _ _ _ (Act.put _ (some _) _) _ | show wpD _ _ _ _ (Act.put _ none _) _); (simp only [Act.put, sA, sZ, sS])) | (refine D_pure (v := ?_) rfl rfl (fun wq => ?_) ?_; rotate_left 1; (show (Sem.run _ (execOp _ (Oper.mk _ _ _ _ _ _)) _) = _; go_simp; (try go_bits); with_reducible rfl); (first | show wpD _ _ _ _ (Act.put _ (some _) _) _ | show wpD _ _ _ _ (Act.put _ none _) _); (simp only [Act.put, sA, sZ, sS])))) | ((with_reducible show wpD _ _ _ ((_, 1) :: _) _ _); (first | (refine D_skip rfl rfl ?_; (first | show wpD _ _ _ _ (Act.put _ (some _) _) _ | show wpD _ _ _ _ (Act.put _ none _) _); (simp only [Act.put, sA, sZ, sS])) | ((first | refine D_load rfl rfl (fun x hx => f_load (hS.mod hx) rfl rfl (by rfl)) ?_ | refine D_load rfl rfl (fun x hx => f_loadS (hS.mod hx) rfl rfl (by rfl)) ?_ | refine D_load rfl rfl (fun x hx => f_loadAt (hS.mod hx) rfl rfl) ?_ | refine D_load rfl rfl (fun x hx => f_loadAtS (hS.mod hx) rfl rfl (by rfl)) ?_ | refine D_load rfl rfl (fun x hx => f_loadAtF (hS.mod hx) rfl rfl (by rfl)) ?_); (first | show wpD _ _ _ _ (Act.put _ (some _) _) _ | show wpD _ _ _ _ (Act.put _ none _) _); (simp only [Act.put, sA, sZ, sS])))))
      go_roundw
      case rel => exact ⟨k + 1, hlt, hlt2, by go_num, H, hS.sel [2, 3] rfl (by decide)⟩
      case measure => simp [intOf]; omega
    · have H := Lib.hid (lessL_at hlt hlt2 hT.out he)
      have hc0 : (xs[k] != ys[k]) = true := by rw [bne_iff_ne]; exact he
      generalize xs[k] = x at hS hc0 H
      generalize ys[k] = y at hS hc0 H
      clear he
      go_wp2_with (first | ((with_reducible show Code.wp _ (Code.region 4 _ true) _ _ _); refine wp_region_drawn [(0, 0), (1, 0), (2, 0), (3, 1), (4, 0), (5, 0), (6, 0), (7, 1), (8, 0)] (by kernel_rfl) (by kernel_rfl) (by intro _ _ dq _ _ hq; cases dq <;> exact hq) ?_; replace hS := hS.mod (Mod.drew (Mod.refl _ _)); (generalize hwd : World.drew _ = wz at hS ⊢); clear hwd) | ((with_reducible show Code.wp _ (Code.region 5 _ true) _ _ _); refine wp_region_drawn [(0, 0), (1, 0), (2, 0), (3, 1), (4, 0), (5, 0), (6, 0), (7, 1), (8, 0), (9, 0)] (by kernel_rfl) (by kernel_rfl) (by intro _ _ dq _ _ hq; cases dq <;> exact hq) ?_; replace hS := hS.mod (Mod.drew (Mod.refl _ _)); (generalize hwd : World.drew _ = wz at hS ⊢); clear hwd) | ((with_reducible show wpD _ _ _ [] _ _); refine D_nil ?_) | ((with_reducible show wpD _ _ _ ((_, 0) :: _) _ _); (first | (refine D_skip rfl rfl ?_; (first | show wpD _ _ _ _ (Act.put _ (some _) _) _ | show wpD _ _ _ _ (Act.put _ none _) _); (simp only [Act.put, sA, sZ, sS])) | (refine D_pure (v := ?_) rfl rfl (fun wq => ?_) ?_; rotate_left 1; (show (Sem.run _ (execOp _ (Oper.mk _ _ _ _ _ _)) _) = _; go_simp; (try go_bits); with_reducible rfl); (first | show wpD _ _ _ _ (Act.put _ (some _) _) _ | show wpD _ _ _ _ (Act.put _ none _) _); (simp only [Act.put, sA, sZ, sS])))) | ((with_reducible show wpD _ _ _ ((_, 1) :: _) _ _); (first | (refine D_skip rfl rfl ?_; (first | show wpD _ _ _ _ (Act.put _ (some _) _) _ | show wpD _ _ _ _ (Act.put _ none _) _); (simp only [Act.put, sA, sZ, sS])) | ((first | refine D_load rfl rfl (fun x hx => f_load (hS.mod hx) rfl rfl (by rfl)) ?_ | refine D_load rfl rfl (fun x hx => f_loadS (hS.mod hx) rfl rfl (by rfl)) ?_ | refine D_load rfl rfl (fun x hx => f_loadAt (hS.mod hx) rfl rfl) ?_ | refine D_load rfl rfl (fun x hx => f_loadAtS (hS.mod hx) rfl rfl (by rfl)) ?_ | refine D_load rfl rfl (fun x hx => f_loadAtF (hS.mod hx) rfl rfl (by rfl)) ?_); (first | show wpD _ _ _ _ (Act.put _ (some _) _) _ | show wpD _ _ _ _ (Act.put _ none _) _); (simp only [Act.put, sA, sZ, sS])))))
      go_ret
      exact ⟨ret_bool H.out.symm, hS.mod0⟩

set_option maxHeartbeats 4000000 in
set_option maxRecDepth 8000 in
theorem spec_l11Before (w : World) (G H' : List Nat) (s1 : Value) (A2 A3 : Option Addr) (c2 c3 : Nat) (rows : List (List Int)) (real : List Bool) (c : Int) (down : Bool) (hy : SliceHas Rep.int.slice w G [.slice A2 rows.length c2] rows) (hz : SliceHas Rep.bool w H' [.slice A3 real.length c3] real) (hl : real.length = rows.length) (m : Nat) (hm : ∀ r ∈ rows, r.length = m) (hc : c = -1 ∨ ∃ j : Nat, c = (j : Int) ∧ j < m) (i k : Nat) (hi : i < rows.length) (hk : k < rows.length) :
    Calls Tryd.prog 165 #[.agg #[s1, .slice A2 rows.length c2, .slice A3 real.length c3], .int .i64 (i : Int), .int .i64 (k : Int), .int .i64 c, .bool down] w fun e w' => e = .returned (.bool (ltR c down (rows[i], real[i]'(by omega)) (rows[k], real[k]'(by omega)))) ∧ Mod [] w w' := by
  have hS : Sat w w [.ro Rep.int.slice.slice [.slice A2 rows.length c2] rows, .ro Rep.bool.slice [.slice A3 real.length c3] real] := ((Sat.nil w).arg hz).arg hy
  clear hy hz
  have hi3 : i < real.length := by omega
  have hk3 : k < real.length := by omega
  have hiI : (i : Int) < (rows.length : Int) := by omega
  have hkI : (k : Int) < (rows.length : Int) := by omega
  have hi3I : (i : Int) < (real.length : Int) := by omega
  have hk3I : (k : Int) < (real.length : Int) := by omega
  obtain ⟨ad3, rfl, hS⟩ := hS.elBool A3 real.length c3 (get_some hi3)
  obtain ⟨_, e3, hS⟩ := hS.elBool (some ad3) real.length c3 (get_some hk3)
  cases e3
  have hix := hm _ (List.getElem_mem hi)
  have hkx := hm _ (List.getElem_mem hk)
  by_cases hr : real[i] = real[k]
  case neg =>
    have H : Hid (ltR c down (rows[i], real[i]) (rows[k], real[k]) = real[i]) := Lib.hid (ltR_real hr)
    have hne : (real[i] != real[k]) = true := by rw [bne_iff_ne]; exact hr
    generalize real[i] = ri at hS hne H
    generalize real[k] = rk at hS hne H
    generalize rows[i] = xs at H
    generalize rows[k] = ys at H
    clear hr hix hkx hm hc
    cases ri
    · obtain rfl : rk = true := by cases rk; cases hne; rfl
      go_enter Tryd.func165, Tryd.ntmps165
      go_wp2_with (first | ((with_reducible show Code.wp _ (Code.region 1 _ true) _ _ _); refine wp_region_drawn [(0, 0), (1, 1), (2, 0), (3, 0), (4, 1), (5, 0), (6, 1), (7, 0), (8, 0), (9, 1), (10, 0)] (by kernel_rfl) (by kernel_rfl) (by intro _ _ dq _ _ hq; cases dq <;> exact hq) ?_; replace hS := hS.mod (Mod.drew (Mod.refl _ _)); (generalize hwd : World.drew _ = wz at hS ⊢); clear hwd) | ((with_reducible show wpD _ _ _ [] _ _); refine D_nil ?_) | ((with_reducible show wpD _ _ _ ((_, 0) :: _) _ _); (first | (refine D_skip rfl rfl ?_; (first | show wpD _ _ _ _ (Act.put _ (some _) _) _ | show wpD _ _ _ _ (Act.put _ none _) _); (simp only [Act.put, sA, sZ, sS])) | (refine D_pure (v := ?_) rfl rfl (fun wq => ?_) ?_; rotate_left 1; (show (Sem.run _ (execOp _ (Oper.mk _ _ _ _ _ _)) _) = _; go_simp; (try go_bits); with_reducible rfl); (first | show wpD _ _ _ _ (Act.put _ (some _) _) _ | show wpD _ _ _ _ (Act.put _ none _) _); (simp only [Act.put, sA, sZ, sS])))) | ((with_reducible show wpD _ _ _ ((_, 1) :: _) _ _); (first | (refine D_skip rfl rfl ?_; (first | show wpD _ _ _ _ (Act.put _ (some _) _) _ | show wpD _ _ _ _ (Act.put _ none _) _); (simp only [Act.put, sA, sZ, sS])) | ((first | refine D_load rfl rfl (fun x hx => f_load (hS.mod hx) rfl rfl (by rfl)) ?_ | refine D_load rfl rfl (fun x hx => f_loadS (hS.mod hx) rfl rfl (by rfl)) ?_ | refine D_load rfl rfl (fun x hx => f_loadAt (hS.mod hx) rfl rfl) ?_ | refine D_load rfl rfl (fun x hx => f_loadAtS (hS.mod hx) rfl rfl (by rfl)) ?_ | refine D_load rfl rfl (fun x hx => f_loadAtF (hS.mod hx) rfl rfl (by rfl)) ?_); (first | show wpD _ _ _ _ (Act.put _ (some _) _) _ | show wpD _ _ _ _ (Act.put _ none _) _); (simp only [Act.put, sA, sZ, sS])))) | ((with_reducible show wpList _ _ _ (⟨_, Op.box _ _, _, _, _, _⟩ :: _) _ _); refine Does.list (does_box hS rfl rfl (by rfl)) rfl ?_; clear hS; rintro _ wx ⟨bo, rfl, hS, _⟩; (simp only [Act.put, sA, sZ, sS])) | ((with_reducible show wpList _ _ _ (⟨_, Op.load _ _, _, _, _, _⟩ :: _) _ _); (first | refine Gives.list (f_load hS rfl rfl (by rfl)) rfl ?_ | refine Gives.list (f_loadS hS rfl rfl (by rfl)) rfl ?_ | refine Gives.list (f_loadAt hS rfl rfl) rfl ?_ | refine Gives.list (f_loadAtS hS rfl rfl (by rfl)) rfl ?_ | refine Gives.list (f_loadAtF hS rfl rfl (by rfl)) rfl ?_); (simp only [Act.put, sA, sZ, sS])))
      go_ret
      exact ⟨ret_bool H.out.symm, hS.mod0⟩
    · obtain rfl : rk = false := by cases rk; rfl; cases hne
      go_enter Tryd.func165, Tryd.ntmps165
      go_wp2_with (first | ((with_reducible show Code.wp _ (Code.region 1 _ true) _ _ _); refine wp_region_drawn [(0, 0), (1, 1), (2, 0), (3, 0), (4, 1), (5, 0), (6, 1), (7, 0), (8, 0), (9, 1), (10, 0)] (by kernel_rfl) (by kernel_rfl) (by intro _ _ dq _ _ hq; cases dq <;> exact hq) ?_; replace hS := hS.mod (Mod.drew (Mod.refl _ _)); (generalize hwd : World.drew _ = wz at hS ⊢); clear hwd) | ((with_reducible show wpD _ _ _ [] _ _); refine D_nil ?_) | ((with_reducible show wpD _ _ _ ((_, 0) :: _) _ _); (first | (refine D_skip rfl rfl ?_; (first | show wpD _ _ _ _ (Act.put _ (some _) _) _ | show wpD _ _ _ _ (Act.put _ none _) _); (simp only [Act.put, sA, sZ, sS])) | (refine D_pure (v := ?_) rfl rfl (fun wq => ?_) ?_; rotate_left 1; (show (Sem.run _ (execOp _ (Oper.mk _ _ _ _ _ _)) _) = _; go_simp; (try go_bits); with_reducible rfl); (first | show wpD _ _ _ _ (Act.put _ (some _) _) _ | show wpD _ _ _ _ (Act.put _ none _) _); (simp only [Act.put, sA, sZ, sS])))) | ((with_reducible show wpD _ _ _ ((_, 1) :: _) _ _); (first | (refine D_skip rfl rfl ?_; (first | show wpD _ _ _ _ (Act.put _ (some _) _) _ | show wpD _ _ _ _ (Act.put _ none _) _); (simp only [Act.put, sA, sZ, sS])) | ((first | refine D_load rfl rfl (fun x hx => f_load (hS.mod hx) rfl rfl (by rfl)) ?_ | refine D_load rfl rfl (fun x hx => f_loadS (hS.mod hx) rfl rfl (by rfl)) ?_ | refine D_load rfl rfl (fun x hx => f_loadAt (hS.mod hx) rfl rfl) ?_ | refine D_load rfl rfl (fun x hx => f_loadAtS (hS.mod hx) rfl rfl (by rfl)) ?_ | refine D_load rfl rfl (fun x hx => f_loadAtF (hS.mod hx) rfl rfl (by rfl)) ?_); (first | show wpD _ _ _ _ (Act.put _ (some _) _) _ | show wpD _ _ _ _ (Act.put _ none _) _); (simp only [Act.put, sA, sZ, sS])))) | ((with_reducible show wpList _ _ _ (⟨_, Op.box _ _, _, _, _, _⟩ :: _) _ _); refine Does.list (does_box hS rfl rfl (by rfl)) rfl ?_; clear hS; rintro _ wx ⟨bo, rfl, hS, _⟩; (simp only [Act.put, sA, sZ, sS])) | ((with_reducible show wpList _ _ _ (⟨_, Op.load _ _, _, _, _, _⟩ :: _) _ _); (first | refine Gives.list (f_load hS rfl rfl (by rfl)) rfl ?_ | refine Gives.list (f_loadS hS rfl rfl (by rfl)) rfl ?_ | refine Gives.list (f_loadAt hS rfl rfl) rfl ?_ | refine Gives.list (f_loadAtS hS rfl rfl (by rfl)) rfl ?_ | refine Gives.list (f_loadAtF hS rfl rfl (by rfl)) rfl ?_); (simp only [Act.put, sA, sZ, sS])))
      go_ret
      exact ⟨ret_bool H.out.symm, hS.mod0⟩
  have H : Hid (ltR c down (rows[i], real[i]) (rows[k], real[k]) = ltK c down rows[i] rows[k]) := Lib.hid (by rw [hr]; exact ltK_of)
  obtain ⟨ad2, Ax, cx, rfl, i0, i1, hS⟩ := hS.elSlice Rep.int A2 rows.length c2 (get_some hi)
  obtain ⟨_, Ay, cy, e2, k0, k1, hS⟩ := hS.elSlice Rep.int (some ad2) rows.length c2 (get_some hk)
  cases e2
  generalize real[i] = ri at hS hr H
  generalize real[k] = rk at hS hr H
  subst hr
  rcases hc with rfl | ⟨j, rfl, hj⟩
  · have HK : Hid (ltK (-1) down rows[i] rows[k] = lessL rows[i] rows[k]) := Lib.hid (ltK_lex (by intro h; omega))
    generalize rows[i] = xs at hS H HK i0 i1
    generalize rows[k] = ys at hS H HK k0 k1
    clear hix hkx hm
    cases ri
    all_goals
      go_enter Tryd.func165, Tryd.ntmps165
      go_wp2_with (first | ((with_reducible show Code.wp _ (Code.region 1 _ true) _ _ _); refine wp_region_drawn [(0, 0), (1, 1), (2, 0), (3, 0), (4, 1), (5, 0), (6, 1), (7, 0), (8, 0), (9, 1), (10, 0)] (by kernel_rfl) (by kernel_rfl) (by intro _ _ dq _ _ hq; cases dq <;> exact hq) ?_; replace hS := hS.mod (Mod.drew (Mod.refl _ _)); (generalize hwd : World.drew _ = wz at hS ⊢); clear hwd) | ((with_reducible show Code.wp _ (Code.region 3 _ true) _ _ _); refine wp_region_drawn [(0, 0), (1, 0), (2, 0), (3, 0), (4, 1), (5, 0), (6, 0), (7, 1), (8, 0), (9, 0), (10, 1), (11, 0), (12, 1), (13, 0), (14, 0), (15, 1), (16, 0), (17, 0), (18, 1), (19, 0), (20, 0)] (by kernel_rfl) (by kernel_rfl) (by intro _ _ dq _ _ hq; cases dq <;> exact hq) ?_; replace hS := hS.mod (Mod.drew (Mod.refl _ _)); (generalize hwd : World.drew _ = wz at hS ⊢); clear hwd) | ((with_reducible show Code.wp _ (Code.region 5 _ true) _ _ _); refine wp_region_drawn [(0, 0), (1, 1), (2, 0), (3, 0), (4, 1), (5, 0), (6, 1), (7, 0), (8, 0), (9, 1), (10, 2), (11, 0)] (by kernel_rfl) (by kernel_rfl) (by intro _ _ dq _ _ hq; cases dq <;> exact hq) ?_; replace hS := hS.mod (Mod.drew (Mod.refl _ _)); (generalize hwd : World.drew _ = wz at hS ⊢); clear hwd) | ((with_reducible show wpD _ _ _ ((_, 2) :: _) _ _); (refine D_call (f := 186) (args := ?_) rfl rfl ?_ ?_); rotate_left 1; (show (Sem.run _ (execOp _ (Oper.mk _ _ _ _ _ _)) _) = _; go_simp; rfl); obtain ⟨Fq, hFq⟩ := hS.has Rep.int.slice [.slice Ax xs.length cx]; obtain ⟨Fn, hFn⟩ := hS.has Rep.int.slice [.slice Ay ys.length cy]; refine (spec_l1Less _ Fq Fn _ _ xs ys hFq hFn).mono ?_; rintro e wy ⟨rfl, hM⟩; replace hS := hS.mod hM; clear hFq hFn; refine ⟨_, rfl, hM, ?_⟩; clear hM; (first | show wpD _ _ _ _ (Act.put _ (some _) _) _ | show wpD _ _ _ _ (Act.put _ none _) _); (simp only [Act.put, sA, sZ, sS])) | ((with_reducible show wpD _ _ _ [] _ _); refine D_nil ?_) | ((with_reducible show wpD _ _ _ ((_, 0) :: _) _ _); (first | (refine D_skip rfl rfl ?_; (first | show wpD _ _ _ _ (Act.put _ (some _) _) _ | show wpD _ _ _ _ (Act.put _ none _) _); (simp only [Act.put, sA, sZ, sS])) | (refine D_pure (v := ?_) rfl rfl (fun wq => ?_) ?_; rotate_left 1; (show (Sem.run _ (execOp _ (Oper.mk _ _ _ _ _ _)) _) = _; go_simp; (try go_bits); with_reducible rfl); (first | show wpD _ _ _ _ (Act.put _ (some _) _) _ | show wpD _ _ _ _ (Act.put _ none _) _); (simp only [Act.put, sA, sZ, sS])))) | ((with_reducible show wpD _ _ _ ((_, 1) :: _) _ _); (first | (refine D_skip rfl rfl ?_; (first | show wpD _ _ _ _ (Act.put _ (some _) _) _ | show wpD _ _ _ _ (Act.put _ none _) _); (simp only [Act.put, sA, sZ, sS])) | ((first | refine D_load rfl rfl (fun x hx => f_load (hS.mod hx) rfl rfl (by rfl)) ?_ | refine D_load rfl rfl (fun x hx => f_loadS (hS.mod hx) rfl rfl (by rfl)) ?_ | refine D_load rfl rfl (fun x hx => f_loadAt (hS.mod hx) rfl rfl) ?_ | refine D_load rfl rfl (fun x hx => f_loadAtS (hS.mod hx) rfl rfl (by rfl)) ?_ | refine D_load rfl rfl (fun x hx => f_loadAtF (hS.mod hx) rfl rfl (by rfl)) ?_); (first | show wpD _ _ _ _ (Act.put _ (some _) _) _ | show wpD _ _ _ _ (Act.put _ none _) _); (simp only [Act.put, sA, sZ, sS])))) | ((with_reducible show wpList _ _ _ (⟨_, Op.box _ _, _, _, _, _⟩ :: _) _ _); refine Does.list (does_box hS rfl rfl (by rfl)) rfl ?_; clear hS; rintro _ wx ⟨bo, rfl, hS, _⟩; (simp only [Act.put, sA, sZ, sS])))
      go_ret
      exact ⟨ret_bool (H.out.trans HK.out).symm, hS.mod0⟩
  have hjx : j < rows[i].length := by omega
  have hjy : j < rows[k].length := by omega
  have HK1 : Hid (rows[i][j] = rows[k][j] → ltK (j : Int) down rows[i] rows[k] = lessL rows[i] rows[k]) := Lib.hid (fun he => ltK_lex (fun _ => by
      rw [Int.toNat_natCast, List.getD_eq_getElem?_getD, List.getD_eq_getElem?_getD, List.getElem?_eq_getElem hjx, List.getElem?_eq_getElem hjy]
      exact congrArg (fun z => (some z).getD 0) he))
  have HK2 : Hid (rows[i][j] ≠ rows[k][j] → ltK (j : Int) down rows[i] rows[k] = (decide (rows[i][j] < rows[k][j]) != down)) := Lib.hid (fun he => ltK_key hjx hjy he)
  have hjxI : (j : Int) < (rows[i].length : Int) := by omega
  have hjyI : (j : Int) < (rows[k].length : Int) := by omega
  obtain ⟨adx, rfl, hz, hS⟩ := hS.elInt Ax rows[i].length cx (get_some hjx)
  obtain ⟨ady, rfl, hz2, hS⟩ := hS.elInt Ay rows[k].length cy (get_some hjy)
  obtain ⟨x, hxx⟩ : ∃ x, rows[i][j] = x := ⟨_, rfl⟩
  obtain ⟨y, hyy⟩ : ∃ y, rows[k][j] = y := ⟨_, rfl⟩
  rw [hxx] at hS HK1 HK2
  rw [hyy] at hS HK1 HK2
  clear hxx hyy
  generalize rows[i] = xs at hS H HK1 HK2 i0 i1 hjxI
  generalize rows[k] = ys at hS H HK1 HK2 k0 k1 hjyI
  clear hix hkx hm
  by_cases he : x = y
  · have hne : (x != y) = false := by rw [he]; simp
    have HK := Lib.hid (HK1.out he)
    clear he HK1 HK2
    cases ri
    all_goals
      go_enter Tryd.func165, Tryd.ntmps165
      go_wp2_with (first | ((with_reducible show Code.wp _ (Code.region 1 _ true) _ _ _); refine wp_region_drawn [(0, 0), (1, 1), (2, 0), (3, 0), (4, 1), (5, 0), (6, 1), (7, 0), (8, 0), (9, 1), (10, 0)] (by kernel_rfl) (by kernel_rfl) (by intro _ _ dq _ _ hq; cases dq <;> exact hq) ?_; replace hS := hS.mod (Mod.drew (Mod.refl _ _)); (generalize hwd : World.drew _ = wz at hS ⊢); clear hwd) | ((with_reducible show Code.wp _ (Code.region 3 _ true) _ _ _); refine wp_region_drawn [(0, 0), (1, 0), (2, 0), (3, 0), (4, 1), (5, 0), (6, 0), (7, 1), (8, 0), (9, 0), (10, 1), (11, 0), (12, 1), (13, 0), (14, 0), (15, 1), (16, 0), (17, 0), (18, 1), (19, 0), (20, 0)] (by kernel_rfl) (by kernel_rfl) (by intro _ _ dq _ _ hq; cases dq <;> exact hq) ?_; replace hS := hS.mod (Mod.drew (Mod.refl _ _)); (generalize hwd : World.drew _ = wz at hS ⊢); clear hwd) | ((with_reducible show Code.wp _ (Code.region 5 _ true) _ _ _); refine wp_region_drawn [(0, 0), (1, 1), (2, 0), (3, 0), (4, 1), (5, 0), (6, 1), (7, 0), (8, 0), (9, 1), (10, 2), (11, 0)] (by kernel_rfl) (by kernel_rfl) (by intro _ _ dq _ _ hq; cases dq <;> exact hq) ?_; replace hS := hS.mod (Mod.drew (Mod.refl _ _)); (generalize hwd : World.drew _ = wz at hS ⊢); clear hwd) | ((with_reducible show wpD _ _ _ ((_, 2) :: _) _ _); (refine D_call (f := 186) (args := ?_) rfl rfl ?_ ?_); rotate_left 1; (show (Sem.run _ (execOp _ (Oper.mk _ _ _ _ _ _)) _) = _; go_simp; rfl); obtain ⟨Fq, hFq⟩ := hS.has Rep.int.slice [.slice (some adx) xs.length cx]; obtain ⟨Fn, hFn⟩ := hS.has Rep.int.slice [.slice (some ady) ys.length cy]; refine (spec_l1Less _ Fq Fn _ _ xs ys hFq hFn).mono ?_; rintro e wy ⟨rfl, hM⟩; replace hS := hS.mod hM; clear hFq hFn; refine ⟨_, rfl, hM, ?_⟩; clear hM; (first | show wpD _ _ _ _ (Act.put _ (some _) _) _ | show wpD _ _ _ _ (Act.put _ none _) _); (simp only [Act.put, sA, sZ, sS])) | ((with_reducible show wpD _ _ _ [] _ _); refine D_nil ?_) | ((with_reducible show wpD _ _ _ ((_, 0) :: _) _ _); (first | (refine D_skip rfl rfl ?_; (first | show wpD _ _ _ _ (Act.put _ (some _) _) _ | show wpD _ _ _ _ (Act.put _ none _) _); (simp only [Act.put, sA, sZ, sS])) | (refine D_pure (v := ?_) rfl rfl (fun wq => ?_) ?_; rotate_left 1; (show (Sem.run _ (execOp _ (Oper.mk _ _ _ _ _ _)) _) = _; go_simp; (try go_bits); with_reducible rfl); (first | show wpD _ _ _ _ (Act.put _ (some _) _) _ | show wpD _ _ _ _ (Act.put _ none _) _); (simp only [Act.put, sA, sZ, sS])))) | ((with_reducible show wpD _ _ _ ((_, 1) :: _) _ _); (first | (refine D_skip rfl rfl ?_; (first | show wpD _ _ _ _ (Act.put _ (some _) _) _ | show wpD _ _ _ _ (Act.put _ none _) _); (simp only [Act.put, sA, sZ, sS])) | ((first | refine D_load rfl rfl (fun x hx => f_load (hS.mod hx) rfl rfl (by rfl)) ?_ | refine D_load rfl rfl (fun x hx => f_loadS (hS.mod hx) rfl rfl (by rfl)) ?_ | refine D_load rfl rfl (fun x hx => f_loadAt (hS.mod hx) rfl rfl) ?_ | refine D_load rfl rfl (fun x hx => f_loadAtS (hS.mod hx) rfl rfl (by rfl)) ?_ | refine D_load rfl rfl (fun x hx => f_loadAtF (hS.mod hx) rfl rfl (by rfl)) ?_); (first | show wpD _ _ _ _ (Act.put _ (some _) _) _ | show wpD _ _ _ _ (Act.put _ none _) _); (simp only [Act.put, sA, sZ, sS])))) | ((with_reducible show wpList _ _ _ (⟨_, Op.box _ _, _, _, _, _⟩ :: _) _ _); refine Does.list (does_box hS rfl rfl (by rfl)) rfl ?_; clear hS; rintro _ wx ⟨bo, rfl, hS, _⟩; (simp only [Act.put, sA, sZ, sS])))
      go_ret
      exact ⟨ret_bool (H.out.trans HK.out).symm, hS.mod0⟩
  · have hne : (x != y) = true := by rw [bne_iff_ne]; exact he
    have HK := Lib.hid (HK2.out he)
    clear he HK1 HK2
    cases ri <;> cases down
    all_goals
      go_enter Tryd.func165, Tryd.ntmps165
      go_wp2_with (first | ((with_reducible show Code.wp _ (Code.region 1 _ true) _ _ _); refine wp_region_drawn [(0, 0), (1, 1), (2, 0), (3, 0), (4, 1), (5, 0), (6, 1), (7, 0), (8, 0), (9, 1), (10, 0)] (by kernel_rfl) (by kernel_rfl) (by intro _ _ dq _ _ hq; cases dq <;> exact hq) ?_; replace hS := hS.mod (Mod.drew (Mod.refl _ _)); (generalize hwd : World.drew _ = wz at hS ⊢); clear hwd) | ((with_reducible show Code.wp _ (Code.region 3 _ true) _ _ _); refine wp_region_drawn [(0, 0), (1, 0), (2, 0), (3, 0), (4, 1), (5, 0), (6, 0), (7, 1), (8, 0), (9, 0), (10, 1), (11, 0), (12, 1), (13, 0), (14, 0), (15, 1), (16, 0), (17, 0), (18, 1), (19, 0), (20, 0)] (by kernel_rfl) (by kernel_rfl) (by intro _ _ dq _ _ hq; cases dq <;> exact hq) ?_; replace hS := hS.mod (Mod.drew (Mod.refl _ _)); (generalize hwd : World.drew _ = wz at hS ⊢); clear hwd) | ((with_reducible show Code.wp _ (Code.region 4 _ true) _ _ _); refine wp_region_drawn [(0, 0), (1, 1), (2, 0), (3, 0), (4, 1), (5, 0), (6, 0), (7, 1), (8, 0), (9, 1), (10, 0), (11, 0), (12, 1), (13, 0), (14, 0), (15, 1), (16, 0), (17, 0), (18, 0), (19, 0)] (by kernel_rfl) (by kernel_rfl) (by intro _ _ dq _ _ hq; cases dq <;> exact hq) ?_; replace hS := hS.mod (Mod.drew (Mod.refl _ _)); (generalize hwd : World.drew _ = wz at hS ⊢); clear hwd) | ((with_reducible show wpD _ _ _ [] _ _); refine D_nil ?_) | ((with_reducible show wpD _ _ _ ((_, 0) :: _) _ _); (first | (refine D_skip rfl rfl ?_; (first | show wpD _ _ _ _ (Act.put _ (some _) _) _ | show wpD _ _ _ _ (Act.put _ none _) _); (simp only [Act.put, sA, sZ, sS])) | (refine D_pure (v := ?_) rfl rfl (fun wq => ?_) ?_; rotate_left 1; (show (Sem.run _ (execOp _ (Oper.mk _ _ _ _ _ _)) _) = _; go_simp; (try go_bits); with_reducible rfl); (first | show wpD _ _ _ _ (Act.put _ (some _) _) _ | show wpD _ _ _ _ (Act.put _ none _) _); (simp only [Act.put, sA, sZ, sS])))) | ((with_reducible show wpD _ _ _ ((_, 1) :: _) _ _); (first | (refine D_skip rfl rfl ?_; (first | show wpD _ _ _ _ (Act.put _ (some _) _) _ | show wpD _ _ _ _ (Act.put _ none _) _); (simp only [Act.put, sA, sZ, sS])) | ((first | refine D_load rfl rfl (fun x hx => f_load (hS.mod hx) rfl rfl (by rfl)) ?_ | refine D_load rfl rfl (fun x hx => f_loadS (hS.mod hx) rfl rfl (by rfl)) ?_ | refine D_load rfl rfl (fun x hx => f_loadAt (hS.mod hx) rfl rfl) ?_ | refine D_load rfl rfl (fun x hx => f_loadAtS (hS.mod hx) rfl rfl (by rfl)) ?_ | refine D_load rfl rfl (fun x hx => f_loadAtF (hS.mod hx) rfl rfl (by rfl)) ?_); (first | show wpD _ _ _ _ (Act.put _ (some _) _) _ | show wpD _ _ _ _ (Act.put _ none _) _); (simp only [Act.put, sA, sZ, sS])))) | ((with_reducible show wpList _ _ _ (⟨_, Op.box _ _, _, _, _, _⟩ :: _) _ _); refine Does.list (does_box hS rfl rfl (by rfl)) rfl ?_; clear hS; rintro _ wx ⟨bo, rfl, hS, _⟩; (simp only [Act.put, sA, sZ, sS])))
      go_ret
      exact ⟨ret_bool (by rw [H.out, HK.out]; simp), hS.mod0⟩
end Go.Proofs.YtldknaajnnohiaaDoor
end

section
namespace Go.Proofs.YtldknaajnnohiaaDoor
open Go.RowKit

theorem spec_l11BeforeZ (w : World) (G H' : List Nat) (s1 : Value) (A2 A3 : Option Addr) (c2 c3 n : Nat) (Z : List RowB) (hn : Z.length = n) (c : Int) (down : Bool) (hy : SliceHas Rep.int.slice w G [.slice A2 n c2] (Z.map Prod.fst)) (hz : SliceHas Rep.bool w H' [.slice A3 n c3] (Z.map Prod.snd)) (m : Nat) (hm : ∀ a ∈ Z, a.1.length = m) (hc : c = -1 ∨ ∃ j : Nat, c = (j : Int) ∧ j < m) (i k : Nat) (hi : i < Z.length) (hk : k < Z.length) :
    Calls Tryd.prog 165 #[.agg #[s1, .slice A2 n c2, .slice A3 n c3], .int .i64 (i : Int), .int .i64 (k : Int), .int .i64 c, .bool down] w fun e w' => e = .returned (.bool (ltR c down Z[i] Z[k])) ∧ Mod [] w w' := by
  subst hn
  have e1 : (Z.map Prod.fst).length = Z.length := List.length_map _
  have e2 : (Z.map Prod.snd).length = Z.length := List.length_map _
  have h := spec_l11Before w G H' s1 A2 A3 c2 c3 (Z.map Prod.fst) (Z.map Prod.snd) c down (by rw [e1]; exact hy) (by rw [e2]; exact hz) (by rw [e1, e2]) m (fun r hr => by
    obtain ⟨a, ha, rfl⟩ := List.mem_map.1 hr
    exact hm a ha) hc i k (by rw [e1]; exact hi) (by rw [e1]; exact hk)
  simp only [List.length_map, List.getElem_map] at h
  exact h
theorem cmpx_get {lt : RowB → RowB → Bool} {l : List RowB} {a b : Nat} (ha : a < l.length) (hb : b < l.length) : cmpx lt l (a, b) = if lt l[b] l[a] = true then (l.set a l[b]).set b l[a] else l := by
  unfold cmpx
  rw [List.getElem?_eq_getElem ha, List.getElem?_eq_getElem hb]
theorem runL_succ {lt : RowB → RowB → Bool} {L : List (Nat × Nat)} {Z : List RowB} {k : Nat} (h : k < L.length) : cmpx lt (runL lt (L.take k) Z) L[k] = runL lt (L.take (k + 1)) Z := by
  unfold runL
  rw [List.take_succ_eq_append_getElem h, List.foldl_append]; rfl
theorem netF_get {n k : Nat} (h : k < (netF n).length) (h' : k < (network n).length) : (netF n)[k] = toPair (network n)[k] := by simp only [netF, List.getElem_map]
theorem raw_one {w : World} {F : List Nat} {u : Value} {x : List Value} (h : (Rep.raw 1).has w F [u] x) : x = [u] ∧ ∀ v ∈ [u], v.oneCell' = true := by
  obtain ⟨_, rfl, _, h⟩ := h
  exact ⟨rfl, h⟩
set_option maxHeartbeats 8000000 in
set_option maxRecDepth 8000 in
theorem spec_l11Sort (w : World) (A1 A2 A3 : Option Addr) (c1 c2 c3 : Nat) (F G H' : List Nat) (ns : List ByteArray) (rows : List (List Int)) (real : List Bool) (c : Int) (down : Bool) (hx : SliceHas Rep.str w F [.slice A1 ns.length c1] ns) (hy : SliceHas Rep.int.slice w G [.slice A2 rows.length c2] rows) (hz : SliceHas Rep.bool w H' [.slice A3 real.length c3] real) (hok : paddedOk (ns, rows, real) = true) (hps : PSmall (ns, rows, real)) (hc : c = -1 ∨ ∃ j : Nat, c = (j : Int) ∧ j < ns.length) :
    Calls Tryd.prog 100 #[.agg #[.slice A1 ns.length c1, .slice A2 rows.length c2, .slice A3 real.length c3], .int .i64 c, .bool down] w fun e w' => ∃ cs, e = .returned (.agg cs.toArray) ∧ Fresh oPadded w w' cs (sortP c down (ns, rows, real)) := by
  obtain ⟨_, h256, hl, _⟩ := paddedOk_all4 hok
  have Hzip := Lib.hid (padded_zip hok)
  have Hl := Lib.hid hl
  have Hps := Lib.hid hps
  have Hc := Lib.hid hc
  have hS : Sat w w [.ro Rep.str.slice [.slice A1 ns.length c1] ns, .ro Rep.int.slice.slice [.slice A2 rows.length c2] rows, .ro Rep.bool.slice [.slice A3 real.length c3] real] := (((Sat.nil w).arg hz).arg hy).arg hx
  clear hx hy hz hl hok hps hc
  go_enter Tryd.func100, Tryd.ntmps100
  go_wp2_with (first | ((with_reducible show wpList _ _ _ (⟨_, Op.box _ _, _, _, _, _⟩ :: _) _ _); refine Does.list (does_box hS rfl rfl (by rfl)) rfl ?_; clear hS; rintro _ wx ⟨bo, rfl, hS, _⟩; (simp only [Act.put, sA, sZ, sS])) | ((with_reducible show wpList _ _ _ (⟨_, Op.load _ _, _, _, _, _⟩ :: _) _ _); (first | refine Gives.list (f_load hS rfl rfl (by rfl)) rfl ?_ | refine Gives.list (f_loadS hS rfl rfl (by rfl)) rfl ?_ | refine Gives.list (f_loadAt hS rfl rfl) rfl ?_ | refine Gives.list (f_loadAtS hS rfl rfl (by rfl)) rfl ?_ | refine Gives.list (f_loadAtF hS rfl rfl (by rfl)) rfl ?_); (simp only [Act.put, sA, sZ, sS])) | ((with_reducible show wpList _ _ _ (⟨_, Op.alloc _, _, _, _, _⟩ :: _) _ _); refine Does.list (does_alloc hS rfl (by rfl)) rfl ?_; clear hS; rintro _ wx ⟨ba, rfl, hS, _⟩; (simp only [Act.put, sA, sZ, sS])))
  obtain ⟨bz, rfl⟩ : ∃ bz, bz = ba := ⟨_, rfl⟩
  go_wp2_with (first | (go_at_call 97; obtain ⟨Fq, hFq⟩ := hS.has Rep.str.slice [.slice A1 ns.length c1]; obtain ⟨Fr, hFr⟩ := hS.has Rep.int.slice.slice [.slice A2 rows.length c2]; obtain ⟨Fs, hFs⟩ := hS.has Rep.bool.slice [.slice A3 real.length c3]; refine (spec_l8Copy _ A1 A2 A3 c1 c2 c3 Fq Fr Fs ns rows real hFq hFr hFs Hps.out).mono ?_; rintro e w' ⟨cs, rfl, hN⟩; replace hS := hS.fresh hN; clear hN hFq hFr hFs; have hS2 := Sat.openOwnPadded hS; clear hS; obtain ⟨B1, d1, B2, d2, B3, d3, rfl, hS⟩ := hS2; (dsimp only at hS ⊢); (rw [Hl.out] at hS ⊢)) | (go_at_call 101; refine (spec_NetworkOf _ rows.length (by omega)).mono ?_; rintro e w' ⟨v1, rfl, hN⟩; replace hS := hS.fresh hN; clear hN; obtain ⟨A9, c9, rfl⟩ := hS.formOwn 0 rfl) | ((with_reducible show wpList _ _ _ (⟨_, Op.load _ _, _, _, _, _⟩ :: _) _ _); (first | refine Gives.list (f_load hS rfl rfl (by rfl)) rfl ?_ | refine Gives.list (f_loadS hS rfl rfl (by rfl)) rfl ?_ | refine Gives.list (f_loadAt hS rfl rfl) rfl ?_ | refine Gives.list (f_loadAtS hS rfl rfl (by rfl)) rfl ?_ | refine Gives.list (f_loadAtF hS rfl rfl (by rfl)) rfl ?_); (simp only [Act.put, sA, sZ, sS])) | ((with_reducible show wpList _ _ _ (⟨_, Op.store _ _ _, _, _, _, _⟩ :: _) _ _); (first | refine Does.list (f_store hS rfl rfl rfl (by rfl) (by rfl)) rfl ?_ | refine Does.list (f_storeS hS rfl rfl rfl (by rfl) (by rfl) (by rfl)) rfl ?_); clear hS; rintro _ wx ⟨rfl, hS⟩; (simp only [sZ, sS] at hS); (simp only [Act.put, sA, sZ, sS])) | ((with_reducible show wpList _ _ _ (⟨_, Op.alloc _, _, _, _, _⟩ :: _) _ _); refine Does.list (does_alloc hS rfl (by rfl)) rfl ?_; clear hS; rintro _ wx ⟨ba, rfl, hS, _⟩; (simp only [Act.put, sA, sZ, sS])))
  replace hS := Sat.still (e' := rPair.slice) hS
  have HZ0 : Hid ((rows.zip real).map Prod.fst = rows ∧ (rows.zip real).map Prod.snd = real ∧ (rows.zip real).length = rows.length) := Lib.hid ⟨fst_zip Hl.out, snd_zip Hl.out, by rw [List.length_zip, Hl.out]; omega⟩
  have hNL : (netF rows.length).length = (network rows.length).length := by unfold netF; rw [List.length_map]
  have hNL2 := netF_len h256
  have HNL := Lib.hid hNL
  clear hNL
  obtain ⟨Z0, hZ0⟩ : ∃ Z0, rows.zip real = Z0 := ⟨_, rfl⟩
  rw [hZ0] at HZ0 Hzip
  have HZZ := Lib.hid hZ0
  clear hZ0
  replace hS : Sat w w' [.own Rep.int.rows.rows [.slice B2 rows.length d2] (Z0.map Prod.fst), .own Rep.bool.rows [.slice B3 rows.length d3] (Z0.map Prod.snd), .box ba [.slice B1 ns.length d1, .slice B2 rows.length d2, .slice B3 rows.length d3], .own Rep.str.rows [.slice B1 ns.length d1] ns, .ro rPair.slice [.slice A9 (netF rows.length).length c9] (netF rows.length), .box bz [.slice none 0 0, .slice none 0 0, .slice none 0 0], .box bo [.slice A1 ns.length c1, .slice A2 rows.length c2, .slice A3 rows.length c3], .ro Rep.str.slice [.slice A1 ns.length c1] ns, .ro Rep.int.slice.slice [.slice A2 rows.length c2] rows, .ro Rep.bool.slice [.slice A3 rows.length c3] real] := by rw [HZ0.out.1, HZ0.out.2.1]; exact hS.sel [3, 2, 1, 4, 0, 5, 6, 7, 8, 9] rfl (by decide)
  go_loopw [9] (fun iv wr => ∃ (k : Nat) (Z : List RowB), iv = .int .i64 (k : Int) ∧ k ≤ (netF rows.length).length ∧ Hid (Z = runL (ltR c down) ((network rows.length).take k) Z0) ∧ Sat w wr [.own Rep.int.rows.rows [.slice B2 rows.length d2] (Z.map Prod.fst), .own Rep.bool.rows [.slice B3 rows.length d3] (Z.map Prod.snd), .box ba [.slice B1 ns.length d1, .slice B2 rows.length d2, .slice B3 rows.length d3], .own Rep.str.rows [.slice B1 ns.length d1] ns, .ro rPair.slice [.slice A9 (netF rows.length).length c9] (netF rows.length), .box bz [.slice none 0 0, .slice none 0 0, .slice none 0 0], .box bo [.slice A1 ns.length c1, .slice A2 rows.length c2, .slice A3 rows.length c3], .ro Rep.str.slice [.slice A1 ns.length c1] ns, .ro Rep.int.slice.slice [.slice A2 rows.length c2] rows, .ro Rep.bool.slice [.slice A3 rows.length c3] real]) (fun iv _ => (netF rows.length).length - (intOf iv).toNat)
  case atStart => exact ⟨0, Z0, rfl, Nat.zero_le _, Lib.hid rfl, hS⟩
  case round =>
    clear hS
    obtain ⟨k, Z, rfl, hk, hZ, hS⟩ := hrel
    have HZn : Hid (Z.length = rows.length) := Lib.hid (by rw [hZ.out, runL_len]; exact HZ0.out.2.2)
    by_cases hlt : k < (netF rows.length).length
    case neg =>
      have hkE : k = (network rows.length).length := by have := HNL.out; omega
      have hltI : ¬ (k : Int) < ((netF rows.length).length : Int) := by omega
      have HE : Hid ((ns, Z.map Prod.fst, Z.map Prod.snd) = sortP c down (ns, rows, real)) := Lib.hid (by
        unfold sortP sortZ
        dsimp only
        rw [HZZ.out, HZ0.out.2.2, hZ.out, hkE, List.take_length])
      clear hkE
      go_wp2_with (first | ((with_reducible show wpList _ _ _ (⟨_, Op.load _ _, _, _, _, _⟩ :: _) _ _); (first | refine Gives.list (f_load hS rfl rfl (by rfl)) rfl ?_ | refine Gives.list (f_loadS hS rfl rfl (by rfl)) rfl ?_ | refine Gives.list (f_loadAt hS rfl rfl) rfl ?_ | refine Gives.list (f_loadAtS hS rfl rfl (by rfl)) rfl ?_ | refine Gives.list (f_loadAtF hS rfl rfl (by rfl)) rfl ?_); (simp only [Act.put, sA, sZ, sS])) | ((with_reducible show wpList _ _ _ (⟨_, Op.store _ _ _, _, _, _, _⟩ :: _) _ _); (first | refine Does.list (f_store hS rfl rfl rfl (by rfl) (by rfl)) rfl ?_ | refine Does.list (f_storeS hS rfl rfl rfl (by rfl) (by rfl) (by rfl)) rfl ?_); clear hS; rintro _ wx ⟨rfl, hS⟩; (simp only [sZ, sS] at hS); (simp only [Act.put, sA, sZ, sS])))
      refine bodyPost_ret (hS.resultCell rfl rfl (by rfl)) rfl ?_
      refine ⟨_, rfl, ?_⟩
      rw [← HE.out]
      exact (Sat.mkPadded (hS.sel (Γ' := [.own Rep.bool.rows [.slice B3 rows.length d3] (Z.map Prod.snd), .own Rep.int.rows.rows [.slice B2 rows.length d2] (Z.map Prod.fst), .own Rep.str.rows [.slice B1 ns.length d1] ns]) [1, 0, 3] rfl (by decide))).result
    have hltI : (k : Int) < ((netF rows.length).length : Int) := by omega
    have hkL : k < (network rows.length).length := by have := HNL.out; omega
    obtain ⟨⟨a, b⟩, hab⟩ : ∃ p, (network rows.length)[k] = p := ⟨_, rfl⟩
    have hfit := network_fit _ (List.getElem_mem hkL)
    rw [hab] at hfit
    obtain ⟨hfit1, hb⟩ : a < b ∧ b < rows.length := hfit
    have ha : a < rows.length := by omega
    have hnp : (netF rows.length)[k] = ((a : Int), (b : Int)) := by
      rw [netF_get hlt hkL, hab]; rfl
    have HS : Hid (cmpx (ltR c down) Z (a, b) = runL (ltR c down) ((network rows.length).take (k + 1)) Z0) := Lib.hid (by rw [← hab, hZ.out]; exact runL_succ hkL)
    have haZ : a < Z.length := by rw [HZn.out]; exact ha
    have hbZ : b < Z.length := by rw [HZn.out]; exact hb
    have HC := Lib.hid (cmpx_get (lt := ltR c down) haZ hbZ)
    have HZm : Hid (∀ x ∈ Z, x.1.length = ns.length) := Lib.hid (fun x hx => rowOkZ_len (Hzip.out x ((runL_perm _ _).mem_iff.1 (by rw [← hZ.out]; exact hx))))
    have haI : (a : Int) < (rows.length : Int) := by omega
    have hbI : (b : Int) < (rows.length : Int) := by omega
    obtain ⟨ad, rfl, i0, i1, hS⟩ := hS.elPair A9 (netF rows.length).length c9 (get_some hlt)
    rw [hnp] at hS
    dsimp only at hS
    clear i0 i1 hnp hab hkL hfit1
    cases hl : ltR c down Z[b] Z[a]
    · have Hlt := Lib.hid hl
      have HN : Hid (Z = runL (ltR c down) ((network rows.length).take (k + 1)) Z0) := Lib.hid (by rw [← HS.out, HC.out, hl]; rfl)
      clear hl
      go_wp2_with (first | (go_at_call 165; obtain ⟨Fr, hFr⟩ := hS.has Rep.int.slice.slice [.slice B2 rows.length d2]; obtain ⟨Fs, hFs⟩ := hS.has Rep.bool.slice [.slice B3 rows.length d3]; refine (spec_l11BeforeZ _ Fr Fs (.slice B1 ns.length d1) B2 B3 d2 d3 rows.length Z HZn.out c down hFr hFs ns.length HZm.out Hc.out b a (by rw [HZn.out]; exact hb) (by rw [HZn.out]; exact ha)).mono ?_; rintro e w' ⟨rfl, hM⟩; (rw [Hlt.out]); replace hS := hS.mod hM; clear hM hFr hFs) | ((with_reducible show wpList _ _ _ (⟨_, Op.load _ _, _, _, _, _⟩ :: _) _ _); (first | refine Gives.list (f_load hS rfl rfl (by rfl)) rfl ?_ | refine Gives.list (f_loadS hS rfl rfl (by rfl)) rfl ?_ | refine Gives.list (f_loadAt hS rfl rfl) rfl ?_ | refine Gives.list (f_loadAtS hS rfl rfl (by rfl)) rfl ?_ | refine Gives.list (f_loadAtF hS rfl rfl (by rfl)) rfl ?_); (simp only [Act.put, sA, sZ, sS])))
      go_roundw
      case rel => exact ⟨k + 1, Z, by go_num, hlt, HN, hS.sel [1, 2, 3, 4, 5, 6, 7, 8, 9, 10] rfl (by decide)⟩
      case measure => simp [intOf]; omega
    · have Hlt := Lib.hid hl
      have HN : Hid ((Z.set a Z[b]).set b Z[a] = runL (ltR c down) ((network rows.length).take (k + 1)) Z0) := Lib.hid (by rw [← HS.out, HC.out, hl]; rfl)
      clear hl
      go_upto_region 9 with (first | (go_at_call 165; obtain ⟨Fr, hFr⟩ := hS.has Rep.int.slice.slice [.slice B2 rows.length d2]; obtain ⟨Fs, hFs⟩ := hS.has Rep.bool.slice [.slice B3 rows.length d3]; refine (spec_l11BeforeZ _ Fr Fs (.slice B1 ns.length d1) B2 B3 d2 d3 rows.length Z HZn.out c down hFr hFs ns.length HZm.out Hc.out b a (by rw [HZn.out]; exact hb) (by rw [HZn.out]; exact ha)).mono ?_; rintro e w' ⟨rfl, hM⟩; (rw [Hlt.out]); replace hS := hS.mod hM; clear hM hFr hFs) | ((with_reducible show wpList _ _ _ (⟨_, Op.load _ _, _, _, _, _⟩ :: _) _ _); (first | refine Gives.list (f_load hS rfl rfl (by rfl)) rfl ?_ | refine Gives.list (f_loadS hS rfl rfl (by rfl)) rfl ?_ | refine Gives.list (f_loadAt hS rfl rfl) rfl ?_ | refine Gives.list (f_loadAtS hS rfl rfl (by rfl)) rfl ?_ | refine Gives.list (f_loadAtF hS rfl rfl (by rfl)) rfl ?_); (simp only [Act.put, sA, sZ, sS])))
      obtain ⟨g2, o2, rfl⟩ := hS.rowAt 1 rfl (by omega)
      obtain ⟨g3, o3, rfl⟩ := hS.rowAt 2 rfl (by omega)
      replace hS := hS.sel (Γ' := [.own Rep.int.rows.rows [.slice (some ⟨g2, o2, none⟩) rows.length d2] (Z.map Prod.fst), .own Rep.bool.rows [.slice (some ⟨g3, o3, none⟩) rows.length d3] (Z.map Prod.snd), .box ba [.slice B1 ns.length d1, .slice (some ⟨g2, o2, none⟩) rows.length d2, .slice (some ⟨g3, o3, none⟩) rows.length d3], .own Rep.str.rows [.slice B1 ns.length d1] ns, .ro rPair.slice [.slice (some ad) (netF rows.length).length c9] (netF rows.length), .box bz [.slice none 0 0, .slice none 0 0, .slice none 0 0], .box bo [.slice A1 ns.length c1, .slice A2 rows.length c2, .slice A3 rows.length c3], .ro Rep.str.slice [.slice A1 ns.length c1] ns, .ro Rep.int.slice.slice [.slice A2 rows.length c2] rows, .ro Rep.bool.slice [.slice A3 rows.length c3] real]) [1, 2, 3, 4, 5, 6, 7, 8, 9, 10] rfl (by decide)
      obtain ⟨css, hcl, hS⟩ := Sat.shareOwn hS
      rw [show (Rep.int.rows).size = 1 from rfl] at hS
      rw [List.length_map] at hcl
      obtain ⟨xa, hxa⟩ : ∃ x, css[a]? = some x := ⟨_, List.getElem?_eq_getElem (by omega)⟩
      obtain ⟨xb, hxb⟩ : ∃ x, css[b]? = some x := ⟨_, List.getElem?_eq_getElem (by omega)⟩
      obtain ⟨⟨ua, _, _, hua⟩, _⟩ := hS.rowCell (e := Rep.raw 1) 0 rfl rfl hxa
      obtain ⟨⟨ub, _, _, hub⟩, _⟩ := hS.rowCell (e := Rep.raw 1) 0 rfl rfl hxb
      obtain ⟨exa, kua⟩ := raw_one hua
      obtain ⟨exb, kub⟩ := raw_one hub
      rw [exa] at hxa
      rw [exb] at hxb
      have Hca := Lib.hid hxa
      have Hcb := Lib.hid hxb
      have Hua := Lib.hid kua
      have Hub := Lib.hid kub
      have hfa : (Z.map Prod.fst)[a]? = some Z[a].1 := by rw [List.getElem?_map, List.getElem?_eq_getElem haZ]; rfl
      have hfb : (Z.map Prod.fst)[b]? = some Z[b].1 := by rw [List.getElem?_map, List.getElem?_eq_getElem hbZ]; rfl
      have hsa : (Z.map Prod.snd)[a]? = some Z[a].2 := by rw [List.getElem?_map, List.getElem?_eq_getElem haZ]; rfl
      have hsb : (Z.map Prod.snd)[b]? = some Z[b].2 := by rw [List.getElem?_map, List.getElem?_eq_getElem hbZ]; rfl
      have HM1 : Hid (((Z.map Prod.fst).set a Z[b].1).set b Z[a].1 = ((Z.set a Z[b]).set b Z[a]).map Prod.fst) := Lib.hid (by rw [List.map_set, List.map_set])
      have HM2 : Hid (((Z.map Prod.snd).set a Z[b].2).set b Z[a].2 = ((Z.set a Z[b]).set b Z[a]).map Prod.snd) := Lib.hid (by rw [List.map_set, List.map_set])
      obtain ⟨za, hza⟩ : ∃ z, Z[a] = z := ⟨_, rfl⟩
      obtain ⟨zb, hzb⟩ : ∃ z, Z[b] = z := ⟨_, rfl⟩
      rw [hza] at hfa hsa HM1 HM2 HN
      rw [hzb] at hfb hsb HM1 HM2 HN
      obtain ⟨fa, ra⟩ := za
      obtain ⟨fb, rb⟩ := zb
      dsimp only at hfa hfb hsa hsb HM1 HM2
      have Hfa := Lib.hid hfa
      have Hfb := Lib.hid hfb
      have Hra := Lib.hid hsa
      have Hrb := Lib.hid hsb
      clear hxa hxb hua hub kua kub exa exb hfa hfb hsa hsb hza hzb hcl
      go_wp2_with (first | ((with_reducible show Code.wp _ (Code.region 10 _ true) _ _ _); refine wp_region_drawn [(0, 0), (1, 1), (2, 0), (3, 0), (4, 1), (5, 0), (6, 0), (7, 1), (8, 0), (9, 3)] (by kernel_rfl) (by kernel_rfl) (by intro _ _ dq _ _ hq; cases dq <;> exact hq) ?_; replace hS := hS.mod (Mod.drew (Mod.refl _ _)); (generalize hwd : World.drew _ = wz at hS ⊢); clear hwd) | ((with_reducible show Code.wp _ (Code.region 13 _ true) _ _ _); refine wp_region_drawn [(0, 0), (1, 1), (2, 0), (3, 0), (4, 1), (5, 0), (6, 0), (7, 1), (8, 0), (9, 3)] (by kernel_rfl) (by kernel_rfl) (by intro _ _ dq _ _ hq; cases dq <;> exact hq) ?_; replace hS := hS.mod (Mod.drew (Mod.refl _ _)); (generalize hwd : World.drew _ = wz at hS ⊢); clear hwd) | ((with_reducible show wpD _ _ _ [] _ _); refine D_nil ?_) | ((with_reducible show wpD _ _ _ ((_, 0) :: _) _ _); (first | (refine D_skip rfl rfl ?_; (first | show wpD _ _ _ _ (Act.put _ (some _) _) _ | show wpD _ _ _ _ (Act.put _ none _) _); (simp only [Act.put, sA, sZ, sS])) | (refine D_pure (v := ?_) rfl rfl (fun wq => ?_) ?_; rotate_left 1; (show (Sem.run _ (execOp _ (Oper.mk _ _ _ _ _ _)) _) = _; go_simp; (try go_bits); with_reducible rfl); (first | show wpD _ _ _ _ (Act.put _ (some _) _) _ | show wpD _ _ _ _ (Act.put _ none _) _); (simp only [Act.put, sA, sZ, sS])))) | ((with_reducible show wpD _ _ _ ((_, 1) :: _) _ _); (first | (refine D_skip rfl rfl ?_; (first | show wpD _ _ _ _ (Act.put _ (some _) _) _ | show wpD _ _ _ _ (Act.put _ none _) _); (simp only [Act.put, sA, sZ, sS])) | ((first | refine D_load rfl rfl (fun x hx => f_load (hS.mod hx) rfl rfl (by rfl)) ?_ | refine D_load rfl rfl (fun x hx => f_loadS (hS.mod hx) rfl rfl (by rfl)) ?_ | refine D_load rfl rfl (fun x hx => f_loadAt (hS.mod hx) rfl rfl) ?_ | refine D_load rfl rfl (fun x hx => f_loadAtS (hS.mod hx) rfl rfl (by rfl)) ?_ | refine D_load rfl rfl (fun x hx => f_loadAtF (hS.mod hx) rfl rfl (by rfl)) ?_); (first | show wpD _ _ _ _ (Act.put _ (some _) _) _ | show wpD _ _ _ _ (Act.put _ none _) _); (simp only [Act.put, sA, sZ, sS])))) | ((with_reducible show wpD _ _ _ ((_, 1) :: _) _ _); (first | refine D_load rfl rfl (fun x hx => f_loadRaw (g := g2) (off := o2) (n := rows.length) (c := d2) (k := b) (hS.mod hx) rfl rfl Hcb.out) ?_ | refine D_load rfl rfl (fun x hx => f_loadBoolRow (g := g3) (off := o3) (n := rows.length) (c := d3) (k := b) (hS.mod hx) rfl rfl Hrb.out) ?_); (first | show wpD _ _ _ _ (Act.put _ (some _) _) _ | show wpD _ _ _ _ (Act.put _ none _) _); (simp only [Act.put, sA, sZ, sS])) | ((with_reducible show wpD _ _ _ ((_, 3) :: _) _ _); (first | refine D_loud rfl rfl (does_storeEl (e := Rep.raw 1) (k := a) 0 (hS.rawOwn 1 [ub] rfl Hub.out) rfl rfl rfl rfl (Hub.out ub (by simp)) rfl ha) ?_ | refine D_loud rfl rfl (does_storeEl (e := Rep.bool) (k := a) 2 (hS.bool rb) rfl rfl rfl rfl rfl rfl ha) ?_); clear hS; rintro _ wx ⟨rfl, hS⟩; (simp only [sZ, sS] at hS); (first | show wpD _ _ _ _ (Act.put _ (some _) _) _ | show wpD _ _ _ _ (Act.put _ none _) _); (simp only [Act.put, sA, sZ, sS])) | ((with_reducible show wpList _ _ _ (⟨_, Op.store _ _ _, _, _, _, _⟩ :: _) _ _); (first | refine Does.list (does_storeEl (e := Rep.raw 1) (k := b) 0 (hS.rawOwn 1 [ua] rfl Hua.out) rfl rfl rfl rfl (Hua.out ua (by simp)) rfl hb) rfl ?_ | refine Does.list (does_storeEl (e := Rep.bool) (k := b) 2 (hS.bool ra) rfl rfl rfl rfl rfl rfl hb) rfl ?_); clear hS; rintro _ wx ⟨rfl, hS⟩; (simp only [sZ, sS] at hS); (simp only [Act.put, sA, sZ, sS])) | ((with_reducible show wpList _ _ _ (⟨_, Op.load _ _, _, _, _, _⟩ :: _) _ _); refine Gives.list (f_loadRaw (g := g2) (off := o2) (n := rows.length) (c := d2) (k := a) hS rfl rfl Hca.out) rfl ?_; (simp only [Act.put, sA, sZ, sS])) | ((with_reducible show wpList _ _ _ (⟨_, Op.load _ _, _, _, _, _⟩ :: _) _ _); refine Gives.list (f_loadBoolRow (g := g3) (off := o3) (n := rows.length) (c := d3) (k := a) hS rfl rfl Hra.out) rfl ?_; (simp only [Act.put, sA, sZ, sS])) | ((with_reducible show wpList _ _ _ (⟨_, Op.load _ _, _, _, _, _⟩ :: _) _ _); (first | refine Gives.list (f_load hS rfl rfl (by rfl)) rfl ?_ | refine Gives.list (f_loadS hS rfl rfl (by rfl)) rfl ?_ | refine Gives.list (f_loadAt hS rfl rfl) rfl ?_ | refine Gives.list (f_loadAtS hS rfl rfl (by rfl)) rfl ?_ | refine Gives.list (f_loadAtF hS rfl rfl (by rfl)) rfl ?_); (simp only [Act.put, sA, sZ, sS])))
      replace hS := Sat.unshareOwn (e := Rep.int.rows) (Sat.swap (Sat.lnkSwap (Sat.swap hS) Hca.out Hcb.out Hfa.out Hfb.out))
      rw [HM1.out, HM2.out] at hS
      go_roundw
      case rel => exact ⟨k + 1, _, by go_num, hlt, HN, hS⟩
      case measure => simp [intOf]; omega
end Go.Proofs.YtldknaajnnohiaaDoor
end
