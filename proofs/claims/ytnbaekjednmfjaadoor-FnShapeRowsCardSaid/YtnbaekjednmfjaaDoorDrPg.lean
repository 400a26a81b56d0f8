/- l20Table, where none is invalid. -/
import Derived.Test.YtnbaekjednmfjaaDoorIn
import Derived.Test.YtnbaekjednmfjaaDoorTyped
import Derived.Test.YtnbaekjednmfjaaDoorSatT
import Derived.Test.YtnbaekjednmfjaaDoorDrawB
import Derived.Test.YtnbaekjednmfjaaDoorFind
import Derived.Test.YtnbaekjednmfjaaDoorShareO
section
namespace Go.Proofs.YtnbaekjednmfjaaDoor
open Go.RowKit

set_option maxHeartbeats 4000000 in
set_option maxRecDepth 8000 in
theorem spec_l20Table0 (w : World) (br : Nat) (A : Option Addr) (nr cr p : Nat) (kind : Int) (hk0 : 0 ≤ kind) (hk2 : kind ≤ 2) (hr : Rd br A nr cr p w) (hp : p ≤ 700000000) :
    Calls Tryd.prog 27 #[.pointer (some ⟨br, 0, none⟩), .int .i64 kind, .int .i64 0] w fun e w' => ∃ (vn vr : Value) (ns : List ByteArray) (rows : List (List Int)), e = .returned (.agg #[vn, vr]) ∧ (ns.length ≤ 3 ∧ rows.length ≤ 16 ∧ ∀ r ∈ rows, r.length = ns.length) ∧ NewIn oTable w w' [vn, vr] (ns, rows) ∧ (∃ p', p' ≤ p + 50000 ∧ Rd br A nr cr p' w') ∧ Mod [br] w w' := by
  obtain ⟨code, hl, hS⟩ := hr.enter
  clear hr
  go_enter Tryd.func27, Tryd.ntmps27
  go_wp2_with (first | (go_at_call 40; obtain ⟨hrd, up⟩ := Sat.rdF hS br; refine (spec_l20Names _ br _ _ _ _ kind hk0 hk2 hrd (by omega)).mono ?_; rintro e w' ⟨v, ns, rfl, ⟨hn1, hn3⟩, hN, ⟨p1, hp1, hrd2⟩, hM⟩; replace hS := (up _ _ hrd2 hM).2 _ _ _ hN; clear up hrd hrd2 hM hN; (simp only [List.set_cons_zero, List.set_cons_succ] at hS); obtain ⟨An, cn, rfl⟩ := hS.formOwn 0 rfl; replace hS := Sat.swap (Sat.still (e' := Rep.str.slice) hS)) | ((with_reducible show wpList _ _ _ (⟨_, Op.call { callee := Callee.builtin Builtin.append, args := _, argTypes := _ }, _, _, _, _⟩ :: _) _ _); replace hS := (Sat.vec0 Rep.str hS).lit (Nat.zero_le _); refine Does.list (f_appendFlat Rep.str Rep.str hS rfl rfl rfl rfl rfl rfl (by decide) (by omega)) rfl ?_; clear hS; rintro _ wx ⟨A2, c2, rfl, hS⟩; (simp only [List.set_cons_zero, List.set_cons_succ] at hS); (simp only [Act.put, List.setIfInBounds_toArray, List.set_cons_zero, List.set_cons_succ]); (simp only [Nat.zero_add, List.nil_append] at hS ⊢)) | ((with_reducible show wpList _ _ _ (⟨_, Op.box _ _, _, _, _, _⟩ :: _) _ _); refine Does.list (does_box hS rfl rfl (by rfl)) rfl ?_; clear hS; rintro _ wx ⟨bo, rfl, hS, _⟩; (simp only [Act.put, List.setIfInBounds_toArray, List.set_cons_zero, List.set_cons_succ])) | ((with_reducible show wpList _ _ _ (⟨_, Op.load _ _, _, _, _, _⟩ :: _) _ _); (first | refine Gives.list (f_load hS rfl rfl (by rfl)) rfl ?_ | refine Gives.list (f_loadS hS rfl rfl (by rfl)) rfl ?_ | refine Gives.list (f_loadAt hS rfl rfl) rfl ?_ | refine Gives.list (f_loadAtS hS rfl rfl (by rfl)) rfl ?_ | refine Gives.list (f_loadAtF hS rfl rfl (by rfl)) rfl ?_); (simp only [Act.put, List.setIfInBounds_toArray, List.set_cons_zero, List.set_cons_succ])) | ((with_reducible show wpList _ _ _ (⟨_, Op.store _ _ _, _, _, _, _⟩ :: _) _ _); (first | refine Does.list (f_store hS rfl rfl rfl (by rfl) (by rfl)) rfl ?_ | refine Does.list (f_storeS hS rfl rfl rfl (by rfl) (by rfl) (by rfl)) rfl ?_); clear hS; rintro _ wx ⟨rfl, hS⟩; (simp only [List.set_cons_zero, List.set_cons_succ] at hS); (simp only [Act.put, List.setIfInBounds_toArray, List.set_cons_zero, List.set_cons_succ])) | ((with_reducible show wpList _ _ _ (⟨_, Op.alloc _, _, _, _, _⟩ :: _) _ _); refine Does.list (does_alloc hS rfl (by rfl)) rfl ?_; clear hS; rintro _ wx ⟨ba, rfl, hS, _⟩; (simp only [Act.put, List.setIfInBounds_toArray, List.set_cons_zero, List.set_cons_succ])) | ((with_reducible show wpList _ _ _ (⟨_, Op.buildSlice _ _ _, _, _, _, _⟩ :: _) _ _); refine Does.list (does_buildSlice (X := ?_) (cs := ?_) (E := ?_) hS rfl ?_ ?_) rfl ?_; rotate_left 3; (go_simp; rfl); rfl; clear hS; rintro _ wx ⟨bx, rfl, hS, _⟩; (simp only [Act.put, List.setIfInBounds_toArray, List.set_cons_zero, List.set_cons_succ])))
  go_wp2_with (first | ((with_reducible show Code.wp _ (Code.region 2 _ true) _ _ _); refine wp_region_treeG (G := [br]) (.br [(0, 0), (1, 0), (2, 1), (3, 0), (4, 0), (6, 0), (9, 0), (5, 2), (7, 2)] 8 2 (.lin [(10, 2), (11, 0), (12, 0), (13, 1), (14, 2), (15, 0), (16, 3)]) 10 2 (.lin [(11, 0), (8, 2), (12, 0), (13, 1), (14, 2), (15, 0), (16, 3)])) (by kernel_rfl) (by kernel_rfl) (by intro _ _ dq _ _ hq; cases dq <;> exact hq) ?_; replace hS := hS.mod (Mod.drew (Mod.refl _ _)); (generalize hwd : World.drew _ = wz at hS ⊢); clear hwd) | (((with_reducible show wpG _ _ _ _ ((_, 2) :: _) _ _); (refine G_call (f := 28) (args := ?_) rfl rfl ?_ ?_); rotate_left 1; (show (Sem.run _ (execOp _ (Oper.mk _ _ _ _ _ _)) _) = _; go_simp; rfl); (with_reducible show Calls _ _ #[_, Value.int IntKind.i64 6] _ _); obtain ⟨hrd, up⟩ := Sat.rdF hS br; refine (spec_pick _ br _ _ _ _ _ hrd (by omega) (by omega)).mono ?_; rintro e w' ⟨⟨x6, rfl, hx60, hx61, hx62⟩, hrd2, hM⟩; replace hS := (up _ _ hrd2 hM).1; clear up hrd hrd2; (simp only [List.set_cons_zero, List.set_cons_succ] at hS); refine ⟨_, rfl, hM, ?_⟩; clear hM; (first | show wpG _ _ _ _ _ (Act.put _ (some _) _) _ | show wpG _ _ _ _ _ (Act.put _ none _) _); (simp only [Act.put, List.setIfInBounds_toArray, List.set_cons_zero, List.set_cons_succ])); obtain ⟨k6, rfl⟩ : ∃ k : Nat, x6 = k := ⟨x6.toNat, by omega⟩) | ((with_reducible show wpG _ _ _ _ ((_, 2) :: _) _ _); (refine G_call (f := 28) (args := ?_) rfl rfl ?_ ?_); rotate_left 1; (show (Sem.run _ (execOp _ (Oper.mk _ _ _ _ _ _)) _) = _; go_simp; rfl); (with_reducible show Calls _ _ #[_, Value.int IntKind.i64 12] _ _); obtain ⟨hrd, up⟩ := Sat.rdF hS br; refine (spec_pick _ br _ _ _ _ _ hrd (by omega) (by omega)).mono ?_; rintro e w' ⟨⟨x12, rfl, hx120, hx121, hx122⟩, hrd2, hM⟩; replace hS := (up _ _ hrd2 hM).1; clear up hrd hrd2; (simp only [List.set_cons_zero, List.set_cons_succ] at hS); refine ⟨_, rfl, hM, ?_⟩; clear hM; (first | show wpG _ _ _ _ _ (Act.put _ (some _) _) _ | show wpG _ _ _ _ _ (Act.put _ none _) _); (simp only [Act.put, List.setIfInBounds_toArray, List.set_cons_zero, List.set_cons_succ])) | (with_reducible refine G_br ?_) | (with_reducible refine G_lin ?_) | (with_reducible refine G_and ?_ ?_) | (with_reducible refine G_ord ?_) | ((with_reducible show wpG _ _ _ _ [] _ _); refine G_nil ?_) | ((with_reducible show wpG _ _ _ _ ((_, 0) :: _) _ _); (first | (refine G_skip rfl rfl ?_; (first | show wpG _ _ _ _ _ (Act.put _ (some _) _) _ | show wpG _ _ _ _ _ (Act.put _ none _) _); (simp only [Act.put, List.setIfInBounds_toArray, List.set_cons_zero, List.set_cons_succ])) | (refine G_pure (v := ?_) rfl rfl (fun wq => ?_) ?_; rotate_left 1; (show (Sem.run _ (execOp _ (Oper.mk _ _ _ _ _ _)) _) = _; go_simp; (try go_bits); with_reducible rfl); (first | show wpG _ _ _ _ _ (Act.put _ (some _) _) _ | show wpG _ _ _ _ _ (Act.put _ none _) _); (simp only [Act.put, List.setIfInBounds_toArray, List.set_cons_zero, List.set_cons_succ])))) | ((with_reducible show wpG _ _ _ _ ((_, 1) :: _) _ _); (first | (refine G_skip rfl rfl ?_; (first | show wpG _ _ _ _ _ (Act.put _ (some _) _) _ | show wpG _ _ _ _ _ (Act.put _ none _) _); (simp only [Act.put, List.setIfInBounds_toArray, List.set_cons_zero, List.set_cons_succ])) | (refine G_load rfl rfl (fun x hx => f_loadG hS hx rfl rfl (by decide) (by rfl)) ?_; (first | show wpG _ _ _ _ _ (Act.put _ (some _) _) _ | show wpG _ _ _ _ _ (Act.put _ none _) _); (simp only [Act.put, List.setIfInBounds_toArray, List.set_cons_zero, List.set_cons_succ])))) | ((with_reducible show wpG _ _ _ _ ((_, 2) :: _) _ _); ((refine G_calm rfl rfl (does_buildSlice (X := ?_) (cs := ?_) (E := ?_) hS rfl ?_ ?_) ?_); rotate_left 3; (go_simp; rfl); rfl; clear hS; rintro _ wx ⟨bx, rfl, hS, hM⟩; refine ⟨hM.mono (by simp), ?_⟩; clear hM; (first | show wpG _ _ _ _ _ (Act.put _ (some _) _) _ | show wpG _ _ _ _ _ (Act.put _ none _) _); (simp only [Act.put, List.setIfInBounds_toArray, List.set_cons_zero, List.set_cons_succ]))) | ((with_reducible show wpG _ _ _ _ ((_, 3) :: _) _ _); ((first | refine G_loud rfl rfl (f_store hS rfl rfl rfl (by rfl) (by rfl)) ?_ | refine G_loud rfl rfl (f_storeS hS rfl rfl rfl (by rfl) (by rfl) (by rfl)) ?_); clear hS; rintro _ wx ⟨rfl, hS⟩; (simp only [List.set_cons_zero, List.set_cons_succ] at hS); (first | show wpG _ _ _ _ _ (Act.put _ (some _) _) _ | show wpG _ _ _ _ _ (Act.put _ none _) _); (simp only [Act.put, List.setIfInBounds_toArray, List.set_cons_zero, List.set_cons_succ]))))
  all_goals
    rcases (show x12 / 5 = 0 ∨ x12 / 5 = 1 ∨ x12 / 5 = 2 by omega) with hq | hq | hq
  all_goals
    go_wp2_with (first | ((with_reducible show wpG _ _ _ _ ((_, 2) :: _) _ _); (refine G_call (f := 41) (args := ?_) rfl rfl ?_ ?_); rotate_left 1; (show (Sem.run _ (execOp _ (Oper.mk _ _ _ _ _ _)) _) = _; go_simp; rfl); obtain ⟨hrd, up⟩ := Sat.rdF hS br; (first | refine (spec_l20Rows _ br _ _ _ _ ns.length _ hrd (by omega) (by omega) (by omega)).mono ?_ | (have hL := spec_l20Rows _ br _ _ _ _ ns.length 16 hrd (by omega) (by omega) (by omega); (rw [show ((16 : Nat) : Int) = 16 from rfl] at hL); refine hL.mono ?_; clear hL)); rintro e w' ⟨v, rows, rfl, ⟨hl1, hl2⟩, hN, ⟨p2, hp2, hrd2⟩, hM⟩; replace hS := (up _ _ hrd2 hM).2 _ _ _ hN; clear up hrd hrd2 hN; (simp only [List.set_cons_zero, List.set_cons_succ] at hS); obtain ⟨B, d, rfl⟩ := hS.formOwn 0 rfl; have Hl2 := Lib.hid hl2; have hl16 : rows.length ≤ 16 := (by omega); clear hl2 hl1; refine ⟨_, rfl, hM, ?_⟩; clear hM; (first | show wpG _ _ _ _ _ (Act.put _ (some _) _) _ | show wpG _ _ _ _ _ (Act.put _ none _) _); (simp only [Act.put, List.setIfInBounds_toArray, List.set_cons_zero, List.set_cons_succ])) | (go_at_call 29; obtain ⟨hrd, up⟩ := Sat.rdF hS br; refine (spec_odd _ br _ _ _ _ _ hrd (by omega) (by omega) (by omega)).mono ?_; rintro e w' ⟨⟨ob, rfl, hob⟩, ⟨p3, hp3, hrd2⟩, hM⟩; obtain rfl := hob rfl; replace hS := (up _ _ hrd2 hM).1; clear up hrd hrd2 hM hob; (simp only [List.set_cons_zero, List.set_cons_succ] at hS)) | (with_reducible refine G_br ?_) | (with_reducible refine G_lin ?_) | (with_reducible refine G_and ?_ ?_) | (with_reducible refine G_ord ?_) | ((with_reducible show wpG _ _ _ _ [] _ _); refine G_nil ?_) | ((with_reducible show wpG _ _ _ _ ((_, 0) :: _) _ _); (first | (refine G_skip rfl rfl ?_; (first | show wpG _ _ _ _ _ (Act.put _ (some _) _) _ | show wpG _ _ _ _ _ (Act.put _ none _) _); (simp only [Act.put, List.setIfInBounds_toArray, List.set_cons_zero, List.set_cons_succ])) | (refine G_pure (v := ?_) rfl rfl (fun wq => ?_) ?_; rotate_left 1; (show (Sem.run _ (execOp _ (Oper.mk _ _ _ _ _ _)) _) = _; go_simp; (try go_bits); with_reducible rfl); (first | show wpG _ _ _ _ _ (Act.put _ (some _) _) _ | show wpG _ _ _ _ _ (Act.put _ none _) _); (simp only [Act.put, List.setIfInBounds_toArray, List.set_cons_zero, List.set_cons_succ])))) | ((with_reducible show wpG _ _ _ _ ((_, 1) :: _) _ _); (first | (refine G_skip rfl rfl ?_; (first | show wpG _ _ _ _ _ (Act.put _ (some _) _) _ | show wpG _ _ _ _ _ (Act.put _ none _) _); (simp only [Act.put, List.setIfInBounds_toArray, List.set_cons_zero, List.set_cons_succ])) | (refine G_load rfl rfl (fun x hx => f_loadG hS hx rfl rfl (by decide) (by rfl)) ?_; (first | show wpG _ _ _ _ _ (Act.put _ (some _) _) _ | show wpG _ _ _ _ _ (Act.put _ none _) _); (simp only [Act.put, List.setIfInBounds_toArray, List.set_cons_zero, List.set_cons_succ])))) | ((with_reducible show wpG _ _ _ _ ((_, 2) :: _) _ _); ((refine G_calm rfl rfl (does_buildSlice (X := ?_) (cs := ?_) (E := ?_) hS rfl ?_ ?_) ?_); rotate_left 3; (go_simp; rfl); rfl; clear hS; rintro _ wx ⟨bx, rfl, hS, hM⟩; refine ⟨hM.mono (by simp), ?_⟩; clear hM; (first | show wpG _ _ _ _ _ (Act.put _ (some _) _) _ | show wpG _ _ _ _ _ (Act.put _ none _) _); (simp only [Act.put, List.setIfInBounds_toArray, List.set_cons_zero, List.set_cons_succ]))) | ((with_reducible show wpG _ _ _ _ ((_, 3) :: _) _ _); ((first | refine G_loud rfl rfl (f_store hS rfl rfl rfl (by rfl) (by rfl)) ?_ | refine G_loud rfl rfl (f_storeS hS rfl rfl rfl (by rfl) (by rfl) (by rfl)) ?_); clear hS; rintro _ wx ⟨rfl, hS⟩; (simp only [List.set_cons_zero, List.set_cons_succ] at hS); (first | show wpG _ _ _ _ _ (Act.put _ (some _) _) _ | show wpG _ _ _ _ _ (Act.put _ none _) _); (simp only [Act.put, List.setIfInBounds_toArray, List.set_cons_zero, List.set_cons_succ]))) | ((with_reducible show wpList _ _ _ (⟨_, Op.box _ _, _, _, _, _⟩ :: _) _ _); refine Does.list (does_box hS rfl rfl (by rfl)) rfl ?_; clear hS; rintro _ wx ⟨bo, rfl, hS, _⟩; (simp only [Act.put, List.setIfInBounds_toArray, List.set_cons_zero, List.set_cons_succ])) | ((with_reducible show wpList _ _ _ (⟨_, Op.load _ _, _, _, _, _⟩ :: _) _ _); (first | refine Gives.list (f_load hS rfl rfl (by rfl)) rfl ?_ | refine Gives.list (f_loadS hS rfl rfl (by rfl)) rfl ?_ | refine Gives.list (f_loadAt hS rfl rfl) rfl ?_ | refine Gives.list (f_loadAtS hS rfl rfl (by rfl)) rfl ?_ | refine Gives.list (f_loadAtF hS rfl rfl (by rfl)) rfl ?_); (simp only [Act.put, List.setIfInBounds_toArray, List.set_cons_zero, List.set_cons_succ])) | ((with_reducible show wpList _ _ _ (⟨_, Op.store _ _ _, _, _, _, _⟩ :: _) _ _); (first | refine Does.list (f_store hS rfl rfl rfl (by rfl) (by rfl)) rfl ?_ | refine Does.list (f_storeS hS rfl rfl rfl (by rfl) (by rfl) (by rfl)) rfl ?_); clear hS; rintro _ wx ⟨rfl, hS⟩; (simp only [List.set_cons_zero, List.set_cons_succ] at hS); (simp only [Act.put, List.setIfInBounds_toArray, List.set_cons_zero, List.set_cons_succ])) | ((with_reducible show wpList _ _ _ (⟨_, Op.alloc _, _, _, _, _⟩ :: _) _ _); refine Does.list (does_alloc hS rfl (by rfl)) rfl ?_; clear hS; rintro _ wx ⟨ba, rfl, hS, _⟩; (simp only [Act.put, List.setIfInBounds_toArray, List.set_cons_zero, List.set_cons_succ])) | ((with_reducible show wpList _ _ _ (⟨_, Op.buildSlice _ _ _, _, _, _, _⟩ :: _) _ _); refine Does.list (does_buildSlice (X := ?_) (cs := ?_) (E := ?_) hS rfl ?_ ?_) rfl ?_; rotate_left 3; (go_simp; rfl); rfl; clear hS; rintro _ wx ⟨bx, rfl, hS, _⟩; (simp only [Act.put, List.setIfInBounds_toArray, List.set_cons_zero, List.set_cons_succ])))
    refine bodyPost_ret (hS.resultCell rfl rfl (by rfl)) rfl ?_
    have hS2 : Sat (bare w) _ [.own Rep.int.rows.rows [.slice B rows.length d] rows, .own Rep.str.rows [.slice A2 ns.length c2] ns, .box br [.slice A nr cr, .int .i64 ((_ : Nat) : Int)], .ro (Rep.frame w [br]) [] (), .ro Rep.u8.slice [.slice A nr cr] code] := hS.sel [0, 3, 7, 8, 6] rfl (by decide)
    obtain ⟨h1, h2, h3⟩ := Sat.exitNew (Sat.mkTable hS2)
    exact ⟨_, _, ns, rows, rfl, ⟨hn3, hl16, Hl2.out⟩, h1, ⟨_, by omega, h2, (hS2.rdUp (i := 2) (j := 4) rfl rfl).1.2⟩, h3⟩
end Go.Proofs.YtnbaekjednmfjaaDoor
end

section
namespace Go.Proofs.YtnbaekjednmfjaaDoor
open Go.RowKit

theorem snoc_get {α : Type} {l : List α} {k : Nat} {b : α} (h : l.length = k) : (l ++ [b])[k]? = some b := by subst h; simp








































end Go.Proofs.YtnbaekjednmfjaaDoor
end

section
namespace Go.Proofs.YtnbaekjednmfjaaDoor
open Go.RowKit

/-- A row too short, or one that is not real and not zero. -/
def badly (rows : List (List Int)) (real : List Bool) : Prop := ∃ k r, rows[k]? = some r ∧ (r = [] ∨ (real.getD k false = false ∧ r.getD 0 0 = 1))
theorem set_one {n : Nat} (h : 0 < n) : ((List.replicate n (0 : Int)).set 0 1).getD 0 0 = 1 := by
  cases n with
  | zero => omega
  | succ n => rfl
theorem snoc_getC {α : Type} {l : List α} {k : Nat} {b : α} (h : l.length = k) : (l ++ [b])[k]? = some b := by subst h; simp
theorem badly_two {rs : List (List Int)} {rl : List Bool} {k n : Nat} (h1 : rs.length = k) (h2 : rl.length = k) (hn : 0 < n) : badly (rs ++ [(List.replicate n 0).set 0 1]) (rl ++ [false]) :=
  ⟨k, _, snoc_getC h1, .inr ⟨by rw [List.getD_eq_getElem?_getD, snoc_getC h2]; rfl, set_one hn⟩⟩
theorem badly_nil {rs : List (List Int)} {rl : List Bool} {k : Nat} (h1 : rs.length = k) : badly (rs ++ [[]]) rl := ⟨k, _, snoc_getC h1, .inl rfl⟩




























































end Go.Proofs.YtnbaekjednmfjaaDoor
end
