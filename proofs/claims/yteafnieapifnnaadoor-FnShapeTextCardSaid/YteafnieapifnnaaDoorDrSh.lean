/- l20Shapes, and the draws of shapes. -/
import Derived.Test.YteafnieapifnnaaDoorDrCt
import Derived.Test.YteafnieapifnnaaDoorShOS
import Derived.Test.YteafnieapifnnaaDoorFind
namespace Go.Proofs.YteafnieapifnnaaDoor
open Go.RowKit

theorem upd_size {w : World} {F : List Nat} {ck : List Value} {x : ShapeD} (z : Int) (hz : I64 z) (h : oShape.has w F ck x) : oShape.has w F (ck.set 2 (.int .i64 z)) (x.1, x.2.1, z) := by
  obtain ⟨F1, F2, c1, c2, rfl, rfl, ⟨rfl, rfl, h1⟩, F3, F4, c3, c4, rfl, rfl, h2, ⟨rfl, rfl, h3⟩⟩ := h
  have hl := Rep.rows _ |>.len h2
  obtain ⟨u, rfl⟩ := List.length_eq_one_iff.1 (show c3.length = 1 from hl)
  exact ⟨[], _, [_], [_, _], rfl, rfl, ⟨rfl, rfl, h1⟩, F3, [], [_], [_], rfl, rfl, h2, ⟨rfl, rfl, hz⟩⟩
def NamesSm (xs : List ShapeD) : Prop := ∀ x ∈ xs, x.2.1.length ≤ 1048576
theorem shapesOf_len (l : List NamedD) : (shapesOf l).length ≤ l.length := by
  unfold shapesOf
  split
  · simp
  · simp
theorem shapesOf_sm {l : List NamedD} (h : LSmall l) : NamesSm (shapesOf l) := by
  unfold shapesOf NamesSm
  split
  · intro x hx
    obtain ⟨y, hy, rfl⟩ := List.mem_map.1 hx
    exact (h.2 y hy).1
  · simp
theorem NamesSm.set {xs : List ShapeD} (h : NamesSm xs) {k : Nat} (hk : k < xs.length) (z : Int) : NamesSm (xs.set k (xs[k].1, xs[k].2.1, z)) := by
  intro x hx
  rcases List.mem_or_eq_of_mem_set hx with h' | rfl
  · exact h x h'
  · exact h xs[k] (List.getElem_mem hk)
theorem NamesSm.app {xs : List ShapeD} (h : NamesSm xs) {x : ShapeD} (hx : x.2.1.length ≤ 1048576) : NamesSm (xs ++ [x]) := by
  intro y hy
  rcases List.mem_append.1 hy with h' | h'
  · exact h y h'
  · rw [List.mem_singleton.1 h']; exact hx
set_option maxHeartbeats 8000000 in
set_option maxRecDepth 8000 in
theorem spec_l20Shapes (w : World) (br : Nat) (A : Option Addr) (nr cr p : Nat) (q : Int) (hq0 : 0 ≤ q) (hq1 : q ≤ 100) (hr : Rd br A nr cr p w) (hp : p ≤ 500000000) :
    Calls Tryd.prog 63 #[.pointer (some ⟨br, 0, none⟩), .int .i64 q] w fun e w' => ∃ v xs, e = .returned v ∧ (xs.length ≤ 3 ∧ NamesSm xs) ∧ NewIn oShape.rows w w' [v] xs ∧ (∃ p', p' ≤ p + 300000 ∧ Rd br A nr cr p' w') ∧ Mod [br] w w' := by
  obtain ⟨code, hl, hS⟩ := hr.enter
  clear hr
  go_enter Tryd.func63, Tryd.ntmps63
  go_wp2_with (first | (go_at_call 33; obtain ⟨hrd, up⟩ := Sat.rdF hS br; refine (spec_l20Catalog0 _ br _ _ _ _ hrd (by omega)).mono ?_; rintro e w' ⟨vl, l, rfl, ⟨hls, hl2⟩, ⟨Fl, hFl⟩, ⟨p1, hp1, hrd2⟩, hM⟩; replace hS := (up _ _ hrd2 hM).1; clear up hrd hrd2 hM; (simp only [List.set_cons_zero, List.set_cons_succ] at hS)) | (go_at_call 11; refine (spec_ShapesOf' _ Fl _ l hFl hls).mono ?_; rintro e w' ⟨v, rfl, hN⟩; replace hS := hS.fresh hN; clear hN hFl; have hxl := Nat.le_trans (shapesOf_len l) hl2; have hxs := shapesOf_sm hls; generalize shapesOf l = xs at hS hxl hxs; obtain ⟨B, d, rfl⟩ := hS.formOwn 0 rfl) | ((with_reducible show wpList _ _ _ (⟨_, Op.box _ _, _, _, _, _⟩ :: _) _ _); refine Does.list (does_box hS rfl rfl (by rfl)) rfl ?_; clear hS; rintro _ wx ⟨bo, rfl, hS, _⟩; (simp only [Act.put, List.setIfInBounds_toArray, List.set_cons_zero, List.set_cons_succ])) | ((with_reducible show wpList _ _ _ (⟨_, Op.load _ _, _, _, _, _⟩ :: _) _ _); (first | refine Gives.list (f_load hS rfl rfl (by rfl)) rfl ?_ | refine Gives.list (f_loadS hS rfl rfl (by rfl)) rfl ?_ | refine Gives.list (f_loadAt hS rfl rfl) rfl ?_ | refine Gives.list (f_loadAtS hS rfl rfl (by rfl)) rfl ?_ | refine Gives.list (f_loadAtF hS rfl rfl (by rfl)) rfl ?_); (simp only [Act.put, List.setIfInBounds_toArray, List.set_cons_zero, List.set_cons_succ])) | ((with_reducible show wpList _ _ _ (⟨_, Op.store _ _ _, _, _, _, _⟩ :: _) _ _); (first | refine Does.list (f_store hS rfl rfl rfl (by rfl) (by rfl)) rfl ?_ | refine Does.list (f_storeS hS rfl rfl rfl (by rfl) (by rfl) (by rfl)) rfl ?_); clear hS; rintro _ wx ⟨rfl, hS⟩; (simp only [List.set_cons_zero, List.set_cons_succ] at hS); (simp only [Act.put, List.setIfInBounds_toArray, List.set_cons_zero, List.set_cons_succ])) | ((with_reducible show wpList _ _ _ (⟨_, Op.alloc _, _, _, _, _⟩ :: _) _ _); refine Does.list (does_alloc hS rfl (by rfl)) rfl ?_; clear hS; rintro _ wx ⟨ba, rfl, hS, _⟩; (simp only [Act.put, List.setIfInBounds_toArray, List.set_cons_zero, List.set_cons_succ])) | ((with_reducible show wpList _ _ _ (⟨_, Op.buildSlice _ _ _, _, _, _, _⟩ :: _) _ _); refine Does.list (does_buildSlice (X := ?_) (cs := ?_) (E := ?_) hS rfl ?_ ?_) rfl ?_; rotate_left 3; (go_simp; rfl); rfl; clear hS; rintro _ wx ⟨bx, rfl, hS, _⟩; (simp only [Act.put, List.setIfInBounds_toArray, List.set_cons_zero, List.set_cons_succ])))
  obtain ⟨n, hn⟩ : ∃ n, xs.length = n := ⟨_, rfl⟩
  rw [hn] at hS hxl ⊢
  go_loopw [6] (fun i wr => ∃ (k : Nat) (ys : List ShapeD) (p2 : Nat), i = .int .i64 k ∧ (ys.length = n ∧ NamesSm ys) ∧ k ≤ n ∧ p2 ≤ p1 + 2 * k ∧ Sat (bare w) wr [.own oShape.rows [.slice B n d] ys, .ro Rep.u8.slice [.slice A nr cr] code, .box br [.slice A nr cr, .int .i64 ((p2 : Nat) : Int)], .ro (Rep.frame w [br]) [] ()]) (fun i _ => n - (intOf i).toNat)
  case atStart => exact ⟨0, xs, p1, rfl, ⟨hn, hxs⟩, Nat.zero_le _, by omega, hS⟩
  case round =>
    clear hS hn hxs
    obtain ⟨k, ys, p2, rfl, ⟨hyn, hys⟩, hk, hp2, hS⟩ := hrel
    have Hyn := Lib.hid hyn
    by_cases hlt : k < n
    · have hlt' : k < ys.length := by omega
      have Hlt := Lib.hid hlt'
      clear hyn
      have hltI : (k : Int) < (n : Int) := by omega
      go_wp2_with (first | ((go_at_call 68; (with_reducible show Calls _ _ #[_, Value.int IntKind.i64 2] _ _); obtain ⟨hrd, up⟩ := Sat.rdF hS br; refine (spec_pick _ br _ _ _ _ _ hrd (by omega) (by omega)).mono ?_; rintro e w' ⟨⟨y2, rfl, hy20, hy21, hy22⟩, hrd2, hM⟩; replace hS := (up _ _ hrd2 hM).1; clear up hrd hrd2 hM; (simp only [List.set_cons_zero, List.set_cons_succ] at hS))) | ((go_at_call 68; (with_reducible show Calls _ _ #[_, Value.int IntKind.i64 5] _ _); obtain ⟨hrd, up⟩ := Sat.rdF hS br; refine (spec_pick _ br _ _ _ _ _ hrd (by omega) (by omega)).mono ?_; rintro e w' ⟨⟨y5, rfl, hy50, hy51, hy52⟩, hrd2, hM⟩; replace hS := (up _ _ hrd2 hM).1; clear up hrd hrd2 hM; (simp only [List.set_cons_zero, List.set_cons_succ] at hS)); obtain ⟨g, off, rfl⟩ := hS.rowAt 1 rfl hlt; rcases (show y5 = 0 ∨ y5 = 1 ∨ y5 = 2 ∨ y5 = 3 ∨ y5 = 4 by omega) with rfl | rfl | rfl | rfl | rfl) | ((with_reducible show wpList _ _ _ (⟨_, Op.store _ _ _, _, _, _, _⟩ :: _) _ _); (first | refine Does.list (does_storeField (k := k) (j := 2) _ 1 hS rfl rfl rfl rfl rfl (Nat.add_assoc _ _ _) (by decide) (get_some Hlt.out) (fun w F ck h => upd_size 1 (by unfold I64; omega) h)) rfl ?_ | refine Does.list (does_storeField (k := k) (j := 2) _ 1 hS rfl rfl rfl rfl rfl (Nat.add_assoc _ _ _) (by decide) (get_some Hlt.out) (fun w F ck h => upd_size 2 (by unfold I64; omega) h)) rfl ?_ | refine Does.list (does_storeField (k := k) (j := 2) _ 1 hS rfl rfl rfl rfl rfl (Nat.add_assoc _ _ _) (by decide) (get_some Hlt.out) (fun w F ck h => upd_size 4 (by unfold I64; omega) h)) rfl ?_ | refine Does.list (does_storeField (k := k) (j := 2) _ 1 hS rfl rfl rfl rfl rfl (Nat.add_assoc _ _ _) (by decide) (get_some Hlt.out) (fun w F ck h => upd_size 8 (by unfold I64; omega) h)) rfl ?_ | refine Does.list (does_storeField (k := k) (j := 2) _ 1 hS rfl rfl rfl rfl rfl (Nat.add_assoc _ _ _) (by decide) (get_some Hlt.out) (fun w F ck h => upd_size 16 (by unfold I64; omega) h)) rfl ?_); clear hS; rintro _ wx ⟨rfl, hS⟩; (simp only [List.set_cons_zero, List.set_cons_succ] at hS); (simp only [Act.put, List.setIfInBounds_toArray, List.set_cons_zero, List.set_cons_succ])) | ((with_reducible show wpList _ _ _ (⟨_, Op.box _ _, _, _, _, _⟩ :: _) _ _); refine Does.list (does_box hS rfl rfl (by rfl)) rfl ?_; clear hS; rintro _ wx ⟨bo, rfl, hS, _⟩; (simp only [Act.put, List.setIfInBounds_toArray, List.set_cons_zero, List.set_cons_succ])) | ((with_reducible show wpList _ _ _ (⟨_, Op.load _ _, _, _, _, _⟩ :: _) _ _); (first | refine Gives.list (f_load hS rfl rfl (by rfl)) rfl ?_ | refine Gives.list (f_loadS hS rfl rfl (by rfl)) rfl ?_ | refine Gives.list (f_loadAt hS rfl rfl) rfl ?_ | refine Gives.list (f_loadAtS hS rfl rfl (by rfl)) rfl ?_ | refine Gives.list (f_loadAtF hS rfl rfl (by rfl)) rfl ?_); (simp only [Act.put, List.setIfInBounds_toArray, List.set_cons_zero, List.set_cons_succ])) | ((with_reducible show wpList _ _ _ (⟨_, Op.store _ _ _, _, _, _, _⟩ :: _) _ _); (first | refine Does.list (f_store hS rfl rfl rfl (by rfl) (by rfl)) rfl ?_ | refine Does.list (f_storeS hS rfl rfl rfl (by rfl) (by rfl) (by rfl)) rfl ?_); clear hS; rintro _ wx ⟨rfl, hS⟩; (simp only [List.set_cons_zero, List.set_cons_succ] at hS); (simp only [Act.put, List.setIfInBounds_toArray, List.set_cons_zero, List.set_cons_succ])) | ((with_reducible show wpList _ _ _ (⟨_, Op.alloc _, _, _, _, _⟩ :: _) _ _); refine Does.list (does_alloc hS rfl (by rfl)) rfl ?_; clear hS; rintro _ wx ⟨ba, rfl, hS, _⟩; (simp only [Act.put, List.setIfInBounds_toArray, List.set_cons_zero, List.set_cons_succ])) | ((with_reducible show wpList _ _ _ (⟨_, Op.buildSlice _ _ _, _, _, _, _⟩ :: _) _ _); refine Does.list (does_buildSlice (X := ?_) (cs := ?_) (E := ?_) hS rfl ?_ ?_) rfl ?_; rotate_left 3; (go_simp; rfl); rfl; clear hS; rintro _ wx ⟨bx, rfl, hS, _⟩; (simp only [Act.put, List.setIfInBounds_toArray, List.set_cons_zero, List.set_cons_succ])))
      all_goals
        go_roundw
        case rel =>
          first
          | exact ⟨k + 1, _, p2 + 1 + 1, by go_num, ⟨by rw [List.length_set]; exact Hyn.out, hys.set Hlt.out _⟩, hlt, by omega, hS.sel [1, 2, 3, 4] rfl (by decide)⟩
          | exact ⟨k + 1, ys, p2 + 1, by go_num, ⟨Hyn.out, hys⟩, hlt, by omega, hS⟩
        case measure => simp [intOf]; omega
    · obtain rfl : k = n := by omega
      go_wp2_with (first | (go_at_call 69; obtain ⟨hrd, up⟩ := Sat.rdF hS br; refine (spec_odd _ br _ _ _ _ _ hrd (by omega) (by omega) (by omega)).mono ?_; rintro e w' ⟨⟨ob, rfl, _⟩, ⟨p3, hp3, hrd2⟩, hM⟩; replace hS := (up _ _ hrd2 hM).1; clear up hrd hrd2 hM; (simp only [List.set_cons_zero, List.set_cons_succ] at hS); cases ob) | ((go_at_call 68; (with_reducible show Calls _ _ #[_, Value.int IntKind.i64 4] _ _); obtain ⟨hrd, up⟩ := Sat.rdF hS br; refine (spec_pick _ br _ _ _ _ _ hrd (by omega) (by omega)).mono ?_; rintro e w' ⟨⟨y4, rfl, hy40, hy41, hy42⟩, hrd2, hM⟩; replace hS := (up _ _ hrd2 hM).1; clear up hrd hrd2 hM; (simp only [List.set_cons_zero, List.set_cons_succ] at hS)); rcases (show y4 = 0 ∨ y4 = 1 ∨ y4 = 2 ∨ y4 = 3 by omega) with rfl | rfl | rfl | rfl) | ((with_reducible show wpList _ _ _ (⟨_, Op.call { callee := Callee.builtin Builtin.append, args := _, argTypes := _ }, _, _, _, _⟩ :: _) _ _); (first | (replace hS := Sat.vec1 (Sat.mkShape (x0 := ⟨#[]⟩) (by decide) (x2 := 0) (by unfold I64; omega) (Sat.nilRow Rep.str hS)); refine Does.list (f_append oShape hS rfl rfl rfl rfl rfl (by decide) (by omega)) rfl ?_; clear hS; rintro _ wx ⟨A2, c2, rfl, hS⟩; (simp only [List.set_cons_zero, List.set_cons_succ] at hS); (simp only [Act.put, List.setIfInBounds_toArray, List.set_cons_zero, List.set_cons_succ])) | (replace hS := hS.pull 4 rfl; (simp only [List.eraseIdx_cons_succ, List.eraseIdx_cons_zero] at hS); replace hS := Sat.vec1 (Sat.mkShape (x0 := ⟨#[120]⟩) (by decide) (x2 := 3) (by unfold I64; omega) (Sat.lit (Sat.vec1 (hS.str (s := ⟨#[97]⟩) (by decide))) (by unfold maxLen; omega))); refine Does.list (f_append oShape hS rfl rfl rfl rfl rfl (by decide) (by omega)) rfl ?_; clear hS; rintro _ wx ⟨A2, c2, rfl, hS⟩; (simp only [List.set_cons_zero, List.set_cons_succ] at hS); (simp only [Act.put, List.setIfInBounds_toArray, List.set_cons_zero, List.set_cons_succ])) | (replace hS := hS.pull 3 rfl; (simp only [List.eraseIdx_cons_succ, List.eraseIdx_cons_zero] at hS); replace hS := Sat.vec1 (Sat.mkShape (x0 := ⟨#[120]⟩) (by decide) (x2 := 1) (by unfold I64; omega) ((Sat.vec0 Rep.str hS).lit (Nat.zero_le _))); refine Does.list (f_append oShape hS rfl rfl rfl rfl rfl (by decide) (by omega)) rfl ?_; clear hS; rintro _ wx ⟨A2, c2, rfl, hS⟩; (simp only [List.set_cons_zero, List.set_cons_succ] at hS); (simp only [Act.put, List.setIfInBounds_toArray, List.set_cons_zero, List.set_cons_succ])) | (replace hS := hS.pull 2 rfl; (simp only [List.eraseIdx_cons_succ, List.eraseIdx_cons_zero] at hS); replace hS := Sat.vec1 (Sat.mkShape (x0 := ⟨#[111, 110, 101]⟩) (by decide) (x2 := 32) (by unfold I64; omega) (Sat.lit (Sat.vec1 (hS.str (s := ⟨#[97]⟩) (by decide))) (by unfold maxLen; omega))); refine Does.list (f_append oShape hS rfl rfl rfl rfl rfl (by decide) (by omega)) rfl ?_; clear hS; rintro _ wx ⟨A2, c2, rfl, hS⟩; (simp only [List.set_cons_zero, List.set_cons_succ] at hS); (simp only [Act.put, List.setIfInBounds_toArray, List.set_cons_zero, List.set_cons_succ])))) | ((with_reducible show wpList _ _ _ (⟨_, Op.load _ _, _, _, _, _⟩ :: _) _ _); (first | refine Gives.list (f_loadSub hS rfl rfl rfl rfl) rfl ?_ | refine Gives.list (f_loadAtSub hS rfl rfl rfl rfl) rfl ?_); (simp only [Act.put, List.setIfInBounds_toArray, List.set_cons_zero, List.set_cons_succ])) | ((with_reducible show wpList _ _ _ (⟨_, Op.box _ _, _, _, _, _⟩ :: _) _ _); refine Does.list (does_box hS rfl rfl (by rfl)) rfl ?_; clear hS; rintro _ wx ⟨bo, rfl, hS, _⟩; (simp only [Act.put, List.setIfInBounds_toArray, List.set_cons_zero, List.set_cons_succ])) | ((with_reducible show wpList _ _ _ (⟨_, Op.load _ _, _, _, _, _⟩ :: _) _ _); (first | refine Gives.list (f_load hS rfl rfl (by rfl)) rfl ?_ | refine Gives.list (f_loadS hS rfl rfl (by rfl)) rfl ?_ | refine Gives.list (f_loadAt hS rfl rfl) rfl ?_ | refine Gives.list (f_loadAtS hS rfl rfl (by rfl)) rfl ?_ | refine Gives.list (f_loadAtF hS rfl rfl (by rfl)) rfl ?_); (simp only [Act.put, List.setIfInBounds_toArray, List.set_cons_zero, List.set_cons_succ])) | ((with_reducible show wpList _ _ _ (⟨_, Op.store _ _ _, _, _, _, _⟩ :: _) _ _); (first | refine Does.list (f_store hS rfl rfl rfl (by rfl) (by rfl)) rfl ?_ | refine Does.list (f_storeS hS rfl rfl rfl (by rfl) (by rfl) (by rfl)) rfl ?_); clear hS; rintro _ wx ⟨rfl, hS⟩; (simp only [List.set_cons_zero, List.set_cons_succ] at hS); (simp only [Act.put, List.setIfInBounds_toArray, List.set_cons_zero, List.set_cons_succ])) | ((with_reducible show wpList _ _ _ (⟨_, Op.alloc _, _, _, _, _⟩ :: _) _ _); refine Does.list (does_alloc hS rfl (by rfl)) rfl ?_; clear hS; rintro _ wx ⟨ba, rfl, hS, _⟩; (simp only [Act.put, List.setIfInBounds_toArray, List.set_cons_zero, List.set_cons_succ])) | ((with_reducible show wpList _ _ _ (⟨_, Op.buildSlice _ _ _, _, _, _, _⟩ :: _) _ _); refine Does.list (does_buildSlice (X := ?_) (cs := ?_) (E := ?_) hS rfl ?_ ?_) rfl ?_; rotate_left 3; (go_simp; rfl); rfl; clear hS; rintro _ wx ⟨bx, rfl, hS, _⟩; (simp only [Act.put, List.setIfInBounds_toArray, List.set_cons_zero, List.set_cons_succ])))
      all_goals
        go_ret
        first
        | (obtain ⟨h1, h2, h3⟩ := Sat.exitNew (Γ := [.ro Rep.u8.slice [.slice A nr cr] code]) (hS.sel [0, 2, 3, 1] rfl (by decide))
           exact ⟨_, ys, rfl, ⟨by omega, hys⟩, h1, ⟨_, by omega, h2, (hS.rdUp (i := 2) (j := 1) rfl rfl).1.2⟩, h3⟩)
        | (obtain ⟨h1, h2, h3⟩ := Sat.exitNew (Γ := [.ro Rep.u8.slice [.slice A nr cr] code]) (hS.sel [4, 6, 7, 5] rfl (by decide))
           exact ⟨_, _, rfl, ⟨by rw [List.length_append, hyn]; show k + 1 ≤ 3; omega, hys.app (Nat.le_of_ble_eq_true rfl)⟩, h1, ⟨_, by omega, h2, (hS.rdUp (i := 6) (j := 5) rfl rfl).1.2⟩, h3⟩)
        | (obtain ⟨h1, h2, h3⟩ := Sat.exitNew (Γ := [.ro Rep.u8.slice [.slice A nr cr] code]) (hS.sel [3, 5, 6, 4] rfl (by decide))
           exact ⟨_, _, rfl, ⟨by rw [List.length_append, hyn]; show k + 1 ≤ 3; omega, hys.app (Nat.le_of_ble_eq_true rfl)⟩, h1, ⟨_, by omega, h2, (hS.rdUp (i := 5) (j := 4) rfl rfl).1.2⟩, h3⟩)











set_option maxHeartbeats 1000000 in
theorem spec_DrawShapeText (w : World) (F : List Nat) (v : Value) (code : List UInt8) (hx : SliceHas Rep.u8 w F [v] code) :
    Calls Tryd.prog 31 #[v] w fun e w' => ∃ v xs, e = .returned v ∧ (xs.length ≤ 3 ∧ NamesSm xs) ∧ Fresh oShape.rows w w' [v] xs := by
  obtain ⟨A, c, rfl, hl, _⟩ := hx.form'
  have hS : Sat w w [.ro Rep.u8.slice [.slice A code.length c] code] := (Sat.nil w).arg hx
  clear hx
  go_enter Tryd.func31, Tryd.ntmps31
  go_wp2_with (first | (go_at_call 34; refine (spec_l20Open hS (i := 0) rfl).mono ?_; clear hS; rintro e w' ⟨br, Ar, nr, cr, cd, rfl, hS⟩) | (go_at_call 63; obtain ⟨hrd, up⟩ := Sat.rdF hS br; refine (spec_l20Shapes _ br _ _ _ _ _ (by decide) (by decide) hrd (by omega)).mono ?_; rintro e w' ⟨v, xs, rfl, ⟨hxl, hxs⟩, hN, ⟨p1, hp1, hrd2⟩, hM⟩; replace hS := (up _ _ hrd2 hM).2 _ _ _ hN; clear up hrd hrd2 hM hN))
  go_ret
  exact ⟨_, xs, rfl, ⟨hxl, hxs⟩, hS.result⟩
end Go.Proofs.YteafnieapifnnaaDoor
