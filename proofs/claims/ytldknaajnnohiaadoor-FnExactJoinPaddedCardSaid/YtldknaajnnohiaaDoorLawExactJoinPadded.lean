/- FnExactJoinPadded returns true for every input: the program's function is the reference's, in memory of its own. -/
import Derived.Test.YtldknaajnnohiaaDoorJnU
import Derived.Test.YtldknaajnnohiaaDoorSho
import Derived.Test.YtldknaajnnohiaaDoorCopy
import Derived.Test.YtldknaajnnohiaaDoorSatT
import Derived.Test.YtldknaajnnohiaaDoorEqA
import Derived.Test.YtldknaajnnohiaaDoorEqA
import Derived.Test.YtldknaajnnohiaaDoorMkDefs
import Derived.Test.YtldknaajnnohiaaDoorToA
import Derived.Test.YtldknaajnnohiaaDoorToB
import Derived.Test.YtldknaajnnohiaaDoorMkA
import Derived.Test.YtldknaajnnohiaaDoorMkDefs
import Derived.Test.YtldknaajnnohiaaDoorReads
import Derived.Test.YtldknaajnnohiaaDoorLaw
import Derived.Test.YtldknaajnnohiaaDoorMkB
import Derived.Test.YtldknaajnnohiaaDoorMkDefsT
import Derived.Test.YtldknaajnnohiaaDoorMkDefsT
import Derived.Test.YtldknaajnnohiaaDoorMkB
import Derived.Test.YtldknaajnnohiaaDoorToB
import Derived.Test.YtldknaajnnohiaaDoorEqA
import Derived.Test.YtldknaajnnohiaaDoorDoor
import Derived.ChangeMaps5
namespace Go.Proofs.YtldknaajnnohiaaDoor
open Go.ChangeShapes Go.WideShapes Go.ChangeAt Go.RowKit
attribute [local go_sem] eqB_rfl

theorem Sat.named {w0 w : World} {Γ : List Fact} (h : Sat w0 w Γ) : ∃ Γ', Γ' = Γ ∧ Sat w0 w Γ' := ⟨_, rfl, h⟩
theorem Sat.joinA {w0 w : World} {f a b x y : Fact} {Γ : List Fact} (h : Sat w0 w (f :: a :: b :: x :: y :: Γ)) : Sat w0 w (f :: a :: b :: Γ) := by
  have h1 : (f :: a :: b :: x :: y :: Γ).Perm (x :: y :: f :: a :: b :: Γ) := (List.perm_append_comm (l₁ := [f, a, b]) (l₂ := [x, y])).append_right Γ
  exact (h.perm h1).drop.drop
theorem Sat.joinB {w0 w : World} {f a b x y : Fact} {Γ : List Fact} (h : Sat w0 w (a :: b :: f :: x :: y :: Γ)) : Sat w0 w (f :: a :: b :: Γ) := by
  have h1 : (a :: b :: f :: x :: y :: Γ).Perm (f :: a :: b :: x :: y :: Γ) := (List.perm_append_comm (l₁ := [a, b]) (l₂ := [f])).append_right (x :: y :: Γ)
  exact (h.perm h1).joinA
theorem Sat.joinC {w0 w : World} {f a b x y : Fact} {Γ : List Fact} (h : Sat w0 w (a :: b :: x :: f :: y :: Γ)) : Sat w0 w (f :: a :: b :: Γ) := by
  have h1 : (a :: b :: x :: f :: y :: Γ).Perm (f :: a :: b :: x :: y :: Γ) := (List.perm_append_comm (l₁ := [a, b, x]) (l₂ := [f])).append_right (y :: Γ)
  exact (h.perm h1).joinA
theorem Sat.joinD {w0 w : World} {f a b x y : Fact} {Γ : List Fact} (h : Sat w0 w (a :: b :: x :: y :: f :: Γ)) : Sat w0 w (f :: a :: b :: Γ) := by
  have h1 : (a :: b :: x :: y :: f :: Γ).Perm (f :: a :: b :: x :: y :: Γ) := (List.perm_append_comm (l₁ := [a, b, x, y]) (l₂ := [f])).append_right Γ
  exact (h.perm h1).joinA
set_option maxHeartbeats 8000000 in
set_option maxRecDepth 100000 in
theorem fnExactJoinPadded_calls (w : World) (hR : ResOk w) (caA : List Value) (FaA : List Nat) (aA : PaddedD) (haA : rPadded.has w FaA caA aA) (caB : List Value) (FaB : List Nat) (aB : PaddedD) (haB : rPadded.has w FaB caB aB) (aLeft : ByteArray) (iaLeft : aLeft.size ≤ maxLen) (aRight : ByteArray) (iaRight : aRight.size ≤ maxLen) (aSize : Int) (iaSize : I64 aSize) :
    Calls Tryd.prog 12 #[.agg caA.toArray, .agg caB.toArray, .string aLeft, .string aRight, .int .i64 aSize] w fun e w' => e = .returned (.bool true) ∧ Mod [] w w' := by
  have hS : Sat w w [] := Sat.nil w
  have haA2 := haA
  obtain ⟨AaA0, caAx0, _, AaA1, caAx1, _, AaA2, caAx2, _, rfl, _, _, _, _⟩ := rPadded_open haA2
  replace hS := hS.arg (e := rPadded) haA
  have haB2 := haB
  obtain ⟨AaB0, caBx0, _, AaB1, caBx1, _, AaB2, caBx2, _, rfl, _, _, _, _⟩ := rPadded_open haB2
  replace hS := hS.arg (e := rPadded) haB
  by_cases qaLeft : 1048576 < aLeft.size
  case pos =>
    have laLeft : aLeft.size ≤ 9223372036854775807 := by unfold maxLen at iaLeft; omega
    go_enter Tryd.func12, Tryd.ntmps12
    go_wp2_with (first | ((with_reducible show wpList _ _ _ (⟨_, Op.box _ _, _, _, _, _⟩ :: _) _ _); refine Does.list (does_box hS rfl rfl (by rfl)) rfl ?_; clear hS; rintro _ wx ⟨bo, rfl, hS, _⟩; (simp only [Act.put, sA, sZ, sS])))
    go_ret
    exact ⟨rfl, hS.mod0⟩
  have laLeft : aLeft.size ≤ 9223372036854775807 := by unfold maxLen at iaLeft; omega
  by_cases qaRight : 1048576 < aRight.size
  case pos =>
    have laRight : aRight.size ≤ 9223372036854775807 := by unfold maxLen at iaRight; omega
    go_enter Tryd.func12, Tryd.ntmps12
    go_wp2_with (first | ((with_reducible show wpList _ _ _ (⟨_, Op.box _ _, _, _, _, _⟩ :: _) _ _); refine Does.list (does_box hS rfl rfl (by rfl)) rfl ?_; clear hS; rintro _ wx ⟨bo, rfl, hS, _⟩; (simp only [Act.put, sA, sZ, sS])))
    go_ret
    exact ⟨rfl, hS.mod0⟩
  have laRight : aRight.size ≤ 9223372036854775807 := by unfold maxLen at iaRight; omega
  go_enter Tryd.func12, Tryd.ntmps12
  go_wp2_with (first | ((with_reducible show wpList _ _ _ (⟨_, Op.box _ _, _, _, _, _⟩ :: _) _ _); refine Does.list (does_box hS rfl rfl (by rfl)) rfl ?_; clear hS; rintro _ wx ⟨bo, rfl, hS, _⟩; (simp only [Act.put, sA, sZ, sS])) | ((with_reducible show wpList _ _ _ (⟨_, Op.load _ _, _, _, _, _⟩ :: _) _ _); (first | refine Gives.list (f_load hS rfl rfl (by rfl)) rfl ?_ | refine Gives.list (f_loadS hS rfl rfl (by rfl)) rfl ?_ | refine Gives.list (f_loadAt hS rfl rfl) rfl ?_ | refine Gives.list (f_loadAtS hS rfl rfl (by rfl)) rfl ?_ | refine Gives.list (f_loadAtF hS rfl rfl (by rfl)) rfl ?_); (simp only [Act.put, sA, sZ, sS])))
  obtain ⟨F1, h1⟩ := hS.has rPadded [.slice AaA0 (aA.1).length caAx0, .slice AaA1 (aA.2.1).length caAx1, .slice AaA2 (aA.2.2).length caAx2]
  first | (show Calls _ _ _ _ _) | (refine D_call (f := ?_) (args := ?_) rfl rfl ?_ ?_; rotate_left 2; (show (Sem.run _ (execOp _ (Oper.mk _ _ _ _ _ _)) _) = _; go_simp; first | rfl | (constructor <;> rfl)))
  refine (szPadded_any _ _ _ aA _ h1 (by omega) (by omega)).mono ?_
  rintro e w2 ⟨r2, rfl, hr2, hM⟩
  replace hS := hS.mod hM
  first | (refine ⟨_, rfl, hM, ?_⟩; (first | show wpD _ _ _ _ (Act.put _ (some _) _) _ | show wpD _ _ _ _ (Act.put _ none _) _); (simp only [Act.put, sA, sZ, sS])) | skip
  clear hM
  clear h1
  rcases hr2 with rfl | ⟨p2, q2⟩
  case inl =>
    go_wp2_with (first | ((with_reducible show wpList _ _ _ (⟨_, Op.box _ _, _, _, _, _⟩ :: _) _ _); refine Does.list (does_box hS rfl rfl (by rfl)) rfl ?_; clear hS; rintro _ wx ⟨bo, rfl, hS, _⟩; (simp only [Act.put, sA, sZ, sS])))
    go_ret
    exact ⟨rfl, hS.mod0⟩
  have SaA : szPadded aA ≤ 1048576 := by omega
  have p2b : r2 ≤ 1048576 := by omega
  clear q2
  go_wp2_with (first | ((with_reducible show wpList _ _ _ (⟨_, Op.load _ _, _, _, _, _⟩ :: _) _ _); (first | refine Gives.list (f_load hS rfl rfl (by rfl)) rfl ?_ | refine Gives.list (f_loadS hS rfl rfl (by rfl)) rfl ?_ | refine Gives.list (f_loadAt hS rfl rfl) rfl ?_ | refine Gives.list (f_loadAtS hS rfl rfl (by rfl)) rfl ?_ | refine Gives.list (f_loadAtF hS rfl rfl (by rfl)) rfl ?_); (simp only [Act.put, sA, sZ, sS])))
  obtain ⟨F3, h3⟩ := hS.has rPadded [.slice AaB0 (aB.1).length caBx0, .slice AaB1 (aB.2.1).length caBx1, .slice AaB2 (aB.2.2).length caBx2]
  first | (show Calls _ _ _ _ _) | (refine D_call (f := ?_) (args := ?_) rfl rfl ?_ ?_; rotate_left 2; (show (Sem.run _ (execOp _ (Oper.mk _ _ _ _ _ _)) _) = _; go_simp; first | rfl | (constructor <;> rfl)))
  refine (szPadded_any _ _ _ aB _ h3 (by omega) (by omega)).mono ?_
  rintro e w4 ⟨r4, rfl, hr4, hM⟩
  replace hS := hS.mod hM
  first | (refine ⟨_, rfl, hM, ?_⟩; (first | show wpD _ _ _ _ (Act.put _ (some _) _) _ | show wpD _ _ _ _ (Act.put _ none _) _); (simp only [Act.put, sA, sZ, sS])) | skip
  clear hM
  clear h3
  rcases hr4 with rfl | ⟨p4, q4⟩
  case inl =>
    go_wp2_with (first | ((with_reducible show wpList _ _ _ (⟨_, Op.box _ _, _, _, _, _⟩ :: _) _ _); refine Does.list (does_box hS rfl rfl (by rfl)) rfl ?_; clear hS; rintro _ wx ⟨bo, rfl, hS, _⟩; (simp only [Act.put, sA, sZ, sS])))
    go_ret
    exact ⟨rfl, hS.mod0⟩
  have SaB : szPadded aB ≤ 1048576 := by omega
  have p4b : r4 ≤ 1048576 := by omega
  clear q4
  go_upto_region 12 with (first | ((with_reducible show wpList _ _ _ (⟨_, Op.box _ _, _, _, _, _⟩ :: _) _ _); refine Does.list (does_box hS rfl rfl (by rfl)) rfl ?_; clear hS; rintro _ wx ⟨bo, rfl, hS, _⟩; (simp only [Act.put, sA, sZ, sS])))
  obtain ⟨Γ5, hΓ5, hS⟩ := hS.named
  have HΓ5 := Lib.hid hΓ5
  clear hΓ5
  go_cut [12, 13, 14] (fun pv tv bv wr => ∃ (bp : Nat) (A5_0 : Option Addr) (c5_0 : Nat) (A5_1 : Option Addr) (c5_1 : Nat) (A5_2 : Option Addr) (c5_2 : Nat) (B5 : Option Addr) (d5 : Nat), pv = .pointer (some ⟨bp, 0, none⟩) ∧ tv = .slice B5 ((joinF aA aB aLeft aRight aSize).2.1).length d5 ∧ bv = .bool (joinF aA aB aLeft aRight aSize).2.2 ∧ Sat w wr (.box bp [.slice A5_0 (((joinF aA aB aLeft aRight aSize).1).1).length c5_0, .slice A5_1 (((joinF aA aB aLeft aRight aSize).1).2.1).length c5_1, .slice A5_2 (((joinF aA aB aLeft aRight aSize).1).2.2).length c5_2] :: .own (rAccess.slice) [.slice B5 ((joinF aA aB aLeft aRight aSize).2.1).length d5] ((joinF aA aB aLeft aRight aSize).2.1) :: .own rPadded [.slice A5_0 (((joinF aA aB aLeft aRight aSize).1).1).length c5_0, .slice A5_1 (((joinF aA aB aLeft aRight aSize).1).2.1).length c5_1, .slice A5_2 (((joinF aA aB aLeft aRight aSize).1).2.2).length c5_2] ((joinF aA aB aLeft aRight aSize).1) :: Γ5))
  case first => as_aux_lemma =>
    obtain rfl := HΓ5.out
    go_wp2_with (first | ((with_reducible show Code.wp _ (Code.region 12 _ true) _ _ _); refine wp_region_treeM (.br [(0, 1), (2, 1), (4, 0), (5, 0), (6, 0)] 1 2 (.br [] 3 2 (.br [] 7 2 (.lin [(8, 0), (9, 0), (10, 0), (11, 0), (12, 2), (13, 3), (14, 0), (15, 0)]) 12 2 (.lin [(7, 2), (8, 0), (9, 0), (10, 0), (11, 0), (13, 3), (14, 0), (15, 0)])) 12 2 (.lin [(3, 2), (7, 2), (8, 0), (9, 0), (10, 0), (11, 0), (13, 3), (14, 0), (15, 0)])) 12 2 (.lin [(1, 2), (3, 2), (7, 2), (8, 0), (9, 0), (10, 0), (11, 0), (13, 3), (14, 0), (15, 0)])) (by kernel_rfl) (by kernel_rfl) (by intro _ _ dq _ _ hq; cases dq <;> exact hq) ?_; replace hS := hS.mod (Mod.drew (Mod.refl _ _)); (generalize hwd : World.drew _ = wz at hS ⊢); clear hwd) | (with_reducible refine M_br ?_) | (with_reducible refine M_lin ?_) | (with_reducible refine M_and ?_ ?_) | (with_reducible refine M_ord ?_) | ((with_reducible show wpD _ _ _ ((1, 2) :: _) _ _); ((with_reducible show wpD _ _ _ ((_, 2) :: _) _ _); (refine D_call (f := 43) (args := ?_) rfl rfl ?_ ?_); rotate_left 1; (show (Sem.run _ (execOp _ (Oper.mk _ _ _ _ _ _)) _) = _; go_simp; rfl); obtain ⟨F, hh⟩ := hS.has rPadded [.slice AaA0 (aA.1).length caAx0, .slice AaA1 (aA.2.1).length caAx1, .slice AaA2 (aA.2.2).length caAx2]; refine (toPadded_any _ _ _ aA hh SaA).mono ?_; rintro e wy ⟨vp, rfl, hN⟩; have hM := hN.mod0; replace hS := hS.fresh hN; clear hN hh; obtain ⟨Xp0, xp0, Xp1, xp1, Xp2, xp2, rfl⟩ := Sat.cellsPadded hS 0 rfl; refine ⟨_, rfl, hM, ?_⟩; clear hM; (first | show wpD _ _ _ _ (Act.put _ (some _) _) _ | show wpD _ _ _ _ (Act.put _ none _) _); (simp only [Act.put, sA, sZ, sS]))) | ((with_reducible show wpD _ _ _ ((3, 2) :: _) _ _); ((with_reducible show wpD _ _ _ ((_, 2) :: _) _ _); (refine D_call (f := 43) (args := ?_) rfl rfl ?_ ?_); rotate_left 1; (show (Sem.run _ (execOp _ (Oper.mk _ _ _ _ _ _)) _) = _; go_simp; rfl); obtain ⟨F, hh⟩ := hS.has rPadded [.slice AaB0 (aB.1).length caBx0, .slice AaB1 (aB.2.1).length caBx1, .slice AaB2 (aB.2.2).length caBx2]; refine (toPadded_any _ _ _ aB hh SaB).mono ?_; rintro e wy ⟨vq, rfl, hN⟩; have hM := hN.mod0; replace hS := hS.fresh hN; clear hN hh; obtain ⟨Xq0, xq0, Xq1, xq1, Xq2, xq2, rfl⟩ := Sat.cellsPadded hS 0 rfl; refine ⟨_, rfl, hM, ?_⟩; clear hM; (first | show wpD _ _ _ _ (Act.put _ (some _) _) _ | show wpD _ _ _ _ (Act.put _ none _) _); (simp only [Act.put, sA, sZ, sS]))) | ((with_reducible show wpD _ _ _ ((7, 2) :: _) _ _); ((with_reducible show wpD _ _ _ ((_, 2) :: _) _ _); (refine D_call (f := 55) (args := ?_) rfl rfl ?_ ?_); rotate_left 1; (show (Sem.run _ (execOp _ (Oper.mk _ _ _ _ _ _)) _) = _; go_simp; rfl); obtain ⟨Fp, hp⟩ := hS.has rPadded [.slice Xp0 (aA.1).length xp0, .slice Xp1 (aA.2.1).length xp1, .slice Xp2 (aA.2.2).length xp2]; obtain ⟨Fq, hq⟩ := hS.has rPadded [.slice Xq0 (aB.1).length xq0, .slice Xq1 (aB.2.1).length xq1, .slice Xq2 (aB.2.2).length xq2]; refine (spec_JoinPaddedL aLeft aRight aSize _ _ _ aA hp _ _ aB hq (PSmall_sz SaA) (PSmall_sz SaB)).mono ?_; rintro e wy ⟨va, vb, rfl, hl, hN⟩; have hM := hN.mod0; replace hS := hS.fresh2 (Fresh.weak (e' := Rep.pair rPadded (rAccess.slice)) hN) hl; clear hN hl hp hq; obtain ⟨Y0, y0, Y1, y1, Y2, y2, rfl⟩ := Sat.cellsPadded hS 0 rfl; replace hS := Sat.swap hS; obtain ⟨Y3, y3, rfl⟩ := hS.formW 0 rfl; refine ⟨_, rfl, hM, ?_⟩; clear hM; (first | show wpD _ _ _ _ (Act.put _ (some _) _) _ | show wpD _ _ _ _ (Act.put _ none _) _); (simp only [Act.put, sA, sZ, sS]))) | ((with_reducible show wpD _ _ _ ((_, 3) :: _) _ _); refine D_loud rfl rfl (f_storeS hS rfl rfl rfl (by rfl) (by rfl) (by rfl)) ?_; clear hS; rintro _ wx ⟨rfl, hS⟩; (simp only [sZ, sS] at hS); (first | show wpD _ _ _ _ (Act.put _ (some _) _) _ | show wpD _ _ _ _ (Act.put _ none _) _); (simp only [Act.put, sA, sZ, sS])) | ((with_reducible show wpD _ _ _ [] _ _); refine D_nil ?_) | ((with_reducible show wpD _ _ _ ((_, 0) :: _) _ _); (first | (refine D_skip rfl rfl ?_; (first | show wpD _ _ _ _ (Act.put _ (some _) _) _ | show wpD _ _ _ _ (Act.put _ none _) _); (simp only [Act.put, sA, sZ, sS])) | (refine D_pure (v := ?_) rfl rfl (fun wq => ?_) ?_; rotate_left 1; (show (Sem.run _ (execOp _ (Oper.mk _ _ _ _ _ _)) _) = _; go_simp; (try go_bits); with_reducible rfl); (first | show wpD _ _ _ _ (Act.put _ (some _) _) _ | show wpD _ _ _ _ (Act.put _ none _) _); (simp only [Act.put, sA, sZ, sS])))) | ((with_reducible show wpD _ _ _ ((_, 1) :: _) _ _); (first | (refine D_skip rfl rfl ?_; (first | show wpD _ _ _ _ (Act.put _ (some _) _) _ | show wpD _ _ _ _ (Act.put _ none _) _); (simp only [Act.put, sA, sZ, sS])) | ((first | refine D_load rfl rfl (fun x hx => f_load (hS.mod hx) rfl rfl (by rfl)) ?_ | refine D_load rfl rfl (fun x hx => f_loadS (hS.mod hx) rfl rfl (by rfl)) ?_ | refine D_load rfl rfl (fun x hx => f_loadAt (hS.mod hx) rfl rfl) ?_ | refine D_load rfl rfl (fun x hx => f_loadAtS (hS.mod hx) rfl rfl (by rfl)) ?_ | refine D_load rfl rfl (fun x hx => f_loadAtF (hS.mod hx) rfl rfl (by rfl)) ?_); (first | show wpD _ _ _ _ (Act.put _ (some _) _) _ | show wpD _ _ _ _ (Act.put _ none _) _); (simp only [Act.put, sA, sZ, sS])))) | ((with_reducible show wpD _ _ _ ((_, 2) :: _) _ _); ((first | refine D_calm rfl rfl (does_alloc hS rfl (by rfl)) ?_ | refine D_calm rfl rfl (does_box hS rfl rfl (by rfl)) ?_); clear hS; rintro _ wx ⟨bx, rfl, hS, hM⟩; refine ⟨hM, ?_⟩; clear hM; (first | show wpD _ _ _ _ (Act.put _ (some _) _) _ | show wpD _ _ _ _ (Act.put _ none _) _); (simp only [Act.put, sA, sZ, sS]))))
    all_goals
      go_meet
      case rel => exact ⟨_, _, _, _, _, _, _, _, _, rfl, rfl, rfl, (by first | exact hS.joinA | exact hS.joinB | exact hS.joinC | exact hS.joinD)⟩
  case rest =>
    clear hS
    obtain ⟨bp5, A5_0, c5_0, A5_1, c5_1, A5_2, c5_2, B5, d5, rfl, rfl, rfl, hS⟩ := hcut
    obtain rfl := HΓ5.out
    go_wp2_with (first | ((with_reducible show wpList _ _ _ (⟨_, Op.load _ _, _, _, _, _⟩ :: _) _ _); (first | refine Gives.list (f_load hS rfl rfl (by rfl)) rfl ?_ | refine Gives.list (f_loadS hS rfl rfl (by rfl)) rfl ?_ | refine Gives.list (f_loadAt hS rfl rfl) rfl ?_ | refine Gives.list (f_loadAtS hS rfl rfl (by rfl)) rfl ?_ | refine Gives.list (f_loadAtF hS rfl rfl (by rfl)) rfl ?_); (simp only [Act.put, sA, sZ, sS])))
    obtain ⟨F6, h6⟩ := hS.has rPadded [.slice AaA0 (aA.1).length caAx0, .slice AaA1 (aA.2.1).length caAx1, .slice AaA2 (aA.2.2).length caAx2]
    first | (show Calls _ _ _ _ _) | (refine D_call (f := ?_) (args := ?_) rfl rfl ?_ ?_; rotate_left 2; (show (Sem.run _ (execOp _ (Oper.mk _ _ _ _ _ _)) _) = _; go_simp; first | rfl | (constructor <;> rfl)))
    refine (toPadded_any _ _ _ aA h6 SaA).mono ?_
    rintro e w7 ⟨v7, rfl, hN⟩
    have hM := hN.mod0
    replace hS := hS.fresh hN
    clear hN h6
    obtain ⟨A8_0, c8_0, A8_1, c8_1, A8_2, c8_2, rfl⟩ := Sat.cellsPadded hS 0 rfl
    first | (refine ⟨_, rfl, hM, ?_⟩; (first | show wpD _ _ _ _ (Act.put _ (some _) _) _ | show wpD _ _ _ _ (Act.put _ none _) _); (simp only [Act.put, sA, sZ, sS])) | skip
    clear hM
    go_wp2_with (first | ((with_reducible show wpList _ _ _ (⟨_, Op.load _ _, _, _, _, _⟩ :: _) _ _); (first | refine Gives.list (f_load hS rfl rfl (by rfl)) rfl ?_ | refine Gives.list (f_loadS hS rfl rfl (by rfl)) rfl ?_ | refine Gives.list (f_loadAt hS rfl rfl) rfl ?_ | refine Gives.list (f_loadAtS hS rfl rfl (by rfl)) rfl ?_ | refine Gives.list (f_loadAtF hS rfl rfl (by rfl)) rfl ?_); (simp only [Act.put, sA, sZ, sS])) | ((with_reducible show wpList _ _ _ (⟨_, Op.store _ _ _, _, _, _, _⟩ :: _) _ _); (first | refine Does.list (f_store hS rfl rfl rfl (by rfl) (by rfl)) rfl ?_ | refine Does.list (f_storeS hS rfl rfl rfl (by rfl) (by rfl) (by rfl)) rfl ?_); clear hS; rintro _ wx ⟨rfl, hS⟩; (simp only [sZ, sS] at hS); (simp only [Act.put, sA, sZ, sS])) | ((with_reducible show wpList _ _ _ (⟨_, Op.alloc _, _, _, _, _⟩ :: _) _ _); refine Does.list (does_alloc hS rfl (by rfl)) rfl ?_; clear hS; rintro _ wx ⟨ba, rfl, hS, _⟩; (simp only [Act.put, sA, sZ, sS])))
    obtain ⟨F9, h9⟩ := hS.has rPadded [.slice AaB0 (aB.1).length caBx0, .slice AaB1 (aB.2.1).length caBx1, .slice AaB2 (aB.2.2).length caBx2]
    first | (show Calls _ _ _ _ _) | (refine D_call (f := ?_) (args := ?_) rfl rfl ?_ ?_; rotate_left 2; (show (Sem.run _ (execOp _ (Oper.mk _ _ _ _ _ _)) _) = _; go_simp; first | rfl | (constructor <;> rfl)))
    refine (toPadded_any _ _ _ aB h9 SaB).mono ?_
    rintro e w10 ⟨v10, rfl, hN⟩
    have hM := hN.mod0
    replace hS := hS.fresh hN
    clear hN h9
    obtain ⟨A11_0, c11_0, A11_1, c11_1, A11_2, c11_2, rfl⟩ := Sat.cellsPadded hS 0 rfl
    first | (refine ⟨_, rfl, hM, ?_⟩; (first | show wpD _ _ _ _ (Act.put _ (some _) _) _ | show wpD _ _ _ _ (Act.put _ none _) _); (simp only [Act.put, sA, sZ, sS])) | skip
    clear hM
    go_wp2_with (first | ((with_reducible show wpList _ _ _ (⟨_, Op.load _ _, _, _, _, _⟩ :: _) _ _); (first | refine Gives.list (f_load hS rfl rfl (by rfl)) rfl ?_ | refine Gives.list (f_loadS hS rfl rfl (by rfl)) rfl ?_ | refine Gives.list (f_loadAt hS rfl rfl) rfl ?_ | refine Gives.list (f_loadAtS hS rfl rfl (by rfl)) rfl ?_ | refine Gives.list (f_loadAtF hS rfl rfl (by rfl)) rfl ?_); (simp only [Act.put, sA, sZ, sS])) | ((with_reducible show wpList _ _ _ (⟨_, Op.store _ _ _, _, _, _, _⟩ :: _) _ _); (first | refine Does.list (f_store hS rfl rfl rfl (by rfl) (by rfl)) rfl ?_ | refine Does.list (f_storeS hS rfl rfl rfl (by rfl) (by rfl) (by rfl)) rfl ?_); clear hS; rintro _ wx ⟨rfl, hS⟩; (simp only [sZ, sS] at hS); (simp only [Act.put, sA, sZ, sS])) | ((with_reducible show wpList _ _ _ (⟨_, Op.alloc _, _, _, _, _⟩ :: _) _ _); refine Does.list (does_alloc hS rfl (by rfl)) rfl ?_; clear hS; rintro _ wx ⟨ba, rfl, hS, _⟩; (simp only [Act.put, sA, sZ, sS])))
    obtain ⟨F12, h12⟩ := hS.has rPadded [.slice A8_0 ((aA).1).length c8_0, .slice A8_1 ((aA).2.1).length c8_1, .slice A8_2 ((aA).2.2).length c8_2]
    obtain ⟨F13, h13⟩ := hS.has rPadded [.slice A11_0 ((aB).1).length c11_0, .slice A11_1 ((aB).2.1).length c11_1, .slice A11_2 ((aB).2.2).length c11_2]
    first | (show Calls _ _ _ _ _) | (refine D_call (f := ?_) (args := ?_) rfl rfl ?_ ?_; rotate_left 2; (show (Sem.run _ (execOp _ (Oper.mk _ _ _ _ _ _)) _) = _; go_simp; first | rfl | (constructor <;> rfl)))
    refine (impl_JoinPaddedL aLeft aRight aSize _ (hR.mod0 hS.mod0) _ _ (aA) h12 _ _ (aB) h13 (PSmall_sz SaA) (PSmall_sz SaB)).mono ?_
    rintro e w14 ⟨v14a, v14b, rfl, hl, hN⟩
    have hM := hN.mod0
    replace hS := hS.fresh2 (Fresh.weak (e' := Rep.pair rPadded (rAccess.slice)) hN) hl
    clear hN hl h12 h13
    obtain ⟨A15_0, c15_0, A15_1, c15_1, A15_2, c15_2, rfl⟩ := Sat.cellsPadded hS 0 rfl
    replace hS := Sat.swap hS
    obtain ⟨A16, c16, rfl⟩ := hS.formW 0 rfl
    first | (refine ⟨_, rfl, hM, ?_⟩; (first | show wpD _ _ _ _ (Act.put _ (some _) _) _ | show wpD _ _ _ _ (Act.put _ none _) _); (simp only [Act.put, sA, sZ, sS])) | skip
    clear hM
    go_wp2_with (first | ((with_reducible show wpList _ _ _ (⟨_, Op.load _ _, _, _, _, _⟩ :: _) _ _); (first | refine Gives.list (f_load hS rfl rfl (by rfl)) rfl ?_ | refine Gives.list (f_loadS hS rfl rfl (by rfl)) rfl ?_ | refine Gives.list (f_loadAt hS rfl rfl) rfl ?_ | refine Gives.list (f_loadAtS hS rfl rfl (by rfl)) rfl ?_ | refine Gives.list (f_loadAtF hS rfl rfl (by rfl)) rfl ?_); (simp only [Act.put, sA, sZ, sS])) | ((with_reducible show wpList _ _ _ (⟨_, Op.store _ _ _, _, _, _, _⟩ :: _) _ _); (first | refine Does.list (f_store hS rfl rfl rfl (by rfl) (by rfl)) rfl ?_ | refine Does.list (f_storeS hS rfl rfl rfl (by rfl) (by rfl) (by rfl)) rfl ?_); clear hS; rintro _ wx ⟨rfl, hS⟩; (simp only [sZ, sS] at hS); (simp only [Act.put, sA, sZ, sS])) | ((with_reducible show wpList _ _ _ (⟨_, Op.alloc _, _, _, _, _⟩ :: _) _ _); refine Does.list (does_alloc hS rfl (by rfl)) rfl ?_; clear hS; rintro _ wx ⟨ba, rfl, hS, _⟩; (simp only [Act.put, sA, sZ, sS])))
    obtain ⟨F17, h17⟩ := hS.has rPadded [.slice A15_0 (((joinF aA aB aLeft aRight aSize).1).1).length c15_0, .slice A15_1 (((joinF aA aB aLeft aRight aSize).1).2.1).length c15_1, .slice A15_2 (((joinF aA aB aLeft aRight aSize).1).2.2).length c15_2]
    obtain ⟨F18, h18⟩ := hS.has rPadded [.slice A5_0 (((joinF aA aB aLeft aRight aSize).1).1).length c5_0, .slice A5_1 (((joinF aA aB aLeft aRight aSize).1).2.1).length c5_1, .slice A5_2 (((joinF aA aB aLeft aRight aSize).1).2.2).length c5_2]
    first | (show Calls _ _ _ _ _) | (refine D_call (f := ?_) (args := ?_) rfl rfl ?_ ?_; rotate_left 2; (show (Sem.run _ (execOp _ (Oper.mk _ _ _ _ _ _)) _) = _; go_simp; first | rfl | (constructor <;> rfl)))
    refine (eqPadded_any _ _ _ _ _ _ _ h17 h18).mono ?_
    rintro e w19 ⟨rfl, hM⟩
    replace hS := hS.mod hM
    clear h17 h18
    first | (refine ⟨_, rfl, hM, ?_⟩; (first | show wpD _ _ _ _ (Act.put _ (some _) _) _ | show wpD _ _ _ _ (Act.put _ none _) _); (simp only [Act.put, sA, sZ, sS])) | skip
    clear hM
    go_wp2_with (first | ((with_reducible show wpList _ _ _ (⟨_, Op.box _ _, _, _, _, _⟩ :: _) _ _); refine Does.list (does_box hS rfl rfl (by rfl)) rfl ?_; clear hS; rintro _ wx ⟨bo, rfl, hS, _⟩; (simp only [Act.put, sA, sZ, sS])))
    obtain ⟨F20, h20⟩ := hS.has (rAccess.slice) [.slice A16 ((joinF aA aB aLeft aRight aSize).2.1).length c16]
    obtain ⟨F21, h21⟩ := hS.has (rAccess.slice) [.slice B5 ((joinF aA aB aLeft aRight aSize).2.1).length d5]
    first | (show Calls _ _ _ _ _) | (refine D_call (f := ?_) (args := ?_) rfl rfl ?_ ?_; rotate_left 2; (show (Sem.run _ (execOp _ (Oper.mk _ _ _ _ _ _)) _) = _; go_simp; first | rfl | (constructor <;> rfl)))
    refine (eqAccessS_any _ _ _ _ _ _ _ h20 h21).mono ?_
    rintro e w22 ⟨rfl, hM⟩
    replace hS := hS.mod hM
    clear h20 h21
    first | (refine ⟨_, rfl, hM, ?_⟩; (first | show wpD _ _ _ _ (Act.put _ (some _) _) _ | show wpD _ _ _ _ (Act.put _ none _) _); (simp only [Act.put, sA, sZ, sS])) | skip
    clear hM
    go_wp2_with (first | ((with_reducible show Code.wp _ (Code.region 18 _ true) _ _ _); refine wp_region_drawn [(0, 1), (1, 1), (2, 2), (3, 2), (4, 0)] (by kernel_rfl) (by kernel_rfl) (by intro _ _ dq _ _ hq; cases dq <;> exact hq) ?_; replace hS := hS.mod (Mod.drew (Mod.refl _ _)); (generalize hwd : World.drew _ = wz at hS ⊢); clear hwd) | ((with_reducible show wpD _ _ _ ((_, 1) :: _) _ _); (first | (refine D_skip rfl rfl ?_; (first | show wpD _ _ _ _ (Act.put _ (some _) _) _ | show wpD _ _ _ _ (Act.put _ none _) _); (simp only [Act.put, sA, sZ, sS])) | ((first | refine D_load rfl rfl (fun x hx => f_load (hS.mod hx) rfl rfl (by rfl)) ?_ | refine D_load rfl rfl (fun x hx => f_loadS (hS.mod hx) rfl rfl (by rfl)) ?_ | refine D_load rfl rfl (fun x hx => f_loadAt (hS.mod hx) rfl rfl) ?_ | refine D_load rfl rfl (fun x hx => f_loadAtS (hS.mod hx) rfl rfl (by rfl)) ?_ | refine D_load rfl rfl (fun x hx => f_loadAtF (hS.mod hx) rfl rfl (by rfl)) ?_); (first | show wpD _ _ _ _ (Act.put _ (some _) _) _ | show wpD _ _ _ _ (Act.put _ none _) _); (simp only [Act.put, sA, sZ, sS])))))
    obtain ⟨F24, h24⟩ := hS.has rPadded [.slice AaA0 (aA.1).length caAx0, .slice AaA1 (aA.2.1).length caAx1, .slice AaA2 (aA.2.2).length caAx2]
    first | (show Calls _ _ _ _ _) | (refine D_call (f := ?_) (args := ?_) rfl rfl ?_ ?_; rotate_left 2; (show (Sem.run _ (execOp _ (Oper.mk _ _ _ _ _ _)) _) = _; go_simp; first | rfl | (constructor <;> rfl)))
    refine (toPadded_any _ _ _ aA h24 SaA).mono ?_
    rintro e w25 ⟨v25, rfl, hN⟩
    have hM := hN.mod0
    replace hS := hS.fresh hN
    clear hN h24
    obtain ⟨A26_0, c26_0, A26_1, c26_1, A26_2, c26_2, rfl⟩ := Sat.cellsPadded hS 0 rfl
    first | (refine ⟨_, rfl, hM, ?_⟩; (first | show wpD _ _ _ _ (Act.put _ (some _) _) _ | show wpD _ _ _ _ (Act.put _ none _) _); (simp only [Act.put, sA, sZ, sS])) | skip
    clear hM
    go_wp2_with (first | ((with_reducible show wpList _ _ _ (⟨_, Op.box _ _, _, _, _, _⟩ :: _) _ _); refine Does.list (does_box hS rfl rfl (by rfl)) rfl ?_; clear hS; rintro _ wx ⟨bo, rfl, hS, _⟩; (simp only [Act.put, sA, sZ, sS])))
    obtain ⟨F27, h27⟩ := hS.has rPadded [.slice A8_0 ((aA).1).length c8_0, .slice A8_1 ((aA).2.1).length c8_1, .slice A8_2 ((aA).2.2).length c8_2]
    obtain ⟨F28, h28⟩ := hS.has rPadded [.slice A26_0 ((aA).1).length c26_0, .slice A26_1 ((aA).2.1).length c26_1, .slice A26_2 ((aA).2.2).length c26_2]
    first | (show Calls _ _ _ _ _) | (refine D_call (f := ?_) (args := ?_) rfl rfl ?_ ?_; rotate_left 2; (show (Sem.run _ (execOp _ (Oper.mk _ _ _ _ _ _)) _) = _; go_simp; first | rfl | (constructor <;> rfl)))
    refine (eqPadded_any _ _ _ _ _ _ _ h27 h28).mono ?_
    rintro e w29 ⟨rfl, hM⟩
    replace hS := hS.mod hM
    clear h27 h28
    first | (refine ⟨_, rfl, hM, ?_⟩; (first | show wpD _ _ _ _ (Act.put _ (some _) _) _ | show wpD _ _ _ _ (Act.put _ none _) _); (simp only [Act.put, sA, sZ, sS])) | skip
    clear hM
    go_wp2_with (first | ((with_reducible show Code.wp _ (Code.region 20 _ true) _ _ _); refine wp_region_drawn [(0, 1), (1, 1), (2, 2), (3, 2), (4, 0)] (by kernel_rfl) (by kernel_rfl) (by intro _ _ dq _ _ hq; cases dq <;> exact hq) ?_; replace hS := hS.mod (Mod.drew (Mod.refl _ _)); (generalize hwd : World.drew _ = wz at hS ⊢); clear hwd) | ((with_reducible show wpD _ _ _ [] _ _); refine D_nil ?_) | ((with_reducible show wpD _ _ _ ((_, 0) :: _) _ _); (first | (refine D_skip rfl rfl ?_; (first | show wpD _ _ _ _ (Act.put _ (some _) _) _ | show wpD _ _ _ _ (Act.put _ none _) _); (simp only [Act.put, sA, sZ, sS])) | (refine D_pure (v := ?_) rfl rfl (fun wq => ?_) ?_; rotate_left 1; (show (Sem.run _ (execOp _ (Oper.mk _ _ _ _ _ _)) _) = _; go_simp; (try go_bits); with_reducible rfl); (first | show wpD _ _ _ _ (Act.put _ (some _) _) _ | show wpD _ _ _ _ (Act.put _ none _) _); (simp only [Act.put, sA, sZ, sS])))) | ((with_reducible show wpD _ _ _ ((_, 1) :: _) _ _); (first | (refine D_skip rfl rfl ?_; (first | show wpD _ _ _ _ (Act.put _ (some _) _) _ | show wpD _ _ _ _ (Act.put _ none _) _); (simp only [Act.put, sA, sZ, sS])) | ((first | refine D_load rfl rfl (fun x hx => f_load (hS.mod hx) rfl rfl (by rfl)) ?_ | refine D_load rfl rfl (fun x hx => f_loadS (hS.mod hx) rfl rfl (by rfl)) ?_ | refine D_load rfl rfl (fun x hx => f_loadAt (hS.mod hx) rfl rfl) ?_ | refine D_load rfl rfl (fun x hx => f_loadAtS (hS.mod hx) rfl rfl (by rfl)) ?_ | refine D_load rfl rfl (fun x hx => f_loadAtF (hS.mod hx) rfl rfl (by rfl)) ?_); (first | show wpD _ _ _ _ (Act.put _ (some _) _) _ | show wpD _ _ _ _ (Act.put _ none _) _); (simp only [Act.put, sA, sZ, sS])))))
    obtain ⟨F31, h31⟩ := hS.has rPadded [.slice AaB0 (aB.1).length caBx0, .slice AaB1 (aB.2.1).length caBx1, .slice AaB2 (aB.2.2).length caBx2]
    first | (show Calls _ _ _ _ _) | (refine D_call (f := ?_) (args := ?_) rfl rfl ?_ ?_; rotate_left 2; (show (Sem.run _ (execOp _ (Oper.mk _ _ _ _ _ _)) _) = _; go_simp; first | rfl | (constructor <;> rfl)))
    refine (toPadded_any _ _ _ aB h31 SaB).mono ?_
    rintro e w32 ⟨v32, rfl, hN⟩
    have hM := hN.mod0
    replace hS := hS.fresh hN
    clear hN h31
    obtain ⟨A33_0, c33_0, A33_1, c33_1, A33_2, c33_2, rfl⟩ := Sat.cellsPadded hS 0 rfl
    first | (refine ⟨_, rfl, hM, ?_⟩; (first | show wpD _ _ _ _ (Act.put _ (some _) _) _ | show wpD _ _ _ _ (Act.put _ none _) _); (simp only [Act.put, sA, sZ, sS])) | skip
    clear hM
    go_wp2_with (first | ((with_reducible show wpList _ _ _ (⟨_, Op.box _ _, _, _, _, _⟩ :: _) _ _); refine Does.list (does_box hS rfl rfl (by rfl)) rfl ?_; clear hS; rintro _ wx ⟨bo, rfl, hS, _⟩; (simp only [Act.put, sA, sZ, sS])))
    obtain ⟨F34, h34⟩ := hS.has rPadded [.slice A11_0 ((aB).1).length c11_0, .slice A11_1 ((aB).2.1).length c11_1, .slice A11_2 ((aB).2.2).length c11_2]
    obtain ⟨F35, h35⟩ := hS.has rPadded [.slice A33_0 ((aB).1).length c33_0, .slice A33_1 ((aB).2.1).length c33_1, .slice A33_2 ((aB).2.2).length c33_2]
    first | (show Calls _ _ _ _ _) | (refine D_call (f := ?_) (args := ?_) rfl rfl ?_ ?_; rotate_left 2; (show (Sem.run _ (execOp _ (Oper.mk _ _ _ _ _ _)) _) = _; go_simp; first | rfl | (constructor <;> rfl)))
    refine (eqPadded_any _ _ _ _ _ _ _ h34 h35).mono ?_
    rintro e w36 ⟨rfl, hM⟩
    replace hS := hS.mod hM
    clear h34 h35
    first | (refine ⟨_, rfl, hM, ?_⟩; (first | show wpD _ _ _ _ (Act.put _ (some _) _) _ | show wpD _ _ _ _ (Act.put _ none _) _); (simp only [Act.put, sA, sZ, sS])) | skip
    clear hM
    go_wp2_with (first | ((with_reducible show wpList _ _ _ (⟨_, Op.load _ _, _, _, _, _⟩ :: _) _ _); (first | refine Gives.list (f_load hS rfl rfl (by rfl)) rfl ?_ | refine Gives.list (f_loadS hS rfl rfl (by rfl)) rfl ?_ | refine Gives.list (f_loadAt hS rfl rfl) rfl ?_ | refine Gives.list (f_loadAtS hS rfl rfl (by rfl)) rfl ?_ | refine Gives.list (f_loadAtF hS rfl rfl (by rfl)) rfl ?_); (simp only [Act.put, sA, sZ, sS])) | ((with_reducible show wpD _ _ _ [] _ _); refine D_nil ?_) | ((with_reducible show wpD _ _ _ ((_, 0) :: _) _ _); (first | (refine D_skip rfl rfl ?_; (first | show wpD _ _ _ _ (Act.put _ (some _) _) _ | show wpD _ _ _ _ (Act.put _ none _) _); (simp only [Act.put, sA, sZ, sS])) | (refine D_pure (v := ?_) rfl rfl (fun wq => ?_) ?_; rotate_left 1; (show (Sem.run _ (execOp _ (Oper.mk _ _ _ _ _ _)) _) = _; go_simp; (try go_bits); with_reducible rfl); (first | show wpD _ _ _ _ (Act.put _ (some _) _) _ | show wpD _ _ _ _ (Act.put _ none _) _); (simp only [Act.put, sA, sZ, sS])))))
    have ct37 : (ctvPadded (aA)) ≤ 1099511627776 := by have h1 := ctvPadded_le aA; have h2 := SaA; omega
    obtain ⟨F37, h37, g37, up37⟩ := hS.mark rPadded [.slice A8_0 ((aA).1).length c8_0, .slice A8_1 ((aA).2.1).length c8_1, .slice A8_2 ((aA).2.2).length c8_2]
    refine (markPadded_any _ _ _ (aA) _ h37 g37 (by omega) (by omega)).mono ?_
    rintro e w37 ⟨rfl, h37m, n37m, m37⟩
    replace hS := up37 _ _ h37m n37m m37
    simp only [sZ, sS] at hS
    clear up37 h37 g37 h37m n37m m37
    go_wp2_with (first | ((with_reducible show wpList _ _ _ (⟨_, Op.load _ _, _, _, _, _⟩ :: _) _ _); (first | refine Gives.list (f_load hS rfl rfl (by rfl)) rfl ?_ | refine Gives.list (f_loadS hS rfl rfl (by rfl)) rfl ?_ | refine Gives.list (f_loadAt hS rfl rfl) rfl ?_ | refine Gives.list (f_loadAtS hS rfl rfl (by rfl)) rfl ?_ | refine Gives.list (f_loadAtF hS rfl rfl (by rfl)) rfl ?_); (simp only [Act.put, sA, sZ, sS])))
    have ct38 : (ctvPadded (aB)) ≤ 1099511627776 := by have h1 := ctvPadded_le aB; have h2 := SaB; omega
    obtain ⟨F38, h38, g38, up38⟩ := hS.mark rPadded [.slice A11_0 ((aB).1).length c11_0, .slice A11_1 ((aB).2.1).length c11_1, .slice A11_2 ((aB).2.2).length c11_2]
    refine (markPadded_any _ _ _ (aB) _ h38 g38 (by omega) (by omega)).mono ?_
    rintro e w38 ⟨rfl, h38m, n38m, m38⟩
    replace hS := up38 _ _ h38m n38m m38
    simp only [sZ, sS] at hS
    clear up38 h38 g38 h38m n38m m38
    go_wp2_with (first | ((with_reducible show wpList _ _ _ (⟨_, Op.load _ _, _, _, _, _⟩ :: _) _ _); (first | refine Gives.list (f_load hS rfl rfl (by rfl)) rfl ?_ | refine Gives.list (f_loadS hS rfl rfl (by rfl)) rfl ?_ | refine Gives.list (f_loadAt hS rfl rfl) rfl ?_ | refine Gives.list (f_loadAtS hS rfl rfl (by rfl)) rfl ?_ | refine Gives.list (f_loadAtF hS rfl rfl (by rfl)) rfl ?_); (simp only [Act.put, sA, sZ, sS])))
    obtain ⟨F39, h39⟩ := hS.has rPadded [.slice A15_0 (((joinF aA aB aLeft aRight aSize).1).1).length c15_0, .slice A15_1 (((joinF aA aB aLeft aRight aSize).1).2.1).length c15_1, .slice A15_2 (((joinF aA aB aLeft aRight aSize).1).2.2).length c15_2]
    obtain ⟨F40, h40⟩ := hS.has rPadded [.slice A5_0 (((joinF aA aB aLeft aRight aSize).1).1).length c5_0, .slice A5_1 (((joinF aA aB aLeft aRight aSize).1).2.1).length c5_1, .slice A5_2 (((joinF aA aB aLeft aRight aSize).1).2.2).length c5_2]
    first | (show Calls _ _ _ _ _) | (refine D_call (f := ?_) (args := ?_) rfl rfl ?_ ?_; rotate_left 2; (show (Sem.run _ (execOp _ (Oper.mk _ _ _ _ _ _)) _) = _; go_simp; first | rfl | (constructor <;> rfl)))
    refine (eqPadded_any _ _ _ _ _ _ _ h39 h40).mono ?_
    rintro e w41 ⟨rfl, hM⟩
    replace hS := hS.mod hM
    clear h39 h40
    first | (refine ⟨_, rfl, hM, ?_⟩; (first | show wpD _ _ _ _ (Act.put _ (some _) _) _ | show wpD _ _ _ _ (Act.put _ none _) _); (simp only [Act.put, sA, sZ, sS])) | skip
    clear hM
    go_wp2_with (first | ((with_reducible show wpList _ _ _ (⟨_, Op.box _ _, _, _, _, _⟩ :: _) _ _); refine Does.list (does_box hS rfl rfl (by rfl)) rfl ?_; clear hS; rintro _ wx ⟨bo, rfl, hS, _⟩; (simp only [Act.put, sA, sZ, sS])))
    obtain ⟨F42, h42⟩ := hS.has (rAccess.slice) [.slice A16 ((joinF aA aB aLeft aRight aSize).2.1).length c16]
    obtain ⟨F43, h43⟩ := hS.has (rAccess.slice) [.slice B5 ((joinF aA aB aLeft aRight aSize).2.1).length d5]
    first | (show Calls _ _ _ _ _) | (refine D_call (f := ?_) (args := ?_) rfl rfl ?_ ?_; rotate_left 2; (show (Sem.run _ (execOp _ (Oper.mk _ _ _ _ _ _)) _) = _; go_simp; first | rfl | (constructor <;> rfl)))
    refine (eqAccessS_any _ _ _ _ _ _ _ h42 h43).mono ?_
    rintro e w44 ⟨rfl, hM⟩
    replace hS := hS.mod hM
    clear h42 h43
    first | (refine ⟨_, rfl, hM, ?_⟩; (first | show wpD _ _ _ _ (Act.put _ (some _) _) _ | show wpD _ _ _ _ (Act.put _ none _) _); (simp only [Act.put, sA, sZ, sS])) | skip
    clear hM
    go_wp2_with (first | ((with_reducible show wpList _ _ _ (⟨_, Op.load _ _, _, _, _, _⟩ :: _) _ _); (first | refine Gives.list (f_load hS rfl rfl (by rfl)) rfl ?_ | refine Gives.list (f_loadS hS rfl rfl (by rfl)) rfl ?_ | refine Gives.list (f_loadAt hS rfl rfl) rfl ?_ | refine Gives.list (f_loadAtS hS rfl rfl (by rfl)) rfl ?_ | refine Gives.list (f_loadAtF hS rfl rfl (by rfl)) rfl ?_); (simp only [Act.put, sA, sZ, sS])))
    have ct45 : (ctvPadded ((joinF aA aB aLeft aRight aSize).1)) ≤ 1099511627776 := by have h1 := ct_join aA aB aLeft aRight aSize; omega
    obtain ⟨F45, h45, g45, up45⟩ := hS.mark rPadded [.slice A15_0 (((joinF aA aB aLeft aRight aSize).1).1).length c15_0, .slice A15_1 (((joinF aA aB aLeft aRight aSize).1).2.1).length c15_1, .slice A15_2 (((joinF aA aB aLeft aRight aSize).1).2.2).length c15_2]
    refine (markPadded_any _ _ _ ((joinF aA aB aLeft aRight aSize).1) _ h45 g45 (by omega) (by omega)).mono ?_
    rintro e w45 ⟨rfl, h45m, n45m, m45⟩
    replace hS := up45 _ _ h45m n45m m45
    simp only [sZ, sS] at hS
    clear up45 h45 g45 h45m n45m m45
    go_wp2_with (first | ((with_reducible show wpList _ _ _ (⟨_, Op.box _ _, _, _, _, _⟩ :: _) _ _); refine Does.list (does_box hS rfl rfl (by rfl)) rfl ?_; clear hS; rintro _ wx ⟨bo, rfl, hS, _⟩; (simp only [Act.put, sA, sZ, sS])))
    have ct46 : ((ctL ctAccess) ((joinF aA aB aLeft aRight aSize).2.1)) ≤ 1099511627776 := by have h1 := ct_joinTr aA aB aLeft aRight aSize; omega
    obtain ⟨F46, h46, g46, up46⟩ := hS.mark (rAccess.slice) [.slice A16 ((joinF aA aB aLeft aRight aSize).2.1).length c16]
    refine (markAccessS_any _ _ _ ((joinF aA aB aLeft aRight aSize).2.1) _ h46 g46 (by omega) (by omega)).mono ?_
    rintro e w46 ⟨rfl, h46m, n46m, m46⟩
    replace hS := up46 _ _ h46m n46m m46
    simp only [sZ, sS] at hS
    clear up46 h46 g46 h46m n46m m46
    go_wp2_with (first | ((with_reducible show wpList _ _ _ (⟨_, Op.load _ _, _, _, _, _⟩ :: _) _ _); (first | refine Gives.list (f_load hS rfl rfl (by rfl)) rfl ?_ | refine Gives.list (f_loadS hS rfl rfl (by rfl)) rfl ?_ | refine Gives.list (f_loadAt hS rfl rfl) rfl ?_ | refine Gives.list (f_loadAtS hS rfl rfl (by rfl)) rfl ?_ | refine Gives.list (f_loadAtF hS rfl rfl (by rfl)) rfl ?_); (simp only [Act.put, sA, sZ, sS])))
    obtain ⟨F47, h47⟩ := hS.has rPadded [.slice A15_0 (((joinF aA aB aLeft aRight aSize).1).1).length c15_0, .slice A15_1 (((joinF aA aB aLeft aRight aSize).1).2.1).length c15_1, .slice A15_2 (((joinF aA aB aLeft aRight aSize).1).2.2).length c15_2]
    refine (heldPadded_any _ _ _ ((joinF aA aB aLeft aRight aSize).1) _ h47 (by omega) (by omega)).mono ?_
    rintro e w48 ⟨rfl, hM⟩
    replace hS := hS.mod hM
    clear hM h47
    go_wp2_with (first | ((with_reducible show wpList _ _ _ (⟨_, Op.box _ _, _, _, _, _⟩ :: _) _ _); refine Does.list (does_box hS rfl rfl (by rfl)) rfl ?_; clear hS; rintro _ wx ⟨bo, rfl, hS, _⟩; (simp only [Act.put, sA, sZ, sS])))
    obtain ⟨F49, h49⟩ := hS.has (rAccess.slice) [.slice A16 ((joinF aA aB aLeft aRight aSize).2.1).length c16]
    refine (heldAccessS_any _ _ _ ((joinF aA aB aLeft aRight aSize).2.1) _ h49 (by omega) (by omega)).mono ?_
    rintro e w50 ⟨rfl, hM⟩
    replace hS := hS.mod hM
    clear hM h49
    go_upto_region 39 with (first | ((with_reducible show wpList _ _ _ (⟨_, Op.box _ _, _, _, _, _⟩ :: _) _ _); refine Does.list (does_box hS rfl rfl (by rfl)) rfl ?_; clear hS; rintro _ wx ⟨bo, rfl, hS, _⟩; (simp only [Act.put, sA, sZ, sS])))
    obtain ⟨Γ51, hΓ51, hS⟩ := hS.named
    have HΓ51 := Lib.hid hΓ51
    clear hΓ51
    go_cut [23, 24, 25] (fun pv tv bv wr => ∃ (bp : Nat) (A51_0 : Option Addr) (c51_0 : Nat) (A51_1 : Option Addr) (c51_1 : Nat) (A51_2 : Option Addr) (c51_2 : Nat) (B51 : Option Addr) (d51 : Nat), pv = .pointer (some ⟨bp, 0, none⟩) ∧ tv = .slice B51 ((joinF aA aB aLeft aRight aSize).2.1).length d51 ∧ bv = .bool (joinF aA aB aLeft aRight aSize).2.2 ∧ Sat w wr (.box bp [.slice A51_0 (((joinF aA aB aLeft aRight aSize).1).1).length c51_0, .slice A51_1 (((joinF aA aB aLeft aRight aSize).1).2.1).length c51_1, .slice A51_2 (((joinF aA aB aLeft aRight aSize).1).2.2).length c51_2] :: .own (rAccess.slice) [.slice B51 ((joinF aA aB aLeft aRight aSize).2.1).length d51] ((joinF aA aB aLeft aRight aSize).2.1) :: .own rPadded [.slice A51_0 (((joinF aA aB aLeft aRight aSize).1).1).length c51_0, .slice A51_1 (((joinF aA aB aLeft aRight aSize).1).2.1).length c51_1, .slice A51_2 (((joinF aA aB aLeft aRight aSize).1).2.2).length c51_2] ((joinF aA aB aLeft aRight aSize).1) :: Γ51))
    case first => as_aux_lemma =>
      obtain rfl := HΓ51.out
      go_wp2_with (first | ((with_reducible show Code.wp _ (Code.region 39 _ true) _ _ _); refine wp_region_treeM (.br [(0, 1), (2, 1), (4, 0), (5, 0), (6, 0)] 1 2 (.br [] 3 2 (.br [] 7 2 (.lin [(8, 0), (9, 0), (10, 0), (11, 0), (12, 2), (13, 3), (14, 0), (15, 0)]) 12 2 (.lin [(7, 2), (8, 0), (9, 0), (10, 0), (11, 0), (13, 3), (14, 0), (15, 0)])) 12 2 (.lin [(3, 2), (7, 2), (8, 0), (9, 0), (10, 0), (11, 0), (13, 3), (14, 0), (15, 0)])) 12 2 (.lin [(1, 2), (3, 2), (7, 2), (8, 0), (9, 0), (10, 0), (11, 0), (13, 3), (14, 0), (15, 0)])) (by kernel_rfl) (by kernel_rfl) (by intro _ _ dq _ _ hq; cases dq <;> exact hq) ?_; replace hS := hS.mod (Mod.drew (Mod.refl _ _)); (generalize hwd : World.drew _ = wz at hS ⊢); clear hwd) | (with_reducible refine M_br ?_) | (with_reducible refine M_lin ?_) | (with_reducible refine M_and ?_ ?_) | (with_reducible refine M_ord ?_) | ((with_reducible show wpD _ _ _ ((1, 2) :: _) _ _); ((with_reducible show wpD _ _ _ ((_, 2) :: _) _ _); (refine D_call (f := 43) (args := ?_) rfl rfl ?_ ?_); rotate_left 1; (show (Sem.run _ (execOp _ (Oper.mk _ _ _ _ _ _)) _) = _; go_simp; rfl); obtain ⟨F, hh⟩ := hS.has rPadded [.slice AaA0 (aA.1).length caAx0, .slice AaA1 (aA.2.1).length caAx1, .slice AaA2 (aA.2.2).length caAx2]; refine (toPadded_any _ _ _ aA hh SaA).mono ?_; rintro e wy ⟨vp, rfl, hN⟩; have hM := hN.mod0; replace hS := hS.fresh hN; clear hN hh; obtain ⟨Xp0, xp0, Xp1, xp1, Xp2, xp2, rfl⟩ := Sat.cellsPadded hS 0 rfl; refine ⟨_, rfl, hM, ?_⟩; clear hM; (first | show wpD _ _ _ _ (Act.put _ (some _) _) _ | show wpD _ _ _ _ (Act.put _ none _) _); (simp only [Act.put, sA, sZ, sS]))) | ((with_reducible show wpD _ _ _ ((3, 2) :: _) _ _); ((with_reducible show wpD _ _ _ ((_, 2) :: _) _ _); (refine D_call (f := 43) (args := ?_) rfl rfl ?_ ?_); rotate_left 1; (show (Sem.run _ (execOp _ (Oper.mk _ _ _ _ _ _)) _) = _; go_simp; rfl); obtain ⟨F, hh⟩ := hS.has rPadded [.slice AaB0 (aB.1).length caBx0, .slice AaB1 (aB.2.1).length caBx1, .slice AaB2 (aB.2.2).length caBx2]; refine (toPadded_any _ _ _ aB hh SaB).mono ?_; rintro e wy ⟨vq, rfl, hN⟩; have hM := hN.mod0; replace hS := hS.fresh hN; clear hN hh; obtain ⟨Xq0, xq0, Xq1, xq1, Xq2, xq2, rfl⟩ := Sat.cellsPadded hS 0 rfl; refine ⟨_, rfl, hM, ?_⟩; clear hM; (first | show wpD _ _ _ _ (Act.put _ (some _) _) _ | show wpD _ _ _ _ (Act.put _ none _) _); (simp only [Act.put, sA, sZ, sS]))) | ((with_reducible show wpD _ _ _ ((7, 2) :: _) _ _); ((with_reducible show wpD _ _ _ ((_, 2) :: _) _ _); (refine D_call (f := 56) (args := ?_) rfl rfl ?_ ?_); rotate_left 1; (show (Sem.run _ (execOp _ (Oper.mk _ _ _ _ _ _)) _) = _; go_simp; rfl); obtain ⟨Fp, hp⟩ := hS.has rPadded [.slice Xp0 (aA.1).length xp0, .slice Xp1 (aA.2.1).length xp1, .slice Xp2 (aA.2.2).length xp2]; obtain ⟨Fq, hq⟩ := hS.has rPadded [.slice Xq0 (aB.1).length xq0, .slice Xq1 (aB.2.1).length xq1, .slice Xq2 (aB.2.2).length xq2]; refine (impl_JoinPaddedL aLeft aRight aSize _ (hR.mod0 hS.mod0) _ _ aA hp _ _ aB hq (PSmall_sz SaA) (PSmall_sz SaB)).mono ?_; rintro e wy ⟨va, vb, rfl, hl, hN⟩; have hM := hN.mod0; replace hS := hS.fresh2 (Fresh.weak (e' := Rep.pair rPadded (rAccess.slice)) hN) hl; clear hN hl hp hq; obtain ⟨Y0, y0, Y1, y1, Y2, y2, rfl⟩ := Sat.cellsPadded hS 0 rfl; replace hS := Sat.swap hS; obtain ⟨Y3, y3, rfl⟩ := hS.formW 0 rfl; refine ⟨_, rfl, hM, ?_⟩; clear hM; (first | show wpD _ _ _ _ (Act.put _ (some _) _) _ | show wpD _ _ _ _ (Act.put _ none _) _); (simp only [Act.put, sA, sZ, sS]))) | ((with_reducible show wpD _ _ _ ((_, 3) :: _) _ _); refine D_loud rfl rfl (f_storeS hS rfl rfl rfl (by rfl) (by rfl) (by rfl)) ?_; clear hS; rintro _ wx ⟨rfl, hS⟩; (simp only [sZ, sS] at hS); (first | show wpD _ _ _ _ (Act.put _ (some _) _) _ | show wpD _ _ _ _ (Act.put _ none _) _); (simp only [Act.put, sA, sZ, sS])) | ((with_reducible show wpD _ _ _ [] _ _); refine D_nil ?_) | ((with_reducible show wpD _ _ _ ((_, 0) :: _) _ _); (first | (refine D_skip rfl rfl ?_; (first | show wpD _ _ _ _ (Act.put _ (some _) _) _ | show wpD _ _ _ _ (Act.put _ none _) _); (simp only [Act.put, sA, sZ, sS])) | (refine D_pure (v := ?_) rfl rfl (fun wq => ?_) ?_; rotate_left 1; (show (Sem.run _ (execOp _ (Oper.mk _ _ _ _ _ _)) _) = _; go_simp; (try go_bits); with_reducible rfl); (first | show wpD _ _ _ _ (Act.put _ (some _) _) _ | show wpD _ _ _ _ (Act.put _ none _) _); (simp only [Act.put, sA, sZ, sS])))) | ((with_reducible show wpD _ _ _ ((_, 1) :: _) _ _); (first | (refine D_skip rfl rfl ?_; (first | show wpD _ _ _ _ (Act.put _ (some _) _) _ | show wpD _ _ _ _ (Act.put _ none _) _); (simp only [Act.put, sA, sZ, sS])) | ((first | refine D_load rfl rfl (fun x hx => f_load (hS.mod hx) rfl rfl (by rfl)) ?_ | refine D_load rfl rfl (fun x hx => f_loadS (hS.mod hx) rfl rfl (by rfl)) ?_ | refine D_load rfl rfl (fun x hx => f_loadAt (hS.mod hx) rfl rfl) ?_ | refine D_load rfl rfl (fun x hx => f_loadAtS (hS.mod hx) rfl rfl (by rfl)) ?_ | refine D_load rfl rfl (fun x hx => f_loadAtF (hS.mod hx) rfl rfl (by rfl)) ?_); (first | show wpD _ _ _ _ (Act.put _ (some _) _) _ | show wpD _ _ _ _ (Act.put _ none _) _); (simp only [Act.put, sA, sZ, sS])))) | ((with_reducible show wpD _ _ _ ((_, 2) :: _) _ _); ((first | refine D_calm rfl rfl (does_alloc hS rfl (by rfl)) ?_ | refine D_calm rfl rfl (does_box hS rfl rfl (by rfl)) ?_); clear hS; rintro _ wx ⟨bx, rfl, hS, hM⟩; refine ⟨hM, ?_⟩; clear hM; (first | show wpD _ _ _ _ (Act.put _ (some _) _) _ | show wpD _ _ _ _ (Act.put _ none _) _); (simp only [Act.put, sA, sZ, sS]))))
      all_goals
        go_meet
        case rel => exact ⟨_, _, _, _, _, _, _, _, _, rfl, rfl, rfl, (by first | exact hS.joinA | exact hS.joinB | exact hS.joinC | exact hS.joinD)⟩
    case rest =>
      clear hS
      obtain ⟨bp51, A51_0, c51_0, A51_1, c51_1, A51_2, c51_2, B51, d51, rfl, rfl, rfl, hS⟩ := hcut
      obtain rfl := HΓ51.out
      go_wp2_with (first | ((with_reducible show wpList _ _ _ (⟨_, Op.load _ _, _, _, _, _⟩ :: _) _ _); (first | refine Gives.list (f_load hS rfl rfl (by rfl)) rfl ?_ | refine Gives.list (f_loadS hS rfl rfl (by rfl)) rfl ?_ | refine Gives.list (f_loadAt hS rfl rfl) rfl ?_ | refine Gives.list (f_loadAtS hS rfl rfl (by rfl)) rfl ?_ | refine Gives.list (f_loadAtF hS rfl rfl (by rfl)) rfl ?_); (simp only [Act.put, sA, sZ, sS])))
      obtain ⟨F52, h52⟩ := hS.has rPadded [.slice A51_0 (((joinF aA aB aLeft aRight aSize).1).1).length c51_0, .slice A51_1 (((joinF aA aB aLeft aRight aSize).1).2.1).length c51_1, .slice A51_2 (((joinF aA aB aLeft aRight aSize).1).2.2).length c51_2]
      obtain ⟨F53, h53⟩ := hS.has rPadded [.slice A5_0 (((joinF aA aB aLeft aRight aSize).1).1).length c5_0, .slice A5_1 (((joinF aA aB aLeft aRight aSize).1).2.1).length c5_1, .slice A5_2 (((joinF aA aB aLeft aRight aSize).1).2.2).length c5_2]
      first | (show Calls _ _ _ _ _) | (refine D_call (f := ?_) (args := ?_) rfl rfl ?_ ?_; rotate_left 2; (show (Sem.run _ (execOp _ (Oper.mk _ _ _ _ _ _)) _) = _; go_simp; first | rfl | (constructor <;> rfl)))
      refine (eqPadded_any _ _ _ _ _ _ _ h52 h53).mono ?_
      rintro e w54 ⟨rfl, hM⟩
      replace hS := hS.mod hM
      clear h52 h53
      first | (refine ⟨_, rfl, hM, ?_⟩; (first | show wpD _ _ _ _ (Act.put _ (some _) _) _ | show wpD _ _ _ _ (Act.put _ none _) _); (simp only [Act.put, sA, sZ, sS])) | skip
      clear hM
      go_wp2_with (first | ((with_reducible show wpList _ _ _ (⟨_, Op.box _ _, _, _, _, _⟩ :: _) _ _); refine Does.list (does_box hS rfl rfl (by rfl)) rfl ?_; clear hS; rintro _ wx ⟨bo, rfl, hS, _⟩; (simp only [Act.put, sA, sZ, sS])))
      obtain ⟨F55, h55⟩ := hS.has (rAccess.slice) [.slice B51 ((joinF aA aB aLeft aRight aSize).2.1).length d51]
      obtain ⟨F56, h56⟩ := hS.has (rAccess.slice) [.slice B5 ((joinF aA aB aLeft aRight aSize).2.1).length d5]
      first | (show Calls _ _ _ _ _) | (refine D_call (f := ?_) (args := ?_) rfl rfl ?_ ?_; rotate_left 2; (show (Sem.run _ (execOp _ (Oper.mk _ _ _ _ _ _)) _) = _; go_simp; first | rfl | (constructor <;> rfl)))
      refine (eqAccessS_any _ _ _ _ _ _ _ h55 h56).mono ?_
      rintro e w57 ⟨rfl, hM⟩
      replace hS := hS.mod hM
      clear h55 h56
      first | (refine ⟨_, rfl, hM, ?_⟩; (first | show wpD _ _ _ _ (Act.put _ (some _) _) _ | show wpD _ _ _ _ (Act.put _ none _) _); (simp only [Act.put, sA, sZ, sS])) | skip
      clear hM
      go_wp2_with (first | ((with_reducible show wpList _ _ _ (⟨_, Op.load _ _, _, _, _, _⟩ :: _) _ _); (first | refine Gives.list (f_load hS rfl rfl (by rfl)) rfl ?_ | refine Gives.list (f_loadS hS rfl rfl (by rfl)) rfl ?_ | refine Gives.list (f_loadAt hS rfl rfl) rfl ?_ | refine Gives.list (f_loadAtS hS rfl rfl (by rfl)) rfl ?_ | refine Gives.list (f_loadAtF hS rfl rfl (by rfl)) rfl ?_); (simp only [Act.put, sA, sZ, sS])))
      obtain ⟨F58, h58⟩ := hS.has rPadded [.slice A15_0 (((joinF aA aB aLeft aRight aSize).1).1).length c15_0, .slice A15_1 (((joinF aA aB aLeft aRight aSize).1).2.1).length c15_1, .slice A15_2 (((joinF aA aB aLeft aRight aSize).1).2.2).length c15_2]
      refine (heldPadded_any _ _ _ ((joinF aA aB aLeft aRight aSize).1) _ h58 (by omega) (by omega)).mono ?_
      rintro e w59 ⟨rfl, hM⟩
      replace hS := hS.mod hM
      clear hM h58
      go_wp2_with (first | ((with_reducible show wpList _ _ _ (⟨_, Op.box _ _, _, _, _, _⟩ :: _) _ _); refine Does.list (does_box hS rfl rfl (by rfl)) rfl ?_; clear hS; rintro _ wx ⟨bo, rfl, hS, _⟩; (simp only [Act.put, sA, sZ, sS])))
      obtain ⟨F60, h60⟩ := hS.has (rAccess.slice) [.slice A16 ((joinF aA aB aLeft aRight aSize).2.1).length c16]
      refine (heldAccessS_any _ _ _ ((joinF aA aB aLeft aRight aSize).2.1) _ h60 (by omega) (by omega)).mono ?_
      rintro e w61 ⟨rfl, hM⟩
      replace hS := hS.mod hM
      clear hM h60
      go_wp2_with (first | ((with_reducible show wpList _ _ _ (⟨_, Op.box _ _, _, _, _, _⟩ :: _) _ _); refine Does.list (does_box hS rfl rfl (by rfl)) rfl ?_; clear hS; rintro _ wx ⟨bo, rfl, hS, _⟩; (simp only [Act.put, sA, sZ, sS])))
      go_ret
      exact ⟨rfl, hS.mod0⟩

theorem fnExactJoinPadded_met (os : Os) (args : Array Value) : laidMetH Tryd.prog Rows.fnExactJoinPaddedRow.laid ((World.doorLaid Tryd.prog 400 os).forCall (fun _ _ => 0) ⟨#[], args, []⟩).memory :=
  laidMetH_of_parts3 (fuel := 8) (laidMet_of_run' 8 (by kernel_rfl) (by kernel_rfl)) (by kernel_rfl) (by kernel_rfl)
set_option maxRecDepth 100000 in
theorem fnExactJoinPadded_lifted (os : Os) (started : os.Started) (H : Type) (enc : TypeId × Value → H) :
    ReturnsInHanded {} Tryd.checked os 12 .any (fun w args => (Rows.fnExactJoinPaddedSpec.pre enc Tryd.prog Tryd.f12 [] false w args ∧ laidMetH Tryd.prog Rows.fnExactJoinPaddedRow.laid w) ∧ sizedMet enc Tryd.prog Tryd.f12 (OpenSpec.ofChange Rows.fnExactJoinPaddedSpec) false w args) (Rows.fnExactJoinPaddedSpec.post enc Tryd.prog Tryd.f12 false true false false) := by
  refine returnsInHanded_of_change_and (C := Tryd.checked) (X := fun w _ => laidMetH Tryd.prog Rows.fnExactJoinPaddedRow.laid w) (fun _ _ _ hh h => h.of_heap hh) (show ownKnob Tryd.prog.godebug = none by kernel_rfl) started (by kernel_rfl) Tryd.func12
    (ChangeSpec.witness_shaped (enc := enc) (C := Tryd.checked) (os := os) (X := fun w _ => laidMetH Tryd.prog Rows.fnExactJoinPaddedRow.laid w) false (World.doorLaid Tryd.prog 400 os) #[.agg #[.slice none 0 0, .slice none 0 0, .slice none 0 0], .agg #[.slice none 0 0, .slice none 0 0, .slice none 0 0], .string ByteArray.empty, .string ByteArray.empty, .int .i64 0] 8 rfl (World.shaped_of_RefB (by kernel_rfl) (by kernel_rfl)) (by kernel_rfl) (by kernel_rfl) (by kernel_rfl) (fnExactJoinPadded_met os _)) ?_
  intro W base args ds gs before hval0 hW _ _ hL _
  have hval : ∀ (j : Nat) t v, Tryd.f12.params[j]? = some t → args[j]? = some v → Value.okWide Tryd.prog W .any base t v := hval0
  have hW' := hW
  obtain ⟨p, q, hA0, hV, rfl, hfz, hnd⟩ := hW
  have hA : DataW.TrodAll enc Tryd.prog W 0 (fun _ => true) true Tryd.f12.params.toList args.toList ds p := hA0
  rw [Tryd.params12] at hA hval
  obtain ⟨v0, vs0, d0, ds0, p0, q0, hargs, rfl, rfl, r0, s0⟩ := trodAll_cons hA
  obtain ⟨v1, vs1, d1, ds1, p1, q1, rfl, rfl, rfl, r1, s1⟩ := trodAll_cons s0
  obtain ⟨v2, vs2, d2, ds2, p2, q2, rfl, rfl, rfl, r2, s2⟩ := trodAll_cons s1
  obtain ⟨v3, vs3, d3, ds3, p3, q3, rfl, rfl, rfl, r3, s3⟩ := trodAll_cons s2
  obtain ⟨v4, vs4, d4, ds4, p4, q4, rfl, rfl, rfl, r4, s4⟩ := trodAll_cons s3
  obtain ⟨rfl, rfl, rfl⟩ := trodAll_nil s4
  obtain rfl : args = #[v0, v1, v2, v3, v4] := by cases args; simp_all
  have hL' : ResOk W := res_of_laid hL
  obtain ⟨c0, F0, x0, rfl, hx0⟩ := read_struct Tryd.underlying66 (readsL_Padded) (hval 0 66 v0 rfl rfl) r0
  obtain ⟨c1, F1, x1, rfl, hx1⟩ := read_struct Tryd.underlying66 (readsL_Padded) (hval 1 66 v1 rfl rfl) r1
  obtain ⟨a2, rfl, rfl, rfl, wa2⟩ := Go.ChangeMaps.open_string Tryd.underlying9 (hval 2 9 v2 rfl rfl) r2
  obtain ⟨a3, rfl, rfl, rfl, wa3⟩ := Go.ChangeMaps.open_string Tryd.underlying9 (hval 3 9 v3 rfl rfl) r3
  obtain ⟨a4, rfl, rfl, rfl, wa4⟩ := open_int Tryd.underlying3 (hval 4 3 v4 rfl rfl) r4
  refine (fnExactJoinPadded_calls W hL' c0 F0 x0 hx0 c1 F1 x1 hx1 a2 wa2 a3 wa3 a4 (I64.of_wf wa4)).mono fun e W' ⟨he, hm⟩ => ?_
  subst he
  obtain ⟨g0, rfl⟩ := vars_one hV
  exact ⟨_, rfl, post_law (by kernel_rfl) (by kernel_rfl) (by kernel_rfl) rfl rfl Tryd.underlying4 hW' hm⟩

theorem fnExactJoinPadded_row : Rows.FnExactJoinPaddedSaid :=
  OpenClaim.holds_of_wide 12 Tryd.f12 rfl rfl rfl rfl rfl rfl rfl ⟨rfl, rfl, rfl, rfl, rfl⟩ rfl rfl rfl rfl rfl (by kernel_rfl) Tryd.func12 (show joinedFacts Tryd.prog 12 Tryd.f12 Rows.fnExactJoinPaddedSpec Rows.fnExactJoinPaddedRow = true from (by unfold joinedFacts; rw [gen_make, gen_lifts, gen_may]; kernel_rfl))
    (of_decide_eq_true (by kernel_rfl)) (by unfold Func.isWrapper; first | (rw [if_pos (by decide +kernel)]; kernel_rfl) | (rw [if_neg (by decide +kernel)]; exact ⟨rfl, rfl⟩))
    (fun os started H enc _ => fnExactJoinPadded_lifted os started H enc)

theorem fnExactJoinPadded_holds : Rows.FnExactJoinPaddedCardSaid :=
  Claim7.holds_tied_plain_at .later [] _ _ _ _
    fnExactJoinPadded_row (fun _ h => by cases h) (by kernel_rfl) (fun _ h => by cases h) fnExactJoinPadded_row_tie rfl ⟨rfl, rfl⟩ (by exact gen_main) rfl
    (fun f fn hf hfn => by
      obtain rfl : f = 12 := Option.some.inj ((show Tryd.prog.funcNamed "loop.example/obliviousqueries/laws.FnExactJoinPadded" = some 12 by kernel_rfl).symm.trans hf) |>.symm
      obtain rfl : fn = Tryd.f12 := (Option.some.inj (Tryd.func12.symm.trans hfn)).symm
      exact ⟨by kernel_rfl, fun j t ht => by
        rw [Tryd.params12] at ht
        have hm : t ∈ [66, 66, 9, 9, 3] := by simpa using Array.mem_of_getElem? ht
        have hall : ([66, 66, 9, 9, 3].all fun u => !Tryd.prog.wantsStandIn u) = true := by kernel_rfl
        exact (show Tryd.prog.wantsStandIn t = false by simpa using List.all_eq_true.1 hall t hm)⟩)
    (by kernel_rfl)

end Go.Proofs.YtldknaajnnohiaaDoor
