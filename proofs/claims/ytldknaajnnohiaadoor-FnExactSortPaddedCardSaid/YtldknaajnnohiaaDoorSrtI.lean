/- Stable sorting of an int slice of one's own: the insertion sort. -/
import Derived.Test.YtldknaajnnohiaaDoorSho
import Derived.Test.YtldknaajnnohiaaDoorSrt
namespace Go.Proofs.YtldknaajnnohiaaDoor
open Go.RowKit

/-- The comparison that the sort is handed: what it answers while the facts hold. -/
def CmpOk (w0 : World) (Γ : List Fact) (g off N c bp bc : Nat) (D : Int → Prop) (lt : Int → Int → Bool) : Prop :=
  ∀ (wz : World) (xs : List Int), Sat w0 wz (.own Rep.int.rows [.slice (some ⟨g, off, none⟩) N c] xs :: Γ) → ∀ x y, D x → D y →
    Calls Tryd.prog 164 #[.int .i64 x, .int .i64 y, .pointer (some ⟨bp, 0, none⟩), .pointer (some ⟨bc, 0, none⟩)] wz fun e w' => (∃ r : Int, e = .returned (.int .i64 r) ∧ decide (r < 0) = lt x y) ∧ Mod [] wz w'
def leOf (lt : Int → Int → Bool) (x y : Int) : Prop := lt y x = false
section
variable {lt : Int → Int → Bool}
theorem swap_mid {pre P Q post : List Int} {p x : Int} {k : Nat} (h : (pre ++ P).length = k) : ((pre ++ P ++ p :: x :: Q ++ post).set (k + 1) p).set k x = pre ++ P ++ x :: p :: Q ++ post := by
  have e1 : pre ++ P ++ p :: x :: Q ++ post = (pre ++ P ++ [p]) ++ x :: (Q ++ post) := by simp only [List.append_assoc, List.cons_append, List.nil_append]
  rw [e1, setM_mid (by simp only [List.length_append, List.length_cons, List.length_nil] at h ⊢; omega)]
  have e2 : pre ++ P ++ [p] ++ p :: (Q ++ post) = (pre ++ P) ++ p :: (p :: (Q ++ post)) := by simp only [List.append_assoc, List.cons_append, List.nil_append]
  rw [e2, setM_mid h]
  simp only [List.append_assoc, List.cons_append]
end
set_option maxHeartbeats 8000000 in
set_option maxRecDepth 8000 in
theorem insertion_w {w0 w : World} {Γ : List Fact} (g off N c bp bc : Nat) (D : Int → Prop) (lt : Int → Int → Bool) (hpre : Pre (leOf lt)) (hcmp : CmpOk w0 Γ g off N c bp bc D lt) (pre X post : List Int) (a b : Nat) (hN : (pre ++ X ++ post).length = N) (hN2 : N ≤ 1000000000) (ha : pre.length = a) (hb : pre.length + X.length = b) (hD : ∀ z ∈ X, D z)
    (hS : Sat w0 w (.own Rep.int.rows [.slice (some ⟨g, off, none⟩) N c] (pre ++ X ++ post) :: Γ)) :
    Calls Tryd.prog 200 #[.slice (some ⟨g, off, none⟩) N c, .int .i64 (a : Int), .int .i64 (b : Int), .func (.func 164) #[] #[.pointer (some ⟨bp, 0, none⟩), .pointer (some ⟨bc, 0, none⟩)]] w fun e w' => e = .returned (.tuple #[]) ∧ ∃ Y, Y.Perm X ∧ Srt (leOf lt) Y ∧ Sat w0 w' (.own Rep.int.rows [.slice (some ⟨g, off, none⟩) N c] (pre ++ Y ++ post) :: Γ) := by
  have hbN : b ≤ N := by rw [← hN]; simp only [List.length_append]; omega
  obtain ⟨a1, ha1⟩ : ∃ x, a + 1 = x := ⟨_, rfl⟩
  have hw1 : IntKind.i64.wrap ((a : Int) + 1) = (a1 : Int) := by rw [IntWalk.i64_in _ (by omega)]; omega
  have HN := Lib.hid hN
  have HD := Lib.hid hD
  have Hb := Lib.hid hb
  clear hN hD hb
  go_enter Tryd.func200, Tryd.ntmps200
  go_wp2_with (first | ((with_reducible show wpList _ _ _ (⟨_, Op.load _ _, _, _, _, _⟩ :: _) _ _); (first | refine Gives.list (f_load hS rfl rfl (by rfl)) rfl ?_ | refine Gives.list (f_loadS hS rfl rfl (by rfl)) rfl ?_ | refine Gives.list (f_loadAt hS rfl rfl) rfl ?_ | refine Gives.list (f_loadAtS hS rfl rfl (by rfl)) rfl ?_ | refine Gives.list (f_loadAtF hS rfl rfl (by rfl)) rfl ?_); (simp only [Act.put, sA, sZ, sS])))
  go_loopw [8] (fun iv wr => ∃ (k i : Nat) (Y : List Int), iv = .int .i64 (i : Int) ∧ i = a + k ∧ 1 ≤ k ∧ k ≤ X.length + 1 ∧ Hid (Y.Perm (X.take k)) ∧ Hid (Srt (leOf lt) Y) ∧ Sat w0 wr (.own Rep.int.rows [.slice (some ⟨g, off, none⟩) N c] (pre ++ Y ++ (X.drop k ++ post)) :: Γ)) (fun iv _ => b + 1 - (intOf iv).toNat)
  case atStart =>
    refine ⟨1, a1, X.take 1, rfl, ha1.symm, Nat.le_refl _, by omega, Lib.hid (List.Perm.refl _), Lib.hid ?_, ?_⟩
    · cases X with
      | nil => exact List.Pairwise.nil
      | cons x X => exact List.pairwise_singleton _ _
    · have e : pre ++ X.take 1 ++ (X.drop 1 ++ post) = pre ++ X ++ post := by
        rw [← List.append_assoc, List.append_assoc pre, List.take_append_drop]
      rw [e]; exact hS
  case round =>
    clear hS hw1
    obtain ⟨k, i, Y, rfl, hi, hk1, hk2, hY, hs, hS⟩ := hrel
    obtain ⟨i2, hi2⟩ : ∃ x, i + 1 = x := ⟨_, rfl⟩
    have hikX : k ≤ X.length + 1 ∧ pre.length + X.length = b := ⟨hk2, Hb.out⟩
    have hw1 : IntKind.i64.wrap ((i : Int) + 1) = (i2 : Int) := by rw [IntWalk.i64_in _ (by omega)]; omega
    by_cases hlt : k < X.length
    · have hab : i < b := by have := Hb.out; omega
      have hltI : (i : Int) < (b : Int) := by omega
      have hYl : Y.length = k := by rw [hY.out.length_eq, List.length_take]; omega
      have hx : X.drop k = X[k] :: X.drop (k + 1) := List.drop_eq_getElem_cons hlt
      have hXk := List.getElem_mem hlt
      obtain ⟨x, hxx⟩ : ∃ x, X[k] = x := ⟨_, rfl⟩
      obtain ⟨Z, hZ⟩ : ∃ Z, X.drop (k + 1) = Z := ⟨_, rfl⟩
      have HP : Hid ((Y ++ [x]).Perm (X.take (k + 1))) := Lib.hid (by rw [List.take_succ_eq_append_getElem hlt, hxx]; exact hY.out.append_right _)
      rw [hxx, hZ] at hx
      rw [hxx] at hXk
      rw [hx] at hS
      have Dx := Lib.hid (HD.out x hXk)
      have HYD : Hid (∀ z ∈ Y, D z) := Lib.hid (fun z hz => HD.out z (List.mem_of_mem_take (hY.out.mem_iff.1 hz)))
      have HZ := Lib.hid hZ
      have HlN : Hid ((pre ++ Y ++ (x :: Z ++ post)).length = N) := Lib.hid (by
        have h1 := HN.out
        rw [← hx]
        simp only [List.length_append, List.length_drop] at h1 ⊢
        omega)
      have e0 : pre ++ Y ++ (x :: Z ++ post) = pre ++ Y ++ x :: [] ++ (Z ++ post) := by simp only [List.append_assoc, List.cons_append, List.nil_append]
      rw [e0] at hS HlN
      have Hi := Lib.hid hi
      clear hx hxx hZ hXk e0 hi
      go_wp2_with (first | ((with_reducible show wpList _ _ _ (⟨_, Op.load _ _, _, _, _, _⟩ :: _) _ _); (first | refine Gives.list (f_load hS rfl rfl (by rfl)) rfl ?_ | refine Gives.list (f_loadS hS rfl rfl (by rfl)) rfl ?_ | refine Gives.list (f_loadAt hS rfl rfl) rfl ?_ | refine Gives.list (f_loadAtS hS rfl rfl (by rfl)) rfl ?_ | refine Gives.list (f_loadAtF hS rfl rfl (by rfl)) rfl ?_); (simp only [Act.put, sA, sZ, sS])))
      go_loopw [9] (fun jv wr => ∃ (P Q : List Int) (j : Nat), jv = .int .i64 (j : Int) ∧ j = a + P.length ∧ Hid (P ++ Q = Y) ∧ Hid (∀ y ∈ Q, leOf lt x y) ∧ P.length ≤ k ∧ Sat w0 wr (.own Rep.int.rows [.slice (some ⟨g, off, none⟩) N c] (pre ++ P ++ x :: Q ++ (Z ++ post)) :: Γ)) (fun jv _ => (intOf jv).toNat)
      case atStart => exact ⟨Y, [], i, rfl, by rw [hYl]; exact Hi.out, Lib.hid (by simp), Lib.hid (by simp), by omega, hS⟩
      case round =>
        clear hS
        obtain ⟨P, Q, j, rfl, hj, hPQ, hQ, hPl, hS⟩ := hrel
        have HLN2 : Hid ((pre ++ P ++ x :: Q ++ (Z ++ post)).length = N) := Lib.hid (by
          have h1 := HlN.out
          have h2 := congrArg List.length hPQ.out
          simp only [List.length_append, List.length_cons, List.length_nil] at h1 h2 ⊢
          omega)
        have done : (∀ y ∈ P, leOf lt y x) → Srt (leOf lt) (P ++ x :: Q) ∧ (P ++ x :: Q).Perm (X.take (k + 1)) := fun hP => by
          refine ⟨insert_ok (by rw [hPQ.out]; exact hs.out) hP hQ.out, List.Perm.trans ?_ HP.out⟩
          rw [← hPQ.out]
          simp only [List.append_assoc]
          exact List.Perm.append_left P (List.perm_append_comm (l₁ := [x]))
        have Done := Lib.hid done
        clear done
        rcases List.eq_nil_or_concat P with rfl | ⟨P', p, rfl⟩
        · have hgt : decide (a < j) = false := by simp only [List.length_nil] at hj; simp; omega
          have HF := Lib.hid (Done.out (by simp))
          clear hj
          go_wp2_with (first | ((with_reducible show Code.wp _ (Code.region 4 _ true) _ _ _); refine wp_region_drawn [(0, 0), (1, 0), (2, 0), (3, 0), (4, 0), (5, 0), (6, 0), (7, 0), (8, 1), (9, 0), (10, 0), (11, 0), (12, 0), (13, 1), (14, 2), (15, 0), (16, 0)] (by kernel_rfl) (by kernel_rfl) (by intro _ _ dq _ _ hq; cases dq <;> exact hq) ?_; replace hS := hS.mod (Mod.drew (Mod.refl _ _)); (generalize hwd : World.drew _ = wz at hS ⊢); clear hwd) | ((with_reducible show Code.wp _ (Code.region 6 _ true) _ _ _); refine wp_region_drawn [(0, 0), (1, 0), (2, 0), (3, 0), (4, 0), (5, 0), (6, 0), (7, 0), (8, 0), (9, 1), (10, 0), (11, 0), (12, 0), (13, 1), (14, 0), (15, 3), (16, 0), (17, 3)] (by kernel_rfl) (by kernel_rfl) (by intro _ _ dq _ _ hq; cases dq <;> exact hq) ?_; replace hS := hS.mod (Mod.drew (Mod.refl _ _)); (generalize hwd : World.drew _ = wz at hS ⊢); clear hwd) | ((with_reducible show wpD _ _ _ [] _ _); refine D_nil ?_) | ((with_reducible show wpD _ _ _ ((_, 0) :: _) _ _); (first | (refine D_skip rfl rfl ?_; (first | show wpD _ _ _ _ (Act.put _ (some _) _) _ | show wpD _ _ _ _ (Act.put _ none _) _); (simp only [Act.put, sA, sZ, sS])) | (refine D_pure (v := ?_) rfl rfl (fun wq => ?_) ?_; rotate_left 1; (show (Sem.run _ (execOp _ (Oper.mk _ _ _ _ _ _)) _) = _; go_simp; (try go_bits); with_reducible rfl); (first | show wpD _ _ _ _ (Act.put _ (some _) _) _ | show wpD _ _ _ _ (Act.put _ none _) _); (simp only [Act.put, sA, sZ, sS])))) | ((with_reducible show wpD _ _ _ ((_, 1) :: _) _ _); (first | (refine D_skip rfl rfl ?_; (first | show wpD _ _ _ _ (Act.put _ (some _) _) _ | show wpD _ _ _ _ (Act.put _ none _) _); (simp only [Act.put, sA, sZ, sS])) | ((first | refine D_load rfl rfl (fun x hx => f_load (hS.mod hx) rfl rfl (by rfl)) ?_ | refine D_load rfl rfl (fun x hx => f_loadS (hS.mod hx) rfl rfl (by rfl)) ?_ | refine D_load rfl rfl (fun x hx => f_loadAt (hS.mod hx) rfl rfl) ?_ | refine D_load rfl rfl (fun x hx => f_loadAtS (hS.mod hx) rfl rfl (by rfl)) ?_ | refine D_load rfl rfl (fun x hx => f_loadAtF (hS.mod hx) rfl rfl (by rfl)) ?_); (first | show wpD _ _ _ _ (Act.put _ (some _) _) _ | show wpD _ _ _ _ (Act.put _ none _) _); (simp only [Act.put, sA, sZ, sS])))) | ((with_reducible show wpD _ _ _ ((_, 2) :: _) _ _); (refine D_skip rfl rfl ?_; (first | show wpD _ _ _ _ (Act.put _ (some _) _) _ | show wpD _ _ _ _ (Act.put _ none _) _); (simp only [Act.put, sA, sZ, sS]))) | ((with_reducible show wpD _ _ _ ((_, 3) :: _) _ _); (refine D_skip rfl rfl ?_; (first | show wpD _ _ _ _ (Act.put _ (some _) _) _ | show wpD _ _ _ _ (Act.put _ none _) _); (simp only [Act.put, sA, sZ, sS]))) | ((with_reducible show wpList _ _ _ (⟨_, Op.load _ _, _, _, _, _⟩ :: _) _ _); (first | refine Gives.list (f_load hS rfl rfl (by rfl)) rfl ?_ | refine Gives.list (f_loadS hS rfl rfl (by rfl)) rfl ?_ | refine Gives.list (f_loadAt hS rfl rfl) rfl ?_ | refine Gives.list (f_loadAtS hS rfl rfl (by rfl)) rfl ?_ | refine Gives.list (f_loadAtF hS rfl rfl (by rfl)) rfl ?_); (simp only [Act.put, sA, sZ, sS])))
          go_roundw
          case rel => exact ⟨k + 1, i2, x :: Q, rfl, by have := Hi.out; omega, by omega, by omega, Lib.hid HF.out.2, Lib.hid HF.out.1, by rw [HZ.out]; simpa only [List.append_nil] using hS⟩
          case measure => simp [intOf]; omega
        · simp only [List.concat_eq_append] at hS hPl HLN2 Done hPQ hj ⊢
          have hl1 : (P' ++ [p]).length = P'.length + 1 := by simp
          obtain ⟨q, hq⟩ : ∃ q, P'.length = q := ⟨_, rfl⟩
          rw [hl1, hq] at hPl hj
          have e1 : pre ++ (P' ++ [p]) ++ x :: Q ++ (Z ++ post) = pre ++ P' ++ p :: x :: Q ++ (Z ++ post) := by simp only [List.append_assoc, List.cons_append, List.nil_append]
          rw [e1] at hS HLN2
          obtain ⟨ia, rfl⟩ : ∃ i, i = j := ⟨_, rfl⟩
          have hia0 : a + (q + 1) = ia := hj.symm
          clear hj
          obtain ⟨ib, hib0⟩ : ∃ i, a + q = i := ⟨_, rfl⟩
          have hpl : (pre ++ P').length = ib := by rw [List.length_append]; omega
          have Ha : Hid ((pre ++ P' ++ p :: x :: Q ++ (Z ++ post))[ia]? = some x) := Lib.hid (by
            have e2 : pre ++ P' ++ p :: x :: Q ++ (Z ++ post) = (pre ++ P' ++ [p]) ++ x :: (Q ++ (Z ++ post)) := by simp only [List.append_assoc, List.cons_append, List.nil_append]
            rw [e2]; exact getM_mid (by rw [List.length_append, hpl]; simp; omega))
          have Hb2 : Hid ((pre ++ P' ++ p :: x :: Q ++ (Z ++ post))[ib]? = some p) := Lib.hid (by
            have e2 : pre ++ P' ++ p :: x :: Q ++ (Z ++ post) = (pre ++ P') ++ p :: (x :: Q ++ (Z ++ post)) := by simp only [List.append_assoc, List.cons_append]
            rw [e2]; exact getM_mid hpl)
          have hlenN : ia < N := by rw [← HLN2.out]; simp only [List.length_append, List.length_cons]; omega
          have hia : ia < N := hlenN
          have hib : ib < N := by omega
          have hiaI : (ia : Int) < (N : Int) := by omega
          have hibI : (ib : Int) < (N : Int) := by omega
          have hwb : IntKind.i64.wrap ((ia : Int) - 1) = (ib : Int) := by rw [IntWalk.i64_in _ (by omega)]; omega
          have hgt : decide (a < ia) = true := by simp; omega
          have Hsw : Hid (((pre ++ P' ++ p :: x :: Q ++ (Z ++ post)).set ia p).set ib x = pre ++ P' ++ x :: p :: Q ++ (Z ++ post)) := Lib.hid (by
            have := swap_mid (pre := pre) (P := P') (Q := Q) (post := Z ++ post) (p := p) (x := x) hpl
            rw [show ib + 1 = ia by omega] at this
            exact this)
          have Dp : Hid (D p) := Lib.hid (HYD.out p (by rw [← hPQ.out]; simp))
          have HS1 : Hid (Srt (leOf lt) (P' ++ [p])) := Lib.hid ((srt_append.1 (by rw [hPQ.out]; exact hs.out)).1)
          obtain ⟨⟨_, _, _, _, _, Ix⟩, _⟩ := hS.rowCell (e := Rep.int) 0 rfl rfl Ha.out
          obtain ⟨⟨_, _, _, _, _, Iy⟩, _⟩ := hS.rowCell (e := Rep.int) 0 rfl rfl Hb2.out
          have Ix := Lib.hid Ix
          have Iy := Lib.hid Iy
          have Hb := Hb2
          clear Hb2
          obtain ⟨y, rfl⟩ : ∃ y, y = p := ⟨_, rfl⟩
          have Dy := Dp
          cases hxp : lt x y
          · have Hlt := Lib.hid hxp
            have HF := Lib.hid (Done.out (fun z hz => hpre.trans (below_last hpre HS1.out z hz) (show leOf lt y x from hxp)))
            clear hxp
            go_wp2_with (first | ((with_reducible show Code.wp _ (Code.region 4 _ true) _ _ _); refine wp_region_drawn [(0, 0), (1, 0), (2, 0), (3, 0), (4, 0), (5, 0), (6, 0), (7, 0), (8, 1), (9, 0), (10, 0), (11, 0), (12, 0), (13, 1), (14, 2), (15, 0), (16, 0)] (by kernel_rfl) (by kernel_rfl) (by intro _ _ dq _ _ hq; cases dq <;> exact hq) ?_; replace hS := hS.mod (Mod.drew (Mod.refl _ _)); (generalize hwd : World.drew _ = wz at hS ⊢); clear hwd) | ((with_reducible show Code.wp _ (Code.region 6 _ true) _ _ _); refine wp_region_drawn [(0, 0), (1, 0), (2, 0), (3, 0), (4, 0), (5, 0), (6, 0), (7, 0), (8, 0), (9, 1), (10, 0), (11, 0), (12, 0), (13, 1), (14, 0), (15, 3), (16, 0), (17, 3)] (by kernel_rfl) (by kernel_rfl) (by intro _ _ dq _ _ hq; cases dq <;> exact hq) ?_; replace hS := hS.mod (Mod.drew (Mod.refl _ _)); (generalize hwd : World.drew _ = wz at hS ⊢); clear hwd) | ((with_reducible show wpD _ _ _ ((_, 1) :: _) _ _); (first | refine D_load rfl rfl (fun x hx => f_loadRow (g := g) (off := off) (k := ia) (n := N) (c := c) (hS.mod hx) rfl rfl Ha.out) ?_ | refine D_load rfl rfl (fun x hx => f_loadRow (g := g) (off := off) (k := ib) (n := N) (c := c) (hS.mod hx) rfl rfl Hb.out) ?_); (first | show wpD _ _ _ _ (Act.put _ (some _) _) _ | show wpD _ _ _ _ (Act.put _ none _) _); (simp only [Act.put, sA, sZ, sS])) | ((with_reducible show wpD _ _ _ ((_, 2) :: _) _ _); (refine D_call (f := 164) (args := ?_) rfl rfl ?_ ?_); rotate_left 1; (show (Sem.run _ (execOp _ (Oper.mk _ _ _ _ _ _)) _) = _; go_simp; rfl); refine (hcmp _ _ hS x y Dx.out Dy.out).mono ?_; rintro e wy ⟨⟨r, rfl, hr⟩, hM⟩; (rw [Hlt.out] at hr); replace hS := hS.mod hM; refine ⟨_, rfl, hM, ?_⟩; clear hM; (first | show wpD _ _ _ _ (Act.put _ (some _) _) _ | show wpD _ _ _ _ (Act.put _ none _) _); (simp only [Act.put, sA, sZ, sS])) | ((with_reducible show wpD _ _ _ [] _ _); refine D_nil ?_) | ((with_reducible show wpD _ _ _ ((_, 0) :: _) _ _); (first | (refine D_skip rfl rfl ?_; (first | show wpD _ _ _ _ (Act.put _ (some _) _) _ | show wpD _ _ _ _ (Act.put _ none _) _); (simp only [Act.put, sA, sZ, sS])) | (refine D_pure (v := ?_) rfl rfl (fun wq => ?_) ?_; rotate_left 1; (show (Sem.run _ (execOp _ (Oper.mk _ _ _ _ _ _)) _) = _; go_simp; (try go_bits); with_reducible rfl); (first | show wpD _ _ _ _ (Act.put _ (some _) _) _ | show wpD _ _ _ _ (Act.put _ none _) _); (simp only [Act.put, sA, sZ, sS])))) | ((with_reducible show wpD _ _ _ ((_, 1) :: _) _ _); (first | (refine D_skip rfl rfl ?_; (first | show wpD _ _ _ _ (Act.put _ (some _) _) _ | show wpD _ _ _ _ (Act.put _ none _) _); (simp only [Act.put, sA, sZ, sS])) | ((first | refine D_load rfl rfl (fun x hx => f_load (hS.mod hx) rfl rfl (by rfl)) ?_ | refine D_load rfl rfl (fun x hx => f_loadS (hS.mod hx) rfl rfl (by rfl)) ?_ | refine D_load rfl rfl (fun x hx => f_loadAt (hS.mod hx) rfl rfl) ?_ | refine D_load rfl rfl (fun x hx => f_loadAtS (hS.mod hx) rfl rfl (by rfl)) ?_ | refine D_load rfl rfl (fun x hx => f_loadAtF (hS.mod hx) rfl rfl (by rfl)) ?_); (first | show wpD _ _ _ _ (Act.put _ (some _) _) _ | show wpD _ _ _ _ (Act.put _ none _) _); (simp only [Act.put, sA, sZ, sS])))) | ((with_reducible show wpD _ _ _ ((_, 2) :: _) _ _); (refine D_skip rfl rfl ?_; (first | show wpD _ _ _ _ (Act.put _ (some _) _) _ | show wpD _ _ _ _ (Act.put _ none _) _); (simp only [Act.put, sA, sZ, sS]))) | ((with_reducible show wpD _ _ _ ((_, 3) :: _) _ _); (refine D_skip rfl rfl ?_; (first | show wpD _ _ _ _ (Act.put _ (some _) _) _ | show wpD _ _ _ _ (Act.put _ none _) _); (simp only [Act.put, sA, sZ, sS]))) | ((with_reducible show wpList _ _ _ (⟨_, Op.load _ _, _, _, _, _⟩ :: _) _ _); (first | refine Gives.list (f_load hS rfl rfl (by rfl)) rfl ?_ | refine Gives.list (f_loadS hS rfl rfl (by rfl)) rfl ?_ | refine Gives.list (f_loadAt hS rfl rfl) rfl ?_ | refine Gives.list (f_loadAtS hS rfl rfl (by rfl)) rfl ?_ | refine Gives.list (f_loadAtF hS rfl rfl (by rfl)) rfl ?_); (simp only [Act.put, sA, sZ, sS])))
            go_roundw
            case rel => exact ⟨k + 1, i2, (P' ++ [y]) ++ x :: Q, rfl, by have := Hi.out; omega, by omega, by omega, Lib.hid HF.out.2, Lib.hid HF.out.1, by rw [HZ.out]; simpa only [List.append_assoc, List.cons_append, List.nil_append] using hS⟩
            case measure => simp [intOf]; omega
          · have Hlt := Lib.hid hxp
            have hle2 : leOf lt x y := by
              rcases hpre.total x y with h | h
              · exact h
              · unfold leOf at h; rw [hxp] at h; cases h
            have HQ : Hid (∀ z ∈ y :: Q, leOf lt x z) := Lib.hid (fun z hz => by rcases List.mem_cons.1 hz with rfl | h; exact hle2; exact hQ.out z h)
            clear hxp hle2
            go_wp2_with (first | ((with_reducible show Code.wp _ (Code.region 4 _ true) _ _ _); refine wp_region_drawn [(0, 0), (1, 0), (2, 0), (3, 0), (4, 0), (5, 0), (6, 0), (7, 0), (8, 1), (9, 0), (10, 0), (11, 0), (12, 0), (13, 1), (14, 2), (15, 0), (16, 0)] (by kernel_rfl) (by kernel_rfl) (by intro _ _ dq _ _ hq; cases dq <;> exact hq) ?_; replace hS := hS.mod (Mod.drew (Mod.refl _ _)); (generalize hwd : World.drew _ = wz at hS ⊢); clear hwd) | ((with_reducible show Code.wp _ (Code.region 6 _ true) _ _ _); refine wp_region_drawn [(0, 0), (1, 0), (2, 0), (3, 0), (4, 0), (5, 0), (6, 0), (7, 0), (8, 0), (9, 1), (10, 0), (11, 0), (12, 0), (13, 1), (14, 0), (15, 3), (16, 0), (17, 3)] (by kernel_rfl) (by kernel_rfl) (by intro _ _ dq _ _ hq; cases dq <;> exact hq) ?_; replace hS := hS.mod (Mod.drew (Mod.refl _ _)); (generalize hwd : World.drew _ = wz at hS ⊢); clear hwd) | ((with_reducible show wpD _ _ _ ((_, 1) :: _) _ _); (first | refine D_load rfl rfl (fun x hx => f_loadRow (g := g) (off := off) (k := ia) (n := N) (c := c) (hS.mod hx) rfl rfl Ha.out) ?_ | refine D_load rfl rfl (fun x hx => f_loadRow (g := g) (off := off) (k := ib) (n := N) (c := c) (hS.mod hx) rfl rfl Hb.out) ?_); (first | show wpD _ _ _ _ (Act.put _ (some _) _) _ | show wpD _ _ _ _ (Act.put _ none _) _); (simp only [Act.put, sA, sZ, sS])) | ((with_reducible show wpD _ _ _ ((_, 3) :: _) _ _); (first | refine D_loud rfl rfl (does_storeEl (e := Rep.int) (k := ia) 0 (hS.int Iy.out) rfl rfl rfl rfl rfl rfl hia) ?_ | refine D_loud rfl rfl (does_storeEl (e := Rep.int) (k := ib) 0 (hS.int Ix.out) rfl rfl rfl rfl rfl rfl hib) ?_); clear hS; rintro _ wx ⟨rfl, hS⟩; (simp only [sZ, sS] at hS); (first | show wpD _ _ _ _ (Act.put _ (some _) _) _ | show wpD _ _ _ _ (Act.put _ none _) _); (simp only [Act.put, sA, sZ, sS])) | ((with_reducible show wpD _ _ _ ((_, 2) :: _) _ _); (refine D_call (f := 164) (args := ?_) rfl rfl ?_ ?_); rotate_left 1; (show (Sem.run _ (execOp _ (Oper.mk _ _ _ _ _ _)) _) = _; go_simp; rfl); refine (hcmp _ _ hS x y Dx.out Dy.out).mono ?_; rintro e wy ⟨⟨r, rfl, hr⟩, hM⟩; (rw [Hlt.out] at hr); replace hS := hS.mod hM; refine ⟨_, rfl, hM, ?_⟩; clear hM; (first | show wpD _ _ _ _ (Act.put _ (some _) _) _ | show wpD _ _ _ _ (Act.put _ none _) _); (simp only [Act.put, sA, sZ, sS])) | ((with_reducible show wpD _ _ _ [] _ _); refine D_nil ?_) | ((with_reducible show wpD _ _ _ ((_, 0) :: _) _ _); (first | (refine D_skip rfl rfl ?_; (first | show wpD _ _ _ _ (Act.put _ (some _) _) _ | show wpD _ _ _ _ (Act.put _ none _) _); (simp only [Act.put, sA, sZ, sS])) | (refine D_pure (v := ?_) rfl rfl (fun wq => ?_) ?_; rotate_left 1; (show (Sem.run _ (execOp _ (Oper.mk _ _ _ _ _ _)) _) = _; go_simp; (try go_bits); with_reducible rfl); (first | show wpD _ _ _ _ (Act.put _ (some _) _) _ | show wpD _ _ _ _ (Act.put _ none _) _); (simp only [Act.put, sA, sZ, sS])))) | ((with_reducible show wpD _ _ _ ((_, 1) :: _) _ _); (first | (refine D_skip rfl rfl ?_; (first | show wpD _ _ _ _ (Act.put _ (some _) _) _ | show wpD _ _ _ _ (Act.put _ none _) _); (simp only [Act.put, sA, sZ, sS])) | ((first | refine D_load rfl rfl (fun x hx => f_load (hS.mod hx) rfl rfl (by rfl)) ?_ | refine D_load rfl rfl (fun x hx => f_loadS (hS.mod hx) rfl rfl (by rfl)) ?_ | refine D_load rfl rfl (fun x hx => f_loadAt (hS.mod hx) rfl rfl) ?_ | refine D_load rfl rfl (fun x hx => f_loadAtS (hS.mod hx) rfl rfl (by rfl)) ?_ | refine D_load rfl rfl (fun x hx => f_loadAtF (hS.mod hx) rfl rfl (by rfl)) ?_); (first | show wpD _ _ _ _ (Act.put _ (some _) _) _ | show wpD _ _ _ _ (Act.put _ none _) _); (simp only [Act.put, sA, sZ, sS])))) | ((with_reducible show wpD _ _ _ ((_, 2) :: _) _ _); (refine D_skip rfl rfl ?_; (first | show wpD _ _ _ _ (Act.put _ (some _) _) _ | show wpD _ _ _ _ (Act.put _ none _) _); (simp only [Act.put, sA, sZ, sS]))) | ((with_reducible show wpD _ _ _ ((_, 3) :: _) _ _); (refine D_skip rfl rfl ?_; (first | show wpD _ _ _ _ (Act.put _ (some _) _) _ | show wpD _ _ _ _ (Act.put _ none _) _); (simp only [Act.put, sA, sZ, sS]))) | ((with_reducible show wpList _ _ _ (⟨_, Op.load _ _, _, _, _, _⟩ :: _) _ _); (first | refine Gives.list (f_load hS rfl rfl (by rfl)) rfl ?_ | refine Gives.list (f_loadS hS rfl rfl (by rfl)) rfl ?_ | refine Gives.list (f_loadAt hS rfl rfl) rfl ?_ | refine Gives.list (f_loadAtS hS rfl rfl (by rfl)) rfl ?_ | refine Gives.list (f_loadAtF hS rfl rfl (by rfl)) rfl ?_); (simp only [Act.put, sA, sZ, sS])))
            go_roundw
            case rel => exact ⟨P', y :: Q, ib, rfl, by rw [hq, hib0], Lib.hid (by rw [← hPQ.out]; simp), HQ, by omega, by rw [← Hsw.out]; exact hS⟩
            case measure => simp [intOf]; omega
    · have hd : X.drop k = [] := List.drop_of_length_le (by omega)
      have ht : X.take k = X := List.take_of_length_le (by omega)
      have hYX := hY.out
      rw [ht] at hYX
      rw [hd, List.nil_append] at hS
      have HYX := Lib.hid hYX
      have hge : ¬ (i : Int) < (b : Int) := by have := Hb.out; omega
      clear hi
      clear hY hYX hd ht
      go_wp2_with (first | ((with_reducible show wpList _ _ _ (⟨_, Op.load _ _, _, _, _, _⟩ :: _) _ _); (first | refine Gives.list (f_load hS rfl rfl (by rfl)) rfl ?_ | refine Gives.list (f_loadS hS rfl rfl (by rfl)) rfl ?_ | refine Gives.list (f_loadAt hS rfl rfl) rfl ?_ | refine Gives.list (f_loadAtS hS rfl rfl (by rfl)) rfl ?_ | refine Gives.list (f_loadAtF hS rfl rfl (by rfl)) rfl ?_); (simp only [Act.put, sA, sZ, sS])))
      (try simp only [Exit.inBlock, Exit.then])
      (first | refine bodyPost_ret (results_none rfl _ _ _) rfl ?_ | refine bodyPost_end (results_none rfl _ _ _) rfl ?_)
      exact ⟨rfl, Y, HYX.out, hs.out, by simpa only [List.append_assoc] using hS⟩
end Go.Proofs.YtldknaajnnohiaaDoor
