/- Stable sorting of an int slice of one's own: symMerge where one of the two rows has one cell. -/
import Derived.Test.YtldknaajnnohiaaDoorSho
import Derived.Test.YtldknaajnnohiaaDoorSrtI
section
namespace Go.Proofs.YtldknaajnnohiaaDoor
open Go.RowKit


theorem mid_words {i j S h : Nat} (hS : i + j = S) (hh : S / 2 = h) (hb : S ≤ 1000000000000) : IntKind.i64.wrap ((i : Int) + (j : Int)) = (S : Int) ∧ IntKind.u64.wrap (S : Int) = (S : Int) ∧ (S : Int).fdiv 2 = (h : Int) ∧ (S : Int) / 2 = (h : Int) ∧ IntKind.i64.wrap (h : Int) = (h : Int) := by
  refine ⟨by rw [IntWalk.i64_in _ (by omega)]; omega, ?_, ?_, by omega, IntWalk.i64_in _ (by omega)⟩
  · show (S : Int) % 2 ^ 64 = S
    omega
  · rw [Int.fdiv_eq_ediv_of_nonneg _ (by omega)]; omega
section
variable {lt : Int → Int → Bool}
theorem lt_le_lt (hpre : Pre (leOf lt)) {x y z : Int} (h1 : leOf lt x y) (h2 : lt y z = true) : lt x z = true := by
  cases h : lt x z
  · have h3 : leOf lt z x := h
    have h4 : leOf lt z y := hpre.trans h3 h1
    unfold leOf at h4; rw [h2] at h4; cases h4
  · rfl
theorem le_lt_lt (hpre : Pre (leOf lt)) {x y z : Int} (h1 : lt x y = true) (h2 : leOf lt y z) : lt x z = true := by
  cases h : lt x z
  · have h3 : leOf lt z x := h
    have h4 : leOf lt y x := hpre.trans h2 h3
    unfold leOf at h4; rw [h1] at h4; cases h4
  · rfl
theorem lt_le (hpre : Pre (leOf lt)) {x y : Int} (h : lt x y = true) : leOf lt x y := by
  rcases hpre.total x y with h1 | h1
  · exact h1
  · unfold leOf at h1; rw [h] at h1; cases h1
theorem get_app {pre L post : List Int} {a q : Nat} (ha : pre.length = a) (hq : q < L.length) : (pre ++ L ++ post)[a + q]? = some L[q] := by
  subst ha
  rw [List.append_assoc, List.getElem?_append_right (by omega), Nat.add_sub_cancel_left, List.getElem?_append_left hq, List.getElem?_eq_getElem hq]
/-- What stands when x has passed r cells of R. -/
def pasR (pre : List Int) (x : Int) (R post : List Int) (r : Nat) : List Int := pre ++ R.take r ++ x :: (R.drop r ++ post)
theorem pasR_len {pre R post : List Int} {x : Int} {r : Nat} : (pasR pre x R post r).length = pre.length + R.length + 1 + post.length := by
  simp only [pasR, List.length_append, List.length_cons, List.length_take, List.length_drop]; omega
theorem pasR_form {pre R post : List Int} {x : Int} {r : Nat} (h : r < R.length) : pasR pre x R post r = pre ++ R.take r ++ x :: R[r] :: (R.drop (r + 1) ++ post) := by
  unfold pasR; rw [List.drop_eq_getElem_cons h]; simp only [List.cons_append]
theorem pasR_a {pre R post : List Int} {x : Int} {r a : Nat} (ha : pre.length = a) (h : r ≤ R.length) : (pasR pre x R post r)[a + r]? = some x := getM_mid (by rw [List.length_append, List.length_take]; omega)
theorem pasR_b {pre R post : List Int} {x : Int} {r a : Nat} (ha : pre.length = a) (h : r < R.length) : (pasR pre x R post r)[a + (r + 1)]? = some R[r] := by
  rw [pasR_form h]
  have e : pre ++ R.take r ++ x :: R[r] :: (R.drop (r + 1) ++ post) = (pre ++ R.take r ++ [x]) ++ R[r] :: (R.drop (r + 1) ++ post) := by simp only [List.append_assoc, List.cons_append, List.nil_append]
  rw [e]
  exact getM_mid (by simp only [List.length_append, List.length_take, List.length_cons, List.length_nil]; omega)
theorem pasR_succ {pre R post : List Int} {x : Int} {r a : Nat} (ha : pre.length = a) (h : r < R.length) : ((pasR pre x R post r).set (a + r) R[r]).set (a + (r + 1)) x = pasR pre x R post (r + 1) := by
  rw [pasR_form h, setM_mid (by rw [List.length_append, List.length_take]; omega)]
  have e : pre ++ R.take r ++ R[r] :: R[r] :: (R.drop (r + 1) ++ post) = (pre ++ R.take r ++ [R[r]]) ++ R[r] :: (R.drop (r + 1) ++ post) := by simp only [List.append_assoc, List.cons_append, List.nil_append]
  rw [e, setM_mid (by simp only [List.length_append, List.length_take, List.length_cons, List.length_nil]; omega)]
  unfold pasR
  rw [List.take_succ_eq_append_getElem h]
  simp only [List.append_assoc, List.cons_append, List.nil_append]
end
set_option maxHeartbeats 8000000 in
set_option maxRecDepth 8000 in
theorem symL_w {w0 w : World} {Γ : List Fact} (g off N c bp bc : Nat) (D : Int → Prop) (lt : Int → Int → Bool) (hpre : Pre (leOf lt)) (hcmp : CmpOk w0 Γ g off N c bp bc D lt) (pre R post : List Int) (y : Int) (a m b : Nat) (hN : (pre ++ [y] ++ R ++ post).length = N) (hN2 : N ≤ 1000000000) (ha : pre.length = a) (hm : a + 1 = m) (hb : m + R.length = b) (hD : ∀ z ∈ y :: R, D z) (hR : Srt (leOf lt) R)
    (hS : Sat w0 w (.own Rep.int.rows [.slice (some ⟨g, off, none⟩) N c] (pre ++ [y] ++ R ++ post) :: Γ)) :
    Calls Tryd.prog 201 #[.slice (some ⟨g, off, none⟩) N c, .int .i64 (a : Int), .int .i64 (m : Int), .int .i64 (b : Int), .func (.func 164) #[] #[.pointer (some ⟨bp, 0, none⟩), .pointer (some ⟨bc, 0, none⟩)]] w fun e w' => e = .returned (.tuple #[]) ∧ ∃ Y, Y.Perm ([y] ++ R) ∧ Srt (leOf lt) Y ∧ Sat w0 w' (.own Rep.int.rows [.slice (some ⟨g, off, none⟩) N c] (pre ++ Y ++ post) :: Γ) := by
  have hbN : b ≤ N := by rw [← hN]; simp only [List.length_append, List.length_cons, List.length_nil]; omega
  have hw1 : IntKind.i64.wrap ((m : Int) - (a : Int)) = 1 := by rw [IntWalk.i64_in _ (by omega)]; omega
  have Dy : Hid (D y) := Lib.hid (hD y (by simp))
  have HDR : Hid (∀ z ∈ R, D z) := Lib.hid (fun z hz => hD z (by simp [hz]))
  have HR := Lib.hid hR
  have HN := Lib.hid hN
  have e0 : pre ++ [y] ++ R ++ post = pasR pre y R post 0 := by simp [pasR]
  have HGR : ∀ q (h : q < R.length), (pre ++ [y] ++ R ++ post)[m + q]? = some R[q] := fun q h => get_app (by rw [List.length_append, ha]; exact hm) h
  have Ha0 : (pre ++ [y] ++ R ++ post)[a]? = some y := by rw [e0]; exact pasR_a ha (Nat.zero_le _)
  obtain ⟨xs, hxs⟩ : ∃ xs, pre ++ [y] ++ R ++ post = xs := ⟨_, rfl⟩
  rw [hxs] at hS e0 HGR Ha0
  have HGR := Lib.hid HGR
  have Hb := Lib.hid Ha0
  have E0 := Lib.hid e0
  clear hD hR hN e0 Ha0 hxs
  obtain ⟨ib, hib0⟩ : ∃ i, a = i := ⟨_, rfl⟩
  rw [hib0] at Hb
  have hib : ib < N := by omega
  have hibI : (ib : Int) < (N : Int) := by omega
  go_enter Tryd.func201, Tryd.ntmps201
  go_wp2_with (first | ((with_reducible show wpList _ _ _ (⟨_, Op.load _ _, _, _, _, _⟩ :: _) _ _); (first | refine Gives.list (f_load hS rfl rfl (by rfl)) rfl ?_ | refine Gives.list (f_loadS hS rfl rfl (by rfl)) rfl ?_ | refine Gives.list (f_loadAt hS rfl rfl) rfl ?_ | refine Gives.list (f_loadAtS hS rfl rfl (by rfl)) rfl ?_ | refine Gives.list (f_loadAtF hS rfl rfl (by rfl)) rfl ?_); (simp only [Act.put, sA, sZ, sS])))
  go_loopw [10, 11] (fun iv jv wr => ∃ (s t i j : Nat), iv = .int .i64 (i : Int) ∧ jv = .int .i64 (j : Int) ∧ m + s = i ∧ m + t = j ∧ s ≤ t ∧ t ≤ R.length ∧ Hid (∀ q (h : q < R.length), q < s → lt R[q] y = true) ∧ Hid (∀ q (h : q < R.length), t ≤ q → lt R[q] y = false) ∧ Sat w0 wr (.own Rep.int.rows [.slice (some ⟨g, off, none⟩) N c] xs :: Γ)) (fun iv jv _ => (intOf jv).toNat - (intOf iv).toNat)
  case atStart => exact ⟨0, R.length, m, b, rfl, rfl, rfl, hb, Nat.zero_le _, Nat.le_refl _, Lib.hid (by omega), Lib.hid (by intro q h h2; omega), hS⟩
  case round =>
    clear hS
    obtain ⟨s, t, i, j, rfl, rfl, hi, hj, hst, htR, hlo, hhi, hS⟩ := hrel
    by_cases hlt : i < j
    · have hltI : (i : Int) < (j : Int) := by omega
      obtain ⟨S, hS0⟩ : ∃ S, i + j = S := ⟨_, rfl⟩
      obtain ⟨ia, hh⟩ : ∃ h, S / 2 = h := ⟨_, rfl⟩
      obtain ⟨m1, m2, m3, m4, m5⟩ := mid_words hS0 hh (by omega)
      obtain ⟨u, hu⟩ : ∃ u, m + u = ia := ⟨ia - m, by omega⟩
      have hus : s ≤ u ∧ u < t := by omega
      have huR : u < R.length := by omega
      have Ha : Hid (xs[ia]? = some R[u]) := Lib.hid (by rw [← hu]; exact HGR.out u huR)
      have Dx : Hid (D R[u]) := Lib.hid (HDR.out _ (List.getElem_mem huR))
      have hia : ia < N := by omega
      have hiaI : (ia : Int) < (N : Int) := by omega
      have hw5 : IntKind.i64.wrap ((ia : Int) + 1) = ((ia + 1 : Nat) : Int) := by rw [IntWalk.i64_in _ (by omega)]; omega
      cases hc : lt R[u] y
      · have Hhi : Hid (∀ q (h : q < R.length), u ≤ q → lt R[q] y = false) := Lib.hid (fun q h h2 => by
          cases h3 : lt R[q] y
          · rfl
          · rw [lt_le_lt hpre (srt_get hpre HR.out h2 h) h3] at hc; cases hc)
        have Hlt := Lib.hid hc
        clear hc
        generalize R[u] = x at Ha Dx Hlt
        go_wp2_with (first | ((with_reducible show Code.wp _ (Code.region 11 _ true) _ _ _); refine wp_region_drawn [(0, 0), (1, 0), (2, 0), (3, 0), (4, 0), (5, 0), (6, 0), (7, 0), (8, 0), (9, 1), (10, 0), (11, 0), (12, 0), (13, 1), (14, 0), (15, 3), (16, 0), (17, 3)] (by kernel_rfl) (by kernel_rfl) (by intro _ _ dq _ _ hq; cases dq <;> exact hq) ?_; replace hS := hS.mod (Mod.drew (Mod.refl _ _)); (generalize hwd : World.drew _ = wz at hS ⊢); clear hwd) | ((with_reducible show Code.wp _ (Code.region 17 _ true) _ _ _); refine wp_region_drawn [(0, 0), (1, 0), (2, 0), (3, 0), (4, 1), (5, 0), (6, 0), (7, 0), (8, 1), (9, 2), (10, 0), (11, 0)] (by kernel_rfl) (by kernel_rfl) (by intro _ _ dq _ _ hq; cases dq <;> exact hq) ?_; replace hS := hS.mod (Mod.drew (Mod.refl _ _)); (generalize hwd : World.drew _ = wz at hS ⊢); clear hwd) | ((with_reducible show Code.wp _ (Code.region 23 _ true) _ _ _); refine wp_region_drawn [(0, 0), (1, 0), (2, 0), (3, 0), (4, 0), (5, 0), (6, 0), (7, 0), (8, 0), (9, 1), (10, 0), (11, 0), (12, 0), (13, 1), (14, 0), (15, 3), (16, 0), (17, 3)] (by kernel_rfl) (by kernel_rfl) (by intro _ _ dq _ _ hq; cases dq <;> exact hq) ?_; replace hS := hS.mod (Mod.drew (Mod.refl _ _)); (generalize hwd : World.drew _ = wz at hS ⊢); clear hwd) | ((with_reducible show Code.wp _ (Code.region 35 _ true) _ _ _); refine wp_region_drawn [(0, 0), (1, 0), (2, 0), (3, 0), (4, 0), (5, 0), (6, 1), (7, 0), (8, 0), (9, 0), (10, 1), (11, 2), (12, 0), (13, 0)] (by kernel_rfl) (by kernel_rfl) (by intro _ _ dq _ _ hq; cases dq <;> exact hq) ?_; replace hS := hS.mod (Mod.drew (Mod.refl _ _)); (generalize hwd : World.drew _ = wz at hS ⊢); clear hwd) | ((with_reducible show Code.wp _ (Code.region 5 _ true) _ _ _); refine wp_region_drawn [(0, 0), (1, 0), (2, 0), (3, 0), (4, 1), (5, 0), (6, 0), (7, 0), (8, 1), (9, 2), (10, 0)] (by kernel_rfl) (by kernel_rfl) (by intro _ _ dq _ _ hq; cases dq <;> exact hq) ?_; replace hS := hS.mod (Mod.drew (Mod.refl _ _)); (generalize hwd : World.drew _ = wz at hS ⊢); clear hwd) | ((with_reducible show wpD _ _ _ ((_, 1) :: _) _ _); (first | refine D_load rfl rfl (fun x hx => f_loadRow (g := g) (off := off) (k := ia) (n := N) (c := c) (hS.mod hx) rfl rfl Ha.out) ?_ | refine D_load rfl rfl (fun x hx => f_loadRow (g := g) (off := off) (k := ib) (n := N) (c := c) (hS.mod hx) rfl rfl Hb.out) ?_); (first | show wpD _ _ _ _ (Act.put _ (some _) _) _ | show wpD _ _ _ _ (Act.put _ none _) _); (simp only [Act.put, sA, sZ, sS])) | ((with_reducible show wpD _ _ _ ((_, 2) :: _) _ _); (refine D_call (f := 164) (args := ?_) rfl rfl ?_ ?_); rotate_left 1; (show (Sem.run _ (execOp _ (Oper.mk _ _ _ _ _ _)) _) = _; go_simp; rfl); refine (hcmp _ _ hS x y Dx.out Dy.out).mono ?_; rintro e wy ⟨⟨r, rfl, hr⟩, hM⟩; (rw [Hlt.out] at hr); replace hS := hS.mod hM; refine ⟨_, rfl, hM, ?_⟩; clear hM; (first | show wpD _ _ _ _ (Act.put _ (some _) _) _ | show wpD _ _ _ _ (Act.put _ none _) _); (simp only [Act.put, sA, sZ, sS])) | ((with_reducible show wpD _ _ _ [] _ _); refine D_nil ?_) | ((with_reducible show wpD _ _ _ ((_, 0) :: _) _ _); (first | (refine D_skip rfl rfl ?_; (first | show wpD _ _ _ _ (Act.put _ (some _) _) _ | show wpD _ _ _ _ (Act.put _ none _) _); (simp only [Act.put, sA, sZ, sS])) | (refine D_pure (v := ?_) rfl rfl (fun wq => ?_) ?_; rotate_left 1; (show (Sem.run _ (execOp _ (Oper.mk _ _ _ _ _ _)) _) = _; go_simp; (try go_bits); with_reducible rfl); (first | show wpD _ _ _ _ (Act.put _ (some _) _) _ | show wpD _ _ _ _ (Act.put _ none _) _); (simp only [Act.put, sA, sZ, sS])))) | ((with_reducible show wpD _ _ _ ((_, 1) :: _) _ _); (first | (refine D_skip rfl rfl ?_; (first | show wpD _ _ _ _ (Act.put _ (some _) _) _ | show wpD _ _ _ _ (Act.put _ none _) _); (simp only [Act.put, sA, sZ, sS])) | ((first | refine D_load rfl rfl (fun x hx => f_load (hS.mod hx) rfl rfl (by rfl)) ?_ | refine D_load rfl rfl (fun x hx => f_loadS (hS.mod hx) rfl rfl (by rfl)) ?_ | refine D_load rfl rfl (fun x hx => f_loadAt (hS.mod hx) rfl rfl) ?_ | refine D_load rfl rfl (fun x hx => f_loadAtS (hS.mod hx) rfl rfl (by rfl)) ?_ | refine D_load rfl rfl (fun x hx => f_loadAtF (hS.mod hx) rfl rfl (by rfl)) ?_); (first | show wpD _ _ _ _ (Act.put _ (some _) _) _ | show wpD _ _ _ _ (Act.put _ none _) _); (simp only [Act.put, sA, sZ, sS])))) | ((with_reducible show wpD _ _ _ ((_, 2) :: _) _ _); (refine D_skip rfl rfl ?_; (first | show wpD _ _ _ _ (Act.put _ (some _) _) _ | show wpD _ _ _ _ (Act.put _ none _) _); (simp only [Act.put, sA, sZ, sS]))) | ((with_reducible show wpD _ _ _ ((_, 3) :: _) _ _); (refine D_skip rfl rfl ?_; (first | show wpD _ _ _ _ (Act.put _ (some _) _) _ | show wpD _ _ _ _ (Act.put _ none _) _); (simp only [Act.put, sA, sZ, sS]))) | ((with_reducible show wpList _ _ _ (⟨_, Op.load _ _, _, _, _, _⟩ :: _) _ _); (first | refine Gives.list (f_load hS rfl rfl (by rfl)) rfl ?_ | refine Gives.list (f_loadS hS rfl rfl (by rfl)) rfl ?_ | refine Gives.list (f_loadAt hS rfl rfl) rfl ?_ | refine Gives.list (f_loadAtS hS rfl rfl (by rfl)) rfl ?_ | refine Gives.list (f_loadAtF hS rfl rfl (by rfl)) rfl ?_); (simp only [Act.put, sA, sZ, sS])))
        go_roundw
        case rel => exact ⟨s, u, i, ia, rfl, rfl, hi, hu, hus.1, by omega, hlo, Hhi, hS⟩
        case measure => simp [intOf]; omega
      · have Hlo : Hid (∀ q (h : q < R.length), q < u + 1 → lt R[q] y = true) := Lib.hid (fun q h h2 => lt_le_lt hpre (srt_get hpre HR.out (i := q) (j := u) (by omega) huR) hc)
        have Hlt := Lib.hid hc
        clear hc
        generalize R[u] = x at Ha Dx Hlt
        go_wp2_with (first | ((with_reducible show Code.wp _ (Code.region 11 _ true) _ _ _); refine wp_region_drawn [(0, 0), (1, 0), (2, 0), (3, 0), (4, 0), (5, 0), (6, 0), (7, 0), (8, 0), (9, 1), (10, 0), (11, 0), (12, 0), (13, 1), (14, 0), (15, 3), (16, 0), (17, 3)] (by kernel_rfl) (by kernel_rfl) (by intro _ _ dq _ _ hq; cases dq <;> exact hq) ?_; replace hS := hS.mod (Mod.drew (Mod.refl _ _)); (generalize hwd : World.drew _ = wz at hS ⊢); clear hwd) | ((with_reducible show Code.wp _ (Code.region 17 _ true) _ _ _); refine wp_region_drawn [(0, 0), (1, 0), (2, 0), (3, 0), (4, 1), (5, 0), (6, 0), (7, 0), (8, 1), (9, 2), (10, 0), (11, 0)] (by kernel_rfl) (by kernel_rfl) (by intro _ _ dq _ _ hq; cases dq <;> exact hq) ?_; replace hS := hS.mod (Mod.drew (Mod.refl _ _)); (generalize hwd : World.drew _ = wz at hS ⊢); clear hwd) | ((with_reducible show Code.wp _ (Code.region 23 _ true) _ _ _); refine wp_region_drawn [(0, 0), (1, 0), (2, 0), (3, 0), (4, 0), (5, 0), (6, 0), (7, 0), (8, 0), (9, 1), (10, 0), (11, 0), (12, 0), (13, 1), (14, 0), (15, 3), (16, 0), (17, 3)] (by kernel_rfl) (by kernel_rfl) (by intro _ _ dq _ _ hq; cases dq <;> exact hq) ?_; replace hS := hS.mod (Mod.drew (Mod.refl _ _)); (generalize hwd : World.drew _ = wz at hS ⊢); clear hwd) | ((with_reducible show Code.wp _ (Code.region 35 _ true) _ _ _); refine wp_region_drawn [(0, 0), (1, 0), (2, 0), (3, 0), (4, 0), (5, 0), (6, 1), (7, 0), (8, 0), (9, 0), (10, 1), (11, 2), (12, 0), (13, 0)] (by kernel_rfl) (by kernel_rfl) (by intro _ _ dq _ _ hq; cases dq <;> exact hq) ?_; replace hS := hS.mod (Mod.drew (Mod.refl _ _)); (generalize hwd : World.drew _ = wz at hS ⊢); clear hwd) | ((with_reducible show Code.wp _ (Code.region 5 _ true) _ _ _); refine wp_region_drawn [(0, 0), (1, 0), (2, 0), (3, 0), (4, 1), (5, 0), (6, 0), (7, 0), (8, 1), (9, 2), (10, 0)] (by kernel_rfl) (by kernel_rfl) (by intro _ _ dq _ _ hq; cases dq <;> exact hq) ?_; replace hS := hS.mod (Mod.drew (Mod.refl _ _)); (generalize hwd : World.drew _ = wz at hS ⊢); clear hwd) | ((with_reducible show wpD _ _ _ ((_, 1) :: _) _ _); (first | refine D_load rfl rfl (fun x hx => f_loadRow (g := g) (off := off) (k := ia) (n := N) (c := c) (hS.mod hx) rfl rfl Ha.out) ?_ | refine D_load rfl rfl (fun x hx => f_loadRow (g := g) (off := off) (k := ib) (n := N) (c := c) (hS.mod hx) rfl rfl Hb.out) ?_); (first | show wpD _ _ _ _ (Act.put _ (some _) _) _ | show wpD _ _ _ _ (Act.put _ none _) _); (simp only [Act.put, sA, sZ, sS])) | ((with_reducible show wpD _ _ _ ((_, 2) :: _) _ _); (refine D_call (f := 164) (args := ?_) rfl rfl ?_ ?_); rotate_left 1; (show (Sem.run _ (execOp _ (Oper.mk _ _ _ _ _ _)) _) = _; go_simp; rfl); refine (hcmp _ _ hS x y Dx.out Dy.out).mono ?_; rintro e wy ⟨⟨r, rfl, hr⟩, hM⟩; (rw [Hlt.out] at hr); replace hS := hS.mod hM; refine ⟨_, rfl, hM, ?_⟩; clear hM; (first | show wpD _ _ _ _ (Act.put _ (some _) _) _ | show wpD _ _ _ _ (Act.put _ none _) _); (simp only [Act.put, sA, sZ, sS])) | ((with_reducible show wpD _ _ _ [] _ _); refine D_nil ?_) | ((with_reducible show wpD _ _ _ ((_, 0) :: _) _ _); (first | (refine D_skip rfl rfl ?_; (first | show wpD _ _ _ _ (Act.put _ (some _) _) _ | show wpD _ _ _ _ (Act.put _ none _) _); (simp only [Act.put, sA, sZ, sS])) | (refine D_pure (v := ?_) rfl rfl (fun wq => ?_) ?_; rotate_left 1; (show (Sem.run _ (execOp _ (Oper.mk _ _ _ _ _ _)) _) = _; go_simp; (try go_bits); with_reducible rfl); (first | show wpD _ _ _ _ (Act.put _ (some _) _) _ | show wpD _ _ _ _ (Act.put _ none _) _); (simp only [Act.put, sA, sZ, sS])))) | ((with_reducible show wpD _ _ _ ((_, 1) :: _) _ _); (first | (refine D_skip rfl rfl ?_; (first | show wpD _ _ _ _ (Act.put _ (some _) _) _ | show wpD _ _ _ _ (Act.put _ none _) _); (simp only [Act.put, sA, sZ, sS])) | ((first | refine D_load rfl rfl (fun x hx => f_load (hS.mod hx) rfl rfl (by rfl)) ?_ | refine D_load rfl rfl (fun x hx => f_loadS (hS.mod hx) rfl rfl (by rfl)) ?_ | refine D_load rfl rfl (fun x hx => f_loadAt (hS.mod hx) rfl rfl) ?_ | refine D_load rfl rfl (fun x hx => f_loadAtS (hS.mod hx) rfl rfl (by rfl)) ?_ | refine D_load rfl rfl (fun x hx => f_loadAtF (hS.mod hx) rfl rfl (by rfl)) ?_); (first | show wpD _ _ _ _ (Act.put _ (some _) _) _ | show wpD _ _ _ _ (Act.put _ none _) _); (simp only [Act.put, sA, sZ, sS])))) | ((with_reducible show wpD _ _ _ ((_, 2) :: _) _ _); (refine D_skip rfl rfl ?_; (first | show wpD _ _ _ _ (Act.put _ (some _) _) _ | show wpD _ _ _ _ (Act.put _ none _) _); (simp only [Act.put, sA, sZ, sS]))) | ((with_reducible show wpD _ _ _ ((_, 3) :: _) _ _); (refine D_skip rfl rfl ?_; (first | show wpD _ _ _ _ (Act.put _ (some _) _) _ | show wpD _ _ _ _ (Act.put _ none _) _); (simp only [Act.put, sA, sZ, sS]))) | ((with_reducible show wpList _ _ _ (⟨_, Op.load _ _, _, _, _, _⟩ :: _) _ _); (first | refine Gives.list (f_load hS rfl rfl (by rfl)) rfl ?_ | refine Gives.list (f_loadS hS rfl rfl (by rfl)) rfl ?_ | refine Gives.list (f_loadAt hS rfl rfl) rfl ?_ | refine Gives.list (f_loadAtS hS rfl rfl (by rfl)) rfl ?_ | refine Gives.list (f_loadAtF hS rfl rfl (by rfl)) rfl ?_); (simp only [Act.put, sA, sZ, sS])))
        go_roundw
        case rel => exact ⟨u + 1, t, ia + 1, j, by go_num, rfl, by omega, hj, by omega, htR, Hlo, hhi, hS⟩
        case measure => simp [intOf]; omega
    · obtain rfl : t = s := by omega
      have HY : Hid (Srt (leOf lt) (R.take t ++ y :: R.drop t)) := Lib.hid (insert_ok (by rw [List.take_append_drop]; exact HR.out)
        (fun z hz => by
          obtain ⟨q, hq, rfl⟩ := List.mem_iff_getElem.1 hz
          rw [List.length_take] at hq
          rw [List.getElem_take]
          exact lt_le hpre (hlo.out q (by omega) (by omega)))
        (fun z hz => by
          obtain ⟨q, hq, rfl⟩ := List.mem_iff_getElem.1 hz
          rw [List.length_drop] at hq
          rw [List.getElem_drop]
          exact hhi.out (t + q) (by omega) (by omega)))
      have HP : Hid ((R.take t ++ y :: R.drop t).Perm ([y] ++ R)) := Lib.hid (by
        refine (List.perm_middle).trans ?_
        rw [List.take_append_drop]
        exact List.Perm.refl _)
      have HE : Hid (pasR pre y R post t = pre ++ (R.take t ++ y :: R.drop t) ++ post) := Lib.hid (by simp only [pasR, List.append_assoc, List.cons_append])
      have hw6 : IntKind.i64.wrap ((i : Int) - 1) = ((i - 1 : Nat) : Int) := by rw [IntWalk.i64_in _ (by omega)]; omega
      rw [E0.out] at hS
      clear hlo hhi
      go_wp2_with (first | ((with_reducible show wpList _ _ _ (⟨_, Op.load _ _, _, _, _, _⟩ :: _) _ _); (first | refine Gives.list (f_load hS rfl rfl (by rfl)) rfl ?_ | refine Gives.list (f_loadS hS rfl rfl (by rfl)) rfl ?_ | refine Gives.list (f_loadAt hS rfl rfl) rfl ?_ | refine Gives.list (f_loadAtS hS rfl rfl (by rfl)) rfl ?_ | refine Gives.list (f_loadAtF hS rfl rfl (by rfl)) rfl ?_); (simp only [Act.put, sA, sZ, sS])))
      go_loopw [13] (fun kv wr => ∃ r k : Nat, kv = .int .i64 (k : Int) ∧ a + r = k ∧ r ≤ t ∧ Sat w0 wr (.own Rep.int.rows [.slice (some ⟨g, off, none⟩) N c] (pasR pre y R post r) :: Γ)) (fun kv _ => i - (intOf kv).toNat)
      case atStart => exact ⟨0, a, by rw [hib0], rfl, Nat.zero_le _, hS⟩
      case round =>
        clear hS
        obtain ⟨r, k, rfl, hk, hrt, hS⟩ := hrel
        by_cases hlt2 : r < t
        · have hkI : (k : Int) < ((i - 1 : Nat) : Int) := by omega
          have hrR : r < R.length := by omega
          have Hx := pasR_a (x := y) (R := R) (post := post) ha (Nat.le_of_lt hrR)
          have Hy := pasR_b (x := y) (post := post) ha hrR
          have Hs := pasR_succ (x := y) (post := post) ha hrR
          obtain ⟨ia, hia0⟩ : ∃ i, a + r = i := ⟨_, rfl⟩
          obtain ⟨ib, hib1⟩ : ∃ i, a + (r + 1) = i := ⟨_, rfl⟩
          rw [hia0] at Hx Hs
          rw [hib1] at Hy Hs
          have hia : ia < N := by omega
          have hib : ib < N := by omega
          have hiaI : (ia : Int) < (N : Int) := by omega
          have hibI : (ib : Int) < (N : Int) := by omega
          obtain rfl : ia = k := by omega
          have hw7 : IntKind.i64.wrap ((ia : Int) + 1) = (ib : Int) := by rw [IntWalk.i64_in _ (by omega)]; omega
          obtain ⟨⟨_, _, _, _, _, Ix⟩, _⟩ := hS.rowCell (e := Rep.int) 0 rfl rfl Hx
          obtain ⟨⟨_, _, _, _, _, Iy⟩, _⟩ := hS.rowCell (e := Rep.int) 0 rfl rfl Hy
          obtain ⟨z, hz⟩ : ∃ z, R[r] = z := ⟨_, rfl⟩
          obtain ⟨Y, hY⟩ : ∃ Y, pasR pre y R post r = Y := ⟨_, rfl⟩
          rw [hz] at Hy Hs Iy
          rw [hY] at Hx Hy Hs hS
          have Ix := Lib.hid Ix
          have Iy := Lib.hid Iy
          have Ha := Lib.hid Hx
          have Hb := Lib.hid Hy
          have Hs := Lib.hid Hs
          clear hz hY Hx Hy
          go_wp2_with (first | ((with_reducible show Code.wp _ (Code.region 11 _ true) _ _ _); refine wp_region_drawn [(0, 0), (1, 0), (2, 0), (3, 0), (4, 0), (5, 0), (6, 0), (7, 0), (8, 0), (9, 1), (10, 0), (11, 0), (12, 0), (13, 1), (14, 0), (15, 3), (16, 0), (17, 3)] (by kernel_rfl) (by kernel_rfl) (by intro _ _ dq _ _ hq; cases dq <;> exact hq) ?_; replace hS := hS.mod (Mod.drew (Mod.refl _ _)); (generalize hwd : World.drew _ = wz at hS ⊢); clear hwd) | ((with_reducible show Code.wp _ (Code.region 17 _ true) _ _ _); refine wp_region_drawn [(0, 0), (1, 0), (2, 0), (3, 0), (4, 1), (5, 0), (6, 0), (7, 0), (8, 1), (9, 2), (10, 0), (11, 0)] (by kernel_rfl) (by kernel_rfl) (by intro _ _ dq _ _ hq; cases dq <;> exact hq) ?_; replace hS := hS.mod (Mod.drew (Mod.refl _ _)); (generalize hwd : World.drew _ = wz at hS ⊢); clear hwd) | ((with_reducible show Code.wp _ (Code.region 23 _ true) _ _ _); refine wp_region_drawn [(0, 0), (1, 0), (2, 0), (3, 0), (4, 0), (5, 0), (6, 0), (7, 0), (8, 0), (9, 1), (10, 0), (11, 0), (12, 0), (13, 1), (14, 0), (15, 3), (16, 0), (17, 3)] (by kernel_rfl) (by kernel_rfl) (by intro _ _ dq _ _ hq; cases dq <;> exact hq) ?_; replace hS := hS.mod (Mod.drew (Mod.refl _ _)); (generalize hwd : World.drew _ = wz at hS ⊢); clear hwd) | ((with_reducible show Code.wp _ (Code.region 35 _ true) _ _ _); refine wp_region_drawn [(0, 0), (1, 0), (2, 0), (3, 0), (4, 0), (5, 0), (6, 1), (7, 0), (8, 0), (9, 0), (10, 1), (11, 2), (12, 0), (13, 0)] (by kernel_rfl) (by kernel_rfl) (by intro _ _ dq _ _ hq; cases dq <;> exact hq) ?_; replace hS := hS.mod (Mod.drew (Mod.refl _ _)); (generalize hwd : World.drew _ = wz at hS ⊢); clear hwd) | ((with_reducible show Code.wp _ (Code.region 5 _ true) _ _ _); refine wp_region_drawn [(0, 0), (1, 0), (2, 0), (3, 0), (4, 1), (5, 0), (6, 0), (7, 0), (8, 1), (9, 2), (10, 0)] (by kernel_rfl) (by kernel_rfl) (by intro _ _ dq _ _ hq; cases dq <;> exact hq) ?_; replace hS := hS.mod (Mod.drew (Mod.refl _ _)); (generalize hwd : World.drew _ = wz at hS ⊢); clear hwd) | ((with_reducible show wpD _ _ _ ((_, 1) :: _) _ _); (first | refine D_load rfl rfl (fun x hx => f_loadRow (g := g) (off := off) (k := ia) (n := N) (c := c) (hS.mod hx) rfl rfl Ha.out) ?_ | refine D_load rfl rfl (fun x hx => f_loadRow (g := g) (off := off) (k := ib) (n := N) (c := c) (hS.mod hx) rfl rfl Hb.out) ?_); (first | show wpD _ _ _ _ (Act.put _ (some _) _) _ | show wpD _ _ _ _ (Act.put _ none _) _); (simp only [Act.put, sA, sZ, sS])) | ((with_reducible show wpD _ _ _ ((_, 3) :: _) _ _); (first | refine D_loud rfl rfl (does_storeEl (e := Rep.int) (k := ia) 0 (hS.int Iy.out) rfl rfl rfl rfl rfl rfl hia) ?_ | refine D_loud rfl rfl (does_storeEl (e := Rep.int) (k := ib) 0 (hS.int Ix.out) rfl rfl rfl rfl rfl rfl hib) ?_); clear hS; rintro _ wx ⟨rfl, hS⟩; (simp only [sZ, sS] at hS); (first | show wpD _ _ _ _ (Act.put _ (some _) _) _ | show wpD _ _ _ _ (Act.put _ none _) _); (simp only [Act.put, sA, sZ, sS])) | ((with_reducible show wpD _ _ _ [] _ _); refine D_nil ?_) | ((with_reducible show wpD _ _ _ ((_, 0) :: _) _ _); (first | (refine D_skip rfl rfl ?_; (first | show wpD _ _ _ _ (Act.put _ (some _) _) _ | show wpD _ _ _ _ (Act.put _ none _) _); (simp only [Act.put, sA, sZ, sS])) | (refine D_pure (v := ?_) rfl rfl (fun wq => ?_) ?_; rotate_left 1; (show (Sem.run _ (execOp _ (Oper.mk _ _ _ _ _ _)) _) = _; go_simp; (try go_bits); with_reducible rfl); (first | show wpD _ _ _ _ (Act.put _ (some _) _) _ | show wpD _ _ _ _ (Act.put _ none _) _); (simp only [Act.put, sA, sZ, sS])))) | ((with_reducible show wpD _ _ _ ((_, 1) :: _) _ _); (first | (refine D_skip rfl rfl ?_; (first | show wpD _ _ _ _ (Act.put _ (some _) _) _ | show wpD _ _ _ _ (Act.put _ none _) _); (simp only [Act.put, sA, sZ, sS])) | ((first | refine D_load rfl rfl (fun x hx => f_load (hS.mod hx) rfl rfl (by rfl)) ?_ | refine D_load rfl rfl (fun x hx => f_loadS (hS.mod hx) rfl rfl (by rfl)) ?_ | refine D_load rfl rfl (fun x hx => f_loadAt (hS.mod hx) rfl rfl) ?_ | refine D_load rfl rfl (fun x hx => f_loadAtS (hS.mod hx) rfl rfl (by rfl)) ?_ | refine D_load rfl rfl (fun x hx => f_loadAtF (hS.mod hx) rfl rfl (by rfl)) ?_); (first | show wpD _ _ _ _ (Act.put _ (some _) _) _ | show wpD _ _ _ _ (Act.put _ none _) _); (simp only [Act.put, sA, sZ, sS])))) | ((with_reducible show wpD _ _ _ ((_, 2) :: _) _ _); (refine D_skip rfl rfl ?_; (first | show wpD _ _ _ _ (Act.put _ (some _) _) _ | show wpD _ _ _ _ (Act.put _ none _) _); (simp only [Act.put, sA, sZ, sS]))) | ((with_reducible show wpD _ _ _ ((_, 3) :: _) _ _); (refine D_skip rfl rfl ?_; (first | show wpD _ _ _ _ (Act.put _ (some _) _) _ | show wpD _ _ _ _ (Act.put _ none _) _); (simp only [Act.put, sA, sZ, sS]))) | ((with_reducible show wpList _ _ _ (⟨_, Op.load _ _, _, _, _, _⟩ :: _) _ _); (first | refine Gives.list (f_load hS rfl rfl (by rfl)) rfl ?_ | refine Gives.list (f_loadS hS rfl rfl (by rfl)) rfl ?_ | refine Gives.list (f_loadAt hS rfl rfl) rfl ?_ | refine Gives.list (f_loadAtS hS rfl rfl (by rfl)) rfl ?_ | refine Gives.list (f_loadAtF hS rfl rfl (by rfl)) rfl ?_); (simp only [Act.put, sA, sZ, sS])))
          go_roundw
          case rel => exact ⟨r + 1, ib, by go_num, by omega, hlt2, by rw [← Hs.out]; exact hS⟩
          case measure => simp [intOf]; omega
        · obtain rfl : r = t := by omega
          have hkI : ¬ (k : Int) < ((i - 1 : Nat) : Int) := by omega
          rw [HE.out] at hS
          go_wp2_with (first | ((with_reducible show wpList _ _ _ (⟨_, Op.load _ _, _, _, _, _⟩ :: _) _ _); (first | refine Gives.list (f_load hS rfl rfl (by rfl)) rfl ?_ | refine Gives.list (f_loadS hS rfl rfl (by rfl)) rfl ?_ | refine Gives.list (f_loadAt hS rfl rfl) rfl ?_ | refine Gives.list (f_loadAtS hS rfl rfl (by rfl)) rfl ?_ | refine Gives.list (f_loadAtF hS rfl rfl (by rfl)) rfl ?_); (simp only [Act.put, sA, sZ, sS])))
          (try simp only [Exit.inBlock, Exit.then])
          (first | refine bodyPost_ret (results_none rfl _ _ _) rfl ?_ | refine bodyPost_end (results_none rfl _ _ _) rfl ?_)
          exact ⟨rfl, _, HP.out, HY.out, by simpa only [List.append_assoc, List.cons_append] using hS⟩
end Go.Proofs.YtldknaajnnohiaaDoor
end

section
namespace Go.Proofs.YtldknaajnnohiaaDoor
open Go.RowKit


section
theorem pasR_c {pre R post : List Int} {x : Int} {r a : Nat} (ha : pre.length = a) (h : r < R.length) : (pasR pre x R post (r + 1))[a + r]? = some R[r] := by
  unfold pasR
  rw [List.take_succ_eq_append_getElem h]
  have e : pre ++ (R.take r ++ [R[r]]) ++ x :: (R.drop (r + 1) ++ post) = (pre ++ R.take r) ++ R[r] :: (x :: (R.drop (r + 1) ++ post)) := by simp only [List.append_assoc, List.cons_append, List.nil_append]
  rw [e]
  exact getM_mid (by rw [List.length_append, List.length_take]; omega)
theorem pasR_pred {pre R post : List Int} {x : Int} {r a : Nat} (ha : pre.length = a) (h : r < R.length) : ((pasR pre x R post (r + 1)).set (a + (r + 1)) R[r]).set (a + r) x = pasR pre x R post r := by
  have h1 := pasR_succ (x := x) (post := post) ha h
  rw [← h1]
  apply List.ext_getElem?
  intro i
  have hl : (pasR pre x R post r).length = pre.length + R.length + 1 + post.length := pasR_len
  have hA := pasR_a (x := x) (R := R) (post := post) ha (Nat.le_of_lt h)
  have hB := pasR_b (x := x) (post := post) ha h
  by_cases h2 : i = a + r
  · subst h2
    rw [List.getElem?_set_self (by simp only [List.length_set]; omega), hA]
  · rw [List.getElem?_set_ne (by omega)]
    by_cases h3 : i = a + (r + 1)
    · subst h3
      rw [List.getElem?_set_self (by simp only [List.length_set]; omega), hB]
    · rw [List.getElem?_set_ne (by omega), List.getElem?_set_ne (by omega), List.getElem?_set_ne (by omega)]
end
set_option maxHeartbeats 8000000 in
set_option maxRecDepth 8000 in
theorem symR_w {w0 w : World} {Γ : List Fact} (g off N c bp bc : Nat) (D : Int → Prop) (lt : Int → Int → Bool) (hpre : Pre (leOf lt)) (hcmp : CmpOk w0 Γ g off N c bp bc D lt) (pre L post : List Int) (y : Int) (a m b : Nat) (hN : (pre ++ L ++ [y] ++ post).length = N) (hN2 : N ≤ 1000000000) (ha : pre.length = a) (hm : a + L.length = m) (hb : m + 1 = b) (hL2 : 2 ≤ L.length) (hD : ∀ z ∈ y :: L, D z) (hR : Srt (leOf lt) L)
    (hS : Sat w0 w (.own Rep.int.rows [.slice (some ⟨g, off, none⟩) N c] (pre ++ L ++ [y] ++ post) :: Γ)) :
    Calls Tryd.prog 201 #[.slice (some ⟨g, off, none⟩) N c, .int .i64 (a : Int), .int .i64 (m : Int), .int .i64 (b : Int), .func (.func 164) #[] #[.pointer (some ⟨bp, 0, none⟩), .pointer (some ⟨bc, 0, none⟩)]] w fun e w' => e = .returned (.tuple #[]) ∧ ∃ Y, Y.Perm (L ++ [y]) ∧ Srt (leOf lt) Y ∧ Sat w0 w' (.own Rep.int.rows [.slice (some ⟨g, off, none⟩) N c] (pre ++ Y ++ post) :: Γ) := by
  have hbN : b ≤ N := by rw [← hN]; simp only [List.length_append, List.length_cons, List.length_nil]; omega
  have hw1 : IntKind.i64.wrap ((m : Int) - (a : Int)) = (L.length : Int) := by rw [IntWalk.i64_in _ (by omega)]; omega
  have hne1 : ((L.length : Int) == 1) = false := by rw [beq_eq_false_iff_ne]; omega
  have hw2 : IntKind.i64.wrap ((b : Int) - (m : Int)) = 1 := by rw [IntWalk.i64_in _ (by omega)]; omega
  have Dy : Hid (D y) := Lib.hid (hD y (by simp))
  have HDR : Hid (∀ z ∈ L, D z) := Lib.hid (fun z hz => hD z (by simp [hz]))
  have HR := Lib.hid hR
  have HN := Lib.hid hN
  have e0 : pre ++ L ++ [y] ++ post = pasR pre y L post L.length := by simp [pasR]
  have HGR : ∀ q (h : q < L.length), (pre ++ L ++ [y] ++ post)[a + q]? = some L[q] := fun q h => by rw [List.append_assoc (pre ++ L)]; exact get_app ha h
  have Ha0 : (pre ++ L ++ [y] ++ post)[m]? = some y := by rw [e0, ← hm]; exact pasR_a ha (Nat.le_refl _)
  obtain ⟨xs, hxs⟩ : ∃ xs, pre ++ L ++ [y] ++ post = xs := ⟨_, rfl⟩
  rw [hxs] at hS e0 HGR Ha0
  have HGR := Lib.hid HGR
  have Hb := Lib.hid Ha0
  have E0 := Lib.hid e0
  clear hD hR hN e0 Ha0 hxs
  obtain ⟨ib, hib0⟩ : ∃ i, m = i := ⟨_, rfl⟩
  rw [hib0] at Hb
  have hib : ib < N := by omega
  have hibI : (ib : Int) < (N : Int) := by omega
  go_enter Tryd.func201, Tryd.ntmps201
  go_wp2_with (first | ((with_reducible show wpList _ _ _ (⟨_, Op.load _ _, _, _, _, _⟩ :: _) _ _); (first | refine Gives.list (f_load hS rfl rfl (by rfl)) rfl ?_ | refine Gives.list (f_loadS hS rfl rfl (by rfl)) rfl ?_ | refine Gives.list (f_loadAt hS rfl rfl) rfl ?_ | refine Gives.list (f_loadAtS hS rfl rfl (by rfl)) rfl ?_ | refine Gives.list (f_loadAtF hS rfl rfl (by rfl)) rfl ?_); (simp only [Act.put, sA, sZ, sS])))
  go_loopw [14, 15] (fun iv jv wr => ∃ (s t i j : Nat), iv = .int .i64 (i : Int) ∧ jv = .int .i64 (j : Int) ∧ a + s = i ∧ a + t = j ∧ s ≤ t ∧ t ≤ L.length ∧ Hid (∀ q (h : q < L.length), q < s → lt y L[q] = false) ∧ Hid (∀ q (h : q < L.length), t ≤ q → lt y L[q] = true) ∧ Sat w0 wr (.own Rep.int.rows [.slice (some ⟨g, off, none⟩) N c] xs :: Γ)) (fun iv jv _ => (intOf jv).toNat - (intOf iv).toNat)
  case atStart => exact ⟨0, L.length, a, m, rfl, by rw [hib0], rfl, hm, Nat.zero_le _, Nat.le_refl _, Lib.hid (by omega), Lib.hid (by intro q h h2; omega), hS⟩
  case round =>
    clear hS
    obtain ⟨s, t, i, j, rfl, rfl, hi, hj, hst, htR, hlo, hhi, hS⟩ := hrel
    by_cases hlt : i < j
    · have hltI : (i : Int) < (j : Int) := by omega
      obtain ⟨S, hS0⟩ : ∃ S, i + j = S := ⟨_, rfl⟩
      obtain ⟨ia, hh⟩ : ∃ h, S / 2 = h := ⟨_, rfl⟩
      obtain ⟨m1, m2, m3, m4, m5⟩ := mid_words hS0 hh (by omega)
      obtain ⟨u, hu⟩ : ∃ u, a + u = ia := ⟨ia - a, by omega⟩
      have hus : s ≤ u ∧ u < t := by omega
      have huR : u < L.length := by omega
      have Ha : Hid (xs[ia]? = some L[u]) := Lib.hid (by rw [← hu]; exact HGR.out u huR)
      have Dx : Hid (D L[u]) := Lib.hid (HDR.out _ (List.getElem_mem huR))
      have hia : ia < N := by omega
      have hiaI : (ia : Int) < (N : Int) := by omega
      have hw5 : IntKind.i64.wrap ((ia : Int) + 1) = ((ia + 1 : Nat) : Int) := by rw [IntWalk.i64_in _ (by omega)]; omega
      cases hc : lt y L[u]
      · have Hlo : Hid (∀ q (h : q < L.length), q < u + 1 → lt y L[q] = false) := Lib.hid (fun q h h2 => hpre.trans (srt_get hpre HR.out (i := q) (j := u) (by omega) huR) (show leOf lt L[u] y from hc))
        have Hlt := Lib.hid hc
        clear hc
        generalize L[u] = z at Ha Dx Hlt
        have Dz := Dx
        have Hz := Ha
        go_wp2_with (first | ((with_reducible show Code.wp _ (Code.region 11 _ true) _ _ _); refine wp_region_drawn [(0, 0), (1, 0), (2, 0), (3, 0), (4, 0), (5, 0), (6, 0), (7, 0), (8, 0), (9, 1), (10, 0), (11, 0), (12, 0), (13, 1), (14, 0), (15, 3), (16, 0), (17, 3)] (by kernel_rfl) (by kernel_rfl) (by intro _ _ dq _ _ hq; cases dq <;> exact hq) ?_; replace hS := hS.mod (Mod.drew (Mod.refl _ _)); (generalize hwd : World.drew _ = wz at hS ⊢); clear hwd) | ((with_reducible show Code.wp _ (Code.region 17 _ true) _ _ _); refine wp_region_drawn [(0, 0), (1, 0), (2, 0), (3, 0), (4, 1), (5, 0), (6, 0), (7, 0), (8, 1), (9, 2), (10, 0), (11, 0)] (by kernel_rfl) (by kernel_rfl) (by intro _ _ dq _ _ hq; cases dq <;> exact hq) ?_; replace hS := hS.mod (Mod.drew (Mod.refl _ _)); (generalize hwd : World.drew _ = wz at hS ⊢); clear hwd) | ((with_reducible show Code.wp _ (Code.region 23 _ true) _ _ _); refine wp_region_drawn [(0, 0), (1, 0), (2, 0), (3, 0), (4, 0), (5, 0), (6, 0), (7, 0), (8, 0), (9, 1), (10, 0), (11, 0), (12, 0), (13, 1), (14, 0), (15, 3), (16, 0), (17, 3)] (by kernel_rfl) (by kernel_rfl) (by intro _ _ dq _ _ hq; cases dq <;> exact hq) ?_; replace hS := hS.mod (Mod.drew (Mod.refl _ _)); (generalize hwd : World.drew _ = wz at hS ⊢); clear hwd) | ((with_reducible show Code.wp _ (Code.region 35 _ true) _ _ _); refine wp_region_drawn [(0, 0), (1, 0), (2, 0), (3, 0), (4, 0), (5, 0), (6, 1), (7, 0), (8, 0), (9, 0), (10, 1), (11, 2), (12, 0), (13, 0)] (by kernel_rfl) (by kernel_rfl) (by intro _ _ dq _ _ hq; cases dq <;> exact hq) ?_; replace hS := hS.mod (Mod.drew (Mod.refl _ _)); (generalize hwd : World.drew _ = wz at hS ⊢); clear hwd) | ((with_reducible show Code.wp _ (Code.region 5 _ true) _ _ _); refine wp_region_drawn [(0, 0), (1, 0), (2, 0), (3, 0), (4, 1), (5, 0), (6, 0), (7, 0), (8, 1), (9, 2), (10, 0)] (by kernel_rfl) (by kernel_rfl) (by intro _ _ dq _ _ hq; cases dq <;> exact hq) ?_; replace hS := hS.mod (Mod.drew (Mod.refl _ _)); (generalize hwd : World.drew _ = wz at hS ⊢); clear hwd) | ((with_reducible show wpD _ _ _ ((_, 1) :: _) _ _); (first | refine D_load rfl rfl (fun x hx => f_loadRow (g := g) (off := off) (k := ia) (n := N) (c := c) (hS.mod hx) rfl rfl Ha.out) ?_ | refine D_load rfl rfl (fun x hx => f_loadRow (g := g) (off := off) (k := ib) (n := N) (c := c) (hS.mod hx) rfl rfl Hb.out) ?_); (first | show wpD _ _ _ _ (Act.put _ (some _) _) _ | show wpD _ _ _ _ (Act.put _ none _) _); (simp only [Act.put, sA, sZ, sS])) | ((with_reducible show wpD _ _ _ ((_, 2) :: _) _ _); (refine D_call (f := 164) (args := ?_) rfl rfl ?_ ?_); rotate_left 1; (show (Sem.run _ (execOp _ (Oper.mk _ _ _ _ _ _)) _) = _; go_simp; rfl); refine (hcmp _ _ hS y z Dy.out Dz.out).mono ?_; rintro e wy ⟨⟨r, rfl, hr⟩, hM⟩; (rw [Hlt.out] at hr); replace hS := hS.mod hM; refine ⟨_, rfl, hM, ?_⟩; clear hM; (first | show wpD _ _ _ _ (Act.put _ (some _) _) _ | show wpD _ _ _ _ (Act.put _ none _) _); (simp only [Act.put, sA, sZ, sS])) | ((with_reducible show wpD _ _ _ [] _ _); refine D_nil ?_) | ((with_reducible show wpD _ _ _ ((_, 0) :: _) _ _); (first | (refine D_skip rfl rfl ?_; (first | show wpD _ _ _ _ (Act.put _ (some _) _) _ | show wpD _ _ _ _ (Act.put _ none _) _); (simp only [Act.put, sA, sZ, sS])) | (refine D_pure (v := ?_) rfl rfl (fun wq => ?_) ?_; rotate_left 1; (show (Sem.run _ (execOp _ (Oper.mk _ _ _ _ _ _)) _) = _; go_simp; (try go_bits); with_reducible rfl); (first | show wpD _ _ _ _ (Act.put _ (some _) _) _ | show wpD _ _ _ _ (Act.put _ none _) _); (simp only [Act.put, sA, sZ, sS])))) | ((with_reducible show wpD _ _ _ ((_, 1) :: _) _ _); (first | (refine D_skip rfl rfl ?_; (first | show wpD _ _ _ _ (Act.put _ (some _) _) _ | show wpD _ _ _ _ (Act.put _ none _) _); (simp only [Act.put, sA, sZ, sS])) | ((first | refine D_load rfl rfl (fun x hx => f_load (hS.mod hx) rfl rfl (by rfl)) ?_ | refine D_load rfl rfl (fun x hx => f_loadS (hS.mod hx) rfl rfl (by rfl)) ?_ | refine D_load rfl rfl (fun x hx => f_loadAt (hS.mod hx) rfl rfl) ?_ | refine D_load rfl rfl (fun x hx => f_loadAtS (hS.mod hx) rfl rfl (by rfl)) ?_ | refine D_load rfl rfl (fun x hx => f_loadAtF (hS.mod hx) rfl rfl (by rfl)) ?_); (first | show wpD _ _ _ _ (Act.put _ (some _) _) _ | show wpD _ _ _ _ (Act.put _ none _) _); (simp only [Act.put, sA, sZ, sS])))) | ((with_reducible show wpD _ _ _ ((_, 2) :: _) _ _); (refine D_skip rfl rfl ?_; (first | show wpD _ _ _ _ (Act.put _ (some _) _) _ | show wpD _ _ _ _ (Act.put _ none _) _); (simp only [Act.put, sA, sZ, sS]))) | ((with_reducible show wpD _ _ _ ((_, 3) :: _) _ _); (refine D_skip rfl rfl ?_; (first | show wpD _ _ _ _ (Act.put _ (some _) _) _ | show wpD _ _ _ _ (Act.put _ none _) _); (simp only [Act.put, sA, sZ, sS]))) | ((with_reducible show wpList _ _ _ (⟨_, Op.load _ _, _, _, _, _⟩ :: _) _ _); (first | refine Gives.list (f_load hS rfl rfl (by rfl)) rfl ?_ | refine Gives.list (f_loadS hS rfl rfl (by rfl)) rfl ?_ | refine Gives.list (f_loadAt hS rfl rfl) rfl ?_ | refine Gives.list (f_loadAtS hS rfl rfl (by rfl)) rfl ?_ | refine Gives.list (f_loadAtF hS rfl rfl (by rfl)) rfl ?_); (simp only [Act.put, sA, sZ, sS])))
        go_roundw
        case rel => exact ⟨u + 1, t, ia + 1, j, by go_num, rfl, by omega, hj, by omega, htR, Hlo, hhi, hS⟩
        case measure => simp [intOf]; omega
      · have Hhi : Hid (∀ q (h : q < L.length), u ≤ q → lt y L[q] = true) := Lib.hid (fun q h h2 => le_lt_lt hpre hc (srt_get hpre HR.out h2 h))
        have Hlt := Lib.hid hc
        clear hc
        generalize L[u] = z at Ha Dx Hlt
        have Dz := Dx
        go_wp2_with (first | ((with_reducible show Code.wp _ (Code.region 11 _ true) _ _ _); refine wp_region_drawn [(0, 0), (1, 0), (2, 0), (3, 0), (4, 0), (5, 0), (6, 0), (7, 0), (8, 0), (9, 1), (10, 0), (11, 0), (12, 0), (13, 1), (14, 0), (15, 3), (16, 0), (17, 3)] (by kernel_rfl) (by kernel_rfl) (by intro _ _ dq _ _ hq; cases dq <;> exact hq) ?_; replace hS := hS.mod (Mod.drew (Mod.refl _ _)); (generalize hwd : World.drew _ = wz at hS ⊢); clear hwd) | ((with_reducible show Code.wp _ (Code.region 17 _ true) _ _ _); refine wp_region_drawn [(0, 0), (1, 0), (2, 0), (3, 0), (4, 1), (5, 0), (6, 0), (7, 0), (8, 1), (9, 2), (10, 0), (11, 0)] (by kernel_rfl) (by kernel_rfl) (by intro _ _ dq _ _ hq; cases dq <;> exact hq) ?_; replace hS := hS.mod (Mod.drew (Mod.refl _ _)); (generalize hwd : World.drew _ = wz at hS ⊢); clear hwd) | ((with_reducible show Code.wp _ (Code.region 23 _ true) _ _ _); refine wp_region_drawn [(0, 0), (1, 0), (2, 0), (3, 0), (4, 0), (5, 0), (6, 0), (7, 0), (8, 0), (9, 1), (10, 0), (11, 0), (12, 0), (13, 1), (14, 0), (15, 3), (16, 0), (17, 3)] (by kernel_rfl) (by kernel_rfl) (by intro _ _ dq _ _ hq; cases dq <;> exact hq) ?_; replace hS := hS.mod (Mod.drew (Mod.refl _ _)); (generalize hwd : World.drew _ = wz at hS ⊢); clear hwd) | ((with_reducible show Code.wp _ (Code.region 35 _ true) _ _ _); refine wp_region_drawn [(0, 0), (1, 0), (2, 0), (3, 0), (4, 0), (5, 0), (6, 1), (7, 0), (8, 0), (9, 0), (10, 1), (11, 2), (12, 0), (13, 0)] (by kernel_rfl) (by kernel_rfl) (by intro _ _ dq _ _ hq; cases dq <;> exact hq) ?_; replace hS := hS.mod (Mod.drew (Mod.refl _ _)); (generalize hwd : World.drew _ = wz at hS ⊢); clear hwd) | ((with_reducible show Code.wp _ (Code.region 5 _ true) _ _ _); refine wp_region_drawn [(0, 0), (1, 0), (2, 0), (3, 0), (4, 1), (5, 0), (6, 0), (7, 0), (8, 1), (9, 2), (10, 0)] (by kernel_rfl) (by kernel_rfl) (by intro _ _ dq _ _ hq; cases dq <;> exact hq) ?_; replace hS := hS.mod (Mod.drew (Mod.refl _ _)); (generalize hwd : World.drew _ = wz at hS ⊢); clear hwd) | ((with_reducible show wpD _ _ _ ((_, 1) :: _) _ _); (first | refine D_load rfl rfl (fun x hx => f_loadRow (g := g) (off := off) (k := ia) (n := N) (c := c) (hS.mod hx) rfl rfl Ha.out) ?_ | refine D_load rfl rfl (fun x hx => f_loadRow (g := g) (off := off) (k := ib) (n := N) (c := c) (hS.mod hx) rfl rfl Hb.out) ?_); (first | show wpD _ _ _ _ (Act.put _ (some _) _) _ | show wpD _ _ _ _ (Act.put _ none _) _); (simp only [Act.put, sA, sZ, sS])) | ((with_reducible show wpD _ _ _ ((_, 2) :: _) _ _); (refine D_call (f := 164) (args := ?_) rfl rfl ?_ ?_); rotate_left 1; (show (Sem.run _ (execOp _ (Oper.mk _ _ _ _ _ _)) _) = _; go_simp; rfl); refine (hcmp _ _ hS y z Dy.out Dz.out).mono ?_; rintro e wy ⟨⟨r, rfl, hr⟩, hM⟩; (rw [Hlt.out] at hr); replace hS := hS.mod hM; refine ⟨_, rfl, hM, ?_⟩; clear hM; (first | show wpD _ _ _ _ (Act.put _ (some _) _) _ | show wpD _ _ _ _ (Act.put _ none _) _); (simp only [Act.put, sA, sZ, sS])) | ((with_reducible show wpD _ _ _ [] _ _); refine D_nil ?_) | ((with_reducible show wpD _ _ _ ((_, 0) :: _) _ _); (first | (refine D_skip rfl rfl ?_; (first | show wpD _ _ _ _ (Act.put _ (some _) _) _ | show wpD _ _ _ _ (Act.put _ none _) _); (simp only [Act.put, sA, sZ, sS])) | (refine D_pure (v := ?_) rfl rfl (fun wq => ?_) ?_; rotate_left 1; (show (Sem.run _ (execOp _ (Oper.mk _ _ _ _ _ _)) _) = _; go_simp; (try go_bits); with_reducible rfl); (first | show wpD _ _ _ _ (Act.put _ (some _) _) _ | show wpD _ _ _ _ (Act.put _ none _) _); (simp only [Act.put, sA, sZ, sS])))) | ((with_reducible show wpD _ _ _ ((_, 1) :: _) _ _); (first | (refine D_skip rfl rfl ?_; (first | show wpD _ _ _ _ (Act.put _ (some _) _) _ | show wpD _ _ _ _ (Act.put _ none _) _); (simp only [Act.put, sA, sZ, sS])) | ((first | refine D_load rfl rfl (fun x hx => f_load (hS.mod hx) rfl rfl (by rfl)) ?_ | refine D_load rfl rfl (fun x hx => f_loadS (hS.mod hx) rfl rfl (by rfl)) ?_ | refine D_load rfl rfl (fun x hx => f_loadAt (hS.mod hx) rfl rfl) ?_ | refine D_load rfl rfl (fun x hx => f_loadAtS (hS.mod hx) rfl rfl (by rfl)) ?_ | refine D_load rfl rfl (fun x hx => f_loadAtF (hS.mod hx) rfl rfl (by rfl)) ?_); (first | show wpD _ _ _ _ (Act.put _ (some _) _) _ | show wpD _ _ _ _ (Act.put _ none _) _); (simp only [Act.put, sA, sZ, sS])))) | ((with_reducible show wpD _ _ _ ((_, 2) :: _) _ _); (refine D_skip rfl rfl ?_; (first | show wpD _ _ _ _ (Act.put _ (some _) _) _ | show wpD _ _ _ _ (Act.put _ none _) _); (simp only [Act.put, sA, sZ, sS]))) | ((with_reducible show wpD _ _ _ ((_, 3) :: _) _ _); (refine D_skip rfl rfl ?_; (first | show wpD _ _ _ _ (Act.put _ (some _) _) _ | show wpD _ _ _ _ (Act.put _ none _) _); (simp only [Act.put, sA, sZ, sS]))) | ((with_reducible show wpList _ _ _ (⟨_, Op.load _ _, _, _, _, _⟩ :: _) _ _); (first | refine Gives.list (f_load hS rfl rfl (by rfl)) rfl ?_ | refine Gives.list (f_loadS hS rfl rfl (by rfl)) rfl ?_ | refine Gives.list (f_loadAt hS rfl rfl) rfl ?_ | refine Gives.list (f_loadAtS hS rfl rfl (by rfl)) rfl ?_ | refine Gives.list (f_loadAtF hS rfl rfl (by rfl)) rfl ?_); (simp only [Act.put, sA, sZ, sS])))
        go_roundw
        case rel => exact ⟨s, u, i, ia, rfl, rfl, hi, hu, hus.1, by omega, hlo, Hhi, hS⟩
        case measure => simp [intOf]; omega
    · obtain rfl : t = s := by omega
      have HY : Hid (Srt (leOf lt) (L.take t ++ y :: L.drop t)) := Lib.hid (insert_ok (by rw [List.take_append_drop]; exact HR.out)
        (fun z hz => by
          obtain ⟨q, hq, rfl⟩ := List.mem_iff_getElem.1 hz
          rw [List.length_take] at hq
          rw [List.getElem_take]
          exact hlo.out q (by omega) (by omega))
        (fun z hz => by
          obtain ⟨q, hq, rfl⟩ := List.mem_iff_getElem.1 hz
          rw [List.length_drop] at hq
          rw [List.getElem_drop]
          exact lt_le hpre (hhi.out (t + q) (by omega) (by omega))))
      have HP : Hid ((L.take t ++ y :: L.drop t).Perm (L ++ [y])) := Lib.hid (by
        refine (List.perm_middle).trans ?_
        rw [List.take_append_drop]
        exact List.perm_append_comm (l₁ := [y]))
      have HE : Hid (pasR pre y L post t = pre ++ (L.take t ++ y :: L.drop t) ++ post) := Lib.hid (by simp only [pasR, List.append_assoc, List.cons_append])
      rw [E0.out] at hS
      clear hlo hhi
      go_wp2_with (first | ((with_reducible show wpList _ _ _ (⟨_, Op.load _ _, _, _, _, _⟩ :: _) _ _); (first | refine Gives.list (f_load hS rfl rfl (by rfl)) rfl ?_ | refine Gives.list (f_loadS hS rfl rfl (by rfl)) rfl ?_ | refine Gives.list (f_loadAt hS rfl rfl) rfl ?_ | refine Gives.list (f_loadAtS hS rfl rfl (by rfl)) rfl ?_ | refine Gives.list (f_loadAtF hS rfl rfl (by rfl)) rfl ?_); (simp only [Act.put, sA, sZ, sS])))
      go_loopw [17] (fun kv wr => ∃ r k : Nat, kv = .int .i64 (k : Int) ∧ a + r = k ∧ t ≤ r ∧ r ≤ L.length ∧ Sat w0 wr (.own Rep.int.rows [.slice (some ⟨g, off, none⟩) N c] (pasR pre y L post r) :: Γ)) (fun kv _ => (intOf kv).toNat)
      case atStart => exact ⟨L.length, m, by rw [hib0], hm, by omega, Nat.le_refl _, hS⟩
      case round =>
        clear hS
        obtain ⟨r, k, rfl, hk, htr, hrL, hS⟩ := hrel
        by_cases hlt2 : t < r
        · obtain ⟨r', rfl⟩ : ∃ r', r = r' + 1 := ⟨r - 1, by omega⟩
          have hkI : (i : Int) < (k : Int) := by omega
          have hrR : r' < L.length := by omega
          have Hx := pasR_a (x := y) (R := L) (post := post) ha hrL
          have Hy := pasR_c (x := y) (post := post) ha hrR
          have Hs := pasR_pred (x := y) (post := post) ha hrR
          obtain ⟨ia, hia0⟩ : ∃ i, a + (r' + 1) = i := ⟨_, rfl⟩
          obtain ⟨ib, hib1⟩ : ∃ i, a + r' = i := ⟨_, rfl⟩
          rw [hia0] at Hx Hs
          rw [hib1] at Hy Hs
          have hia : ia < N := by omega
          have hib : ib < N := by omega
          have hiaI : (ia : Int) < (N : Int) := by omega
          have hibI : (ib : Int) < (N : Int) := by omega
          obtain rfl : ia = k := by omega
          have hw7 : IntKind.i64.wrap ((ia : Int) - 1) = (ib : Int) := by rw [IntWalk.i64_in _ (by omega)]; omega
          obtain ⟨⟨_, _, _, _, _, Ix⟩, _⟩ := hS.rowCell (e := Rep.int) 0 rfl rfl Hx
          obtain ⟨⟨_, _, _, _, _, Iy⟩, _⟩ := hS.rowCell (e := Rep.int) 0 rfl rfl Hy
          obtain ⟨z, hz⟩ : ∃ z, L[r'] = z := ⟨_, rfl⟩
          obtain ⟨Y, hY⟩ : ∃ Y, pasR pre y L post (r' + 1) = Y := ⟨_, rfl⟩
          rw [hz] at Hy Hs Iy
          rw [hY] at Hx Hy Hs hS
          have Ix := Lib.hid Ix
          have Iy := Lib.hid Iy
          have Ha := Lib.hid Hx
          have Hb := Lib.hid Hy
          have Hs := Lib.hid Hs
          clear hz hY Hx Hy
          go_wp2_with (first | ((with_reducible show Code.wp _ (Code.region 11 _ true) _ _ _); refine wp_region_drawn [(0, 0), (1, 0), (2, 0), (3, 0), (4, 0), (5, 0), (6, 0), (7, 0), (8, 0), (9, 1), (10, 0), (11, 0), (12, 0), (13, 1), (14, 0), (15, 3), (16, 0), (17, 3)] (by kernel_rfl) (by kernel_rfl) (by intro _ _ dq _ _ hq; cases dq <;> exact hq) ?_; replace hS := hS.mod (Mod.drew (Mod.refl _ _)); (generalize hwd : World.drew _ = wz at hS ⊢); clear hwd) | ((with_reducible show Code.wp _ (Code.region 17 _ true) _ _ _); refine wp_region_drawn [(0, 0), (1, 0), (2, 0), (3, 0), (4, 1), (5, 0), (6, 0), (7, 0), (8, 1), (9, 2), (10, 0), (11, 0)] (by kernel_rfl) (by kernel_rfl) (by intro _ _ dq _ _ hq; cases dq <;> exact hq) ?_; replace hS := hS.mod (Mod.drew (Mod.refl _ _)); (generalize hwd : World.drew _ = wz at hS ⊢); clear hwd) | ((with_reducible show Code.wp _ (Code.region 23 _ true) _ _ _); refine wp_region_drawn [(0, 0), (1, 0), (2, 0), (3, 0), (4, 0), (5, 0), (6, 0), (7, 0), (8, 0), (9, 1), (10, 0), (11, 0), (12, 0), (13, 1), (14, 0), (15, 3), (16, 0), (17, 3)] (by kernel_rfl) (by kernel_rfl) (by intro _ _ dq _ _ hq; cases dq <;> exact hq) ?_; replace hS := hS.mod (Mod.drew (Mod.refl _ _)); (generalize hwd : World.drew _ = wz at hS ⊢); clear hwd) | ((with_reducible show Code.wp _ (Code.region 35 _ true) _ _ _); refine wp_region_drawn [(0, 0), (1, 0), (2, 0), (3, 0), (4, 0), (5, 0), (6, 1), (7, 0), (8, 0), (9, 0), (10, 1), (11, 2), (12, 0), (13, 0)] (by kernel_rfl) (by kernel_rfl) (by intro _ _ dq _ _ hq; cases dq <;> exact hq) ?_; replace hS := hS.mod (Mod.drew (Mod.refl _ _)); (generalize hwd : World.drew _ = wz at hS ⊢); clear hwd) | ((with_reducible show Code.wp _ (Code.region 5 _ true) _ _ _); refine wp_region_drawn [(0, 0), (1, 0), (2, 0), (3, 0), (4, 1), (5, 0), (6, 0), (7, 0), (8, 1), (9, 2), (10, 0)] (by kernel_rfl) (by kernel_rfl) (by intro _ _ dq _ _ hq; cases dq <;> exact hq) ?_; replace hS := hS.mod (Mod.drew (Mod.refl _ _)); (generalize hwd : World.drew _ = wz at hS ⊢); clear hwd) | ((with_reducible show wpD _ _ _ ((_, 1) :: _) _ _); (first | refine D_load rfl rfl (fun x hx => f_loadRow (g := g) (off := off) (k := ia) (n := N) (c := c) (hS.mod hx) rfl rfl Ha.out) ?_ | refine D_load rfl rfl (fun x hx => f_loadRow (g := g) (off := off) (k := ib) (n := N) (c := c) (hS.mod hx) rfl rfl Hb.out) ?_); (first | show wpD _ _ _ _ (Act.put _ (some _) _) _ | show wpD _ _ _ _ (Act.put _ none _) _); (simp only [Act.put, sA, sZ, sS])) | ((with_reducible show wpD _ _ _ ((_, 3) :: _) _ _); (first | refine D_loud rfl rfl (does_storeEl (e := Rep.int) (k := ia) 0 (hS.int Iy.out) rfl rfl rfl rfl rfl rfl hia) ?_ | refine D_loud rfl rfl (does_storeEl (e := Rep.int) (k := ib) 0 (hS.int Ix.out) rfl rfl rfl rfl rfl rfl hib) ?_); clear hS; rintro _ wx ⟨rfl, hS⟩; (simp only [sZ, sS] at hS); (first | show wpD _ _ _ _ (Act.put _ (some _) _) _ | show wpD _ _ _ _ (Act.put _ none _) _); (simp only [Act.put, sA, sZ, sS])) | ((with_reducible show wpD _ _ _ [] _ _); refine D_nil ?_) | ((with_reducible show wpD _ _ _ ((_, 0) :: _) _ _); (first | (refine D_skip rfl rfl ?_; (first | show wpD _ _ _ _ (Act.put _ (some _) _) _ | show wpD _ _ _ _ (Act.put _ none _) _); (simp only [Act.put, sA, sZ, sS])) | (refine D_pure (v := ?_) rfl rfl (fun wq => ?_) ?_; rotate_left 1; (show (Sem.run _ (execOp _ (Oper.mk _ _ _ _ _ _)) _) = _; go_simp; (try go_bits); with_reducible rfl); (first | show wpD _ _ _ _ (Act.put _ (some _) _) _ | show wpD _ _ _ _ (Act.put _ none _) _); (simp only [Act.put, sA, sZ, sS])))) | ((with_reducible show wpD _ _ _ ((_, 1) :: _) _ _); (first | (refine D_skip rfl rfl ?_; (first | show wpD _ _ _ _ (Act.put _ (some _) _) _ | show wpD _ _ _ _ (Act.put _ none _) _); (simp only [Act.put, sA, sZ, sS])) | ((first | refine D_load rfl rfl (fun x hx => f_load (hS.mod hx) rfl rfl (by rfl)) ?_ | refine D_load rfl rfl (fun x hx => f_loadS (hS.mod hx) rfl rfl (by rfl)) ?_ | refine D_load rfl rfl (fun x hx => f_loadAt (hS.mod hx) rfl rfl) ?_ | refine D_load rfl rfl (fun x hx => f_loadAtS (hS.mod hx) rfl rfl (by rfl)) ?_ | refine D_load rfl rfl (fun x hx => f_loadAtF (hS.mod hx) rfl rfl (by rfl)) ?_); (first | show wpD _ _ _ _ (Act.put _ (some _) _) _ | show wpD _ _ _ _ (Act.put _ none _) _); (simp only [Act.put, sA, sZ, sS])))) | ((with_reducible show wpD _ _ _ ((_, 2) :: _) _ _); (refine D_skip rfl rfl ?_; (first | show wpD _ _ _ _ (Act.put _ (some _) _) _ | show wpD _ _ _ _ (Act.put _ none _) _); (simp only [Act.put, sA, sZ, sS]))) | ((with_reducible show wpD _ _ _ ((_, 3) :: _) _ _); (refine D_skip rfl rfl ?_; (first | show wpD _ _ _ _ (Act.put _ (some _) _) _ | show wpD _ _ _ _ (Act.put _ none _) _); (simp only [Act.put, sA, sZ, sS]))) | ((with_reducible show wpList _ _ _ (⟨_, Op.load _ _, _, _, _, _⟩ :: _) _ _); (first | refine Gives.list (f_load hS rfl rfl (by rfl)) rfl ?_ | refine Gives.list (f_loadS hS rfl rfl (by rfl)) rfl ?_ | refine Gives.list (f_loadAt hS rfl rfl) rfl ?_ | refine Gives.list (f_loadAtS hS rfl rfl (by rfl)) rfl ?_ | refine Gives.list (f_loadAtF hS rfl rfl (by rfl)) rfl ?_); (simp only [Act.put, sA, sZ, sS])))
          go_roundw
          case rel => exact ⟨r', ib, by go_num, hib1, by omega, by omega, by rw [← Hs.out]; exact hS⟩
          case measure => simp [intOf]; omega
        · obtain rfl : r = t := by omega
          have hkI : ¬ (i : Int) < (k : Int) := by omega
          rw [HE.out] at hS
          go_wp2_with (first | ((with_reducible show wpList _ _ _ (⟨_, Op.load _ _, _, _, _, _⟩ :: _) _ _); (first | refine Gives.list (f_load hS rfl rfl (by rfl)) rfl ?_ | refine Gives.list (f_loadS hS rfl rfl (by rfl)) rfl ?_ | refine Gives.list (f_loadAt hS rfl rfl) rfl ?_ | refine Gives.list (f_loadAtS hS rfl rfl (by rfl)) rfl ?_ | refine Gives.list (f_loadAtF hS rfl rfl (by rfl)) rfl ?_); (simp only [Act.put, sA, sZ, sS])))
          (try simp only [Exit.inBlock, Exit.then])
          (first | refine bodyPost_ret (results_none rfl _ _ _) rfl ?_ | refine bodyPost_end (results_none rfl _ _ _) rfl ?_)
          exact ⟨rfl, _, HP.out, HY.out, by simpa only [List.append_assoc, List.cons_append] using hS⟩
end Go.Proofs.YtldknaajnnohiaaDoor
end
