/- math/bits.Len at small numbers: what slices.SortFunc asks. -/
import Derived.Test.YtldknaajnnohiaaDoorSho
import Derived.Test.YtldknaajnnohiaaDoorMem
import Derived.Test.YtldknaajnnohiaaDoorTys
import Derived.Test.YtldknaajnnohiaaDoorSrt
import Derived.Test.YtldknaajnnohiaaDoorSrtA
import Derived.Test.YtldknaajnnohiaaDoorSpt
import Derived.Test.YtldknaajnnohiaaDoorSrtD
import Derived.Test.YtldknaajnnohiaaDoorGpP
import Derived.Test.YtldknaajnnohiaaDoorGrI
import Derived.Test.YtldknaajnnohiaaDoorTkQ
section
namespace Go.Proofs.YtldknaajnnohiaaDoor
open Go.RowKit

set_option maxRecDepth 100000 in
set_option maxHeartbeats 8000000 in
theorem bits_Len64 (n : Nat) (hn : n ≤ 12) (w : World) : Calls Tryd.prog 196 #[.int .u64 (n : Int)] w fun e w' => (∃ l : Int, e = .returned (.int .i64 l)) ∧ w = w' := by
  have hcs : n = 0 ∨ n = 1 ∨ n = 2 ∨ n = 3 ∨ n = 4 ∨ n = 5 ∨ n = 6 ∨ n = 7 ∨ n = 8 ∨ n = 9 ∨ n = 10 ∨ n = 11 ∨ n = 12 := by omega
  clear hn
  rcases hcs with rfl | rfl | rfl | rfl | rfl | rfl | rfl | rfl | rfl | rfl | rfl | rfl | rfl
  all_goals
    go_enter Tryd.func196, Tryd.ntmps196
    go_wp2_with fail
    go_ret
    exact ⟨⟨_, rfl⟩, rfl⟩
theorem bits_Len (n : Nat) (hn : n ≤ 12) (w : World) : Calls Tryd.prog 173 #[.int .u64 (n : Int)] w fun e w' => (∃ l : Int, e = .returned (.int .i64 l)) ∧ w = w' := by
  go_enter Tryd.func173, Tryd.ntmps173
  go_wp2_with (first | (go_at_call 196; refine (bits_Len64 n hn _).mono ?_; rintro e w' ⟨⟨l, rfl⟩, rfl⟩))
  go_ret
  exact ⟨⟨_, rfl⟩, rfl⟩
end Go.Proofs.YtldknaajnnohiaaDoor
end

section
namespace Go.Proofs.YtldknaajnnohiaaDoor
open Go.RowKit

/-- A row with the word that leads to it. -/
abbrev HRow := List Value × List Int
def ltH (x y : HRow) : Bool := lessL x.2 y.2
def leH (x y : HRow) : Prop := ltH y x = false
theorem leH_pre : Pre leH := by
  constructor
  · intro x y
    unfold leH ltH
    cases hyx : lessL y.2 x.2
    · exact .inl rfl
    · exact .inr (lessL_weak.asym y.2 x.2 hyx)
  · intro x y z h1 h2
    unfold leH ltH at h1 h2 ⊢
    cases hzx : lessL z.2 x.2
    · rfl
    · rcases lessL_weak.neg z.2 y.2 x.2 hzx with h3 | h3
      · rw [h2] at h3; cases h3
      · rw [h1] at h3; cases h3
theorem swap_midA {α : Type} {P Q : List α} {p x : α} {k : Nat} (h : P.length = k) : ((P ++ p :: x :: Q).set (k + 1) p).set k x = P ++ x :: p :: Q := by
  have e1 : P ++ p :: x :: Q = (P ++ [p]) ++ x :: Q := by simp only [List.append_assoc, List.cons_append, List.nil_append]
  rw [e1, setM_mid (by simp only [List.length_append, List.length_cons, List.length_nil] at h ⊢; omega)]
  have e2 : P ++ [p] ++ p :: Q = P ++ (p :: (p :: Q)) := by simp only [List.append_assoc, List.cons_append, List.nil_append]
  rw [e2, setM_mid h]
theorem lnk_has {α : Type} {e : Rep α} {w w0 : World} {Γ : List Fact} {v : Value} {css : List (List Value)} {xs : List α} {k : Nat} {c : List Value} {x : α} (h : Sat w0 w (.own (Rep.raw 1).rows [v] css :: .own (Rep.lnk e) [] (css, xs) :: Γ)) (h1 : css[k]? = some c) (h2 : xs[k]? = some x) : ∃ F, e.has w F c x := by
  obtain ⟨F, hF⟩ := h.has (Rep.lnk e) []
  obtain ⟨G, -, hG⟩ := lnkAll_get hF.2 h1 h2
  exact ⟨G, hG⟩
theorem map_get {α β : Type} {f : α → β} {l : List α} {k : Nat} {x : α} (h : l[k]? = some x) : (l.map f)[k]? = some (f x) := by rw [List.getElem?_map, h]; rfl
set_option maxHeartbeats 8000000 in
set_option maxRecDepth 8000 in
theorem insertionR_w {w0 w : World} {Γ : List Fact} (g off N c : Nat) (X : List HRow) (hN : X.length = N) (hN2 : N ≤ 1000000000)
    (hS : Sat w0 w (.own (Rep.raw 1).rows [.slice (some ⟨g, off, none⟩) N c] ((X).map Prod.fst) :: .own (Rep.lnk Rep.int.rows) [] ((X).map Prod.fst, (X).map Prod.snd) :: Γ)) :
    Calls Tryd.prog 187 #[.slice (some ⟨g, off, none⟩) N c, .int .i64 0, .int .i64 (N : Int), .func (.func 124) #[] #[]] w fun e w' => e = .returned (.tuple #[]) ∧ ∃ Y, Y.Perm X ∧ Srt leH Y ∧ Sat w0 w' (.own (Rep.raw 1).rows [.slice (some ⟨g, off, none⟩) N c] ((Y).map Prod.fst) :: .own (Rep.lnk Rep.int.rows) [] ((Y).map Prod.fst, (Y).map Prod.snd) :: Γ) := by
  have HN := Lib.hid hN
  clear hN
  go_enter Tryd.func187, Tryd.ntmps187
  go_wp2_with (first | ((with_reducible show wpList _ _ _ (⟨_, Op.load _ _, _, _, _, _⟩ :: _) _ _); (first | refine Gives.list (f_load hS rfl rfl (by rfl)) rfl ?_ | refine Gives.list (f_loadS hS rfl rfl (by rfl)) rfl ?_ | refine Gives.list (f_loadAt hS rfl rfl) rfl ?_ | refine Gives.list (f_loadAtS hS rfl rfl (by rfl)) rfl ?_ | refine Gives.list (f_loadAtF hS rfl rfl (by rfl)) rfl ?_); (simp only [Act.put, sA, sZ, sS])))
  go_loopw [8] (fun iv wr => ∃ (k : Nat) (Y : List HRow), iv = .int .i64 (k : Int) ∧ 1 ≤ k ∧ k ≤ N + 1 ∧ Hid (Y.Perm (X.take k)) ∧ Hid (Srt leH Y) ∧ Sat w0 wr (.own (Rep.raw 1).rows [.slice (some ⟨g, off, none⟩) N c] ((Y ++ X.drop k).map Prod.fst) :: .own (Rep.lnk Rep.int.rows) [] ((Y ++ X.drop k).map Prod.fst, (Y ++ X.drop k).map Prod.snd) :: Γ)) (fun iv _ => N + 1 - (intOf iv).toNat)
  case atStart =>
    refine ⟨1, X.take 1, rfl, Nat.le_refl _, by omega, Lib.hid (List.Perm.refl _), Lib.hid ?_, ?_⟩
    · cases X with
      | nil => exact List.Pairwise.nil
      | cons x X => exact List.pairwise_singleton _ _
    · rw [List.take_append_drop]; exact hS
  case round =>
    clear hS
    obtain ⟨k, Y, rfl, hk1, hk2, hY, hs, hS⟩ := hrel
    by_cases hlt : k < N
    · have hltI : (k : Int) < (N : Int) := by omega
      have hltX : k < X.length := by rw [HN.out]; exact hlt
      have hYl : Y.length = k := by rw [hY.out.length_eq, List.length_take]; omega
      have hx : X.drop k = X[k] :: X.drop (k + 1) := List.drop_eq_getElem_cons hltX
      obtain ⟨x, hxx⟩ : ∃ x, X[k] = x := ⟨_, rfl⟩
      obtain ⟨Z, hZ⟩ : ∃ Z, X.drop (k + 1) = Z := ⟨_, rfl⟩
      have HP : Hid ((Y ++ [x]).Perm (X.take (k + 1))) := Lib.hid (by rw [List.take_succ_eq_append_getElem hltX, hxx]; exact hY.out.append_right _)
      rw [hxx, hZ] at hx
      rw [hx] at hS
      have HZ := Lib.hid hZ
      have HlN : Hid (Y.length + 1 + Z.length = N) := Lib.hid (by
        have h1 := HN.out
        rw [← hZ, List.length_drop]
        omega)
      clear hx hxx hZ hltX
      go_wp2_with (first | ((with_reducible show wpList _ _ _ (⟨_, Op.load _ _, _, _, _, _⟩ :: _) _ _); (first | refine Gives.list (f_load hS rfl rfl (by rfl)) rfl ?_ | refine Gives.list (f_loadS hS rfl rfl (by rfl)) rfl ?_ | refine Gives.list (f_loadAt hS rfl rfl) rfl ?_ | refine Gives.list (f_loadAtS hS rfl rfl (by rfl)) rfl ?_ | refine Gives.list (f_loadAtF hS rfl rfl (by rfl)) rfl ?_); (simp only [Act.put, sA, sZ, sS])))
      go_loopw [9] (fun jv wr => ∃ (P Q : List HRow), jv = .int .i64 (P.length : Int) ∧ Hid (P ++ Q = Y) ∧ Hid (∀ y ∈ Q, leH x y) ∧ P.length ≤ k ∧ Sat w0 wr (.own (Rep.raw 1).rows [.slice (some ⟨g, off, none⟩) N c] ((P ++ x :: Q ++ Z).map Prod.fst) :: .own (Rep.lnk Rep.int.rows) [] ((P ++ x :: Q ++ Z).map Prod.fst, (P ++ x :: Q ++ Z).map Prod.snd) :: Γ)) (fun jv _ => (intOf jv).toNat)
      case atStart => exact ⟨Y, [], by rw [hYl], Lib.hid (by simp), Lib.hid (by simp), by omega, by simpa only [List.append_assoc, List.cons_append, List.nil_append] using hS⟩
      case round =>
        clear hS
        obtain ⟨P, Q, rfl, hPQ, hQ, hPl, hS⟩ := hrel
        have HLN2 : Hid (P.length + Q.length + 1 + Z.length = N) := Lib.hid (by
          have h1 := HlN.out
          have h2 := congrArg List.length hPQ.out
          rw [List.length_append] at h2
          omega)
        have done : (∀ y ∈ P, leH y x) → Srt leH (P ++ x :: Q) ∧ (P ++ x :: Q).Perm (X.take (k + 1)) := fun hP => by
          refine ⟨insert_ok (by rw [hPQ.out]; exact hs.out) hP hQ.out, List.Perm.trans ?_ HP.out⟩
          rw [← hPQ.out]
          simp only [List.append_assoc]
          exact List.Perm.append_left P (List.perm_append_comm (l₁ := [x]))
        have Done := Lib.hid done
        clear done
        rcases List.eq_nil_or_concat P with rfl | ⟨P', p, rfl⟩
        · have HF := Lib.hid (Done.out (by simp))
          simp only [List.length_nil]
          go_wp2_with (first | ((with_reducible show Code.wp _ (Code.region 4 _ true) _ _ _); refine wp_region_drawn [(0, 0), (1, 0), (2, 0), (3, 0), (4, 0), (5, 0), (6, 0), (7, 0), (8, 1), (9, 0), (10, 0), (11, 0), (12, 0), (13, 1), (14, 2), (15, 0), (16, 0)] (by kernel_rfl) (by kernel_rfl) (by intro _ _ dq _ _ hq; cases dq <;> exact hq) ?_; replace hS := hS.mod (Mod.drew (Mod.refl _ _)); (generalize hwd : World.drew _ = wz at hS ⊢); clear hwd) | ((with_reducible show Code.wp _ (Code.region 6 _ true) _ _ _); refine wp_region_drawn [(0, 0), (1, 0), (2, 0), (3, 0), (4, 0), (5, 0), (6, 0), (7, 0), (8, 0), (9, 1), (10, 0), (11, 0), (12, 0), (13, 1), (14, 0), (15, 3), (16, 0), (17, 3)] (by kernel_rfl) (by kernel_rfl) (by intro _ _ dq _ _ hq; cases dq <;> exact hq) ?_; replace hS := hS.mod (Mod.drew (Mod.refl _ _)); (generalize hwd : World.drew _ = wz at hS ⊢); clear hwd) | ((with_reducible show wpD _ _ _ [] _ _); refine D_nil ?_) | ((with_reducible show wpD _ _ _ ((_, 0) :: _) _ _); (first | (refine D_skip rfl rfl ?_; (first | show wpD _ _ _ _ (Act.put _ (some _) _) _ | show wpD _ _ _ _ (Act.put _ none _) _); (simp only [Act.put, sA, sZ, sS])) | (refine D_pure (v := ?_) rfl rfl (fun wq => ?_) ?_; rotate_left 1; (show (Sem.run _ (execOp _ (Oper.mk _ _ _ _ _ _)) _) = _; go_simp; (try go_bits); with_reducible rfl); (first | show wpD _ _ _ _ (Act.put _ (some _) _) _ | show wpD _ _ _ _ (Act.put _ none _) _); (simp only [Act.put, sA, sZ, sS])))) | ((with_reducible show wpD _ _ _ ((_, 1) :: _) _ _); (first | (refine D_skip rfl rfl ?_; (first | show wpD _ _ _ _ (Act.put _ (some _) _) _ | show wpD _ _ _ _ (Act.put _ none _) _); (simp only [Act.put, sA, sZ, sS])) | ((first | refine D_load rfl rfl (fun x hx => f_load (hS.mod hx) rfl rfl (by rfl)) ?_ | refine D_load rfl rfl (fun x hx => f_loadS (hS.mod hx) rfl rfl (by rfl)) ?_ | refine D_load rfl rfl (fun x hx => f_loadAt (hS.mod hx) rfl rfl) ?_ | refine D_load rfl rfl (fun x hx => f_loadAtS (hS.mod hx) rfl rfl (by rfl)) ?_ | refine D_load rfl rfl (fun x hx => f_loadAtF (hS.mod hx) rfl rfl (by rfl)) ?_); (first | show wpD _ _ _ _ (Act.put _ (some _) _) _ | show wpD _ _ _ _ (Act.put _ none _) _); (simp only [Act.put, sA, sZ, sS])))) | ((with_reducible show wpD _ _ _ ((_, 2) :: _) _ _); (refine D_skip rfl rfl ?_; (first | show wpD _ _ _ _ (Act.put _ (some _) _) _ | show wpD _ _ _ _ (Act.put _ none _) _); (simp only [Act.put, sA, sZ, sS]))) | ((with_reducible show wpD _ _ _ ((_, 3) :: _) _ _); (refine D_skip rfl rfl ?_; (first | show wpD _ _ _ _ (Act.put _ (some _) _) _ | show wpD _ _ _ _ (Act.put _ none _) _); (simp only [Act.put, sA, sZ, sS]))) | ((with_reducible show wpList _ _ _ (⟨_, Op.load _ _, _, _, _, _⟩ :: _) _ _); (first | refine Gives.list (f_load hS rfl rfl (by rfl)) rfl ?_ | refine Gives.list (f_loadS hS rfl rfl (by rfl)) rfl ?_ | refine Gives.list (f_loadAt hS rfl rfl) rfl ?_ | refine Gives.list (f_loadAtS hS rfl rfl (by rfl)) rfl ?_ | refine Gives.list (f_loadAtF hS rfl rfl (by rfl)) rfl ?_); (simp only [Act.put, sA, sZ, sS])))
          go_roundw
          case rel => exact ⟨k + 1, x :: Q, by go_num, by omega, by omega, Lib.hid HF.out.2, Lib.hid HF.out.1, by rw [HZ.out]; exact hS⟩
          case measure => simp [intOf]; omega
        · simp only [List.concat_eq_append] at hS hPl HLN2 Done hPQ ⊢
          obtain ⟨ib, hq⟩ : ∃ q, P'.length = q := ⟨_, rfl⟩
          have hl1 : (P' ++ [p]).length = ib + 1 := by rw [← hq]; simp
          rw [hl1] at hPl HLN2 ⊢
          obtain ⟨ia, hia0⟩ : ∃ i, ib + 1 = i := ⟨_, rfl⟩
          rw [hia0] at hPl HLN2 ⊢
          have e1 : P' ++ [p] ++ x :: Q ++ Z = P' ++ p :: x :: (Q ++ Z) := by simp only [List.append_assoc, List.cons_append, List.nil_append]
          rw [e1] at hS
          have hia : ia < N := by have := HLN2.out; omega
          have hib : ib < N := by omega
          have hiaI : (ia : Int) < (N : Int) := by omega
          have hibI : (ib : Int) < (N : Int) := by omega
          have hwb : IntKind.i64.wrap ((ia : Int) - 1) = (ib : Int) := by rw [IntWalk.i64_in _ (by omega)]; omega
          have hgt : decide (0 < ia) = true := by simp; omega
          have Ha : (P' ++ p :: x :: (Q ++ Z))[ia]? = some x := by
            have e2 : P' ++ p :: x :: (Q ++ Z) = (P' ++ [p]) ++ x :: (Q ++ Z) := by simp only [List.append_assoc, List.cons_append, List.nil_append]
            rw [e2]; exact getM_mid (by rw [hl1]; exact hia0)
          have Hb : (P' ++ p :: x :: (Q ++ Z))[ib]? = some p := getM_mid hq
          have Hsw : Hid (((P' ++ p :: x :: (Q ++ Z)).set ia p).set ib x = P' ++ x :: p :: (Q ++ Z)) := Lib.hid (by
            rw [← hia0]; exact swap_midA hq)
          have HS1 : Hid (Srt leH (P' ++ [p])) := Lib.hid ((srt_append.1 (by rw [hPQ.out]; exact hs.out)).1)
          obtain ⟨la, ra⟩ := x
          obtain ⟨lb, rb⟩ := p
          have hxa := map_get (f := Prod.fst) Ha
          have hxb := map_get (f := Prod.fst) Hb
          have Hra := Lib.hid (map_get (f := Prod.snd) Ha)
          have Hrb := Lib.hid (map_get (f := Prod.snd) Hb)
          dsimp only at hxa hxb Hra Hrb
          obtain ⟨⟨ua, _, _, hua⟩, _⟩ := hS.rowCell (e := Rep.raw 1) 0 rfl rfl hxa
          obtain ⟨⟨ub, _, _, hub⟩, _⟩ := hS.rowCell (e := Rep.raw 1) 0 rfl rfl hxb
          obtain ⟨rfl, kua⟩ := raw_one hua
          obtain ⟨rfl, kub⟩ := raw_one hub
          have Hca := Lib.hid hxa
          have Hcb := Lib.hid hxb
          have Hua := Lib.hid kua
          have Hub := Lib.hid kub
          clear hxa hxb hua hub kua kub Ha Hb e1
          obtain ⟨L, hL⟩ : ∃ L, P' ++ ([ub], rb) :: ([ua], ra) :: (Q ++ Z) = L := ⟨_, rfl⟩
          rw [hL] at hS Hca Hcb Hra Hrb Hsw
          cases hxp : lessL ra rb
          · have Hlt := Lib.hid hxp
            have HF := Lib.hid (Done.out (fun z hz => leH_pre.trans (below_last leH_pre HS1.out z hz) (show leH ([ub], rb) ([ua], ra) from hxp)))
            clear hxp
            go_wp2_with (first | ((with_reducible show Code.wp _ (Code.region 4 _ true) _ _ _); refine wp_region_drawn [(0, 0), (1, 0), (2, 0), (3, 0), (4, 0), (5, 0), (6, 0), (7, 0), (8, 1), (9, 0), (10, 0), (11, 0), (12, 0), (13, 1), (14, 2), (15, 0), (16, 0)] (by kernel_rfl) (by kernel_rfl) (by intro _ _ dq _ _ hq; cases dq <;> exact hq) ?_; replace hS := hS.mod (Mod.drew (Mod.refl _ _)); (generalize hwd : World.drew _ = wz at hS ⊢); clear hwd) | ((with_reducible show Code.wp _ (Code.region 6 _ true) _ _ _); refine wp_region_drawn [(0, 0), (1, 0), (2, 0), (3, 0), (4, 0), (5, 0), (6, 0), (7, 0), (8, 0), (9, 1), (10, 0), (11, 0), (12, 0), (13, 1), (14, 0), (15, 3), (16, 0), (17, 3)] (by kernel_rfl) (by kernel_rfl) (by intro _ _ dq _ _ hq; cases dq <;> exact hq) ?_; replace hS := hS.mod (Mod.drew (Mod.refl _ _)); (generalize hwd : World.drew _ = wz at hS ⊢); clear hwd) | ((with_reducible show wpD _ _ _ ((_, 1) :: _) _ _); (first | refine D_load rfl rfl (fun x hx => f_loadRaw (g := g) (off := off) (n := N) (c := c) (k := ia) (hS.mod hx) rfl rfl Hca.out) ?_ | refine D_load rfl rfl (fun x hx => f_loadRaw (g := g) (off := off) (n := N) (c := c) (k := ib) (hS.mod hx) rfl rfl Hcb.out) ?_); (first | show wpD _ _ _ _ (Act.put _ (some _) _) _ | show wpD _ _ _ _ (Act.put _ none _) _); (simp only [Act.put, sA, sZ, sS])) | ((with_reducible show wpD _ _ _ ((_, 2) :: _) _ _); (refine D_call (f := 124) (args := ?_) rfl rfl ?_ ?_); rotate_left 1; (show (Sem.run _ (execOp _ (Oper.mk _ _ _ _ _ _)) _) = _; go_simp; rfl); obtain ⟨Fa, hFa⟩ := lnk_has hS Hca.out Hra.out; obtain ⟨Fb, hFb⟩ := lnk_has hS Hcb.out Hrb.out; refine (sl_Compare _ Fa Fb (ua) (ub) _ _ ((inferInstance : Sub Rep.int.rows Rep.int.slice).imp hFa) ((inferInstance : Sub Rep.int.rows Rep.int.slice).imp hFb)).mono ?_; rintro e wy ⟨r, rfl, hr, hM⟩; (rw [Hlt.out] at hr); replace hS := hS.mod hM; refine ⟨_, rfl, hM, ?_⟩; clear hM; (first | show wpD _ _ _ _ (Act.put _ (some _) _) _ | show wpD _ _ _ _ (Act.put _ none _) _); (simp only [Act.put, sA, sZ, sS])) | ((with_reducible show wpD _ _ _ [] _ _); refine D_nil ?_) | ((with_reducible show wpD _ _ _ ((_, 0) :: _) _ _); (first | (refine D_skip rfl rfl ?_; (first | show wpD _ _ _ _ (Act.put _ (some _) _) _ | show wpD _ _ _ _ (Act.put _ none _) _); (simp only [Act.put, sA, sZ, sS])) | (refine D_pure (v := ?_) rfl rfl (fun wq => ?_) ?_; rotate_left 1; (show (Sem.run _ (execOp _ (Oper.mk _ _ _ _ _ _)) _) = _; go_simp; (try go_bits); with_reducible rfl); (first | show wpD _ _ _ _ (Act.put _ (some _) _) _ | show wpD _ _ _ _ (Act.put _ none _) _); (simp only [Act.put, sA, sZ, sS])))) | ((with_reducible show wpD _ _ _ ((_, 1) :: _) _ _); (first | (refine D_skip rfl rfl ?_; (first | show wpD _ _ _ _ (Act.put _ (some _) _) _ | show wpD _ _ _ _ (Act.put _ none _) _); (simp only [Act.put, sA, sZ, sS])) | ((first | refine D_load rfl rfl (fun x hx => f_load (hS.mod hx) rfl rfl (by rfl)) ?_ | refine D_load rfl rfl (fun x hx => f_loadS (hS.mod hx) rfl rfl (by rfl)) ?_ | refine D_load rfl rfl (fun x hx => f_loadAt (hS.mod hx) rfl rfl) ?_ | refine D_load rfl rfl (fun x hx => f_loadAtS (hS.mod hx) rfl rfl (by rfl)) ?_ | refine D_load rfl rfl (fun x hx => f_loadAtF (hS.mod hx) rfl rfl (by rfl)) ?_); (first | show wpD _ _ _ _ (Act.put _ (some _) _) _ | show wpD _ _ _ _ (Act.put _ none _) _); (simp only [Act.put, sA, sZ, sS])))) | ((with_reducible show wpD _ _ _ ((_, 2) :: _) _ _); (refine D_skip rfl rfl ?_; (first | show wpD _ _ _ _ (Act.put _ (some _) _) _ | show wpD _ _ _ _ (Act.put _ none _) _); (simp only [Act.put, sA, sZ, sS]))) | ((with_reducible show wpD _ _ _ ((_, 3) :: _) _ _); (refine D_skip rfl rfl ?_; (first | show wpD _ _ _ _ (Act.put _ (some _) _) _ | show wpD _ _ _ _ (Act.put _ none _) _); (simp only [Act.put, sA, sZ, sS]))) | ((with_reducible show wpList _ _ _ (⟨_, Op.load _ _, _, _, _, _⟩ :: _) _ _); (first | refine Gives.list (f_load hS rfl rfl (by rfl)) rfl ?_ | refine Gives.list (f_loadS hS rfl rfl (by rfl)) rfl ?_ | refine Gives.list (f_loadAt hS rfl rfl) rfl ?_ | refine Gives.list (f_loadAtS hS rfl rfl (by rfl)) rfl ?_ | refine Gives.list (f_loadAtF hS rfl rfl (by rfl)) rfl ?_); (simp only [Act.put, sA, sZ, sS])))
            go_roundw
            case rel => exact ⟨k + 1, (P' ++ [([ub], rb)]) ++ ([ua], ra) :: Q, by go_num, by omega, by omega, Lib.hid HF.out.2, Lib.hid HF.out.1, by rw [HZ.out]; rw [← hL] at hS; simpa only [List.append_assoc, List.cons_append, List.nil_append] using hS⟩
            case measure => simp [intOf]; omega
          · have Hlt := Lib.hid hxp
            have hle2 : leH ([ua], ra) ([ub], rb) := lessL_weak.asym _ _ hxp
            have HQ : Hid (∀ z ∈ ([ub], rb) :: Q, leH ([ua], ra) z) := Lib.hid (fun z hz => by rcases List.mem_cons.1 hz with rfl | h; exact hle2; exact hQ.out z h)
            clear hxp hle2
            go_wp2_with (first | ((with_reducible show Code.wp _ (Code.region 4 _ true) _ _ _); refine wp_region_drawn [(0, 0), (1, 0), (2, 0), (3, 0), (4, 0), (5, 0), (6, 0), (7, 0), (8, 1), (9, 0), (10, 0), (11, 0), (12, 0), (13, 1), (14, 2), (15, 0), (16, 0)] (by kernel_rfl) (by kernel_rfl) (by intro _ _ dq _ _ hq; cases dq <;> exact hq) ?_; replace hS := hS.mod (Mod.drew (Mod.refl _ _)); (generalize hwd : World.drew _ = wz at hS ⊢); clear hwd) | ((with_reducible show Code.wp _ (Code.region 6 _ true) _ _ _); refine wp_region_drawn [(0, 0), (1, 0), (2, 0), (3, 0), (4, 0), (5, 0), (6, 0), (7, 0), (8, 0), (9, 1), (10, 0), (11, 0), (12, 0), (13, 1), (14, 0), (15, 3), (16, 0), (17, 3)] (by kernel_rfl) (by kernel_rfl) (by intro _ _ dq _ _ hq; cases dq <;> exact hq) ?_; replace hS := hS.mod (Mod.drew (Mod.refl _ _)); (generalize hwd : World.drew _ = wz at hS ⊢); clear hwd) | ((with_reducible show wpD _ _ _ ((_, 1) :: _) _ _); (first | refine D_load rfl rfl (fun x hx => f_loadRaw (g := g) (off := off) (n := N) (c := c) (k := ia) (hS.mod hx) rfl rfl Hca.out) ?_ | refine D_load rfl rfl (fun x hx => f_loadRaw (g := g) (off := off) (n := N) (c := c) (k := ib) (hS.mod hx) rfl rfl Hcb.out) ?_); (first | show wpD _ _ _ _ (Act.put _ (some _) _) _ | show wpD _ _ _ _ (Act.put _ none _) _); (simp only [Act.put, sA, sZ, sS])) | ((with_reducible show wpD _ _ _ ((_, 3) :: _) _ _); (first | refine D_loud rfl rfl (does_storeEl (e := Rep.raw 1) (k := ia) 0 (hS.rawOwn 1 [ub] rfl Hub.out) rfl rfl rfl rfl (Hub.out ub (by simp)) rfl hia) ?_ | refine D_loud rfl rfl (does_storeEl (e := Rep.raw 1) (k := ib) 0 (hS.rawOwn 1 [ua] rfl Hua.out) rfl rfl rfl rfl (Hua.out ua (by simp)) rfl hib) ?_); clear hS; rintro _ wx ⟨rfl, hS⟩; (simp only [sZ, sS] at hS); (first | show wpD _ _ _ _ (Act.put _ (some _) _) _ | show wpD _ _ _ _ (Act.put _ none _) _); (simp only [Act.put, sA, sZ, sS])) | ((with_reducible show wpD _ _ _ ((_, 2) :: _) _ _); (refine D_call (f := 124) (args := ?_) rfl rfl ?_ ?_); rotate_left 1; (show (Sem.run _ (execOp _ (Oper.mk _ _ _ _ _ _)) _) = _; go_simp; rfl); obtain ⟨Fa, hFa⟩ := lnk_has hS Hca.out Hra.out; obtain ⟨Fb, hFb⟩ := lnk_has hS Hcb.out Hrb.out; refine (sl_Compare _ Fa Fb (ua) (ub) _ _ ((inferInstance : Sub Rep.int.rows Rep.int.slice).imp hFa) ((inferInstance : Sub Rep.int.rows Rep.int.slice).imp hFb)).mono ?_; rintro e wy ⟨r, rfl, hr, hM⟩; (rw [Hlt.out] at hr); replace hS := hS.mod hM; refine ⟨_, rfl, hM, ?_⟩; clear hM; (first | show wpD _ _ _ _ (Act.put _ (some _) _) _ | show wpD _ _ _ _ (Act.put _ none _) _); (simp only [Act.put, sA, sZ, sS])) | ((with_reducible show wpD _ _ _ [] _ _); refine D_nil ?_) | ((with_reducible show wpD _ _ _ ((_, 0) :: _) _ _); (first | (refine D_skip rfl rfl ?_; (first | show wpD _ _ _ _ (Act.put _ (some _) _) _ | show wpD _ _ _ _ (Act.put _ none _) _); (simp only [Act.put, sA, sZ, sS])) | (refine D_pure (v := ?_) rfl rfl (fun wq => ?_) ?_; rotate_left 1; (show (Sem.run _ (execOp _ (Oper.mk _ _ _ _ _ _)) _) = _; go_simp; (try go_bits); with_reducible rfl); (first | show wpD _ _ _ _ (Act.put _ (some _) _) _ | show wpD _ _ _ _ (Act.put _ none _) _); (simp only [Act.put, sA, sZ, sS])))) | ((with_reducible show wpD _ _ _ ((_, 1) :: _) _ _); (first | (refine D_skip rfl rfl ?_; (first | show wpD _ _ _ _ (Act.put _ (some _) _) _ | show wpD _ _ _ _ (Act.put _ none _) _); (simp only [Act.put, sA, sZ, sS])) | ((first | refine D_load rfl rfl (fun x hx => f_load (hS.mod hx) rfl rfl (by rfl)) ?_ | refine D_load rfl rfl (fun x hx => f_loadS (hS.mod hx) rfl rfl (by rfl)) ?_ | refine D_load rfl rfl (fun x hx => f_loadAt (hS.mod hx) rfl rfl) ?_ | refine D_load rfl rfl (fun x hx => f_loadAtS (hS.mod hx) rfl rfl (by rfl)) ?_ | refine D_load rfl rfl (fun x hx => f_loadAtF (hS.mod hx) rfl rfl (by rfl)) ?_); (first | show wpD _ _ _ _ (Act.put _ (some _) _) _ | show wpD _ _ _ _ (Act.put _ none _) _); (simp only [Act.put, sA, sZ, sS])))) | ((with_reducible show wpD _ _ _ ((_, 2) :: _) _ _); (refine D_skip rfl rfl ?_; (first | show wpD _ _ _ _ (Act.put _ (some _) _) _ | show wpD _ _ _ _ (Act.put _ none _) _); (simp only [Act.put, sA, sZ, sS]))) | ((with_reducible show wpD _ _ _ ((_, 3) :: _) _ _); (refine D_skip rfl rfl ?_; (first | show wpD _ _ _ _ (Act.put _ (some _) _) _ | show wpD _ _ _ _ (Act.put _ none _) _); (simp only [Act.put, sA, sZ, sS]))) | ((with_reducible show wpList _ _ _ (⟨_, Op.load _ _, _, _, _, _⟩ :: _) _ _); (first | refine Gives.list (f_load hS rfl rfl (by rfl)) rfl ?_ | refine Gives.list (f_loadS hS rfl rfl (by rfl)) rfl ?_ | refine Gives.list (f_loadAt hS rfl rfl) rfl ?_ | refine Gives.list (f_loadAtS hS rfl rfl (by rfl)) rfl ?_ | refine Gives.list (f_loadAtF hS rfl rfl (by rfl)) rfl ?_); (simp only [Act.put, sA, sZ, sS])))
            replace hS := Sat.swap (Sat.lnkSwap (Sat.swap hS) Hca.out Hcb.out Hra.out Hrb.out)
            have E1 : ((L.map Prod.fst).set ia [ub]).set ib [ua] = (P' ++ ([ua], ra) :: ([ub], rb) :: (Q ++ Z)).map Prod.fst := by rw [← Hsw.out, List.map_set, List.map_set]
            have E2 : ((L.map Prod.snd).set ia rb).set ib ra = (P' ++ ([ua], ra) :: ([ub], rb) :: (Q ++ Z)).map Prod.snd := by rw [← Hsw.out, List.map_set, List.map_set]
            rw [E1, E2] at hS
            go_roundw
            case rel => exact ⟨P', ([ub], rb) :: Q, by rw [hq], Lib.hid (by rw [← hPQ.out]; simp), HQ, by omega, by simpa only [List.append_assoc, List.cons_append, List.nil_append] using hS⟩
            case measure => simp [intOf]; omega
    · have hd : X.drop k = [] := List.drop_of_length_le (by rw [HN.out]; omega)
      have ht : X.take k = X := List.take_of_length_le (by rw [HN.out]; omega)
      have hYX := hY.out
      rw [ht] at hYX
      rw [hd, List.append_nil] at hS
      have HYX := Lib.hid hYX
      have hge : ¬ (k : Int) < (N : Int) := by omega
      clear hY hYX hd ht
      go_wp2_with (first | ((with_reducible show wpList _ _ _ (⟨_, Op.load _ _, _, _, _, _⟩ :: _) _ _); (first | refine Gives.list (f_load hS rfl rfl (by rfl)) rfl ?_ | refine Gives.list (f_loadS hS rfl rfl (by rfl)) rfl ?_ | refine Gives.list (f_loadAt hS rfl rfl) rfl ?_ | refine Gives.list (f_loadAtS hS rfl rfl (by rfl)) rfl ?_ | refine Gives.list (f_loadAtF hS rfl rfl (by rfl)) rfl ?_); (simp only [Act.put, sA, sZ, sS])))
      (try simp only [Exit.inBlock, Exit.then])
      (first | refine bodyPost_ret (results_none rfl _ _ _) rfl ?_ | refine bodyPost_end (results_none rfl _ _ _) rfl ?_)
      exact ⟨rfl, Y, HYX.out, hs.out, hS⟩
end Go.Proofs.YtldknaajnnohiaaDoor
end

section
namespace Go.Proofs.YtldknaajnnohiaaDoor
open Go.RowKit

set_option maxHeartbeats 8000000 in
set_option maxRecDepth 8000 in
theorem pdq_w {w0 w : World} {Γ : List Fact} (g off N c : Nat) (l : Int) (X : List HRow) (hN : X.length = N) (hN2 : N ≤ 12)
    (hS : Sat w0 w (.own (Rep.raw 1).rows [.slice (some ⟨g, off, none⟩) N c] (X.map Prod.fst) :: .own (Rep.lnk Rep.int.rows) [] (X.map Prod.fst, X.map Prod.snd) :: Γ)) :
    Calls Tryd.prog 172 #[.slice (some ⟨g, off, none⟩) N c, .int .i64 0, .int .i64 (N : Int), .int .i64 l, .func (.func 124) #[] #[]] w fun e w' => e = .returned (.tuple #[]) ∧ ∃ Y, Y.Perm X ∧ Srt leH Y ∧ Sat w0 w' (.own (Rep.raw 1).rows [.slice (some ⟨g, off, none⟩) N c] (Y.map Prod.fst) :: .own (Rep.lnk Rep.int.rows) [] (Y.map Prod.fst, Y.map Prod.snd) :: Γ) := by
  have hw0 : IntKind.i64.wrap ((N : Int) - 0) = (N : Int) := by rw [IntWalk.i64_in _ (by omega)]; omega
  have hle : (N : Int) ≤ 12 := by omega
  go_enter Tryd.func172, Tryd.ntmps172
  go_wp2
  refine wp_loop_rounds 1 ?_
  rw [rounds_succ]
  go_wp2_with (first | (go_at_call 187; refine (insertionR_w g off N c X hN (by omega) hS).mono ?_; clear hS; rintro e w' ⟨rfl, Y, h1, h2, hS⟩))
  (try simp only [Exit.inBlock, Exit.then])
  refine bodyPost_ret (results_none rfl _ _ _) rfl ?_
  exact ⟨rfl, Y, h1, h2, hS⟩
set_option maxHeartbeats 8000000 in
set_option maxRecDepth 8000 in
theorem sortFuncH_w {w0 w : World} {Γ : List Fact} (g off N c : Nat) (X : List HRow) (hN : X.length = N) (hN2 : N ≤ 12)
    (hS : Sat w0 w (.own (Rep.raw 1).rows [.slice (some ⟨g, off, none⟩) N c] (X.map Prod.fst) :: .own (Rep.lnk Rep.int.rows) [] (X.map Prod.fst, X.map Prod.snd) :: Γ)) :
    Calls Tryd.prog 123 #[.slice (some ⟨g, off, none⟩) N c, .func (.func 124) #[] #[]] w fun e w' => e = .returned (.tuple #[]) ∧ ∃ Y, Y.Perm X ∧ Srt leH Y ∧ Sat w0 w' (.own (Rep.raw 1).rows [.slice (some ⟨g, off, none⟩) N c] (Y.map Prod.fst) :: .own (Rep.lnk Rep.int.rows) [] (Y.map Prod.fst, Y.map Prod.snd) :: Γ) := by
  go_enter Tryd.func123, Tryd.ntmps123
  go_wp2_with (first | (go_at_call 173; refine (bits_Len N hN2 _).mono ?_; rintro e w' ⟨⟨l, rfl⟩, rfl⟩) | (go_at_call 172; refine (pdq_w g off N c _ X hN hN2 hS).mono ?_; clear hS; rintro e w' ⟨rfl, Y, h1, h2, hS⟩))
  (try simp only [Exit.inBlock, Exit.then])
  (first | refine bodyPost_ret (results_none rfl _ _ _) rfl ?_ | refine bodyPost_end (results_none rfl _ _ _) rfl ?_)
  exact ⟨rfl, Y, h1, h2, hS⟩
/-- The rows are a permutation of what they were, in the order of their values. -/
theorem sortFunc_w {w0 w : World} {Γ : List Fact} (g off N c : Nat) (X : List (List Int)) (hN : X.length = N) (hN2 : N ≤ 12)
    (hS : Sat w0 w (.own Rep.int.rows.rows [.slice (some ⟨g, off, none⟩) N c] X :: Γ)) :
    Calls Tryd.prog 123 #[.slice (some ⟨g, off, none⟩) N c, .func (.func 124) #[] #[]] w fun e w' => e = .returned (.tuple #[]) ∧ ∃ Y, Y.Perm X ∧ Srt (fun x y => lessL y x = false) Y ∧ Sat w0 w' (.own Rep.int.rows.rows [.slice (some ⟨g, off, none⟩) N c] Y :: Γ) := by
  obtain ⟨css, hcl, hS⟩ := Sat.shareOwn hS
  rw [show (Rep.int.rows).size = 1 from rfl] at hS
  have e1 : (css.zip X).map Prod.fst = css := List.map_fst_zip (by omega)
  have e2 : (css.zip X).map Prod.snd = X := List.map_snd_zip (by omega)
  have hl : (css.zip X).length = N := by rw [List.length_zip]; omega
  refine (sortFuncH_w g off N c (css.zip X) hl hN2 (by rw [e1, e2]; exact hS)).mono ?_
  rintro e w' ⟨rfl, Y, h1, h2, hS⟩
  refine ⟨rfl, Y.map Prod.snd, ?_, ?_, Sat.unshareOwn (e := Rep.int.rows) hS⟩
  · have := h1.map Prod.snd
    rw [e2] at this
    exact this
  · exact List.pairwise_map.2 h2
/-! ### No rows at all -/
set_option maxHeartbeats 8000000 in
set_option maxRecDepth 8000 in
theorem insertionR_n (A : Option Addr) (c : Nat) (w : World) : Calls Tryd.prog 187 #[.slice A 0 c, .int .i64 0, .int .i64 0, .func (.func 124) #[] #[]] w fun e w' => e = .returned (.tuple #[]) ∧ w = w' := by
  go_enter Tryd.func187, Tryd.ntmps187
  go_wp2
  refine wp_loop_rounds 1 ?_
  rw [rounds_succ]
  go_wp2
  (try simp only [Exit.inBlock, Exit.then])
  (first | refine bodyPost_ret (results_none rfl _ _ _) rfl ?_ | refine bodyPost_end (results_none rfl _ _ _) rfl ?_)
  exact ⟨rfl, rfl⟩
set_option maxHeartbeats 8000000 in
set_option maxRecDepth 8000 in
theorem pdq_n (A : Option Addr) (c : Nat) (l : Int) (w : World) : Calls Tryd.prog 172 #[.slice A 0 c, .int .i64 0, .int .i64 0, .int .i64 l, .func (.func 124) #[] #[]] w fun e w' => e = .returned (.tuple #[]) ∧ w = w' := by
  go_enter Tryd.func172, Tryd.ntmps172
  go_wp2
  refine wp_loop_rounds 1 ?_
  rw [rounds_succ]
  go_wp2_with (first | (go_at_call 187; refine (insertionR_n A c _).mono ?_; rintro e w' ⟨rfl, rfl⟩))
  (try simp only [Exit.inBlock, Exit.then])
  refine bodyPost_ret (results_none rfl _ _ _) rfl ?_
  exact ⟨rfl, rfl⟩
set_option maxHeartbeats 8000000 in
set_option maxRecDepth 8000 in
theorem sortFunc_n (A : Option Addr) (c : Nat) (w : World) : Calls Tryd.prog 123 #[.slice A 0 c, .func (.func 124) #[] #[]] w fun e w' => e = .returned (.tuple #[]) ∧ w = w' := by
  go_enter Tryd.func123, Tryd.ntmps123
  go_wp2_with (first | (go_at_call 173; refine (bits_Len 0 (by decide) _).mono ?_; rintro e w' ⟨⟨l, rfl⟩, rfl⟩) | (go_at_call 172; refine (pdq_n A c _ _).mono ?_; rintro e w' ⟨rfl, rfl⟩))
  (try simp only [Exit.inBlock, Exit.then])
  (first | refine bodyPost_ret (results_none rfl _ _ _) rfl ?_ | refine bodyPost_end (results_none rfl _ _ _) rfl ?_)
  exact ⟨rfl, rfl⟩
theorem sortFunc_rows {w0 w : World} {Γ : List Fact} (A : Option Addr) (N c : Nat) (X : List (List Int)) (hN : X.length = N) (hN2 : N ≤ 12)
    (hS : Sat w0 w (.own Rep.int.rows.rows [.slice A N c] X :: Γ)) :
    Calls Tryd.prog 123 #[.slice A N c, .func (.func 124) #[] #[]] w fun e w' => e = .returned (.tuple #[]) ∧ ∃ Y, Y.Perm X ∧ Srt (fun x y => lessL y x = false) Y ∧ Sat w0 w' (.own Rep.int.rows.rows [.slice A N c] Y :: Γ) := by
  by_cases h : N = 0
  · subst h
    obtain rfl := List.length_eq_zero_iff.1 hN
    refine (sortFunc_n A c w).mono ?_
    rintro e w' ⟨rfl, rfl⟩
    exact ⟨rfl, [], .refl _, List.Pairwise.nil, hS⟩
  · obtain ⟨g, o, rfl⟩ := hS.rowAt 0 rfl (show 0 < N by omega)
    exact sortFunc_w g o N c X hN hN2 hS
end Go.Proofs.YtldknaajnnohiaaDoor
end

section
namespace Go.Proofs.YtldknaajnnohiaaDoor
open Go.RowKit
def grF (t : TableD) (g s : ByteArray) (L : List KV) : TableD × Bool := if gNam t.1 g s && (tableOk t && tableOk (gNames g, runs L 0 0)) then ((gNames g, runs L 0 0), true) else (zeroT, false)
theorem grF_r {t : TableD} {g s : ByteArray} {L : List KV} (h : tableOk (gNames g, runs L 0 0) = false) : grF t g s L = (zeroT, false) := by unfold grF; rw [h]; simp
theorem grF_t {t : TableD} {g s : ByteArray} {L : List KV} (h1 : gNam t.1 g s = true) (h2 : tableOk t = true) (h3 : tableOk (gNames g, runs L 0 0) = true) : grF t g s L = ((gNames g, runs L 0 0), true) := by unfold grF; rw [h1, h2, h3]; rfl
end Go.Proofs.YtldknaajnnohiaaDoor
end
