/- Stable sorting of an int slice of one's own: symMerge. -/
import Derived.Test.YtldknaajnnohiaaDoorSho
import Derived.Test.YtldknaajnnohiaaDoorSrt
import Derived.Test.YtldknaajnnohiaaDoorSrt
import Derived.Deep.DeepCutAuto
namespace Go.Proofs.YtldknaajnnohiaaDoor
open Go.RowKit


set_option maxHeartbeats 16000000 in
set_option maxRecDepth 8000 in
theorem symMerge_w {w0 : World} {Γ : List Fact} (g off N c bp bc : Nat) (D : Int → Prop) (lt : Int → Int → Bool) (hpre : Pre (leOf lt)) (hcmp : CmpOk w0 Γ g off N c bp bc D lt) (hN2 : N ≤ 1000000000) :
    ∀ (f : Nat) (w : World) (pre L R post : List Int) (a m b : Nat), (pre ++ L ++ R ++ post).length = N → pre.length = a → a + L.length = m → m + R.length = b → 1 ≤ L.length → 1 ≤ R.length → L.length + R.length ≤ f → (∀ z ∈ L ++ R, D z) → Srt (leOf lt) L → Srt (leOf lt) R →
    Sat w0 w (.own Rep.int.rows [.slice (some ⟨g, off, none⟩) N c] (pre ++ L ++ R ++ post) :: Γ) →
    Calls Tryd.prog 201 #[.slice (some ⟨g, off, none⟩) N c, .int .i64 (a : Int), .int .i64 (m : Int), .int .i64 (b : Int), .func (.func 164) #[] #[.pointer (some ⟨bp, 0, none⟩), .pointer (some ⟨bc, 0, none⟩)]] w fun e w' => e = .returned (.tuple #[]) ∧ ∃ Y, Y.Perm (L ++ R) ∧ Srt (leOf lt) Y ∧ Sat w0 w' (.own Rep.int.rows [.slice (some ⟨g, off, none⟩) N c] (pre ++ Y ++ post) :: Γ) := by
  intro f
  induction f with
  | zero => intro w pre L R post a m b _ _ _ _ h1 h2 h3; omega
  | succ f ih =>
    intro w pre L R post a m b hN ha hm hb hL1 hR1 hf hD hL hR hS
    by_cases hl1 : L.length = 1
    · obtain ⟨y, rfl⟩ := List.length_eq_one_iff.1 hl1
      exact symL_w g off N c bp bc D lt hpre hcmp pre R post y a m b hN hN2 ha (by simpa using hm) hb (by simpa using hD) hR hS
    by_cases hr1 : R.length = 1
    · obtain ⟨y, rfl⟩ := List.length_eq_one_iff.1 hr1
      exact symR_w g off N c bp bc D lt hpre hcmp pre L post y a m b hN hN2 ha hm (by simpa using hb) (by omega) (fun z hz => hD z (by simp only [List.mem_cons, List.mem_append, List.not_mem_nil, or_false] at hz ⊢; exact hz.symm)) hL hS
    have hbN : b ≤ N := by rw [← hN]; simp only [List.length_append]; omega
    have hw1 : IntKind.i64.wrap ((m : Int) - (a : Int)) = (L.length : Int) := by rw [IntWalk.i64_in _ (by omega)]; omega
    have hne1 : ((L.length : Int) == 1) = false := by rw [beq_eq_false_iff_ne]; omega
    have hw2 : IntKind.i64.wrap ((b : Int) - (m : Int)) = (R.length : Int) := by rw [IntWalk.i64_in _ (by omega)]; omega
    have hne2 : ((R.length : Int) == 1) = false := by rw [beq_eq_false_iff_ne]; omega
    obtain ⟨ab, hab⟩ : ∃ x, a + b = x := ⟨_, rfl⟩
    obtain ⟨mid, hmid⟩ : ∃ x, ab / 2 = x := ⟨_, rfl⟩
    obtain ⟨n1, n2, n3, n4, n5⟩ := mid_words hab hmid (by omega)
    obtain ⟨n, hn⟩ : ∃ x, mid + m = x := ⟨_, rfl⟩
    have hw3 : IntKind.i64.wrap ((mid : Int) + (m : Int)) = (n : Int) := by rw [IntWalk.i64_in _ (by omega)]; omega
    obtain ⟨p, hp⟩ : ∃ x, n - 1 = x := ⟨_, rfl⟩
    have hw4 : IntKind.i64.wrap ((n : Int) - 1) = (p : Int) := by rw [IntWalk.i64_in _ (by omega)]; omega
    obtain ⟨nb, hnb⟩ : ∃ x, n - b = x := ⟨_, rfl⟩
    have HGL : Hid (∀ q (h : q < L.length), (pre ++ L ++ R ++ post)[a + q]? = some L[q]) := Lib.hid (fun q h => by rw [List.append_assoc (pre ++ L)]; exact get_app ha h)
    have HGR : Hid (∀ q (h : q < R.length), (pre ++ L ++ R ++ post)[m + q]? = some R[q]) := Lib.hid (fun q h => get_app (by rw [List.length_append, ha]; exact hm) h)
    have HDL : Hid (∀ z ∈ L, D z) := Lib.hid (fun z hz => hD z (by simp [hz]))
    have HDR : Hid (∀ z ∈ R, D z) := Lib.hid (fun z hz => hD z (by simp [hz]))
    have HL := Lib.hid hL
    have HR := Lib.hid hR
    have HN := Lib.hid hN
    obtain ⟨xs, hxs⟩ : ∃ xs, pre ++ L ++ R ++ post = xs := ⟨_, rfl⟩
    rw [hxs] at hS HGL HGR
    have HXS := Lib.hid hxs
    clear hD hL hR hN hxs
    go_enter Tryd.func201, Tryd.ntmps201
    go_upto_if 140 with (first | ((with_reducible show wpList _ _ _ (⟨_, Op.load _ _, _, _, _, _⟩ :: _) _ _); (first | refine Gives.list (f_load hS rfl rfl (by rfl)) rfl ?_ | refine Gives.list (f_loadS hS rfl rfl (by rfl)) rfl ?_ | refine Gives.list (f_loadAt hS rfl rfl) rfl ?_ | refine Gives.list (f_loadAtS hS rfl rfl (by rfl)) rfl ?_ | refine Gives.list (f_loadAtF hS rfl rfl (by rfl)) rfl ?_); (simp only [Act.put, sA, sZ, sS])))
    go_cut [20, 21] (fun sv rv wr => ∃ lo hi : Nat, sv = .int .i64 (lo : Int) ∧ rv = .int .i64 (hi : Int) ∧ (lo ≤ hi ∧ a ≤ lo ∧ hi ≤ m ∧ hi ≤ mid ∧ mid + m ≤ b + lo ∧ (lo = a ∨ n = b + lo) ∧ (hi = mid ∨ hi = m)) ∧ Sat w0 wr (.own Rep.int.rows [.slice (some ⟨g, off, none⟩) N c] xs :: Γ))
    case first => as_aux_lemma =>
      by_cases hmm : m > mid
      · have hmI : (mid : Int) < (m : Int) := by omega
        have hw5 : IntKind.i64.wrap ((n : Int) - (b : Int)) = (nb : Int) := by rw [IntWalk.i64_in _ (by omega)]; omega
        go_wp2_with (first | ((with_reducible show wpList _ _ _ (⟨_, Op.load _ _, _, _, _, _⟩ :: _) _ _); (first | refine Gives.list (f_load hS rfl rfl (by rfl)) rfl ?_ | refine Gives.list (f_loadS hS rfl rfl (by rfl)) rfl ?_ | refine Gives.list (f_loadAt hS rfl rfl) rfl ?_ | refine Gives.list (f_loadAtS hS rfl rfl (by rfl)) rfl ?_ | refine Gives.list (f_loadAtF hS rfl rfl (by rfl)) rfl ?_); (simp only [Act.put, sA, sZ, sS])))
        go_meet
        case rel => exact ⟨nb, mid, rfl, rfl, by omega, hS⟩
      · have hmI : ¬ (mid : Int) < (m : Int) := by omega
        go_wp2_with (first | ((with_reducible show wpList _ _ _ (⟨_, Op.load _ _, _, _, _, _⟩ :: _) _ _); (first | refine Gives.list (f_load hS rfl rfl (by rfl)) rfl ?_ | refine Gives.list (f_loadS hS rfl rfl (by rfl)) rfl ?_ | refine Gives.list (f_loadAt hS rfl rfl) rfl ?_ | refine Gives.list (f_loadAtS hS rfl rfl (by rfl)) rfl ?_ | refine Gives.list (f_loadAtF hS rfl rfl (by rfl)) rfl ?_); (simp only [Act.put, sA, sZ, sS])))
        go_meet
        case rel => exact ⟨a, m, rfl, rfl, by omega, hS⟩
    case rest => as_aux_lemma =>
      clear hS
      obtain ⟨lo, hi, rfl, rfl, hcase, hS⟩ := hcut
      go_wp2_with (first | ((with_reducible show wpList _ _ _ (⟨_, Op.load _ _, _, _, _, _⟩ :: _) _ _); (first | refine Gives.list (f_load hS rfl rfl (by rfl)) rfl ?_ | refine Gives.list (f_loadS hS rfl rfl (by rfl)) rfl ?_ | refine Gives.list (f_loadAt hS rfl rfl) rfl ?_ | refine Gives.list (f_loadAtS hS rfl rfl (by rfl)) rfl ?_ | refine Gives.list (f_loadAtF hS rfl rfl (by rfl)) rfl ?_); (simp only [Act.put, sA, sZ, sS])))
      go_loopw [20, 21] (fun iv jv wr => ∃ (s r : Nat), iv = .int .i64 (s : Int) ∧ jv = .int .i64 (r : Int) ∧ (lo ≤ s ∧ s ≤ r ∧ r ≤ hi) ∧ Hid (∀ (c : Nat) (h1 : c - a < L.length) (h2 : p - c - m < R.length), lo ≤ c → c < s → lt R[p - c - m] L[c - a] = false) ∧ Hid (∀ (c : Nat) (h1 : c - a < L.length) (h2 : p - c - m < R.length), r ≤ c → c < hi → lt R[p - c - m] L[c - a] = true) ∧ Sat w0 wr (.own Rep.int.rows [.slice (some ⟨g, off, none⟩) N c] xs :: Γ)) (fun iv jv _ => (intOf jv).toNat - (intOf iv).toNat)
      case atStart => exact ⟨lo, hi, rfl, rfl, by omega, Lib.hid (by intro c h1 h2 h3 h4; omega), Lib.hid (by intro c h1 h2 h3 h4; omega), hS⟩
      case round =>
        clear hS
        obtain ⟨s, r, rfl, rfl, ⟨hs1, hs2, hs3⟩, hA, hB, hS⟩ := hrel
        by_cases hlt : s < r
        · have hltI : (s : Int) < (r : Int) := by omega
          obtain ⟨S, hS0⟩ : ∃ S, s + r = S := ⟨_, rfl⟩
          obtain ⟨ib, hh⟩ : ∃ h, S / 2 = h := ⟨_, rfl⟩
          obtain ⟨m1, m2, m3, m4, m5⟩ := mid_words hS0 hh (by omega)
          obtain ⟨ia, hia0⟩ : ∃ i, p - ib = i := ⟨_, rfl⟩
          have hw6 : IntKind.i64.wrap ((p : Int) - (ib : Int)) = (ia : Int) := by rw [IntWalk.i64_in _ (by omega)]; omega
          have hw7 : IntKind.i64.wrap ((ib : Int) + 1) = ((ib + 1 : Nat) : Int) := by rw [IntWalk.i64_in _ (by omega)]; omega
          have hcL : ib - a < L.length := by omega
          have hcR : p - ib - m < R.length := by omega
          have Ha : Hid (xs[ia]? = some R[p - ib - m]) := Lib.hid (by have := HGR.out (p - ib - m) hcR; rw [show m + (p - ib - m) = ia by omega] at this; exact this)
          have Hb : Hid (xs[ib]? = some L[ib - a]) := Lib.hid (by have := HGL.out (ib - a) hcL; rw [show a + (ib - a) = ib by omega] at this; exact this)
          have Dz : Hid (D R[p - ib - m]) := Lib.hid (HDR.out _ (List.getElem_mem hcR))
          have Dx : Hid (D L[ib - a]) := Lib.hid (HDL.out _ (List.getElem_mem hcL))
          have hia : ia < N := by omega
          have hib : ib < N := by omega
          have hiaI : (ia : Int) < (N : Int) := by omega
          have hibI : (ib : Int) < (N : Int) := by omega
          cases hc : lt R[p - ib - m] L[ib - a]
          · as_aux_lemma =>
            have HA2 : Hid (∀ (c : Nat) (h1 : c - a < L.length) (h2 : p - c - m < R.length), lo ≤ c → c < ib + 1 → lt R[p - c - m] L[c - a] = false) := Lib.hid (fun c h1 h2 h3 h4 =>
              hpre.trans (srt_get hpre HL.out (i := c - a) (j := ib - a) (by omega) hcL) (hpre.trans (show leOf lt L[ib - a] R[p - ib - m] from hc) (srt_get hpre HR.out (i := p - ib - m) (j := p - c - m) (by omega) h2)))
            have Hlt := Lib.hid hc
            clear hc
            generalize R[p - ib - m] = z at Ha Dz Hlt
            generalize L[ib - a] = x at Hb Dx Hlt
            go_wp2_with (first | ((with_reducible show Code.wp _ (Code.region 35 _ true) _ _ _); refine wp_region_drawn [(0, 0), (1, 0), (2, 0), (3, 0), (4, 0), (5, 0), (6, 1), (7, 0), (8, 0), (9, 0), (10, 1), (11, 2), (12, 0), (13, 0)] (by kernel_rfl) (by kernel_rfl) (by intro _ _ dq _ _ hq; cases dq <;> exact hq) ?_; replace hS := hS.mod (Mod.drew (Mod.refl _ _)); (generalize hwd : World.drew _ = wz at hS ⊢); clear hwd) | ((with_reducible show wpD _ _ _ ((_, 1) :: _) _ _); (first | refine D_load rfl rfl (fun x hx => f_loadRow (g := g) (off := off) (k := ia) (n := N) (c := c) (hS.mod hx) rfl rfl Ha.out) ?_ | refine D_load rfl rfl (fun x hx => f_loadRow (g := g) (off := off) (k := ib) (n := N) (c := c) (hS.mod hx) rfl rfl Hb.out) ?_); (first | show wpD _ _ _ _ (Act.put _ (some _) _) _ | show wpD _ _ _ _ (Act.put _ none _) _); (simp only [Act.put, sA, sZ, sS])) | ((with_reducible show wpD _ _ _ ((_, 2) :: _) _ _); (refine D_call (f := 164) (args := ?_) rfl rfl ?_ ?_); rotate_left 1; (show (Sem.run _ (execOp _ (Oper.mk _ _ _ _ _ _)) _) = _; go_simp; rfl); refine (hcmp _ _ hS z x Dz.out Dx.out).mono ?_; rintro e wy ⟨⟨r0, rfl, hr⟩, hM⟩; (rw [Hlt.out] at hr); replace hS := hS.mod hM; refine ⟨_, rfl, hM, ?_⟩; clear hM; (first | show wpD _ _ _ _ (Act.put _ (some _) _) _ | show wpD _ _ _ _ (Act.put _ none _) _); (simp only [Act.put, sA, sZ, sS])) | ((with_reducible show wpD _ _ _ [] _ _); refine D_nil ?_) | ((with_reducible show wpD _ _ _ ((_, 0) :: _) _ _); (first | (refine D_skip rfl rfl ?_; (first | show wpD _ _ _ _ (Act.put _ (some _) _) _ | show wpD _ _ _ _ (Act.put _ none _) _); (simp only [Act.put, sA, sZ, sS])) | (refine D_pure (v := ?_) rfl rfl (fun wq => ?_) ?_; rotate_left 1; (show (Sem.run _ (execOp _ (Oper.mk _ _ _ _ _ _)) _) = _; go_simp; (try go_bits); with_reducible rfl); (first | show wpD _ _ _ _ (Act.put _ (some _) _) _ | show wpD _ _ _ _ (Act.put _ none _) _); (simp only [Act.put, sA, sZ, sS])))))
            go_roundw
            case rel => exact ⟨ib + 1, r, by go_num, rfl, by omega, HA2, hB, hS⟩
            case measure => simp [intOf]; omega
          · as_aux_lemma =>
            have HB2 : Hid (∀ (c : Nat) (h1 : c - a < L.length) (h2 : p - c - m < R.length), ib ≤ c → c < hi → lt R[p - c - m] L[c - a] = true) := Lib.hid (fun c h1 h2 h3 h4 =>
              lt_le_lt hpre (srt_get hpre HR.out (i := p - c - m) (j := p - ib - m) (by omega) hcR) (le_lt_lt hpre hc (srt_get hpre HL.out (i := ib - a) (j := c - a) (by omega) h1)))
            have Hlt := Lib.hid hc
            clear hc
            generalize R[p - ib - m] = z at Ha Dz Hlt
            generalize L[ib - a] = x at Hb Dx Hlt
            go_wp2_with (first | ((with_reducible show Code.wp _ (Code.region 35 _ true) _ _ _); refine wp_region_drawn [(0, 0), (1, 0), (2, 0), (3, 0), (4, 0), (5, 0), (6, 1), (7, 0), (8, 0), (9, 0), (10, 1), (11, 2), (12, 0), (13, 0)] (by kernel_rfl) (by kernel_rfl) (by intro _ _ dq _ _ hq; cases dq <;> exact hq) ?_; replace hS := hS.mod (Mod.drew (Mod.refl _ _)); (generalize hwd : World.drew _ = wz at hS ⊢); clear hwd) | ((with_reducible show wpD _ _ _ ((_, 1) :: _) _ _); (first | refine D_load rfl rfl (fun x hx => f_loadRow (g := g) (off := off) (k := ia) (n := N) (c := c) (hS.mod hx) rfl rfl Ha.out) ?_ | refine D_load rfl rfl (fun x hx => f_loadRow (g := g) (off := off) (k := ib) (n := N) (c := c) (hS.mod hx) rfl rfl Hb.out) ?_); (first | show wpD _ _ _ _ (Act.put _ (some _) _) _ | show wpD _ _ _ _ (Act.put _ none _) _); (simp only [Act.put, sA, sZ, sS])) | ((with_reducible show wpD _ _ _ ((_, 2) :: _) _ _); (refine D_call (f := 164) (args := ?_) rfl rfl ?_ ?_); rotate_left 1; (show (Sem.run _ (execOp _ (Oper.mk _ _ _ _ _ _)) _) = _; go_simp; rfl); refine (hcmp _ _ hS z x Dz.out Dx.out).mono ?_; rintro e wy ⟨⟨r0, rfl, hr⟩, hM⟩; (rw [Hlt.out] at hr); replace hS := hS.mod hM; refine ⟨_, rfl, hM, ?_⟩; clear hM; (first | show wpD _ _ _ _ (Act.put _ (some _) _) _ | show wpD _ _ _ _ (Act.put _ none _) _); (simp only [Act.put, sA, sZ, sS])) | ((with_reducible show wpD _ _ _ [] _ _); refine D_nil ?_) | ((with_reducible show wpD _ _ _ ((_, 0) :: _) _ _); (first | (refine D_skip rfl rfl ?_; (first | show wpD _ _ _ _ (Act.put _ (some _) _) _ | show wpD _ _ _ _ (Act.put _ none _) _); (simp only [Act.put, sA, sZ, sS])) | (refine D_pure (v := ?_) rfl rfl (fun wq => ?_) ?_; rotate_left 1; (show (Sem.run _ (execOp _ (Oper.mk _ _ _ _ _ _)) _) = _; go_simp; (try go_bits); with_reducible rfl); (first | show wpD _ _ _ _ (Act.put _ (some _) _) _ | show wpD _ _ _ _ (Act.put _ none _) _); (simp only [Act.put, sA, sZ, sS])))))
            go_roundw
            case rel => exact ⟨s, ib, rfl, rfl, by omega, hA, HB2, hS⟩
            case measure => simp [intOf]; omega
        · obtain rfl : r = s := by omega
          have hltI : ¬ (r : Int) < (r : Int) := by omega
          obtain ⟨st, rfl⟩ : ∃ x, x = r := ⟨_, rfl⟩
          obtain ⟨en, hen⟩ : ∃ x, n - st = x := ⟨_, rfl⟩
          have hw6 : IntKind.i64.wrap ((n : Int) - (st : Int)) = (en : Int) := by rw [IntWalk.i64_in _ (by omega)]; omega
          obtain ⟨hc1, hc2⟩ := cut_ok hpre HL.out HR.out (s := st - a) (e := en - m) (by omega) (by omega)
            (fun h h' => by
              have h3 := hA.out (st - 1) (by omega) (by omega) (by omega) (by omega)
              have e1 : st - 1 - a = st - a - 1 := by omega
              have e2 : p - (st - 1) - m = en - m := by omega
              simp only [e1, e2] at h3
              exact h3)
            (fun h h' => by
              have h3 := hB.out st (by omega) (by omega) (by omega) (by omega)
              have e2 : p - st - m = en - m - 1 := by omega
              simp only [e2] at h3
              exact lt_le hpre h3)
          have hLe : L.take (st - a) ++ L.drop (st - a) = L := List.take_append_drop _ _
          have hRe : R.take (en - m) ++ R.drop (en - m) = R := List.take_append_drop _ _
          have l1 : (L.take (st - a)).length = st - a := by rw [List.length_take]; omega
          have l2 : (L.drop (st - a)).length = m - st := by rw [List.length_drop]; omega
          have l3 : (R.take (en - m)).length = en - m := by rw [List.length_take]; omega
          have l4 : (R.drop (en - m)).length = b - en := by rw [List.length_drop]; omega
          have hLR : L.length = m - a ∧ R.length = b - m := by omega
          generalize L.take (st - a) = L1 at hLe l1 hc1 hc2
          generalize L.drop (st - a) = L2 at hLe l2 hc1 hc2
          generalize R.take (en - m) = R1 at hRe l3 hc1 hc2
          generalize R.drop (en - m) = R2 at hRe l4 hc1 hc2
          have hst1 : a ≤ st ∧ st ≤ m ∧ m ≤ en ∧ en ≤ b ∧ st + (en - m) = mid := by omega
          subst hLe hRe
          have HH := Lib.hid (fun (Y1 Y2 : List Int) => halves (Y1 := Y1) (Y2 := Y2) HL.out HR.out hc1 hc2)
          have HlN : Hid (pre.length + L1.length + L2.length + R1.length + R2.length + post.length = N) := Lib.hid (by rw [← HN.out]; simp only [List.length_append]; omega)
          have HD1 : Hid (∀ z ∈ L1 ++ R1, D z) := Lib.hid (fun z hz => by rcases List.mem_append.1 hz with h | h; exact HDL.out z (by simp [h]); exact HDR.out z (by simp [h]))
          have HD2 : Hid (∀ z ∈ L2 ++ R2, D z) := Lib.hid (fun z hz => by rcases List.mem_append.1 hz with h | h; exact HDL.out z (by simp [h]); exact HDR.out z (by simp [h]))
          have Hs1 : Hid (Srt (leOf lt) L1) := Lib.hid (srt_append.1 HL.out).1
          have Hs3 : Hid (Srt (leOf lt) L2) := Lib.hid (srt_append.1 HL.out).2.1
          have Hs2 : Hid (Srt (leOf lt) R1) := Lib.hid (srt_append.1 HR.out).1
          have Hs4 : Hid (Srt (leOf lt) R2) := Lib.hid (srt_append.1 HR.out).2.1
          have F0 : Hid (xs = (pre ++ L1) ++ L2 ++ R1 ++ (R2 ++ post)) := Lib.hid (by rw [← HXS.out]; simp only [List.append_assoc])
          rw [F0.out] at hS
          have HNr : Hid (((pre ++ L1) ++ L2 ++ R1 ++ (R2 ++ post)).length = N) := Lib.hid (by rw [← HlN.out]; simp only [List.length_append]; omega)
          have HN1 : Hid ((pre ++ L1 ++ R1 ++ (L2 ++ R2 ++ post)).length = N) := Lib.hid (by rw [← HlN.out]; simp only [List.length_append]; omega)
          have Hst : Hid ((pre ++ L1).length = st) := Lib.hid (by rw [List.length_append]; omega)
          have Hm2 : Hid ((pre ++ L1).length + L2.length = m) := Lib.hid (by rw [List.length_append]; omega)
          have Hen : Hid ((pre ++ L1).length + L2.length + R1.length = en) := Lib.hid (by rw [List.length_append]; omega)
          have Ha1 : Hid (a + L1.length = st) := Lib.hid (by omega)
          have Hb1 : Hid (st + R1.length = mid) := Lib.hid (by omega)
          have Hm3 : Hid (mid + L2.length = en) := Lib.hid (by omega)
          have Hb2 : Hid (en + R2.length = b) := Lib.hid (by omega)
          have hfl : L1.length + R1.length ≤ f ∧ L2.length + R2.length ≤ f := by omega
          have HLN := HlN
          have zero_of : ∀ {l : List Int}, ¬ 1 ≤ l.length → l = [] := fun h => List.eq_nil_of_length_eq_zero (by omega)
          have F1 : Hid (¬ (1 ≤ L2.length ∧ 1 ≤ R1.length) → (pre ++ L1) ++ L2 ++ R1 ++ (R2 ++ post) = pre ++ L1 ++ R1 ++ (L2 ++ R2 ++ post)) := Lib.hid (fun h => by
            by_cases h1 : 1 ≤ L2.length
            · rw [zero_of (fun h2 => h ⟨h1, h2⟩)]; simp only [List.append_assoc, List.nil_append, List.append_nil]
            · rw [zero_of h1]; simp only [List.append_assoc, List.nil_append, List.append_nil])
          have F1' : Hid ((pre ++ L1) ++ R1 ++ L2 ++ (R2 ++ post) = pre ++ L1 ++ R1 ++ (L2 ++ R2 ++ post)) := Lib.hid (by simp only [List.append_assoc])
          have F2 : Hid (¬ (1 ≤ L1.length ∧ 1 ≤ R1.length) → Srt (leOf lt) (L1 ++ R1)) := Lib.hid (fun h => by
            by_cases h1 : 1 ≤ L1.length
            · rw [zero_of (fun h2 => h ⟨h1, h2⟩), List.append_nil]; exact Hs1.out
            · rw [zero_of h1, List.nil_append]; exact Hs2.out)
          have F3 : Hid (¬ (1 ≤ L2.length ∧ 1 ≤ R2.length) → Srt (leOf lt) (L2 ++ R2)) := Lib.hid (fun h => by
            by_cases h1 : 1 ≤ L2.length
            · rw [zero_of (fun h2 => h ⟨h1, h2⟩), List.append_nil]; exact Hs3.out
            · rw [zero_of h1, List.nil_append]; exact Hs4.out)
          obtain ⟨c1, hc1'⟩ : ∃ c, c = decide (1 ≤ L2.length ∧ 1 ≤ R1.length) := ⟨_, rfl⟩
          obtain ⟨c2, hc2'⟩ : ∃ c, c = decide (1 ≤ L1.length ∧ 1 ≤ R1.length) := ⟨_, rfl⟩
          have C1 := Lib.hid hc1'
          have C2 := Lib.hid hc2'
          clear hc1' hc2' zero_of
          go_upto_region 39 with (first | ((with_reducible show wpList _ _ _ (⟨_, Op.load _ _, _, _, _, _⟩ :: _) _ _); (first | refine Gives.list (f_load hS rfl rfl (by rfl)) rfl ?_ | refine Gives.list (f_loadS hS rfl rfl (by rfl)) rfl ?_ | refine Gives.list (f_loadAt hS rfl rfl) rfl ?_ | refine Gives.list (f_loadAtS hS rfl rfl (by rfl)) rfl ?_ | refine Gives.list (f_loadAtF hS rfl rfl (by rfl)) rfl ?_); (simp only [Act.put, sA, sZ, sS])))
          go_cut [185] (fun bv wr => bv = .bool c1 ∧ Sat w0 wr (.own Rep.int.rows [.slice (some ⟨g, off, none⟩) N c] ((pre ++ L1) ++ L2 ++ R1 ++ (R2 ++ post)) :: Γ))
          case first => as_aux_lemma =>
            by_cases k1 : st < m
            · have k1I : (st : Int) < (m : Int) := by omega
              by_cases k2 : m < en
              · have k2I : (m : Int) < (en : Int) := by omega
                have hc : c1 = true := by rw [C1.out]; exact decide_eq_true (by omega)
                go_wp2_with (first | ((with_reducible show wpList _ _ _ (⟨_, Op.load _ _, _, _, _, _⟩ :: _) _ _); (first | refine Gives.list (f_load hS rfl rfl (by rfl)) rfl ?_ | refine Gives.list (f_loadS hS rfl rfl (by rfl)) rfl ?_ | refine Gives.list (f_loadAt hS rfl rfl) rfl ?_ | refine Gives.list (f_loadAtS hS rfl rfl (by rfl)) rfl ?_ | refine Gives.list (f_loadAtF hS rfl rfl (by rfl)) rfl ?_); (simp only [Act.put, sA, sZ, sS])))
                go_meet
                case rel => exact ⟨by rw [hc], hS⟩
              · have k2I : ¬ (m : Int) < (en : Int) := by omega
                have hc : c1 = false := by rw [C1.out]; exact decide_eq_false (by omega)
                go_wp2_with (first | ((with_reducible show wpList _ _ _ (⟨_, Op.load _ _, _, _, _, _⟩ :: _) _ _); (first | refine Gives.list (f_load hS rfl rfl (by rfl)) rfl ?_ | refine Gives.list (f_loadS hS rfl rfl (by rfl)) rfl ?_ | refine Gives.list (f_loadAt hS rfl rfl) rfl ?_ | refine Gives.list (f_loadAtS hS rfl rfl (by rfl)) rfl ?_ | refine Gives.list (f_loadAtF hS rfl rfl (by rfl)) rfl ?_); (simp only [Act.put, sA, sZ, sS])))
                go_meet
                case rel => exact ⟨by rw [hc], hS⟩
            · have k1I : ¬ (st : Int) < (m : Int) := by omega
              have hc : c1 = false := by rw [C1.out]; exact decide_eq_false (by omega)
              go_wp2_with (first | ((with_reducible show wpList _ _ _ (⟨_, Op.load _ _, _, _, _, _⟩ :: _) _ _); (first | refine Gives.list (f_load hS rfl rfl (by rfl)) rfl ?_ | refine Gives.list (f_loadS hS rfl rfl (by rfl)) rfl ?_ | refine Gives.list (f_loadAt hS rfl rfl) rfl ?_ | refine Gives.list (f_loadAtS hS rfl rfl (by rfl)) rfl ?_ | refine Gives.list (f_loadAtF hS rfl rfl (by rfl)) rfl ?_); (simp only [Act.put, sA, sZ, sS])))
              go_meet
              case rel => exact ⟨by rw [hc], hS⟩
          case rest => as_aux_lemma =>
            clear hS
            obtain ⟨rfl, hS⟩ := hcut
            go_upto_if 185 with (first | ((with_reducible show wpList _ _ _ (⟨_, Op.load _ _, _, _, _, _⟩ :: _) _ _); (first | refine Gives.list (f_load hS rfl rfl (by rfl)) rfl ?_ | refine Gives.list (f_loadS hS rfl rfl (by rfl)) rfl ?_ | refine Gives.list (f_loadAt hS rfl rfl) rfl ?_ | refine Gives.list (f_loadAtS hS rfl rfl (by rfl)) rfl ?_ | refine Gives.list (f_loadAtF hS rfl rfl (by rfl)) rfl ?_); (simp only [Act.put, sA, sZ, sS])))
            go_cut [] (fun wr => Sat w0 wr (.own Rep.int.rows [.slice (some ⟨g, off, none⟩) N c] (pre ++ L1 ++ R1 ++ (L2 ++ R2 ++ post)) :: Γ))
            case first => as_aux_lemma =>
              cases c1
              · have hF := Lib.hid (F1.out (of_decide_eq_false C1.out.symm))
                go_wp2_with (first | ((with_reducible show wpList _ _ _ (⟨_, Op.load _ _, _, _, _, _⟩ :: _) _ _); (first | refine Gives.list (f_load hS rfl rfl (by rfl)) rfl ?_ | refine Gives.list (f_loadS hS rfl rfl (by rfl)) rfl ?_ | refine Gives.list (f_loadAt hS rfl rfl) rfl ?_ | refine Gives.list (f_loadAtS hS rfl rfl (by rfl)) rfl ?_ | refine Gives.list (f_loadAtF hS rfl rfl (by rfl)) rfl ?_); (simp only [Act.put, sA, sZ, sS])))
                go_meet
                case rel => rw [hF.out] at hS; exact hS
              · have hl := of_decide_eq_true C1.out.symm
                obtain ⟨hL2p, hR1p⟩ := hl
                go_wp2_with (first | (go_at_call 208; (with_reducible show Calls _ _ #[_, Value.int IntKind.i64 (st : Int), Value.int IntKind.i64 (m : Int), Value.int IntKind.i64 (en : Int), _] _ _); refine (rotate_w g off N c _ (pre ++ L1) L2 R1 (R2 ++ post) st m en HNr.out hN2 Hst.out Hm2.out Hen.out hL2p hR1p hS).mono ?_; clear hS; rintro e w' ⟨rfl, hS⟩))
                go_meet
                case rel => rw [F1'.out] at hS; exact hS
            case rest => as_aux_lemma =>
              clear hS
              have hS := hcut
              clear hcut
              go_upto_region 41 with (first | ((with_reducible show wpList _ _ _ (⟨_, Op.load _ _, _, _, _, _⟩ :: _) _ _); (first | refine Gives.list (f_load hS rfl rfl (by rfl)) rfl ?_ | refine Gives.list (f_loadS hS rfl rfl (by rfl)) rfl ?_ | refine Gives.list (f_loadAt hS rfl rfl) rfl ?_ | refine Gives.list (f_loadAtS hS rfl rfl (by rfl)) rfl ?_ | refine Gives.list (f_loadAtF hS rfl rfl (by rfl)) rfl ?_); (simp only [Act.put, sA, sZ, sS])))
              go_cut [199] (fun bv wr => bv = .bool c2 ∧ Sat w0 wr (.own Rep.int.rows [.slice (some ⟨g, off, none⟩) N c] (pre ++ L1 ++ R1 ++ (L2 ++ R2 ++ post)) :: Γ))
              case first => as_aux_lemma =>
                by_cases k1 : a < st
                · have k1I : (a : Int) < (st : Int) := by omega
                  by_cases k2 : st < mid
                  · have k2I : (st : Int) < (mid : Int) := by omega
                    have hc : c2 = true := by rw [C2.out]; exact decide_eq_true (by omega)
                    go_wp2_with (first | ((with_reducible show wpList _ _ _ (⟨_, Op.load _ _, _, _, _, _⟩ :: _) _ _); (first | refine Gives.list (f_load hS rfl rfl (by rfl)) rfl ?_ | refine Gives.list (f_loadS hS rfl rfl (by rfl)) rfl ?_ | refine Gives.list (f_loadAt hS rfl rfl) rfl ?_ | refine Gives.list (f_loadAtS hS rfl rfl (by rfl)) rfl ?_ | refine Gives.list (f_loadAtF hS rfl rfl (by rfl)) rfl ?_); (simp only [Act.put, sA, sZ, sS])))
                    go_meet
                    case rel => exact ⟨by rw [hc], hS⟩
                  · have k2I : ¬ (st : Int) < (mid : Int) := by omega
                    have hc : c2 = false := by rw [C2.out]; exact decide_eq_false (by omega)
                    go_wp2_with (first | ((with_reducible show wpList _ _ _ (⟨_, Op.load _ _, _, _, _, _⟩ :: _) _ _); (first | refine Gives.list (f_load hS rfl rfl (by rfl)) rfl ?_ | refine Gives.list (f_loadS hS rfl rfl (by rfl)) rfl ?_ | refine Gives.list (f_loadAt hS rfl rfl) rfl ?_ | refine Gives.list (f_loadAtS hS rfl rfl (by rfl)) rfl ?_ | refine Gives.list (f_loadAtF hS rfl rfl (by rfl)) rfl ?_); (simp only [Act.put, sA, sZ, sS])))
                    go_meet
                    case rel => exact ⟨by rw [hc], hS⟩
                · have k1I : ¬ (a : Int) < (st : Int) := by omega
                  have hc : c2 = false := by rw [C2.out]; exact decide_eq_false (by omega)
                  go_wp2_with (first | ((with_reducible show wpList _ _ _ (⟨_, Op.load _ _, _, _, _, _⟩ :: _) _ _); (first | refine Gives.list (f_load hS rfl rfl (by rfl)) rfl ?_ | refine Gives.list (f_loadS hS rfl rfl (by rfl)) rfl ?_ | refine Gives.list (f_loadAt hS rfl rfl) rfl ?_ | refine Gives.list (f_loadAtS hS rfl rfl (by rfl)) rfl ?_ | refine Gives.list (f_loadAtF hS rfl rfl (by rfl)) rfl ?_); (simp only [Act.put, sA, sZ, sS])))
                  go_meet
                  case rel => exact ⟨by rw [hc], hS⟩
              case rest => as_aux_lemma =>
                clear hS
                obtain ⟨rfl, hS⟩ := hcut
                go_upto_if 199 with (first | ((with_reducible show wpList _ _ _ (⟨_, Op.load _ _, _, _, _, _⟩ :: _) _ _); (first | refine Gives.list (f_load hS rfl rfl (by rfl)) rfl ?_ | refine Gives.list (f_loadS hS rfl rfl (by rfl)) rfl ?_ | refine Gives.list (f_loadAt hS rfl rfl) rfl ?_ | refine Gives.list (f_loadAtS hS rfl rfl (by rfl)) rfl ?_ | refine Gives.list (f_loadAtF hS rfl rfl (by rfl)) rfl ?_); (simp only [Act.put, sA, sZ, sS])))
                go_cut [] (fun wr => ∃ Y1 : List Int, Hid (Y1.Perm (L1 ++ R1)) ∧ Hid (Srt (leOf lt) Y1) ∧ Sat w0 wr (.own Rep.int.rows [.slice (some ⟨g, off, none⟩) N c] ((pre ++ Y1) ++ L2 ++ R2 ++ post) :: Γ))
                case first => as_aux_lemma =>
                  cases c2
                  · have hF := Lib.hid (F2.out (of_decide_eq_false C2.out.symm))
                    go_wp2_with (first | ((with_reducible show wpList _ _ _ (⟨_, Op.load _ _, _, _, _, _⟩ :: _) _ _); (first | refine Gives.list (f_load hS rfl rfl (by rfl)) rfl ?_ | refine Gives.list (f_loadS hS rfl rfl (by rfl)) rfl ?_ | refine Gives.list (f_loadAt hS rfl rfl) rfl ?_ | refine Gives.list (f_loadAtS hS rfl rfl (by rfl)) rfl ?_ | refine Gives.list (f_loadAtF hS rfl rfl (by rfl)) rfl ?_); (simp only [Act.put, sA, sZ, sS])))
                    go_meet
                    case rel => exact ⟨L1 ++ R1, Lib.hid (List.Perm.refl _), hF, by simpa only [List.append_assoc] using hS⟩
                  · obtain ⟨hL1p, hR1p⟩ := of_decide_eq_true C2.out.symm
                    go_wp2_with (first | (go_at_call 201; (with_reducible show Calls _ _ #[_, Value.int IntKind.i64 (a : Int), Value.int IntKind.i64 (st : Int), Value.int IntKind.i64 (mid : Int), _] _ _); refine (ih _ pre L1 R1 (L2 ++ R2 ++ post) a st mid HN1.out ha Ha1.out Hb1.out hL1p hR1p hfl.1 HD1.out Hs1.out Hs2.out hS).mono ?_; clear hS; rintro e w' ⟨rfl, Y1, p1, s1, hS⟩))
                    go_meet
                    case rel => exact ⟨Y1, Lib.hid p1, Lib.hid s1, by simpa only [List.append_assoc] using hS⟩
                case rest => as_aux_lemma =>
                  clear hS
                  obtain ⟨Y1, P1, S1, hS⟩ := hcut
                  have hl1p := P1.out.length_eq
                  rw [List.length_append] at hl1p
                  have Ha2 : Hid ((pre ++ Y1).length = mid) := Lib.hid (by rw [List.length_append]; omega)
                  have HN2 : Hid (((pre ++ Y1) ++ L2 ++ R2 ++ post).length = N) := Lib.hid (by rw [← HLN.out]; simp only [List.length_append]; omega)
                  clear hl1p
                  by_cases k1 : mid < en
                  · have k1I : (mid : Int) < (en : Int) := by omega
                    by_cases k2 : en < b
                    · have k2I : (en : Int) < (b : Int) := by omega
                      have hL2p : 1 ≤ L2.length := by omega
                      have hR2p : 1 ≤ R2.length := by omega
                      go_wp2_with (first | (go_at_call 201; refine (ih _ (pre ++ Y1) L2 R2 post mid en b HN2.out Ha2.out Hm3.out Hb2.out hL2p hR2p hfl.2 HD2.out Hs3.out Hs4.out hS).mono ?_; clear hS; rintro e w' ⟨rfl, Y2, p2, s2, hS⟩))
                      (try simp only [Exit.inBlock, Exit.then])
                      (first | refine bodyPost_ret (results_none rfl _ _ _) rfl ?_ | refine bodyPost_end (results_none rfl _ _ _) rfl ?_)
                      obtain ⟨t1, t2⟩ := HH.out _ _ P1.out p2 S1.out s2
                      exact ⟨rfl, Y1 ++ Y2, t2, t1, by simpa only [List.append_assoc] using hS⟩
                    · have k2I : ¬ (en : Int) < (b : Int) := by omega
                      have s2 := Lib.hid (F3.out (by omega))
                      go_wp2_with (first | ((with_reducible show wpList _ _ _ (⟨_, Op.load _ _, _, _, _, _⟩ :: _) _ _); (first | refine Gives.list (f_load hS rfl rfl (by rfl)) rfl ?_ | refine Gives.list (f_loadS hS rfl rfl (by rfl)) rfl ?_ | refine Gives.list (f_loadAt hS rfl rfl) rfl ?_ | refine Gives.list (f_loadAtS hS rfl rfl (by rfl)) rfl ?_ | refine Gives.list (f_loadAtF hS rfl rfl (by rfl)) rfl ?_); (simp only [Act.put, sA, sZ, sS])))
                      (try simp only [Exit.inBlock, Exit.then])
                      (first | refine bodyPost_ret (results_none rfl _ _ _) rfl ?_ | refine bodyPost_end (results_none rfl _ _ _) rfl ?_)
                      obtain ⟨t1, t2⟩ := HH.out _ _ P1.out (List.Perm.refl _) S1.out s2.out
                      exact ⟨rfl, Y1 ++ (L2 ++ R2), by first | exact t2 | simpa only [List.append_assoc] using t2, t1, by simpa only [List.append_assoc] using hS⟩
                  · have k1I : ¬ (mid : Int) < (en : Int) := by omega
                    have s2 := Lib.hid (F3.out (by omega))
                    go_wp2_with (first | ((with_reducible show wpList _ _ _ (⟨_, Op.load _ _, _, _, _, _⟩ :: _) _ _); (first | refine Gives.list (f_load hS rfl rfl (by rfl)) rfl ?_ | refine Gives.list (f_loadS hS rfl rfl (by rfl)) rfl ?_ | refine Gives.list (f_loadAt hS rfl rfl) rfl ?_ | refine Gives.list (f_loadAtS hS rfl rfl (by rfl)) rfl ?_ | refine Gives.list (f_loadAtF hS rfl rfl (by rfl)) rfl ?_); (simp only [Act.put, sA, sZ, sS])))
                    (try simp only [Exit.inBlock, Exit.then])
                    (first | refine bodyPost_ret (results_none rfl _ _ _) rfl ?_ | refine bodyPost_end (results_none rfl _ _ _) rfl ?_)
                    obtain ⟨t1, t2⟩ := HH.out _ _ P1.out (List.Perm.refl _) S1.out s2.out
                    exact ⟨rfl, Y1 ++ (L2 ++ R2), by first | exact t2 | simpa only [List.append_assoc] using t2, t1, by simpa only [List.append_assoc] using hS⟩
end Go.Proofs.YtldknaajnnohiaaDoor
