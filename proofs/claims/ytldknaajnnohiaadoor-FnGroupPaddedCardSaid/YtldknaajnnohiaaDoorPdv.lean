/- PaddedValid: the reference's contract. -/
import Derived.Test.YtldknaajnnohiaaDoorCat
section
namespace Go.Proofs.YtldknaajnnohiaaDoor
open Go.RowKit

theorem rng_succ {f : Nat → Bool} {k : Nat} (h0 : (List.range k).all f = true) (h1 : f k = true) : (List.range (k + 1)).all f = true := by
  rw [List.range_succ, List.all_append, h0]
  simp [h1]
theorem rng_bad {f : Nat → Bool} {n k : Nat} (hk : k < n) (h1 : f k = false) : (List.range n).all f = false :=
  List.all_eq_false.2 ⟨k, List.mem_range.2 hk, by simp [h1]⟩
def padBad (m : Bool) (x : Int) : Bool := !inB x (-100000) 100000 || (!m && decide (x ≠ 0))
def padRow (n : Nat) (m : Bool) (r : List Int) : Bool := decide (r.length = n) && !r.any (padBad m)
def padAt (n : Nat) (rows : List (List Int)) (real : List Bool) (k : Nat) : Bool := padRow n (real.getD k true) (rows.getD k [])
def padRows (n : Nat) (rows : List (List Int)) (real : List Bool) : Bool := (List.range rows.length).all (padAt n rows real)
def paddedOk (p : PaddedD) : Bool := namesOk p.1 && (decide (p.2.1.length ≤ 256) && (decide (p.2.2.length = p.2.1.length) && padRows p.1.length p.2.1 p.2.2))
section
variable {ns : List ByteArray} {rows : List (List Int)} {real : List Bool} {k : Nat}
theorem paddedOk_r (h : padRows ns.length rows real = false) : paddedOk (ns, rows, real) = false := by unfold paddedOk; rw [h]; simp
theorem paddedOk_n (h : namesOk ns = false) : paddedOk (ns, rows, real) = false := by unfold paddedOk; rw [h]; rfl
theorem paddedOk_l (h : ¬rows.length ≤ 256) : paddedOk (ns, rows, real) = false := by unfold paddedOk; rw [decide_eq_false h]; simp
theorem paddedOk_m (h : ¬real.length = rows.length) : paddedOk (ns, rows, real) = false := by unfold paddedOk; rw [decide_eq_false h]; simp
theorem paddedOk_t (h1 : namesOk ns = true) (h2 : rows.length ≤ 256) (h3 : real.length = rows.length) (h4 : padRows ns.length rows real = true) : paddedOk (ns, rows, real) = true := by
  unfold paddedOk; rw [h1, h4, decide_eq_true h2, decide_eq_true h3]; rfl
theorem padAt_of {r : List Int} {m : Bool} (hr : rows[k]? = some r) (hm : real.getD k true = m) : padAt ns.length rows real k = padRow ns.length m r := by
  unfold padAt; rw [hm, List.getD_eq_getElem?_getD, hr]; rfl
theorem padRow_len {m : Bool} {r : List Int} (h : r.length ≠ ns.length) : padRow ns.length m r = false := by unfold padRow; rw [decide_eq_false h]; rfl
theorem padRow_any {m : Bool} {r : List Int} (h : r.any (padBad m) = true) : padRow ns.length m r = false := by unfold padRow; rw [h]; simp
theorem padRow_ok {m : Bool} {r : List Int} (h1 : r.length = ns.length) (h2 : r.any (padBad m) = false) : padRow ns.length m r = true := by unfold padRow; rw [decide_eq_true h1, h2]; rfl
end
set_option maxHeartbeats 8000000 in
set_option maxRecDepth 8000 in
theorem spec_PaddedValid' (w : World) (A1 A2 A3 : Option Addr) (c1 c2 c3 : Nat) (F G H' : List Nat) (ns : List ByteArray) (rows : List (List Int)) (real : List Bool) (hx : SliceHas Rep.str w F [.slice A1 ns.length c1] ns) (hy : SliceHas Rep.int.slice w G [.slice A2 rows.length c2] rows) (hz : SliceHas Rep.bool w H' [.slice A3 real.length c3] real) :
    Calls Tryd.prog 74 #[.agg #[.slice A1 ns.length c1, .slice A2 rows.length c2, .slice A3 real.length c3]] w fun e w' => e = .returned (.bool (paddedOk (ns, rows, real))) ∧ Mod [] w w' := by
  obtain ⟨_, _, _, hcl, _⟩ := hy.form'
  have hS : Sat w w [.ro Rep.str.slice [.slice A1 ns.length c1] ns, .ro Rep.int.slice.slice [.slice A2 rows.length c2] rows, .ro Rep.bool.slice [.slice A3 real.length c3] real] := (((Sat.nil w).arg hz).arg hy).arg hx
  clear hx hy hz
  go_enter Tryd.func74, Tryd.ntmps74
  go_wp2_with (first | ((with_reducible show wpList _ _ _ (⟨_, Op.box _ _, _, _, _, _⟩ :: _) _ _); refine Does.list (does_box hS rfl rfl (by rfl)) rfl ?_; clear hS; rintro _ wx ⟨bo, rfl, hS, _⟩; (simp only [Act.put, List.setIfInBounds_toArray, List.set_cons_zero, List.set_cons_succ])))
  go_loopw [3] (fun i wr => ∃ k : Nat, k ≤ rows.length ∧ i = .int .i64 k ∧ (List.range k).all (padAt ns.length rows real) = true ∧ Sat w wr [.box bo [.slice A1 ns.length c1, .slice A2 rows.length c2, .slice A3 real.length c3], .ro Rep.str.slice [.slice A1 ns.length c1] ns, .ro Rep.int.slice.slice [.slice A2 rows.length c2] rows, .ro Rep.bool.slice [.slice A3 real.length c3] real]) (fun i _ => rows.length - (intOf i).toNat)
  case atStart => exact ⟨0, Nat.zero_le _, rfl, rfl, hS⟩
  case round =>
    clear hS
    obtain ⟨k, hk, rfl, ha, hS⟩ := hrel
    have Ha := Lib.hid ha
    clear ha
    by_cases hlt : k < rows.length
    · have hltI : (k : Int) < (rows.length : Int) := by omega
      obtain ⟨ad, A', c', rfl, j0, j1, hS⟩ := hS.elSlice Rep.int A2 rows.length c2 (get_some hlt)
      unfold maxLen at j1
      obtain ⟨r, hr⟩ : ∃ r, rows[k] = r := ⟨_, rfl⟩
      have hrk : rows[k]? = some r := by rw [get_some hlt, hr]
      rw [hr] at hS j0
      clear hr
      obtain ⟨m, hm⟩ : ∃ m, real.getD k true = m := ⟨_, rfl⟩
      have hat := padAt_of (ns := ns) hrk hm
      by_cases hl : r.length = ns.length
      · have hb : ((r.length : Int) != (ns.length : Int)) = false := by rw [hl]; simp
        have H0 : Hid (r.any (padBad m) = true → paddedOk (ns, rows, real) = false) := Lib.hid fun h => paddedOk_r (rng_bad hlt (hat.trans (padRow_any h)))
        have H1 : Hid (r.any (padBad m) = false → (List.range (k + 1)).all (padAt ns.length rows real) = true) := Lib.hid fun h => rng_succ Ha.out (hat.trans (padRow_ok hl h))
        have Hm := Lib.hid hm
        clear hl hat hm hrk
        go_wp2_with (first | ((with_reducible show wpList _ _ _ (⟨_, Op.load _ _, _, _, _, _⟩ :: _) _ _); (first | refine Gives.list (f_load hS rfl rfl (by rfl)) rfl ?_ | refine Gives.list (f_loadS hS rfl rfl (by rfl)) rfl ?_ | refine Gives.list (f_loadAt hS rfl rfl) rfl ?_ | refine Gives.list (f_loadAtS hS rfl rfl (by rfl)) rfl ?_ | refine Gives.list (f_loadAtF hS rfl rfl (by rfl)) rfl ?_); (simp only [Act.put, List.setIfInBounds_toArray, List.set_cons_zero, List.set_cons_succ])) | ((with_reducible show Code.wp _ (Code.region 4 _ true) _ _ _); refine wp_region_drawn [(0, 0), (1, 1), (2, 0), (3, 0), (4, 1), (5, 0), (6, 0), (7, 1), (8, 0), (9, 0)] (by kernel_rfl) (by kernel_rfl) (by intro _ _ dq _ _ hq; cases dq <;> exact hq) ?_; replace hS := hS.mod (Mod.drew (Mod.refl _ _)); (generalize hwd : World.drew _ = wz at hS ⊢); clear hwd) | ((with_reducible show wpD _ _ _ [] _ _); refine D_nil ?_) | ((with_reducible show wpD _ _ _ ((_, 0) :: _) _ _); (first | (refine D_skip rfl rfl ?_; (first | show wpD _ _ _ _ (Act.put _ (some _) _) _ | show wpD _ _ _ _ (Act.put _ none _) _); (simp only [Act.put, List.setIfInBounds_toArray, List.set_cons_zero, List.set_cons_succ])) | (refine D_pure (v := ?_) rfl rfl (fun wq => ?_) ?_; rotate_left 1; (show (Sem.run _ (execOp _ (Oper.mk _ _ _ _ _ _)) _) = _; go_simp; (try go_bits); with_reducible rfl); (first | show wpD _ _ _ _ (Act.put _ (some _) _) _ | show wpD _ _ _ _ (Act.put _ none _) _); (simp only [Act.put, List.setIfInBounds_toArray, List.set_cons_zero, List.set_cons_succ])))) | ((with_reducible show wpD _ _ _ ((_, 1) :: _) _ _); (first | (refine D_skip rfl rfl ?_; (first | show wpD _ _ _ _ (Act.put _ (some _) _) _ | show wpD _ _ _ _ (Act.put _ none _) _); (simp only [Act.put, List.setIfInBounds_toArray, List.set_cons_zero, List.set_cons_succ])) | ((first | refine D_load rfl rfl (fun x hx => f_load (hS.mod hx) rfl rfl (by rfl)) ?_ | refine D_load rfl rfl (fun x hx => f_loadS (hS.mod hx) rfl rfl (by rfl)) ?_ | refine D_load rfl rfl (fun x hx => f_loadAt (hS.mod hx) rfl rfl) ?_ | refine D_load rfl rfl (fun x hx => f_loadAtS (hS.mod hx) rfl rfl (by rfl)) ?_ | refine D_load rfl rfl (fun x hx => f_loadAtF (hS.mod hx) rfl rfl (by rfl)) ?_); (first | show wpD _ _ _ _ (Act.put _ (some _) _) _ | show wpD _ _ _ _ (Act.put _ none _) _); (simp only [Act.put, List.setIfInBounds_toArray, List.set_cons_zero, List.set_cons_succ])))))
        go_loopw [4] (fun i wr => ∃ j : Nat, j ≤ r.length ∧ i = .int .i64 j ∧ (r.take j).any (padBad m) = false ∧ Sat w wr [.at (ad.add k) [.slice A' r.length c'], .ro Rep.int.slice [.slice A' r.length c'] r, .box bo [.slice A1 ns.length c1, .slice (some ad) rows.length c2, .slice A3 real.length c3], .ro Rep.str.slice [.slice A1 ns.length c1] ns, .ro Rep.int.slice.slice [.slice (some ad) rows.length c2] rows, .ro Rep.bool.slice [.slice A3 real.length c3] real]) (fun i _ => r.length - (intOf i).toNat)
        case atStart => exact ⟨0, Nat.zero_le _, rfl, rfl, hS⟩
        case round =>
          clear hS
          obtain ⟨j, hj, rfl, hn, hS⟩ := hrel
          have Hn := Lib.hid hn
          clear hn
          by_cases hjl : j < r.length
          · obtain ⟨ad2, rfl, ix, hS⟩ := hS.elInt A' r.length c' (get_some hjl)
            cases hv : inB r[j] (-100000) 100000
            · have H := Lib.hid (H0.out (any_of_get (padBad m) r j hjl (by unfold padBad; rw [hv]; rfl)))
              go_wp2_with (first | ((with_reducible show wpList _ _ _ (⟨_, Op.load _ _, _, _, _, _⟩ :: _) _ _); (first | refine Gives.list (f_load hS rfl rfl (by rfl)) rfl ?_ | refine Gives.list (f_loadS hS rfl rfl (by rfl)) rfl ?_ | refine Gives.list (f_loadAt hS rfl rfl) rfl ?_ | refine Gives.list (f_loadAtS hS rfl rfl (by rfl)) rfl ?_ | refine Gives.list (f_loadAtF hS rfl rfl (by rfl)) rfl ?_); (simp only [Act.put, List.setIfInBounds_toArray, List.set_cons_zero, List.set_cons_succ])) | (go_at_call 82; refine (spec_in _ _ _ _).mono ?_; rintro e w' ⟨rfl, rfl⟩))
              go_ret
              exact ⟨ret_false H.out, hS.mod0⟩
            · have Hg : Hid (padBad m r[j] = (!m && decide (r[j] ≠ 0))) := Lib.hid (by unfold padBad; rw [hv]; rfl)
              by_cases hkr : k < real.length
              · have hkrI : (k : Int) < (real.length : Int) := by omega
                obtain ⟨ad3, rfl, hS⟩ := hS.elBool A3 real.length c3 (get_some hkr)
                have hmk : real[k] = m := by have := Hm.out; rwa [List.getD_eq_getElem?_getD, get_some hkr] at this
                rw [hmk] at hS
                clear hmk
                by_cases hx0 : r[j] = 0
                · have hx1 : (r[j] != 0) = false := by simp [hx0]
                  have H := Lib.hid (any_succ_f hjl Hn.out (by rw [Hg.out, hx0]; cases m <;> rfl))
                  cases m
                  all_goals
                    go_wp2_with (first | ((with_reducible show wpList _ _ _ (⟨_, Op.load _ _, _, _, _, _⟩ :: _) _ _); (first | refine Gives.list (f_load hS rfl rfl (by rfl)) rfl ?_ | refine Gives.list (f_loadS hS rfl rfl (by rfl)) rfl ?_ | refine Gives.list (f_loadAt hS rfl rfl) rfl ?_ | refine Gives.list (f_loadAtS hS rfl rfl (by rfl)) rfl ?_ | refine Gives.list (f_loadAtF hS rfl rfl (by rfl)) rfl ?_); (simp only [Act.put, List.setIfInBounds_toArray, List.set_cons_zero, List.set_cons_succ])) | (go_at_call 82; refine (spec_in _ _ _ _).mono ?_; rintro e w' ⟨rfl, rfl⟩))
                    go_roundw
                    case rel => exact ⟨j + 1, hjl, by go_num, H.out, hS.sel [2, 3, 4, 5, 6, 7] rfl (by decide)⟩
                    case measure => simp [intOf]; omega
                · have hx1 : (r[j] != 0) = true := by simp [hx0]
                  cases m
                  · have H := Lib.hid (H0.out (any_of_get (padBad false) r j hjl (by rw [Hg.out]; simp [hx0])))
                    go_wp2_with (first | ((with_reducible show wpList _ _ _ (⟨_, Op.load _ _, _, _, _, _⟩ :: _) _ _); (first | refine Gives.list (f_load hS rfl rfl (by rfl)) rfl ?_ | refine Gives.list (f_loadS hS rfl rfl (by rfl)) rfl ?_ | refine Gives.list (f_loadAt hS rfl rfl) rfl ?_ | refine Gives.list (f_loadAtS hS rfl rfl (by rfl)) rfl ?_ | refine Gives.list (f_loadAtF hS rfl rfl (by rfl)) rfl ?_); (simp only [Act.put, List.setIfInBounds_toArray, List.set_cons_zero, List.set_cons_succ])) | (go_at_call 82; refine (spec_in _ _ _ _).mono ?_; rintro e w' ⟨rfl, rfl⟩))
                    go_ret
                    exact ⟨ret_false H.out, hS.mod0⟩
                  · have H := Lib.hid (any_succ_f hjl Hn.out (by rw [Hg.out]; rfl))
                    go_wp2_with (first | ((with_reducible show wpList _ _ _ (⟨_, Op.load _ _, _, _, _, _⟩ :: _) _ _); (first | refine Gives.list (f_load hS rfl rfl (by rfl)) rfl ?_ | refine Gives.list (f_loadS hS rfl rfl (by rfl)) rfl ?_ | refine Gives.list (f_loadAt hS rfl rfl) rfl ?_ | refine Gives.list (f_loadAtS hS rfl rfl (by rfl)) rfl ?_ | refine Gives.list (f_loadAtF hS rfl rfl (by rfl)) rfl ?_); (simp only [Act.put, List.setIfInBounds_toArray, List.set_cons_zero, List.set_cons_succ])) | (go_at_call 82; refine (spec_in _ _ _ _).mono ?_; rintro e w' ⟨rfl, rfl⟩))
                    go_roundw
                    case rel => exact ⟨j + 1, hjl, by go_num, H.out, hS.sel [2, 3, 4, 5, 6, 7] rfl (by decide)⟩
                    case measure => simp [intOf]; omega
              · have hkrI : ¬ (k : Int) < (real.length : Int) := by omega
                have hmt : m = true := by have := Hm.out; rw [List.getD_eq_getElem?_getD, List.getElem?_eq_none (by omega)] at this; exact this.symm
                have H := Lib.hid (any_succ_f hjl Hn.out (by rw [Hg.out, hmt]; rfl))
                clear hmt
                go_wp2_with (first | ((with_reducible show wpList _ _ _ (⟨_, Op.load _ _, _, _, _, _⟩ :: _) _ _); (first | refine Gives.list (f_load hS rfl rfl (by rfl)) rfl ?_ | refine Gives.list (f_loadS hS rfl rfl (by rfl)) rfl ?_ | refine Gives.list (f_loadAt hS rfl rfl) rfl ?_ | refine Gives.list (f_loadAtS hS rfl rfl (by rfl)) rfl ?_ | refine Gives.list (f_loadAtF hS rfl rfl (by rfl)) rfl ?_); (simp only [Act.put, List.setIfInBounds_toArray, List.set_cons_zero, List.set_cons_succ])) | (go_at_call 82; refine (spec_in _ _ _ _).mono ?_; rintro e w' ⟨rfl, rfl⟩))
                go_roundw
                case rel => exact ⟨j + 1, hjl, by go_num, H.out, hS.sel [1, 2, 3, 4, 5, 6] rfl (by decide)⟩
                case measure => simp [intOf]; omega
          · have H : Hid ((List.range (k + 1)).all (padAt ns.length rows real) = true) := by
              have hn := Hn.out
              rw [List.take_of_length_le (by omega)] at hn
              exact Lib.hid (H1.out hn)
            go_wp2_with (first | ((with_reducible show wpList _ _ _ (⟨_, Op.load _ _, _, _, _, _⟩ :: _) _ _); (first | refine Gives.list (f_load hS rfl rfl (by rfl)) rfl ?_ | refine Gives.list (f_loadS hS rfl rfl (by rfl)) rfl ?_ | refine Gives.list (f_loadAt hS rfl rfl) rfl ?_ | refine Gives.list (f_loadAtS hS rfl rfl (by rfl)) rfl ?_ | refine Gives.list (f_loadAtF hS rfl rfl (by rfl)) rfl ?_); (simp only [Act.put, List.setIfInBounds_toArray, List.set_cons_zero, List.set_cons_succ])))
            go_roundw
            case rel => exact ⟨k + 1, hlt, by go_num, H.out, hS.sel [2, 3, 4, 5] rfl (by decide)⟩
            case measure => simp [intOf]; omega
      · have hb : ((r.length : Int) != (ns.length : Int)) = true := by simp; omega
        have H := Lib.hid (paddedOk_r (ns := ns) (rows := rows) (real := real) (rng_bad hlt (hat.trans (padRow_len hl))))
        clear hl hat hm hrk
        go_wp2_with (first | ((with_reducible show wpList _ _ _ (⟨_, Op.load _ _, _, _, _, _⟩ :: _) _ _); (first | refine Gives.list (f_load hS rfl rfl (by rfl)) rfl ?_ | refine Gives.list (f_loadS hS rfl rfl (by rfl)) rfl ?_ | refine Gives.list (f_loadAt hS rfl rfl) rfl ?_ | refine Gives.list (f_loadAtS hS rfl rfl (by rfl)) rfl ?_ | refine Gives.list (f_loadAtF hS rfl rfl (by rfl)) rfl ?_); (simp only [Act.put, List.setIfInBounds_toArray, List.set_cons_zero, List.set_cons_succ])) | ((with_reducible show Code.wp _ (Code.region 4 _ true) _ _ _); refine wp_region_drawn [(0, 0), (1, 1), (2, 0), (3, 0), (4, 1), (5, 0), (6, 0), (7, 1), (8, 0), (9, 0)] (by kernel_rfl) (by kernel_rfl) (by intro _ _ dq _ _ hq; cases dq <;> exact hq) ?_; replace hS := hS.mod (Mod.drew (Mod.refl _ _)); (generalize hwd : World.drew _ = wz at hS ⊢); clear hwd) | ((with_reducible show wpD _ _ _ [] _ _); refine D_nil ?_) | ((with_reducible show wpD _ _ _ ((_, 0) :: _) _ _); (first | (refine D_skip rfl rfl ?_; (first | show wpD _ _ _ _ (Act.put _ (some _) _) _ | show wpD _ _ _ _ (Act.put _ none _) _); (simp only [Act.put, List.setIfInBounds_toArray, List.set_cons_zero, List.set_cons_succ])) | (refine D_pure (v := ?_) rfl rfl (fun wq => ?_) ?_; rotate_left 1; (show (Sem.run _ (execOp _ (Oper.mk _ _ _ _ _ _)) _) = _; go_simp; (try go_bits); with_reducible rfl); (first | show wpD _ _ _ _ (Act.put _ (some _) _) _ | show wpD _ _ _ _ (Act.put _ none _) _); (simp only [Act.put, List.setIfInBounds_toArray, List.set_cons_zero, List.set_cons_succ])))) | ((with_reducible show wpD _ _ _ ((_, 1) :: _) _ _); (first | (refine D_skip rfl rfl ?_; (first | show wpD _ _ _ _ (Act.put _ (some _) _) _ | show wpD _ _ _ _ (Act.put _ none _) _); (simp only [Act.put, List.setIfInBounds_toArray, List.set_cons_zero, List.set_cons_succ])) | ((first | refine D_load rfl rfl (fun x hx => f_load (hS.mod hx) rfl rfl (by rfl)) ?_ | refine D_load rfl rfl (fun x hx => f_loadS (hS.mod hx) rfl rfl (by rfl)) ?_ | refine D_load rfl rfl (fun x hx => f_loadAt (hS.mod hx) rfl rfl) ?_ | refine D_load rfl rfl (fun x hx => f_loadAtS (hS.mod hx) rfl rfl (by rfl)) ?_ | refine D_load rfl rfl (fun x hx => f_loadAtF (hS.mod hx) rfl rfl (by rfl)) ?_); (first | show wpD _ _ _ _ (Act.put _ (some _) _) _ | show wpD _ _ _ _ (Act.put _ none _) _); (simp only [Act.put, List.setIfInBounds_toArray, List.set_cons_zero, List.set_cons_succ])))))
        go_ret
        exact ⟨ret_false H.out, hS.mod0⟩
    · obtain rfl : k = rows.length := by omega
      have ha : padRows ns.length rows real = true := Ha.out
      cases h1 : namesOk ns
      · have H := Lib.hid (paddedOk_n (rows := rows) (real := real) h1)
        clear ha
        go_wp2_with (first | ((with_reducible show wpList _ _ _ (⟨_, Op.load _ _, _, _, _, _⟩ :: _) _ _); (first | refine Gives.list (f_load hS rfl rfl (by rfl)) rfl ?_ | refine Gives.list (f_loadS hS rfl rfl (by rfl)) rfl ?_ | refine Gives.list (f_loadAt hS rfl rfl) rfl ?_ | refine Gives.list (f_loadAtS hS rfl rfl (by rfl)) rfl ?_ | refine Gives.list (f_loadAtF hS rfl rfl (by rfl)) rfl ?_); (simp only [Act.put, List.setIfInBounds_toArray, List.set_cons_zero, List.set_cons_succ])) | (go_at_call 72; obtain ⟨Fq, hFq⟩ := hS.has Rep.str.slice [.slice A1 ns.length c1]; refine (spec_l1Names _ Fq _ _ hFq).mono ?_; rintro e w' ⟨rfl, hM⟩; replace hS := hS.mod hM; clear hM hFq))
        go_ret
        exact ⟨ret_false H.out, hS.mod0⟩
      by_cases h2 : rows.length ≤ 256
      · have h2I : decide ((rows.length : Int) ≤ 256) = true := by simp; omega
        by_cases h3 : real.length = rows.length
        · have H := Lib.hid (paddedOk_t h1 h2 h3 ha)
          have h3I : ((real.length : Int) == (rows.length : Int)) = true := by simp [h3]
          clear ha h3
          go_wp2_with (first | ((with_reducible show wpList _ _ _ (⟨_, Op.load _ _, _, _, _, _⟩ :: _) _ _); (first | refine Gives.list (f_load hS rfl rfl (by rfl)) rfl ?_ | refine Gives.list (f_loadS hS rfl rfl (by rfl)) rfl ?_ | refine Gives.list (f_loadAt hS rfl rfl) rfl ?_ | refine Gives.list (f_loadAtS hS rfl rfl (by rfl)) rfl ?_ | refine Gives.list (f_loadAtF hS rfl rfl (by rfl)) rfl ?_); (simp only [Act.put, List.setIfInBounds_toArray, List.set_cons_zero, List.set_cons_succ])) | (go_at_call 72; obtain ⟨Fq, hFq⟩ := hS.has Rep.str.slice [.slice A1 ns.length c1]; refine (spec_l1Names _ Fq _ _ hFq).mono ?_; rintro e w' ⟨rfl, hM⟩; replace hS := hS.mod hM; clear hM hFq))
          go_ret
          exact ⟨ret_true H.out, hS.mod0⟩
        · have H := Lib.hid (paddedOk_m (ns := ns) h3)
          have h3I : ((real.length : Int) == (rows.length : Int)) = false := beq_eq_false_iff_ne.2 (by omega)
          clear ha
          go_wp2_with (first | ((with_reducible show wpList _ _ _ (⟨_, Op.load _ _, _, _, _, _⟩ :: _) _ _); (first | refine Gives.list (f_load hS rfl rfl (by rfl)) rfl ?_ | refine Gives.list (f_loadS hS rfl rfl (by rfl)) rfl ?_ | refine Gives.list (f_loadAt hS rfl rfl) rfl ?_ | refine Gives.list (f_loadAtS hS rfl rfl (by rfl)) rfl ?_ | refine Gives.list (f_loadAtF hS rfl rfl (by rfl)) rfl ?_); (simp only [Act.put, List.setIfInBounds_toArray, List.set_cons_zero, List.set_cons_succ])) | (go_at_call 72; obtain ⟨Fq, hFq⟩ := hS.has Rep.str.slice [.slice A1 ns.length c1]; refine (spec_l1Names _ Fq _ _ hFq).mono ?_; rintro e w' ⟨rfl, hM⟩; replace hS := hS.mod hM; clear hM hFq))
          go_ret
          exact ⟨ret_false H.out, hS.mod0⟩
      · have H := Lib.hid (paddedOk_l (ns := ns) (real := real) h2)
        have h2I : decide ((rows.length : Int) ≤ 256) = false := by simp; omega
        clear ha
        go_wp2_with (first | ((with_reducible show wpList _ _ _ (⟨_, Op.load _ _, _, _, _, _⟩ :: _) _ _); (first | refine Gives.list (f_load hS rfl rfl (by rfl)) rfl ?_ | refine Gives.list (f_loadS hS rfl rfl (by rfl)) rfl ?_ | refine Gives.list (f_loadAt hS rfl rfl) rfl ?_ | refine Gives.list (f_loadAtS hS rfl rfl (by rfl)) rfl ?_ | refine Gives.list (f_loadAtF hS rfl rfl (by rfl)) rfl ?_); (simp only [Act.put, List.setIfInBounds_toArray, List.set_cons_zero, List.set_cons_succ])) | (go_at_call 72; obtain ⟨Fq, hFq⟩ := hS.has Rep.str.slice [.slice A1 ns.length c1]; refine (spec_l1Names _ Fq _ _ hFq).mono ?_; rintro e w' ⟨rfl, hM⟩; replace hS := hS.mod hM; clear hM hFq))
        go_ret
        exact ⟨ret_false H.out, hS.mod0⟩
end Go.Proofs.YtldknaajnnohiaaDoor
end

section
namespace Go.Proofs.YtldknaajnnohiaaDoor
open Go.RowKit

def PSmall (p : PaddedD) : Prop := p.1.length ≤ 1048576 ∧ (p.2.1.length ≤ 1048576 ∧ ∀ r ∈ p.2.1, r.length ≤ 1048576) ∧ p.2.2.length ≤ 1048576
set_option maxHeartbeats 2000000 in
set_option maxRecDepth 8000 in
theorem spec_l1OwnPadded (w : World) (B1 B2 B3 : Option Addr) (d1 d2 d3 : Nat) (F G H' : List Nat) (ns : List ByteArray) (rows : List (List Int)) (real : List Bool) (hx : SliceHas Rep.str w F [.slice B1 ns.length d1] ns) (hy : SliceHas Rep.int.slice w G [.slice B2 rows.length d2] rows) (hz : SliceHas Rep.bool w H' [.slice B3 real.length d3] real) (hb : PSmall (ns, rows, real)) :
    Calls Tryd.prog 88 #[.agg #[.slice B1 ns.length d1, .slice B2 rows.length d2, .slice B3 real.length d3]] w fun e w' => ∃ cs, e = .returned (.agg cs.toArray) ∧ Fresh oPadded w w' cs (ns, rows, real) := by
  obtain ⟨hb1, ⟨hb2, hb3⟩, hb4⟩ := hb
  dsimp only at hb1 hb2 hb3 hb4
  have hS : Sat w w [.ro Rep.str.slice [.slice B1 ns.length d1] ns, .ro Rep.int.slice.slice [.slice B2 rows.length d2] rows, .ro Rep.bool.slice [.slice B3 real.length d3] real] := (((Sat.nil w).arg hz).arg hy).arg hx
  clear hx hy hz
  go_enter Tryd.func88, Tryd.ntmps88
  go_wp2_with (first | ((with_reducible show wpList _ _ _ (⟨_, Op.call { callee := Callee.builtin Builtin.append, args := _, argTypes := _ }, _, _, _, _⟩ :: _) _ _); replace hS := (Sat.vec0 Rep.str hS).lit (Nat.zero_le _); refine Does.list (f_appendFlat Rep.str Rep.str hS rfl rfl rfl rfl rfl rfl (by decide) (by omega)) rfl ?_; clear hS; rintro _ wx ⟨A2, c2, rfl, hS⟩; (simp only [List.set_cons_zero, List.set_cons_succ] at hS); (simp only [Act.put, List.setIfInBounds_toArray, List.set_cons_zero, List.set_cons_succ]); (simp only [Nat.zero_add, List.nil_append] at hS ⊢)) | ((with_reducible show wpList _ _ _ (⟨_, Op.call { callee := Callee.builtin Builtin.append, args := _, argTypes := _ }, _, _, _, _⟩ :: _) _ _); replace hS := (Sat.vec0 Rep.bool hS).lit (Nat.zero_le _); refine Does.list (f_appendFlat Rep.bool Rep.bool hS rfl rfl rfl rfl rfl rfl (by decide) (by omega)) rfl ?_; clear hS; rintro _ wx ⟨A2, c2, rfl, hS⟩; (simp only [List.set_cons_zero, List.set_cons_succ] at hS); (simp only [Act.put, List.setIfInBounds_toArray, List.set_cons_zero, List.set_cons_succ]); (simp only [Nat.zero_add, List.nil_append] at hS ⊢)) | (go_at_call 159; obtain ⟨Fr, hFr⟩ := hS.has Rep.int.slice.slice [.slice B2 rows.length d2]; refine (spec_l1OwnRowsInt _ Fr _ _ hFr hb2 hb3).mono ?_; rintro e w' ⟨v, rfl, hN⟩; replace hS := hS.fresh hN; clear hN hFr; obtain ⟨Av, cv, rfl⟩ := hS.formOwn 0 rfl) | ((with_reducible show wpList _ _ _ (⟨_, Op.store _ _ _, _, _, _, _⟩ :: _) _ _); (first | refine Does.list (f_store (u := .int .i64 _) hS rfl rfl rfl (by rfl) (by rfl)) rfl ?_ | refine Does.list (f_store (u := .slice _ _ _) hS rfl rfl rfl (by rfl) (by rfl)) rfl ?_ | refine Does.list (f_store (u := .string _) hS rfl rfl rfl (by rfl) (by rfl)) rfl ?_ | refine Does.list (f_store (u := .bool _) hS rfl rfl rfl (by rfl) (by rfl)) rfl ?_); clear hS; rintro _ wx ⟨rfl, hS⟩; (simp only [List.set_cons_zero, List.set_cons_succ] at hS); (simp only [Act.put, List.setIfInBounds_toArray, List.set_cons_zero, List.set_cons_succ])) | ((with_reducible show wpList _ _ _ (⟨_, Op.box _ _, _, _, _, _⟩ :: _) _ _); refine Does.list (does_box hS rfl rfl (by rfl)) rfl ?_; clear hS; rintro _ wx ⟨bo, rfl, hS, _⟩; (simp only [Act.put, List.setIfInBounds_toArray, List.set_cons_zero, List.set_cons_succ])) | ((with_reducible show wpList _ _ _ (⟨_, Op.load _ _, _, _, _, _⟩ :: _) _ _); (first | refine Gives.list (f_load hS rfl rfl (by rfl)) rfl ?_ | refine Gives.list (f_loadS hS rfl rfl (by rfl)) rfl ?_ | refine Gives.list (f_loadAt hS rfl rfl) rfl ?_ | refine Gives.list (f_loadAtS hS rfl rfl (by rfl)) rfl ?_ | refine Gives.list (f_loadAtF hS rfl rfl (by rfl)) rfl ?_); (simp only [Act.put, List.setIfInBounds_toArray, List.set_cons_zero, List.set_cons_succ])) | ((with_reducible show wpList _ _ _ (⟨_, Op.store _ _ _, _, _, _, _⟩ :: _) _ _); (first | refine Does.list (f_store hS rfl rfl rfl (by rfl) (by rfl)) rfl ?_ | refine Does.list (f_storeS hS rfl rfl rfl (by rfl) (by rfl) (by rfl)) rfl ?_); clear hS; rintro _ wx ⟨rfl, hS⟩; (simp only [List.set_cons_zero, List.set_cons_succ] at hS); (simp only [Act.put, List.setIfInBounds_toArray, List.set_cons_zero, List.set_cons_succ])) | ((with_reducible show wpList _ _ _ (⟨_, Op.alloc _, _, _, _, _⟩ :: _) _ _); refine Does.list (does_alloc hS rfl (by rfl)) rfl ?_; clear hS; rintro _ wx ⟨ba, rfl, hS, _⟩; (simp only [Act.put, List.setIfInBounds_toArray, List.set_cons_zero, List.set_cons_succ])) | ((with_reducible show wpList _ _ _ (⟨_, Op.buildSlice _ _ _, _, _, _, _⟩ :: _) _ _); refine Does.list (does_buildSlice (X := ?_) (cs := ?_) (E := ?_) hS rfl ?_ ?_) rfl ?_; rotate_left 3; (go_simp; rfl); rfl; clear hS; rintro _ wx ⟨bx, rfl, hS, _⟩; (simp only [Act.put, List.setIfInBounds_toArray, List.set_cons_zero, List.set_cons_succ])))
  (try simp only [Exit.inBlock, Exit.then])
  refine bodyPost_ret (hS.resultCell rfl rfl (by rfl)) rfl ?_
  exact ⟨_, rfl, (Sat.mkPadded hS).result⟩
end Go.Proofs.YtldknaajnnohiaaDoor
end

section
namespace Go.Proofs.YtldknaajnnohiaaDoor
open Go.RowKit

theorem any_or {α : Type} {p q : α → Bool} (l : List α) : l.any (fun x => p x || q x) = (l.any p || l.any q) := by
  induction l with
  | nil => rfl
  | cons x l ih => simp only [List.any_cons, ih]; cases p x <;> cases q x <;> simp
theorem all_and {α : Type} {p q : α → Bool} (l : List α) : l.all (fun x => p x && q x) = (l.all p && l.all q) := by
  induction l with
  | nil => rfl
  | cons x l ih => simp only [List.all_cons, ih]; cases p x <;> cases q x <;> simp
theorem all_range {α : Type} {p : α → Bool} (l : List α) (d : α) : (List.range l.length).all (fun k => p (l.getD k d)) = l.all p := by
  have h : l = (List.range l.length).map (fun k => l.getD k d) := by
    apply List.ext_getElem
    · simp
    · intro k h1 h2; simp [List.getD_eq_getElem?_getD, List.getElem?_eq_getElem h1]
  conv => rhs; rw [h]
  rw [List.all_map]; rfl
theorem padBad_t : padBad true = notValue := by funext x; simp [padBad, notValue]
theorem padBad_f : padBad false = fun x => notValue x || notZero x := by
  funext x
  unfold padBad notValue notZero
  by_cases h : x = 0 <;> simp [h]
theorem padRow_fit {n : Nat} {m : Bool} {r : List Int} : padRow n m r = (fitRow n r && !(!m && r.any notZero)) := by
  unfold padRow fitRow
  cases m
  · rw [padBad_f, any_or]; cases r.any notValue <;> cases r.any notZero <;> simp
  · rw [padBad_t]; simp
def zeroAt (rows : List (List Int)) (real : List Bool) (k : Nat) : Bool := !(!(real.getD k true) && (rows.getD k []).any notZero)
theorem padRows_fit {n : Nat} {rows : List (List Int)} {real : List Bool} : padRows n rows real = (rows.all (fitRow n) && (List.range rows.length).all (zeroAt rows real)) := by
  have h : padAt n rows real = fun k => fitRow n (rows.getD k []) && zeroAt rows real k := by
    funext k; unfold padAt zeroAt; exact padRow_fit
  unfold padRows
  rw [h, all_and, all_range]
section
variable {ns : List ByteArray} {rows : List (List Int)} {real : List Bool} {k : Nat}
theorem paddedOk_fit (h : rows.all (fitRow ns.length) = false) : paddedOk (ns, rows, real) = false := paddedOk_r (by rw [padRows_fit, h]; rfl)
theorem paddedOk_zero (h1 : (List.range rows.length).all (zeroAt rows real) = false) : paddedOk (ns, rows, real) = false := paddedOk_r (by rw [padRows_fit, h1]; simp)
theorem paddedOk_all (h1 : namesOk ns = true) (h2 : rows.length ≤ 256) (h3 : real.length = rows.length) (h4 : rows.all (fitRow ns.length) = true) (h5 : (List.range rows.length).all (zeroAt rows real) = true) : paddedOk (ns, rows, real) = true := paddedOk_t h1 h2 h3 (by rw [padRows_fit, h4, h5]; rfl)
theorem zeroAt_of {r : List Int} {m : Bool} (hr : rows[k]? = some r) (hm : real[k]? = some m) : zeroAt rows real k = !(!m && r.any notZero) := by
  unfold zeroAt; rw [List.getD_eq_getElem?_getD, List.getD_eq_getElem?_getD, hr, hm]; rfl
end
set_option maxHeartbeats 4000000 in
set_option maxRecDepth 8000 in
theorem impl_PaddedValid' (w : World) (hR : ResOk w) (A1 A2 A3 : Option Addr) (c1 c2 c3 : Nat) (F G H' : List Nat) (ns : List ByteArray) (rows : List (List Int)) (real : List Bool) (hx : SliceHas Rep.str w F [.slice A1 ns.length c1] ns) (hy : SliceHas Rep.int.slice w G [.slice A2 rows.length c2] rows) (hz : SliceHas Rep.bool w H' [.slice A3 real.length c3] real) :
    Calls Tryd.prog 20 #[.agg #[.slice A1 ns.length c1, .slice A2 rows.length c2, .slice A3 real.length c3]] w fun e w' => e = .returned (.bool (paddedOk (ns, rows, real))) ∧ Mod [] w w' := by
  obtain ⟨_, _, _, hcl, _⟩ := hy.form'
  have hS : Sat w w [.ro Rep.str.slice [.slice A1 ns.length c1] ns, .ro Rep.int.slice.slice [.slice A2 rows.length c2] rows, .ro Rep.bool.slice [.slice A3 real.length c3] real] := (((Sat.nil w).arg hz).arg hy).arg hx
  clear hx hy hz
  cases h1 : namesOk ns
  · have H := Lib.hid (paddedOk_n (rows := rows) (real := real) h1)
    go_enter Tryd.func20, Tryd.ntmps20
    go_wp2_with (first | ((with_reducible show wpList _ _ _ (⟨_, Op.box _ _, _, _, _, _⟩ :: _) _ _); refine Does.list (does_box hS rfl rfl (by rfl)) rfl ?_; clear hS; rintro _ wx ⟨bo, rfl, hS, _⟩; (simp only [Act.put, List.setIfInBounds_toArray, List.set_cons_zero, List.set_cons_succ])) | ((with_reducible show wpList _ _ _ (⟨_, Op.load _ _, _, _, _, _⟩ :: _) _ _); (first | refine Gives.list (f_load hS rfl rfl (by rfl)) rfl ?_ | refine Gives.list (f_loadS hS rfl rfl (by rfl)) rfl ?_ | refine Gives.list (f_loadAt hS rfl rfl) rfl ?_ | refine Gives.list (f_loadAtS hS rfl rfl (by rfl)) rfl ?_ | refine Gives.list (f_loadAtF hS rfl rfl (by rfl)) rfl ?_); (simp only [Act.put, List.setIfInBounds_toArray, List.set_cons_zero, List.set_cons_succ])) | (go_at_call 68; obtain ⟨Fq, hFq⟩ := hS.has Rep.str.slice [.slice A1 ns.length c1]; refine (impl_columnsValid _ (hR.mod0 hS.mod0) Fq _ _ hFq).mono ?_; rintro e w' ⟨rfl, hM⟩; replace hS := hS.mod hM; clear hM hFq))
    go_ret
    exact ⟨ret_false H.out, hS.mod0⟩
  by_cases h2 : rows.length ≤ 256
  case neg =>
    have H := Lib.hid (paddedOk_l (ns := ns) (real := real) h2)
    have h2I : decide ((256 : Int) < (rows.length : Int)) = true := by simp; omega
    go_enter Tryd.func20, Tryd.ntmps20
    go_wp2_with (first | ((with_reducible show wpList _ _ _ (⟨_, Op.box _ _, _, _, _, _⟩ :: _) _ _); refine Does.list (does_box hS rfl rfl (by rfl)) rfl ?_; clear hS; rintro _ wx ⟨bo, rfl, hS, _⟩; (simp only [Act.put, List.setIfInBounds_toArray, List.set_cons_zero, List.set_cons_succ])) | ((with_reducible show wpList _ _ _ (⟨_, Op.load _ _, _, _, _, _⟩ :: _) _ _); (first | refine Gives.list (f_load hS rfl rfl (by rfl)) rfl ?_ | refine Gives.list (f_loadS hS rfl rfl (by rfl)) rfl ?_ | refine Gives.list (f_loadAt hS rfl rfl) rfl ?_ | refine Gives.list (f_loadAtS hS rfl rfl (by rfl)) rfl ?_ | refine Gives.list (f_loadAtF hS rfl rfl (by rfl)) rfl ?_); (simp only [Act.put, List.setIfInBounds_toArray, List.set_cons_zero, List.set_cons_succ])) | (go_at_call 68; obtain ⟨Fq, hFq⟩ := hS.has Rep.str.slice [.slice A1 ns.length c1]; refine (impl_columnsValid _ (hR.mod0 hS.mod0) Fq _ _ hFq).mono ?_; rintro e w' ⟨rfl, hM⟩; replace hS := hS.mod hM; clear hM hFq))
    go_ret
    exact ⟨ret_false H.out, hS.mod0⟩
  have h2I : decide ((256 : Int) < (rows.length : Int)) = false := by simp; omega
  by_cases h3 : real.length = rows.length
  case neg =>
    have H := Lib.hid (paddedOk_m (ns := ns) h3)
    have h3I : ((real.length : Int) != (rows.length : Int)) = true := by rw [bne_iff_ne]; omega
    go_enter Tryd.func20, Tryd.ntmps20
    go_wp2_with (first | ((with_reducible show wpList _ _ _ (⟨_, Op.box _ _, _, _, _, _⟩ :: _) _ _); refine Does.list (does_box hS rfl rfl (by rfl)) rfl ?_; clear hS; rintro _ wx ⟨bo, rfl, hS, _⟩; (simp only [Act.put, List.setIfInBounds_toArray, List.set_cons_zero, List.set_cons_succ])) | ((with_reducible show wpList _ _ _ (⟨_, Op.load _ _, _, _, _, _⟩ :: _) _ _); (first | refine Gives.list (f_load hS rfl rfl (by rfl)) rfl ?_ | refine Gives.list (f_loadS hS rfl rfl (by rfl)) rfl ?_ | refine Gives.list (f_loadAt hS rfl rfl) rfl ?_ | refine Gives.list (f_loadAtS hS rfl rfl (by rfl)) rfl ?_ | refine Gives.list (f_loadAtF hS rfl rfl (by rfl)) rfl ?_); (simp only [Act.put, List.setIfInBounds_toArray, List.set_cons_zero, List.set_cons_succ])) | (go_at_call 68; obtain ⟨Fq, hFq⟩ := hS.has Rep.str.slice [.slice A1 ns.length c1]; refine (impl_columnsValid _ (hR.mod0 hS.mod0) Fq _ _ hFq).mono ?_; rintro e w' ⟨rfl, hM⟩; replace hS := hS.mod hM; clear hM hFq))
    go_ret
    exact ⟨ret_false H.out, hS.mod0⟩
  have h3I : ((real.length : Int) != (rows.length : Int)) = false := by simp [h3]
  cases h4 : rows.all (fitRow ns.length)
  · have H := Lib.hid (paddedOk_fit (real := real) h4)
    clear h3
    go_enter Tryd.func20, Tryd.ntmps20
    go_wp2_with (first | ((with_reducible show wpList _ _ _ (⟨_, Op.box _ _, _, _, _, _⟩ :: _) _ _); refine Does.list (does_box hS rfl rfl (by rfl)) rfl ?_; clear hS; rintro _ wx ⟨bo, rfl, hS, _⟩; (simp only [Act.put, List.setIfInBounds_toArray, List.set_cons_zero, List.set_cons_succ])) | ((with_reducible show wpList _ _ _ (⟨_, Op.load _ _, _, _, _, _⟩ :: _) _ _); (first | refine Gives.list (f_load hS rfl rfl (by rfl)) rfl ?_ | refine Gives.list (f_loadS hS rfl rfl (by rfl)) rfl ?_ | refine Gives.list (f_loadAt hS rfl rfl) rfl ?_ | refine Gives.list (f_loadAtS hS rfl rfl (by rfl)) rfl ?_ | refine Gives.list (f_loadAtF hS rfl rfl (by rfl)) rfl ?_); (simp only [Act.put, List.setIfInBounds_toArray, List.set_cons_zero, List.set_cons_succ])) | (go_at_call 68; obtain ⟨Fq, hFq⟩ := hS.has Rep.str.slice [.slice A1 ns.length c1]; refine (impl_columnsValid _ (hR.mod0 hS.mod0) Fq _ _ hFq).mono ?_; rintro e w' ⟨rfl, hM⟩; replace hS := hS.mod hM; clear hM hFq) | (go_at_call 77; obtain ⟨Fq, hFq⟩ := hS.has Rep.int.slice.slice [.slice A2 rows.length c2]; refine (impl_rowsFit _ A1 ns.length c1 Fq _ _ hFq).mono ?_; rintro e w' ⟨rfl, hM⟩; replace hS := hS.mod hM; clear hM hFq))
    go_ret
    exact ⟨ret_false H.out, hS.mod0⟩
  have H0 : Hid ((List.range rows.length).all (zeroAt rows real) = true → paddedOk (ns, rows, real) = true) := Lib.hid (paddedOk_all h1 h2 h3 h4)
  have H3 := Lib.hid h3
  clear h3
  go_enter Tryd.func20, Tryd.ntmps20
  go_wp2_with (first | ((with_reducible show wpList _ _ _ (⟨_, Op.box _ _, _, _, _, _⟩ :: _) _ _); refine Does.list (does_box hS rfl rfl (by rfl)) rfl ?_; clear hS; rintro _ wx ⟨bo, rfl, hS, _⟩; (simp only [Act.put, List.setIfInBounds_toArray, List.set_cons_zero, List.set_cons_succ])) | ((with_reducible show wpList _ _ _ (⟨_, Op.load _ _, _, _, _, _⟩ :: _) _ _); (first | refine Gives.list (f_load hS rfl rfl (by rfl)) rfl ?_ | refine Gives.list (f_loadS hS rfl rfl (by rfl)) rfl ?_ | refine Gives.list (f_loadAt hS rfl rfl) rfl ?_ | refine Gives.list (f_loadAtS hS rfl rfl (by rfl)) rfl ?_ | refine Gives.list (f_loadAtF hS rfl rfl (by rfl)) rfl ?_); (simp only [Act.put, List.setIfInBounds_toArray, List.set_cons_zero, List.set_cons_succ])) | (go_at_call 68; obtain ⟨Fq, hFq⟩ := hS.has Rep.str.slice [.slice A1 ns.length c1]; refine (impl_columnsValid _ (hR.mod0 hS.mod0) Fq _ _ hFq).mono ?_; rintro e w' ⟨rfl, hM⟩; replace hS := hS.mod hM; clear hM hFq) | (go_at_call 77; obtain ⟨Fq, hFq⟩ := hS.has Rep.int.slice.slice [.slice A2 rows.length c2]; refine (impl_rowsFit _ A1 ns.length c1 Fq _ _ hFq).mono ?_; rintro e w' ⟨rfl, hM⟩; replace hS := hS.mod hM; clear hM hFq))
  go_loopw [35] (fun i wr => ∃ k : Nat, k ≤ rows.length ∧ i = .int .i64 k ∧ (List.range k).all (zeroAt rows real) = true ∧ Sat w wr [.box bo [.slice A1 ns.length c1, .slice A2 rows.length c2, .slice A3 real.length c3], .ro Rep.str.slice [.slice A1 ns.length c1] ns, .ro Rep.int.slice.slice [.slice A2 rows.length c2] rows, .ro Rep.bool.slice [.slice A3 real.length c3] real]) (fun i _ => rows.length - (intOf i).toNat)
  case atStart => exact ⟨0, Nat.zero_le _, rfl, rfl, hS⟩
  case round =>
    clear hS
    obtain ⟨k, hk, rfl, ha, hS⟩ := hrel
    have Ha := Lib.hid ha
    clear ha
    by_cases hlt : k < rows.length
    · have hltI : (k : Int) < (rows.length : Int) := by omega
      have hlt3 : k < real.length := by rw [H3.out]; exact hlt
      have hltJ : (k : Int) < (real.length : Int) := by omega
      obtain ⟨ad3, rfl, hS⟩ := hS.elBool A3 real.length c3 (get_some hlt3)
      obtain ⟨ad, A', c', rfl, j0, j1, hS⟩ := hS.elSlice Rep.int A2 rows.length c2 (get_some hlt)
      unfold maxLen at j1
      obtain ⟨r, hr⟩ : ∃ r, rows[k] = r := ⟨_, rfl⟩
      obtain ⟨m, hm⟩ : ∃ m, real[k] = m := ⟨_, rfl⟩
      have Hz := Lib.hid (zeroAt_of (k := k) (by rw [get_some hlt, hr]) (by rw [get_some hlt3, hm]))
      rw [hr] at hS j0
      rw [hm] at hS
      clear hr hm
      cases m
      · cases hn : r.any notZero
        · have H := Lib.hid (rng_succ Ha.out (by rw [Hz.out, hn]; rfl))
          go_wp2_with (first | ((with_reducible show wpList _ _ _ (⟨_, Op.load _ _, _, _, _, _⟩ :: _) _ _); (first | refine Gives.list (f_load hS rfl rfl (by rfl)) rfl ?_ | refine Gives.list (f_loadS hS rfl rfl (by rfl)) rfl ?_ | refine Gives.list (f_loadAt hS rfl rfl) rfl ?_ | refine Gives.list (f_loadAtS hS rfl rfl (by rfl)) rfl ?_ | refine Gives.list (f_loadAtF hS rfl rfl (by rfl)) rfl ?_); (simp only [Act.put, List.setIfInBounds_toArray, List.set_cons_zero, List.set_cons_succ])) | (go_at_call 78; obtain ⟨Fq, hFq⟩ := hS.has Rep.int.slice [.slice A' r.length c']; refine (cf_PaddedValid_1 _ Fq _ _ hFq).mono ?_; rintro e w' ⟨rfl, hM⟩; replace hS := hS.mod hM; clear hM hFq))
          go_roundw
          case rel => exact ⟨k + 1, hlt, by go_num, H.out, hS.sel [3, 4, 5, 6] rfl (by decide)⟩
          case measure => simp [intOf]; omega
        · have H := Lib.hid (paddedOk_zero (ns := ns) (rng_bad hlt (by rw [Hz.out, hn]; rfl)))
          go_wp2_with (first | ((with_reducible show wpList _ _ _ (⟨_, Op.load _ _, _, _, _, _⟩ :: _) _ _); (first | refine Gives.list (f_load hS rfl rfl (by rfl)) rfl ?_ | refine Gives.list (f_loadS hS rfl rfl (by rfl)) rfl ?_ | refine Gives.list (f_loadAt hS rfl rfl) rfl ?_ | refine Gives.list (f_loadAtS hS rfl rfl (by rfl)) rfl ?_ | refine Gives.list (f_loadAtF hS rfl rfl (by rfl)) rfl ?_); (simp only [Act.put, List.setIfInBounds_toArray, List.set_cons_zero, List.set_cons_succ])) | (go_at_call 78; obtain ⟨Fq, hFq⟩ := hS.has Rep.int.slice [.slice A' r.length c']; refine (cf_PaddedValid_1 _ Fq _ _ hFq).mono ?_; rintro e w' ⟨rfl, hM⟩; replace hS := hS.mod hM; clear hM hFq))
          go_ret
          exact ⟨ret_false H.out, hS.mod0⟩
      · have H := Lib.hid (rng_succ Ha.out (by rw [Hz.out]; rfl))
        go_wp2_with (first | ((with_reducible show wpList _ _ _ (⟨_, Op.load _ _, _, _, _, _⟩ :: _) _ _); (first | refine Gives.list (f_load hS rfl rfl (by rfl)) rfl ?_ | refine Gives.list (f_loadS hS rfl rfl (by rfl)) rfl ?_ | refine Gives.list (f_loadAt hS rfl rfl) rfl ?_ | refine Gives.list (f_loadAtS hS rfl rfl (by rfl)) rfl ?_ | refine Gives.list (f_loadAtF hS rfl rfl (by rfl)) rfl ?_); (simp only [Act.put, List.setIfInBounds_toArray, List.set_cons_zero, List.set_cons_succ])))
        go_roundw
        case rel => exact ⟨k + 1, hlt, by go_num, H.out, hS.sel [3, 4, 5, 6] rfl (by decide)⟩
        case measure => simp [intOf]; omega
    · obtain rfl : k = rows.length := by omega
      have H := Lib.hid (H0.out Ha.out)
      go_wp2_with (first | ((with_reducible show wpList _ _ _ (⟨_, Op.box _ _, _, _, _, _⟩ :: _) _ _); refine Does.list (does_box hS rfl rfl (by rfl)) rfl ?_; clear hS; rintro _ wx ⟨bo, rfl, hS, _⟩; (simp only [Act.put, List.setIfInBounds_toArray, List.set_cons_zero, List.set_cons_succ])))
      go_ret
      exact ⟨ret_true H.out, hS.mod0⟩
end Go.Proofs.YtldknaajnnohiaaDoor
end
