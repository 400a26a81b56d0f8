/- Prefixes of slices: what one reads, and what one owns. No function of the program occurs here. -/
import Derived.Test.YtldknaajnnohiaaDoorFind
import Derived.Test.YtldknaajnnohiaaDoorNew
import Derived.Test.YtldknaajnnohiaaDoorPdv
import Derived.Test.YtldknaajnnohiaaDoorPdB
section
namespace Go.Proofs.YtldknaajnnohiaaDoor
open Go.RowKit

section
variable {α : Type} {e : Rep α} {w w0 : World} {Γ : List Fact}
theorem cutAt_zero (A : Option Addr) (c s : Nat) : cutAt A 0 c s = A := by
  unfold cutAt
  split
  · rfl
  · cases A with
    | none => rfl
    | some ad => simp [Addr.add]
theorem SliceHas.prefix {F : List Nat} {A : Option Addr} {n c h : Nat} {xs : List α} (hx : SliceHas e w F [.slice A n c] xs) (h2 : h ≤ n) :
    ∃ F', SliceHas e w F' [.slice A h c] (xs.take h) ∧ F'.Sublist F := by
  have hn := SliceHas.n hx
  obtain ⟨a', n', cap', ces, Fe, hv, k1, k2, k3, k4, k5⟩ := hx
  simp only [List.cons.injEq, Value.slice.injEq, and_true] at hv
  obtain ⟨rfl, rfl, rfl⟩ := hv
  have hlen : (xs.take h).length = h := by simp; omega
  by_cases h0 : h = 0
  · subst h0
    exact ⟨[], ⟨_, _, _, [], [], rfl, hlen, by omega, by omega, by simp; exact ⟨rfl, rfl⟩, .inl ⟨rfl, rfl⟩⟩, by simp⟩
  · rcases k5 with ⟨hz, _⟩ | ⟨ad, rfl, rfl, hb, hc⟩
    · omega
    have hsplit : xs = xs.take h ++ xs.drop h := (List.take_append_drop h xs).symm
    rw [hsplit] at k4
    obtain ⟨F1, F2, c1, c2, rfl, rfl, a1, a2⟩ := Rep.all_split k4
    refine ⟨ad.block :: F1, ⟨_, _, _, c1, F1, rfl, hlen, by omega, by omega, a1, .inr ⟨ad, rfl, rfl, hb, ?_⟩⟩, (List.sublist_append_left F1 F2).cons_cons _⟩
    intro j u hu
    refine hc _ u ?_
    have hj : j < c1.length := (List.getElem?_eq_some_iff.1 hu).1
    rw [List.getElem?_append_left hj]
    exact hu
theorem SliceHas.capLe {F : List Nat} {A : Option Addr} {n c : Nat} {xs : List α} (hx : SliceHas e w F [.slice A n c] xs) : n ≤ c := by
  obtain ⟨a', n', cap', ces, Fe, hv, k1, k2, k3, k4, k5⟩ := hx
  simp only [List.cons.injEq, Value.slice.injEq, and_true] at hv
  omega
theorem Sat.takeRo {A : Option Addr} {n c h : Nat} {xs : List α} (hS : Sat w0 w Γ) (i : Nat) (hi : Γ[i]? = some (.ro e.slice [.slice A n c] xs)) (h2 : h ≤ n) :
    Sat w0 w (.ro e.slice [.slice A h c] (xs.take h) :: Γ) := by
  have := hS.cutRo i hi (Nat.zero_le h) h2
  simpa [cutAt_zero] using this
/-- A prefix of one's own slice; the rest is given up. -/
theorem Sat.takeOwn {A : Option Addr} {n c h : Nat} {xs : List α} (hS : Sat w0 w (.own e.slice [.slice A n c] xs :: Γ)) (h2 : h ≤ n) :
    Sat w0 w (.own e.slice [.slice A h c] (xs.take h) :: Γ) := by
  obtain ⟨R, O, ⟨O1, O2, rfl, k1, k2⟩, k3, k4, k5, k6⟩ := hS
  obtain ⟨F', hF', hs⟩ := SliceHas.prefix k1 h2
  have hsub : (F' ++ O2).Sublist (O1 ++ O2) := hs.append (List.Sublist.refl _)
  exact ⟨R, F' ++ O2, ⟨F', O2, rfl, hF', k2⟩, ⟨k3.1.sublist hsub, fun g hg => k3.2 g (hsub.subset hg)⟩, fun g hg => k4 g (hsub.subset hg), k5, k6⟩
theorem pure_take {P : Program} {o : Oper} {a : Act} {T E : TypeId} {z : Value} {ag : Bool} {A : Option Addr} {n c h sz : Nat} {x : Operand} {hi : Option Operand} (ho : o.op = .slice T x none hi none) (hx : a.eval x = .slice A n c) (hhi : BoundIs a hi n h) (h2 : h ≤ n) (hc : n ≤ c) [hT : SlTy P T E] [hE : Ty P E z sz ag] (w : World) :
    (execOp a.eval o).run P w = .ok (.value (.slice A h c)) w := by
  have hr := run_cut (w := w) (A := A) (a := a) hT hE (lo := none) (show BoundIs a none 0 0 from rfl) hhi (Nat.zero_le _) h2 hc
  rw [cutAt_zero, Nat.sub_zero, Nat.sub_zero] at hr
  unfold execOp
  simp only [ho, hx, Sem.run_bind, Option.map_none] at hr ⊢
  simp only [hr, Result.andThen_ok]
  rfl
end
end Go.Proofs.YtldknaajnnohiaaDoor
end

section
namespace Go.Proofs.YtldknaajnnohiaaDoor
open Go.RowKit

def cutM (size : Int) (n : Nat) : Nat := min size.toNat n
def cutF (p : PaddedD) (size : Int) : PaddedD × Bool :=
  if paddedOk p && inB size 0 256 then
    if (p.2.2.drop (cutM size p.2.1.length)).any id then (zeroP, false) else ((p.1, p.2.1.take (cutM size p.2.1.length), p.2.2.take (cutM size p.2.1.length)), true)
  else (zeroP, false)
section
variable {ns : List ByteArray} {rows : List (List Int)} {real : List Bool} {size : Int} {M : Nat}
theorem cutF_p {p : PaddedD} (h : paddedOk p = false) : cutF p size = (zeroP, false) := by unfold cutF; rw [h]; rfl
theorem cutF_i {p : PaddedD} (h : inB size 0 256 = false) : cutF p size = (zeroP, false) := by unfold cutF; rw [h]; cases paddedOk p <;> rfl
theorem cutF_any (h1 : paddedOk (ns, rows, real) = true) (h2 : inB size 0 256 = true) (hM : cutM size rows.length = M) (h3 : (real.drop M).any id = true) : cutF (ns, rows, real) size = (zeroP, false) := by
  unfold cutF; rw [h1, h2]; dsimp only; rw [hM, h3]; rfl
theorem cutF_ok (h1 : paddedOk (ns, rows, real) = true) (h2 : inB size 0 256 = true) (hM : cutM size rows.length = M) (h3 : (real.drop M).any id = false) : cutF (ns, rows, real) size = ((ns, rows.take M, real.take M), true) := by
  unfold cutF; rw [h1, h2]; dsimp only; rw [hM, h3]; rfl
theorem countP_drop (l : List Bool) (M : Nat) : (l.drop M).any id = true ↔ (l.take M).countP id < l.countP id := by
  have h : l.countP id = (l.take M).countP id + (l.drop M).countP id := by rw [← List.countP_append, List.take_append_drop]
  rw [h]
  have h2 : (l.drop M).any id = true ↔ 0 < (l.drop M).countP id := by
    rw [List.countP_pos_iff, List.any_eq_true]
  rw [h2]
  omega
end

theorem padded_smallC {ns : List ByteArray} {rows : List (List Int)} {real : List Bool} (h : paddedOk (ns, rows, real) = true) (hn : ns.length ≤ 1048576) : PSmall (ns, rows, real) := by
  unfold paddedOk at h
  simp only [Bool.and_eq_true, decide_eq_true_eq] at h
  obtain ⟨-, h2, h4, h3⟩ := h
  rw [padRows_fit] at h3
  simp only [Bool.and_eq_true, List.all_eq_true] at h3
  refine ⟨hn, ⟨by dsimp only; omega, fun r hr => ?_⟩, by dsimp only; omega⟩
  have h4 := h3.1 r hr
  unfold fitRow at h4
  simp only [Bool.and_eq_true, decide_eq_true_eq] at h4
  have := h4.1
  omega

theorem padded_lenC {ns : List ByteArray} {rows : List (List Int)} {real : List Bool} (h : paddedOk (ns, rows, real) = true) : rows.length ≤ 256 ∧ real.length = rows.length := by
  unfold paddedOk at h
  simp only [Bool.and_eq_true, decide_eq_true_eq] at h
  exact ⟨h.2.1, h.2.2.1⟩

/-! ### How many rows are real -/
theorem countP_succ {l : List Bool} {k : Nat} (h : k < l.length) : (l.take (k + 1)).countP id = (l.take k).countP id + (if l[k] then 1 else 0) := by
  rw [List.take_succ_eq_append_getElem h, List.countP_append]
  cases l[k] <;> rfl
set_option maxHeartbeats 1000000 in
theorem impl_reals (w : World) (A1 A2 A3 : Option Addr) (n1 n2 n3 c1 c2 c3 : Nat) (F : List Nat) (real : List Bool) (hx : SliceHas Rep.bool w F [.slice A3 n3 c3] real) :
    Calls Tryd.prog 92 #[.agg #[.slice A1 n1 c1, .slice A2 n2 c2, .slice A3 n3 c3]] w fun e w' => e = .returned (.int .i64 ((real.countP id : Nat) : Int)) ∧ Mod [] w w' := by
  obtain ⟨A', c', hv, hn, _⟩ := hx.form'
  simp only [Value.slice.injEq] at hv
  obtain ⟨rfl, rfl, rfl⟩ := hv
  have hn : real.length ≤ 9223372036854775807 := hn
  have hS : Sat w w [.ro Rep.bool.slice [.slice A3 real.length c3] real] := (Sat.nil w).arg hx
  clear hx
  go_enter Tryd.func92, Tryd.ntmps92
  go_wp2_with (first | ((with_reducible show wpList _ _ _ (⟨_, Op.box _ _, _, _, _, _⟩ :: _) _ _); refine Does.list (does_box hS rfl rfl (by rfl)) rfl ?_; clear hS; rintro _ wx ⟨bo, rfl, hS, _⟩; (simp only [Act.put, List.setIfInBounds_toArray, List.set_cons_zero, List.set_cons_succ])) | ((with_reducible show wpList _ _ _ (⟨_, Op.load _ _, _, _, _, _⟩ :: _) _ _); (first | refine Gives.list (f_load hS rfl rfl (by rfl)) rfl ?_ | refine Gives.list (f_loadS hS rfl rfl (by rfl)) rfl ?_ | refine Gives.list (f_loadAt hS rfl rfl) rfl ?_ | refine Gives.list (f_loadAtS hS rfl rfl (by rfl)) rfl ?_ | refine Gives.list (f_loadAtF hS rfl rfl (by rfl)) rfl ?_); (simp only [Act.put, List.setIfInBounds_toArray, List.set_cons_zero, List.set_cons_succ])))
  go_loopw [9, 3] (fun i s wr => ∃ k x : Nat, k ≤ real.length ∧ i = .int .i64 k ∧ s = .int .i64 x ∧ x ≤ k ∧ Hid ((real.take k).countP id = x) ∧ Sat w wr [.ro Rep.bool.slice [.slice A3 real.length c3] real]) (fun i _ _ => real.length - (intOf i).toNat)
  case atStart => exact ⟨0, 0, Nat.zero_le _, rfl, rfl, Nat.le_refl _, Lib.hid rfl, hS.sel [1] rfl (by decide)⟩
  case round =>
    clear hS
    obtain ⟨k, x, hk, rfl, rfl, hxk, hx, hS⟩ := hrel
    by_cases hlt : k < real.length
    · have hltI : (k : Int) < (real.length : Int) := by omega
      obtain ⟨ad3, rfl, hS⟩ := hS.elBool A3 real.length c3 (get_some hlt)
      have H := Lib.hid (countP_succ hlt)
      obtain ⟨b, hb⟩ : ∃ b, real[k] = b := ⟨_, rfl⟩
      rw [hb] at hS H
      clear hb
      have hw : IntKind.i64.wrap ((x : Int) + 1) = (x : Int) + 1 := IntWalk.i64_in _ (by omega)
      cases b
      all_goals
        go_wp2_with (first | ((with_reducible show wpList _ _ _ (⟨_, Op.load _ _, _, _, _, _⟩ :: _) _ _); (first | refine Gives.list (f_load hS rfl rfl (by rfl)) rfl ?_ | refine Gives.list (f_loadS hS rfl rfl (by rfl)) rfl ?_ | refine Gives.list (f_loadAt hS rfl rfl) rfl ?_ | refine Gives.list (f_loadAtS hS rfl rfl (by rfl)) rfl ?_ | refine Gives.list (f_loadAtF hS rfl rfl (by rfl)) rfl ?_); (simp only [Act.put, List.setIfInBounds_toArray, List.set_cons_zero, List.set_cons_succ])))
        go_roundw
        case rel =>
          first
          | exact ⟨k + 1, x + 1, hlt, by go_num, by go_num, by omega, Lib.hid (by rw [H.out, hx.out]; rfl), hS.sel [1] rfl (by decide)⟩
          | exact ⟨k + 1, x, hlt, by go_num, rfl, by omega, Lib.hid (by rw [H.out, hx.out]; rfl), hS.sel [1] rfl (by decide)⟩
        case measure => simp [intOf]; omega
    · obtain rfl : k = real.length := by omega
      have hx2 := hx.out
      rw [List.take_length] at hx2
      have Hx := Lib.hid hx2
      clear hx2 hx
      go_wp2_with (first | ((with_reducible show wpList _ _ _ (⟨_, Op.box _ _, _, _, _, _⟩ :: _) _ _); refine Does.list (does_box hS rfl rfl (by rfl)) rfl ?_; clear hS; rintro _ wx ⟨bo, rfl, hS, _⟩; (simp only [Act.put, List.setIfInBounds_toArray, List.set_cons_zero, List.set_cons_succ])))
      go_ret
      exact ⟨ret_int (by rw [Hx.out]), hS.mod0⟩

/-! ### The first rows -/
set_option maxHeartbeats 4000000 in
set_option maxRecDepth 8000 in
theorem impl_first (size : Int) (M : Nat) (w : World) (A1 A2 A3 : Option Addr) (c1 c2 c3 : Nat) (F G H' : List Nat) (ns : List ByteArray) (rows : List (List Int)) (real : List Bool) (hx : SliceHas Rep.str w F [.slice A1 ns.length c1] ns) (hy : SliceHas Rep.int.slice w G [.slice A2 rows.length c2] rows) (hz : SliceHas Rep.bool w H' [.slice A3 real.length c3] real) (hb : PSmall (ns, rows, real)) (hl : real.length = rows.length) (hr6 : ∀ r ∈ rows, r.length ≤ 1000000) (hs : 0 ≤ size) (hM : cutM size rows.length = M) :
    Calls Tryd.prog 96 #[.agg #[.slice A1 ns.length c1, .slice A2 rows.length c2, .slice A3 real.length c3], .int .i64 size] w fun e w' => ∃ cs, e = .returned (.agg cs.toArray) ∧ Fresh oPadded w w' cs (ns, rows.take M, real.take M) := by
  obtain ⟨hb1, ⟨hb2, hb3⟩, hb4⟩ := hb
  dsimp only at hb1 hb2 hb3 hb4
  have hc2 := SliceHas.capLe hy
  have hc3 := SliceHas.capLe hz
  have hS : Sat w w [.ro Rep.str.slice [.slice A1 ns.length c1] ns, .ro Rep.int.slice.slice [.slice A2 rows.length c2] rows, .ro Rep.bool.slice [.slice A3 real.length c3] real] := (((Sat.nil w).arg hz).arg hy).arg hx
  clear hx hy hz
  have hMr : M ≤ rows.length := by unfold cutM at hM; omega
  have Hl2 : Hid ((rows.take M).length = M) := Lib.hid (by rw [List.length_take]; omega)
  have Hl3 : Hid ((real.take M).length = M) := Lib.hid (by rw [List.length_take]; omega)
  have Hb3 : Hid (∀ r ∈ rows.take M, r.length ≤ 1000000) := Lib.hid (fun r hr => hr6 r (List.mem_of_mem_take hr))
  rw [hl] at hS hc3 ⊢
  clear hb3 hb4 hr6
  have hS2 := Sat.takeRo (e := Rep.bool) (h := M) hS 2 rfl hMr
  clear hS
  have hS := Sat.takeRo (e := Rep.int.slice) (h := M) hS2 2 rfl hMr
  clear hS2
  have Hl := Lib.hid hl
  clear hl
  by_cases h : ¬ (rows.length : Int) < size
  · obtain rfl : size = (M : Int) := by unfold cutM at hM; omega
    clear hM
    go_enter Tryd.func96, Tryd.ntmps96
    go_wp2_with (first | ((with_reducible show Code.wp _ (Code.region 2 _ true) _ _ _); refine wp_region_drawn [(0, 0), (1, 1), (3, 0), (4, 1), (5, 0), (6, 0), (8, 0), (9, 1), (10, 0), (11, 0), (2, 2), (7, 2), (12, 3), (13, 0), (14, 3)] (by kernel_rfl) (by kernel_rfl) (by intro _ _ dq _ _ hq; cases dq <;> exact hq) ?_; replace hS := hS.mod (Mod.drew (Mod.refl _ _)); (generalize hwd : World.drew _ = wz at hS ⊢); clear hwd) | ((with_reducible show wpD _ _ _ ((_, 0) :: _) _ _); (first | (refine D_pure (v := .slice A2 M c2) rfl rfl (fun wq => pure_take (by rfl) (by rfl) (by rfl) (by omega) hc2 wq) ?_) | (refine D_pure (v := .slice A3 M c3) rfl rfl (fun wq => pure_take (by rfl) (by rfl) (by rfl) (by omega) hc3 wq) ?_)); (first | show wpD _ _ _ _ (Act.put _ (some _) _) _ | show wpD _ _ _ _ (Act.put _ none _) _); (simp only [Act.put, List.setIfInBounds_toArray, List.set_cons_zero, List.set_cons_succ])) | ((with_reducible show wpD _ _ _ ((_, 2) :: _) _ _); (refine D_call (f := 69) (args := ?_) rfl rfl ?_ ?_); rotate_left 1; (show (Sem.run _ (execOp _ (Oper.mk _ _ _ _ _ _)) _) = _; go_simp; rfl); obtain ⟨Fq, hFq⟩ := hS.has Rep.str.slice [.slice A1 ns.length c1]; refine (impl_cloneNames' _ Fq _ _ hFq hb1).mono ?_; rintro e wy ⟨v1, rfl, hN⟩; have hM := hN.mod0; replace hS := hS.fresh hN; clear hN hFq; obtain ⟨B1, d1, rfl⟩ := hS.formOwn 0 rfl; refine ⟨_, rfl, hM, ?_⟩; clear hM; (first | show wpD _ _ _ _ (Act.put _ (some _) _) _ | show wpD _ _ _ _ (Act.put _ none _) _); (simp only [Act.put, List.setIfInBounds_toArray, List.set_cons_zero, List.set_cons_succ])) | ((with_reducible show wpD _ _ _ ((_, 2) :: _) _ _); (refine D_call (f := 160) (args := ?_) rfl rfl ?_ ?_); rotate_left 1; (show (Sem.run _ (execOp _ (Oper.mk _ _ _ _ _ _)) _) = _; go_simp; rfl); obtain ⟨Fq, hFq⟩ := hS.has Rep.int.slice.slice [.slice A2 M c2]; refine (impl_cloneRows' _ Fq _ _ hFq (by rw [Hl2.out]; omega) Hb3.out).mono ?_; rintro e wy ⟨v2, rfl, hN⟩; have hM := hN.mod0; replace hS := hS.fresh hN; clear hN hFq; obtain ⟨B2, d2, rfl⟩ := hS.formOwnN 0 rfl Hl2.out; refine ⟨_, rfl, hM, ?_⟩; clear hM; (first | show wpD _ _ _ _ (Act.put _ (some _) _) _ | show wpD _ _ _ _ (Act.put _ none _) _); (simp only [Act.put, List.setIfInBounds_toArray, List.set_cons_zero, List.set_cons_succ])) | ((with_reducible show wpD _ _ _ ((_, 3) :: _) _ _); replace hS := Sat.nilRow Rep.bool hS; refine D_loud rfl rfl (f_appendFlat Rep.bool Rep.bool hS rfl rfl rfl rfl rfl rfl (by decide) (by omega)) ?_; clear hS; rintro _ wx ⟨B3, d3, rfl, hS⟩; (simp only [List.set_cons_zero, List.set_cons_succ] at hS); (first | show wpD _ _ _ _ (Act.put _ (some _) _) _ | show wpD _ _ _ _ (Act.put _ none _) _); (simp only [Act.put, List.setIfInBounds_toArray, List.set_cons_zero, List.set_cons_succ]); (simp only [Nat.zero_add, List.nil_append] at hS ⊢)) | ((with_reducible show wpD _ _ _ [] _ _); refine D_nil ?_) | ((with_reducible show wpD _ _ _ ((_, 0) :: _) _ _); (first | (refine D_skip rfl rfl ?_; (first | show wpD _ _ _ _ (Act.put _ (some _) _) _ | show wpD _ _ _ _ (Act.put _ none _) _); (simp only [Act.put, List.setIfInBounds_toArray, List.set_cons_zero, List.set_cons_succ])) | (refine D_pure (v := ?_) rfl rfl (fun wq => ?_) ?_; rotate_left 1; (show (Sem.run _ (execOp _ (Oper.mk _ _ _ _ _ _)) _) = _; go_simp; (try go_bits); with_reducible rfl); (first | show wpD _ _ _ _ (Act.put _ (some _) _) _ | show wpD _ _ _ _ (Act.put _ none _) _); (simp only [Act.put, List.setIfInBounds_toArray, List.set_cons_zero, List.set_cons_succ])))) | ((with_reducible show wpD _ _ _ ((_, 1) :: _) _ _); (first | (refine D_skip rfl rfl ?_; (first | show wpD _ _ _ _ (Act.put _ (some _) _) _ | show wpD _ _ _ _ (Act.put _ none _) _); (simp only [Act.put, List.setIfInBounds_toArray, List.set_cons_zero, List.set_cons_succ])) | ((first | refine D_load rfl rfl (fun x hx => f_load (hS.mod hx) rfl rfl (by rfl)) ?_ | refine D_load rfl rfl (fun x hx => f_loadS (hS.mod hx) rfl rfl (by rfl)) ?_ | refine D_load rfl rfl (fun x hx => f_loadAt (hS.mod hx) rfl rfl) ?_ | refine D_load rfl rfl (fun x hx => f_loadAtS (hS.mod hx) rfl rfl (by rfl)) ?_ | refine D_load rfl rfl (fun x hx => f_loadAtF (hS.mod hx) rfl rfl (by rfl)) ?_); (first | show wpD _ _ _ _ (Act.put _ (some _) _) _ | show wpD _ _ _ _ (Act.put _ none _) _); (simp only [Act.put, List.setIfInBounds_toArray, List.set_cons_zero, List.set_cons_succ])))) | ((with_reducible show wpD _ _ _ ((_, 3) :: _) _ _); ((first | refine D_loud rfl rfl (f_store hS rfl rfl rfl (by rfl) (by rfl)) ?_ | refine D_loud rfl rfl (f_storeS hS rfl rfl rfl (by rfl) (by rfl) (by rfl)) ?_); clear hS; rintro _ wx ⟨rfl, hS⟩; (simp only [List.set_cons_zero, List.set_cons_succ] at hS); (first | show wpD _ _ _ _ (Act.put _ (some _) _) _ | show wpD _ _ _ _ (Act.put _ none _) _); (simp only [Act.put, List.setIfInBounds_toArray, List.set_cons_zero, List.set_cons_succ]))) | ((with_reducible show wpList _ _ _ (⟨_, Op.box _ _, _, _, _, _⟩ :: _) _ _); refine Does.list (does_box hS rfl rfl (by rfl)) rfl ?_; clear hS; rintro _ wx ⟨bo, rfl, hS, _⟩; (simp only [Act.put, List.setIfInBounds_toArray, List.set_cons_zero, List.set_cons_succ])) | ((with_reducible show wpList _ _ _ (⟨_, Op.load _ _, _, _, _, _⟩ :: _) _ _); (first | refine Gives.list (f_load hS rfl rfl (by rfl)) rfl ?_ | refine Gives.list (f_loadS hS rfl rfl (by rfl)) rfl ?_ | refine Gives.list (f_loadAt hS rfl rfl) rfl ?_ | refine Gives.list (f_loadAtS hS rfl rfl (by rfl)) rfl ?_ | refine Gives.list (f_loadAtF hS rfl rfl (by rfl)) rfl ?_); (simp only [Act.put, List.setIfInBounds_toArray, List.set_cons_zero, List.set_cons_succ])) | ((with_reducible show wpList _ _ _ (⟨_, Op.alloc _, _, _, _, _⟩ :: _) _ _); refine Does.list (does_alloc hS rfl (by rfl)) rfl ?_; clear hS; rintro _ wx ⟨ba, rfl, hS, _⟩; (simp only [Act.put, List.setIfInBounds_toArray, List.set_cons_zero, List.set_cons_succ])))
    refine bodyPost_ret (hS.resultCell rfl rfl (by rfl)) rfl ?_
    exact ⟨_, rfl, (Sat.mkPadded (hS.sel (Γ' := [.own Rep.bool.rows [.slice B3 M d3] (real.take M), .own Rep.int.rows.rows [.slice B2 M d2] (rows.take M), .own Rep.str.rows [.slice B1 ns.length d1] ns]) [0, 1, 2] rfl (by decide))).result⟩
  · replace h : (rows.length : Int) < size := by omega
    have hM2 : rows.length = M := by unfold cutM at hM; omega
    rw [hM2] at hS h hc2 hc3 ⊢
    clear hM hM2
    go_enter Tryd.func96, Tryd.ntmps96
    go_wp2_with (first | ((with_reducible show Code.wp _ (Code.region 2 _ true) _ _ _); refine wp_region_drawn [(0, 0), (1, 1), (3, 0), (4, 1), (5, 0), (6, 0), (8, 0), (9, 1), (10, 0), (11, 0), (2, 2), (7, 2), (12, 3), (13, 0), (14, 3)] (by kernel_rfl) (by kernel_rfl) (by intro _ _ dq _ _ hq; cases dq <;> exact hq) ?_; replace hS := hS.mod (Mod.drew (Mod.refl _ _)); (generalize hwd : World.drew _ = wz at hS ⊢); clear hwd) | ((with_reducible show wpD _ _ _ ((_, 0) :: _) _ _); (first | (refine D_pure (v := .slice A2 M c2) rfl rfl (fun wq => pure_take (by rfl) (by rfl) (by rfl) (by omega) hc2 wq) ?_) | (refine D_pure (v := .slice A3 M c3) rfl rfl (fun wq => pure_take (by rfl) (by rfl) (by rfl) (by omega) hc3 wq) ?_)); (first | show wpD _ _ _ _ (Act.put _ (some _) _) _ | show wpD _ _ _ _ (Act.put _ none _) _); (simp only [Act.put, List.setIfInBounds_toArray, List.set_cons_zero, List.set_cons_succ])) | ((with_reducible show wpD _ _ _ ((_, 2) :: _) _ _); (refine D_call (f := 69) (args := ?_) rfl rfl ?_ ?_); rotate_left 1; (show (Sem.run _ (execOp _ (Oper.mk _ _ _ _ _ _)) _) = _; go_simp; rfl); obtain ⟨Fq, hFq⟩ := hS.has Rep.str.slice [.slice A1 ns.length c1]; refine (impl_cloneNames' _ Fq _ _ hFq hb1).mono ?_; rintro e wy ⟨v1, rfl, hN⟩; have hM := hN.mod0; replace hS := hS.fresh hN; clear hN hFq; obtain ⟨B1, d1, rfl⟩ := hS.formOwn 0 rfl; refine ⟨_, rfl, hM, ?_⟩; clear hM; (first | show wpD _ _ _ _ (Act.put _ (some _) _) _ | show wpD _ _ _ _ (Act.put _ none _) _); (simp only [Act.put, List.setIfInBounds_toArray, List.set_cons_zero, List.set_cons_succ])) | ((with_reducible show wpD _ _ _ ((_, 2) :: _) _ _); (refine D_call (f := 160) (args := ?_) rfl rfl ?_ ?_); rotate_left 1; (show (Sem.run _ (execOp _ (Oper.mk _ _ _ _ _ _)) _) = _; go_simp; rfl); obtain ⟨Fq, hFq⟩ := hS.has Rep.int.slice.slice [.slice A2 M c2]; refine (impl_cloneRows' _ Fq _ _ hFq (by rw [Hl2.out]; omega) Hb3.out).mono ?_; rintro e wy ⟨v2, rfl, hN⟩; have hM := hN.mod0; replace hS := hS.fresh hN; clear hN hFq; obtain ⟨B2, d2, rfl⟩ := hS.formOwnN 0 rfl Hl2.out; refine ⟨_, rfl, hM, ?_⟩; clear hM; (first | show wpD _ _ _ _ (Act.put _ (some _) _) _ | show wpD _ _ _ _ (Act.put _ none _) _); (simp only [Act.put, List.setIfInBounds_toArray, List.set_cons_zero, List.set_cons_succ])) | ((with_reducible show wpD _ _ _ ((_, 3) :: _) _ _); replace hS := Sat.nilRow Rep.bool hS; refine D_loud rfl rfl (f_appendFlat Rep.bool Rep.bool hS rfl rfl rfl rfl rfl rfl (by decide) (by omega)) ?_; clear hS; rintro _ wx ⟨B3, d3, rfl, hS⟩; (simp only [List.set_cons_zero, List.set_cons_succ] at hS); (first | show wpD _ _ _ _ (Act.put _ (some _) _) _ | show wpD _ _ _ _ (Act.put _ none _) _); (simp only [Act.put, List.setIfInBounds_toArray, List.set_cons_zero, List.set_cons_succ]); (simp only [Nat.zero_add, List.nil_append] at hS ⊢)) | ((with_reducible show wpD _ _ _ [] _ _); refine D_nil ?_) | ((with_reducible show wpD _ _ _ ((_, 0) :: _) _ _); (first | (refine D_skip rfl rfl ?_; (first | show wpD _ _ _ _ (Act.put _ (some _) _) _ | show wpD _ _ _ _ (Act.put _ none _) _); (simp only [Act.put, List.setIfInBounds_toArray, List.set_cons_zero, List.set_cons_succ])) | (refine D_pure (v := ?_) rfl rfl (fun wq => ?_) ?_; rotate_left 1; (show (Sem.run _ (execOp _ (Oper.mk _ _ _ _ _ _)) _) = _; go_simp; (try go_bits); with_reducible rfl); (first | show wpD _ _ _ _ (Act.put _ (some _) _) _ | show wpD _ _ _ _ (Act.put _ none _) _); (simp only [Act.put, List.setIfInBounds_toArray, List.set_cons_zero, List.set_cons_succ])))) | ((with_reducible show wpD _ _ _ ((_, 1) :: _) _ _); (first | (refine D_skip rfl rfl ?_; (first | show wpD _ _ _ _ (Act.put _ (some _) _) _ | show wpD _ _ _ _ (Act.put _ none _) _); (simp only [Act.put, List.setIfInBounds_toArray, List.set_cons_zero, List.set_cons_succ])) | ((first | refine D_load rfl rfl (fun x hx => f_load (hS.mod hx) rfl rfl (by rfl)) ?_ | refine D_load rfl rfl (fun x hx => f_loadS (hS.mod hx) rfl rfl (by rfl)) ?_ | refine D_load rfl rfl (fun x hx => f_loadAt (hS.mod hx) rfl rfl) ?_ | refine D_load rfl rfl (fun x hx => f_loadAtS (hS.mod hx) rfl rfl (by rfl)) ?_ | refine D_load rfl rfl (fun x hx => f_loadAtF (hS.mod hx) rfl rfl (by rfl)) ?_); (first | show wpD _ _ _ _ (Act.put _ (some _) _) _ | show wpD _ _ _ _ (Act.put _ none _) _); (simp only [Act.put, List.setIfInBounds_toArray, List.set_cons_zero, List.set_cons_succ])))) | ((with_reducible show wpD _ _ _ ((_, 3) :: _) _ _); ((first | refine D_loud rfl rfl (f_store hS rfl rfl rfl (by rfl) (by rfl)) ?_ | refine D_loud rfl rfl (f_storeS hS rfl rfl rfl (by rfl) (by rfl) (by rfl)) ?_); clear hS; rintro _ wx ⟨rfl, hS⟩; (simp only [List.set_cons_zero, List.set_cons_succ] at hS); (first | show wpD _ _ _ _ (Act.put _ (some _) _) _ | show wpD _ _ _ _ (Act.put _ none _) _); (simp only [Act.put, List.setIfInBounds_toArray, List.set_cons_zero, List.set_cons_succ]))) | ((with_reducible show wpList _ _ _ (⟨_, Op.box _ _, _, _, _, _⟩ :: _) _ _); refine Does.list (does_box hS rfl rfl (by rfl)) rfl ?_; clear hS; rintro _ wx ⟨bo, rfl, hS, _⟩; (simp only [Act.put, List.setIfInBounds_toArray, List.set_cons_zero, List.set_cons_succ])) | ((with_reducible show wpList _ _ _ (⟨_, Op.load _ _, _, _, _, _⟩ :: _) _ _); (first | refine Gives.list (f_load hS rfl rfl (by rfl)) rfl ?_ | refine Gives.list (f_loadS hS rfl rfl (by rfl)) rfl ?_ | refine Gives.list (f_loadAt hS rfl rfl) rfl ?_ | refine Gives.list (f_loadAtS hS rfl rfl (by rfl)) rfl ?_ | refine Gives.list (f_loadAtF hS rfl rfl (by rfl)) rfl ?_); (simp only [Act.put, List.setIfInBounds_toArray, List.set_cons_zero, List.set_cons_succ])) | ((with_reducible show wpList _ _ _ (⟨_, Op.alloc _, _, _, _, _⟩ :: _) _ _); refine Does.list (does_alloc hS rfl (by rfl)) rfl ?_; clear hS; rintro _ wx ⟨ba, rfl, hS, _⟩; (simp only [Act.put, List.setIfInBounds_toArray, List.set_cons_zero, List.set_cons_succ])))
    refine bodyPost_ret (hS.resultCell rfl rfl (by rfl)) rfl ?_
    exact ⟨_, rfl, (Sat.mkPadded (hS.sel (Γ' := [.own Rep.bool.rows [.slice B3 M d3] (real.take M), .own Rep.int.rows.rows [.slice B2 M d2] (rows.take M), .own Rep.str.rows [.slice B1 ns.length d1] ns]) [0, 1, 2] rfl (by decide))).result⟩
end Go.Proofs.YtldknaajnnohiaaDoor
end
