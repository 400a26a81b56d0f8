/- FnPairTrace returns true for every input: pairs have four accesses, two of which write. -/
import Derived.Test.YtldknaajnnohiaaDoorDrPT
import Derived.Test.YtldknaajnnohiaaDoorTrace
import Derived.Test.YtldknaajnnohiaaDoorEqT
import Derived.Test.YtldknaajnnohiaaDoorDoor
namespace Go.Proofs.YtldknaajnnohiaaDoor
open Go.ChangeShapes Go.WideShapes Go.ChangeAt Go.RowKit


def wrB (x : AccessD) : Bool := x.2.2
theorem countP_wr {l : List AccessD} {k : Nat} (h : k < l.length) : (l.take (k + 1)).countP wrB = (l.take k).countP wrB + (if wrB l[k] then 1 else 0) := by
  rw [List.take_succ_eq_append_getElem h, List.countP_append, List.countP_singleton]
theorem pairs_wr (r : Int) (xs : List PairD) : (xs.flatMap (pairAcc r)).countP wrB = 2 * xs.length := by
  induction xs with
  | nil => rfl
  | cons p l ih =>
    rw [List.flatMap_cons, List.countP_append, ih, List.length_cons]
    show 2 + _ = _
    omega
set_option maxHeartbeats 8000000 in
set_option maxRecDepth 100000 in
theorem fnPairTrace_calls (w : World) (hR : ResOk w) (v : Value) (F : List Nat) (code : List UInt8) (hx : SliceHas Rep.u8 w F [v] code) :
    Calls Tryd.prog 13 #[v] w fun e w' => e = .returned (.bool true) ∧ Mod [] w w' := by
  obtain ⟨A, c, rfl, hl, _⟩ := hx.form'
  have hS : Sat w w [.ro Rep.u8.slice [.slice A code.length c] code] := (Sat.nil w).arg hx
  by_cases hq : 1048576 < code.length
  · go_enter Tryd.func13, Tryd.ntmps13
    go_wp2_with (first | ((with_reducible show wpList _ _ _ (⟨_, Op.box _ _, _, _, _, _⟩ :: _) _ _); refine Does.list (does_box hS rfl rfl (by rfl)) rfl ?_; clear hS; rintro _ wx ⟨bo, rfl, hS, _⟩; (simp only [Act.put, List.setIfInBounds_toArray, List.set_cons_zero, List.set_cons_succ])))
    go_ret
    exact ⟨rfl, hS.mod0⟩
  go_enter Tryd.func13, Tryd.ntmps13
  go_wp2_with (first | (go_at_call 57; obtain ⟨Fq, hFq⟩ := hS.has Rep.u8.slice [.slice A code.length c]; refine (spec_DrawPairTrace _ Fq _ _ hFq).mono ?_; rintro e w' ⟨region, v1, xs, rfl, hrg, hxl, hN⟩; replace hS := hS.fresh hN; clear hN hFq; obtain ⟨B, d, rfl⟩ := hS.formOwn 0 rfl; replace hS := Sat.still (e' := rPair.slice) hS))
  obtain ⟨X, hX⟩ : ∃ X, pairTraceF region xs = X := ⟨_, rfl⟩
  have HX := Lib.hid hX
  by_cases hin : region < 0 ∨ 2 < region
  · have hX0 : X = [] := by
      rw [← hX]; unfold pairTraceF
      rw [show inB region 0 2 = false by unfold inB; simp; omega]; rfl
    have hb1 : ((X.length : Int) == 0) = true := by rw [hX0]; rfl
    have hb2 : (X.length == 0) = true := by rw [hX0]; rfl
    clear hX hX0
    rcases hin with hin | hin
    · go_wp2_with (first | (go_at_call 58; obtain ⟨Fq, hFq⟩ := hS.has rPair.slice [.slice B xs.length d]; refine (impl_PairTrace region _ Fq _ xs hFq (by omega)).mono ?_; rintro e w' ⟨v2, rfl, hN⟩; (rw [HX.out] at hN); replace hS := hS.fresh hN; clear hN hFq; obtain ⟨A2, c2, rfl⟩ := hS.formW 0 rfl; replace hS := Sat.still (e' := rAccess.slice) hS) | (go_at_call 59; obtain ⟨Fq, hFq⟩ := hS.has rPair.slice [.slice B xs.length d]; refine (spec_PairTrace region _ Fq _ xs hFq (by omega)).mono ?_; rintro e w' ⟨v3, rfl, hN⟩; (rw [HX.out] at hN); replace hS := hS.fresh hN; clear hN hFq; obtain ⟨A3, c3, rfl⟩ := hS.formW 0 rfl; replace hS := Sat.still (e' := rAccess.slice) hS) | (go_at_call 30; obtain ⟨Fq, hFq⟩ := hS.has rAccess.slice [.slice A2 X.length c2]; obtain ⟨Fr, hFr⟩ := hS.has rAccess.slice [.slice A3 X.length c3]; refine (impl_SameTrace _ _ _ _ _ _ _ hFq hFr).mono ?_; rintro e w' ⟨rfl, hM⟩; replace hS := hS.mod hM; clear hM hFq hFr; (simp only [eqB_rfl])) | (go_at_call 19; refine (laws_alive _ (hR.mod0 hS.mod0)).mono ?_; rintro e w' ⟨rfl, hM⟩; replace hS := hS.mod hM; clear hM))
      go_ret
      exact ⟨rfl, hS.mod0⟩
    · have hin2 : ¬ region < 0 := by omega
      go_wp2_with (first | (go_at_call 58; obtain ⟨Fq, hFq⟩ := hS.has rPair.slice [.slice B xs.length d]; refine (impl_PairTrace region _ Fq _ xs hFq (by omega)).mono ?_; rintro e w' ⟨v2, rfl, hN⟩; (rw [HX.out] at hN); replace hS := hS.fresh hN; clear hN hFq; obtain ⟨A2, c2, rfl⟩ := hS.formW 0 rfl; replace hS := Sat.still (e' := rAccess.slice) hS) | (go_at_call 59; obtain ⟨Fq, hFq⟩ := hS.has rPair.slice [.slice B xs.length d]; refine (spec_PairTrace region _ Fq _ xs hFq (by omega)).mono ?_; rintro e w' ⟨v3, rfl, hN⟩; (rw [HX.out] at hN); replace hS := hS.fresh hN; clear hN hFq; obtain ⟨A3, c3, rfl⟩ := hS.formW 0 rfl; replace hS := Sat.still (e' := rAccess.slice) hS) | (go_at_call 30; obtain ⟨Fq, hFq⟩ := hS.has rAccess.slice [.slice A2 X.length c2]; obtain ⟨Fr, hFr⟩ := hS.has rAccess.slice [.slice A3 X.length c3]; refine (impl_SameTrace _ _ _ _ _ _ _ hFq hFr).mono ?_; rintro e w' ⟨rfl, hM⟩; replace hS := hS.mod hM; clear hM hFq hFr; (simp only [eqB_rfl])) | (go_at_call 19; refine (laws_alive _ (hR.mod0 hS.mod0)).mono ?_; rintro e w' ⟨rfl, hM⟩; replace hS := hS.mod hM; clear hM))
      go_ret
      exact ⟨rfl, hS.mod0⟩
  have hin1 : ¬ region < 0 := by omega
  have hin2 : ¬ 2 < region := by omega
  have hX2 : X = xs.flatMap (pairAcc region) := by
    rw [← hX]; unfold pairTraceF; rw [inB_true (by omega)]; rfl
  have hXl : X.length = 4 * xs.length := by rw [hX2, pairAcc_len]
  have hXw : X.countP wrB = 2 * xs.length := by rw [hX2, pairs_wr]
  have HXl := Lib.hid hXl
  have HXw := Lib.hid hXw
  have hXb : X.length ≤ 240000 := by omega
  clear hX hX2 hXl hXw hin
  go_wp2_with (first | (go_at_call 58; obtain ⟨Fq, hFq⟩ := hS.has rPair.slice [.slice B xs.length d]; refine (impl_PairTrace region _ Fq _ xs hFq (by omega)).mono ?_; rintro e w' ⟨v2, rfl, hN⟩; (rw [HX.out] at hN); replace hS := hS.fresh hN; clear hN hFq; obtain ⟨A2, c2, rfl⟩ := hS.formW 0 rfl; replace hS := Sat.still (e' := rAccess.slice) hS) | (go_at_call 59; obtain ⟨Fq, hFq⟩ := hS.has rPair.slice [.slice B xs.length d]; refine (spec_PairTrace region _ Fq _ xs hFq (by omega)).mono ?_; rintro e w' ⟨v3, rfl, hN⟩; (rw [HX.out] at hN); replace hS := hS.fresh hN; clear hN hFq; obtain ⟨A3, c3, rfl⟩ := hS.formW 0 rfl; replace hS := Sat.still (e' := rAccess.slice) hS) | (go_at_call 30; obtain ⟨Fq, hFq⟩ := hS.has rAccess.slice [.slice A2 X.length c2]; obtain ⟨Fr, hFr⟩ := hS.has rAccess.slice [.slice A3 X.length c3]; refine (impl_SameTrace _ _ _ _ _ _ _ hFq hFr).mono ?_; rintro e w' ⟨rfl, hM⟩; replace hS := hS.mod hM; clear hM hFq hFr; (simp only [eqB_rfl])))
  go_loopw [7, 6] (fun i s wr => ∃ k q : Nat, i = .int .i64 k ∧ s = .int .i64 q ∧ k ≤ X.length ∧ q ≤ k ∧ Hid ((X.take k).countP wrB = q) ∧ Sat w wr [.ro rAccess.slice [.slice A2 X.length c2] X]) (fun i _ _ => X.length - (intOf i).toNat)
  case atStart => exact ⟨0, 0, rfl, rfl, Nat.zero_le _, Nat.le_refl _, Lib.hid rfl, hS.sel [1] rfl (by decide)⟩
  case round =>
    clear hS
    obtain ⟨k, q, rfl, rfl, hk, hq, Hq, hS⟩ := hrel
    by_cases hlt : k < X.length
    · have hltI : (k : Int) < (X.length : Int) := by omega
      have H := Lib.hid (countP_wr hlt)
      obtain ⟨ad, rfl, j0, j1, hS⟩ := hS.elAccess A2 X.length c2 (get_some hlt)
      generalize X[k] = x at hS H j0 j1
      obtain ⟨x0, x1, x2⟩ := x
      dsimp only at hS j0 j1
      have hw : IntKind.i64.wrap ((q : Int) + 1) = (q : Int) + 1 := IntWalk.i64_in _ (by omega)
      cases x2
      · go_wp2_with (first | ((with_reducible show wpList _ _ _ (⟨_, Op.load _ _, _, _, _, _⟩ :: _) _ _); (first | refine Gives.list (f_load hS rfl rfl (by rfl)) rfl ?_ | refine Gives.list (f_loadS hS rfl rfl (by rfl)) rfl ?_ | refine Gives.list (f_loadAt hS rfl rfl) rfl ?_ | refine Gives.list (f_loadAtS hS rfl rfl (by rfl)) rfl ?_ | refine Gives.list (f_loadAtF hS rfl rfl (by rfl)) rfl ?_); (simp only [Act.put, List.setIfInBounds_toArray, List.set_cons_zero, List.set_cons_succ])))
        go_roundw
        case rel => exact ⟨k + 1, q, by go_num, rfl, hlt, by omega, Lib.hid (by rw [H.out, Hq.out]; rfl), hS.sel [1] rfl (by decide)⟩
        case measure => simp [intOf]; omega
      · go_wp2_with (first | ((with_reducible show wpList _ _ _ (⟨_, Op.load _ _, _, _, _, _⟩ :: _) _ _); (first | refine Gives.list (f_load hS rfl rfl (by rfl)) rfl ?_ | refine Gives.list (f_loadS hS rfl rfl (by rfl)) rfl ?_ | refine Gives.list (f_loadAt hS rfl rfl) rfl ?_ | refine Gives.list (f_loadAtS hS rfl rfl (by rfl)) rfl ?_ | refine Gives.list (f_loadAtF hS rfl rfl (by rfl)) rfl ?_); (simp only [Act.put, List.setIfInBounds_toArray, List.set_cons_zero, List.set_cons_succ])))
        go_roundw
        case rel => exact ⟨k + 1, q + 1, by go_num, by go_num, hlt, by omega, Lib.hid (by rw [H.out, Hq.out]; rfl), hS.sel [1] rfl (by decide)⟩
        case measure => simp [intOf]; omega
    · obtain rfl : k = X.length := by omega
      have hq2 : q = 2 * xs.length := by
        have h := Hq.out
        rw [List.take_length, HXw.out] at h
        exact h.symm
      have e1 : IntKind.i64.wrap (4 * (xs.length : Int)) = (X.length : Int) := by have := HXl.out; rw [IntWalk.i64_in _ (by omega)]; omega
      have e2 : IntKind.i64.wrap (2 * (xs.length : Int)) = (q : Int) := by rw [IntWalk.i64_in _ (by omega)]; omega
      clear hq2
      go_wp2_with (first | ((with_reducible show wpList _ _ _ (⟨_, Op.box _ _, _, _, _, _⟩ :: _) _ _); refine Does.list (does_box hS rfl rfl (by rfl)) rfl ?_; clear hS; rintro _ wx ⟨bo, rfl, hS, _⟩; (simp only [Act.put, List.setIfInBounds_toArray, List.set_cons_zero, List.set_cons_succ])))
      go_ret
      exact ⟨rfl, hS.mod0⟩

theorem fnPairTrace_met (os : Os) (args : Array Value) : laidMetH Tryd.prog Rows.fnPairTraceRow.laid ((World.doorLaid Tryd.prog 400 os).forCall (fun _ _ => 0) ⟨#[], args, []⟩).memory :=
  laidMetH_of_parts3 (fuel := 8) (laidMet_of_run' 8 (by kernel_rfl) (by kernel_rfl)) (by kernel_rfl) (by kernel_rfl)
set_option maxRecDepth 100000 in
theorem fnPairTrace_lifted (os : Os) (started : os.Started) (H : Type) (enc : TypeId × Value → H) :
    ReturnsInHanded {} Tryd.checked os 13 .any (fun w args => (Rows.fnPairTraceSpec.pre enc Tryd.prog Tryd.f13 [] false w args ∧ laidMetH Tryd.prog Rows.fnPairTraceRow.laid w) ∧ sizedMet enc Tryd.prog Tryd.f13 (OpenSpec.ofChange Rows.fnPairTraceSpec) false w args) (Rows.fnPairTraceSpec.post enc Tryd.prog Tryd.f13 false true false false) := by
  refine returnsInHanded_of_change_and (C := Tryd.checked) (X := fun w _ => laidMetH Tryd.prog Rows.fnPairTraceRow.laid w) (fun _ _ _ hh h => h.of_heap hh) (show ownKnob Tryd.prog.godebug = none by kernel_rfl) started (by kernel_rfl) Tryd.func13
    (ChangeSpec.witness_shaped (enc := enc) (C := Tryd.checked) (os := os) (X := fun w _ => laidMetH Tryd.prog Rows.fnPairTraceRow.laid w) false (World.doorLaid Tryd.prog 400 os) #[.slice none 0 0] 8 rfl (World.shaped_of_RefB (by kernel_rfl) (by kernel_rfl)) (by kernel_rfl) (by kernel_rfl) (by kernel_rfl) (fnPairTrace_met os _)) ?_
  intro W base args ds gs before hval0 hW _ _ hL _
  have hval : ∀ (j : Nat) t v, Tryd.f13.params[j]? = some t → args[j]? = some v → Value.okWide Tryd.prog W .any base t v := hval0
  have hW' := hW
  obtain ⟨p, q, hA0, hV, rfl, hfz, hnd⟩ := hW
  have hA : DataW.TrodAll enc Tryd.prog W 0 (fun _ => true) true Tryd.f13.params.toList args.toList ds p := hA0
  rw [Tryd.params13] at hA hval
  obtain ⟨v0, vs0, d0, ds0, p0, q0, hargs, rfl, rfl, r0, s0⟩ := trodAll_cons hA
  obtain ⟨rfl, rfl, rfl⟩ := trodAll_nil s0
  obtain rfl : args = #[v0] := by cases args; simp_all
  have hL' : ResOk W := res_of_laid hL
  obtain ⟨F0, x0, hx0⟩ := read_slice Tryd.underlying22 ((reads_slice Tryd.underlying22 (by kernel_rfl) (reads_u8 Tryd.underlying5 (by kernel_rfl)))) (hval 0 22 v0 rfl rfl) r0
  refine (fnPairTrace_calls W hL' v0 F0 x0 hx0).mono fun e W' ⟨he, hm⟩ => ?_
  subst he
  obtain ⟨g0, rfl⟩ := vars_one hV
  exact ⟨_, rfl, post_law (by kernel_rfl) (by kernel_rfl) (by kernel_rfl) rfl rfl Tryd.underlying4 hW' hm⟩

theorem fnPairTrace_row : Rows.FnPairTraceSaid :=
  OpenClaim.holds_of_wide 13 Tryd.f13 rfl rfl rfl rfl rfl rfl rfl ⟨rfl, rfl, rfl, rfl, rfl⟩ rfl rfl rfl rfl rfl (by kernel_rfl) Tryd.func13 (show joinedFacts Tryd.prog 13 Tryd.f13 Rows.fnPairTraceSpec Rows.fnPairTraceRow = true from (by unfold joinedFacts; rw [gen_make, gen_lifts, gen_may]; kernel_rfl))
    (of_decide_eq_true (by kernel_rfl)) (by unfold Func.isWrapper; first | (rw [if_pos (by decide +kernel)]; kernel_rfl) | (rw [if_neg (by decide +kernel)]; exact ⟨rfl, rfl⟩))
    (fun os started H enc _ => fnPairTrace_lifted os started H enc)

theorem fnPairTrace_holds : Rows.FnPairTraceCardSaid :=
  Claim7.holds_tied_plain_at .later [] _ _ _ _
    fnPairTrace_row (fun _ h => by cases h) (by kernel_rfl) (fun _ h => by cases h) fnPairTrace_row_tie rfl ⟨rfl, rfl⟩ (by exact gen_main) rfl
    (fun f fn hf hfn => by
      obtain rfl : f = 13 := Option.some.inj ((show Tryd.prog.funcNamed "loop.example/obliviousqueries/laws.FnPairTrace" = some 13 by kernel_rfl).symm.trans hf) |>.symm
      obtain rfl : fn = Tryd.f13 := (Option.some.inj (Tryd.func13.symm.trans hfn)).symm
      exact ⟨by kernel_rfl, fun j t ht => by
        rw [Tryd.params13] at ht
        have hm : t ∈ [22] := by simpa using Array.mem_of_getElem? ht
        have hall : ([22].all fun u => !Tryd.prog.wantsStandIn u) = true := by kernel_rfl
        exact (show Tryd.prog.wantsStandIn t = false by simpa using List.all_eq_true.1 hall t hm)⟩)
    (by kernel_rfl)

end Go.Proofs.YtldknaajnnohiaaDoor
