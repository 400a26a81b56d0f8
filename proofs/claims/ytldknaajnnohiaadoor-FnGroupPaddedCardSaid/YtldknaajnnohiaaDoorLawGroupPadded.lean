/- FnGroupPadded returns true for every input: groups hide how many there are: the real rows are those of GroupRows, there are as many rows as before, and the accesses depend on their number alone. -/
import Derived.Test.YtldknaajnnohiaaDoorDrGp
import Derived.Test.YtldknaajnnohiaaDoorGpY
import Derived.Test.YtldknaajnnohiaaDoorTkQ
import Derived.Test.YtldknaajnnohiaaDoorGrT
import Derived.Test.YtldknaajnnohiaaDoorGrI
import Derived.Test.YtldknaajnnohiaaDoorEqD
import Derived.Test.YtldknaajnnohiaaDoorEqL
import Derived.Test.YtldknaajnnohiaaDoorDoor
namespace Go.Proofs.YtldknaajnnohiaaDoor
open Go.ChangeShapes Go.WideShapes Go.ChangeAt Go.RowKit

theorem badly_not {ns : List ByteArray} {rows : List (List Int)} {real : List Bool} (hn : 1 ≤ ns.length) (h : badly rows real) : paddedOk (ns, rows, real) = false := by
  rw [Bool.eq_false_iff]
  intro hok
  obtain ⟨k, r, hr, hs⟩ := h
  unfold paddedOk at hok
  simp only [Bool.and_eq_true, decide_eq_true_eq] at hok
  obtain ⟨_, _, hrl, hp⟩ := hok
  rw [padRows_fit] at hp
  simp only [Bool.and_eq_true] at hp
  obtain ⟨h1, h2⟩ := hp
  have hfit := List.all_eq_true.1 h1 r (List.mem_of_getElem? hr)
  obtain ⟨hk, hrk⟩ := List.getElem?_eq_some_iff.1 hr
  have hzz := List.all_eq_true.1 h2 k (List.mem_range.2 hk)
  unfold fitRow at hfit
  simp only [Bool.and_eq_true, decide_eq_true_eq] at hfit
  rcases hs with rfl | ⟨hb, hc⟩
  · have := hfit.1
    simp at this
    omega
  · unfold zeroAt at hzz
    have hb2 : real.getD k true = false := by
      rw [List.getD_eq_getElem?_getD, List.getElem?_eq_getElem (by omega)] at hb ⊢
      exact hb
    rw [hb2] at hzz
    have e : rows.getD k [] = r := by rw [List.getD_eq_getElem?_getD, hr]; rfl
    rw [e] at hzz
    cases r with
    | nil => simp at hc
    | cons x l =>
      simp at hc
      subst hc
      simp [notZero] at hzz
theorem group_names {p : PaddedD} {g s : ByteArray} (h : groupF p g s ≠ (zeroP, [], false)) : gNam p.1 g s = true := by
  cases h2 : gNam p.1 g s
  · exact absurd (groupF_n h2) h
  · rfl
theorem group_true {ns : List ByteArray} {rows : List (List Int)} {real : List Bool} {g s : ByteArray} {q : PaddedD} {tr : List AccessD} (hd : gDrawn ns rows real) (h : groupF (ns, rows, real) g s = (q, tr, true)) :
    ∃ (tw uw : List (List Int)) (L : List KV), (rows.length ≤ 12 ∧ paddedOk q = true ∧ q.2.1.length = rows.length ∧ tr.length = 4 * (netF rows.length).length + 2 * rows.length) ∧ (tkrF (ns, rows, real) = ((ns, tw), true) ∧ tkrF q = ((q.1, uw), true) ∧ grF (ns, tw) g s L = ((q.1, uw), true)) ∧ gNam ns g s = true ∧ tableOk (ns, tw) = true ∧ tw.length ≤ 12 ∧ L.Perm (tw.map (kvOf (colOf ns g).toNat (colOf ns s).toNat)) ∧ KSorted L := by
  have hnam : gNam ns g s = true := group_names (p := (ns, rows, real)) (by rw [h]; intro e; cases e)
  rcases groupF_cases (ns, rows, real) g s with h1 | ⟨hok, hout, h1⟩
  · rw [h1] at h; cases h
  rw [h1] at h
  cases h
  have h12 : rows.length ≤ 12 := by
    rcases hd.2 with k | k
    · exact k
    · rw [badly_not hd.1.1 k] at hok; cases hok
  have hrl := (padded_lenC hok).2
  have hcp : real.countP id ≤ 12 := by have := List.countP_le_length (p := id) (l := real); omega
  have hg0 : 0 ≤ colOf ns g := by
    unfold gNam at hnam
    simp only [Bool.and_eq_true] at hnam
    obtain ⟨j, hj, _⟩ := colOf_nat hnam.1
    omega
  have hql : (gOut (ns, rows, real) g s).2.1.length = rows.length := by unfold gOut gRows; simp
  have hqm : (gOut (ns, rows, real) g s).2.2.length = rows.length := by unfold gOut gMarks; simp
  have hcq : (gOut (ns, rows, real) g s).2.2.countP id ≤ 16 := by have := List.countP_le_length (p := id) (l := (gOut (ns, rows, real) g s).2.2); omega
  have htl : (realRows rows real).length ≤ 12 := by
    unfold realRows
    rw [List.length_map]
    have := List.length_filter_le (fun (x : List Int × Bool) => x.2) (rows.zip real)
    rw [List.length_zip] at this
    omega
  have ht : tableOk (ns, realRows rows real) = true := realRows_ok hok (by omega)
  have hL : ∃ L : List KV, L.Perm ((realRows rows real).map (kvOf (gKey (ns, rows, real) g) (gKey (ns, rows, real) s))) ∧ KSorted L := by
    refine ⟨(realZ (sortZ ((gKey (ns, rows, real) g : Nat) : Int) false (rows.zip real))).map (kvOf (gKey (ns, rows, real) g) (gKey (ns, rows, real) s)), ?_, realZ_keys⟩
    exact (realZ_perm sortZ_perm).map _
  obtain ⟨L, hL1, hL2⟩ := hL
  have hr := groupReal (p := (ns, rows, real)) hok hg0 hL1 hL2
  have hto : tableOk (gNames g, runs L 0 0) = true := by
    have k := realRows_ok (ns := gNames g) (rows := (gOut (ns, rows, real) g s).2.1) (real := (gOut (ns, rows, real) g s).2.2) hout hcq
    rw [hr] at k
    exact k
  refine ⟨realRows rows real, runs L 0 0, L, ⟨h12, hout, hql, ?_⟩, ⟨tkrF_t hok (by show real.countP id ≤ 16; omega), ?_, grF_t hnam ht hto⟩, hnam, ht, htl, hL1, hL2⟩
  · rw [List.length_append, pairF_len, passF_len]
  · rw [← hr]; exact tkrF_t hout hcq
theorem group_false {p : PaddedD} {g s : ByteArray} {q : PaddedD} {tr : List AccessD} (h : groupF p g s = (q, tr, false)) : q = zeroP ∧ tr = [] := by
  rcases groupF_cases p g s with h1 | ⟨_, _, h1⟩
  · rw [h1] at h; cases h; exact ⟨rfl, rfl⟩
  · rw [h1] at h; cases h
set_option maxHeartbeats 8000000 in
set_option maxRecDepth 100000 in
theorem fnGroupPadded_calls (w : World) (hR : ResOk w) (v : Value) (F : List Nat) (code : List UInt8) (hx : SliceHas Rep.u8 w F [v] code) :
    Calls Tryd.prog 11 #[v] w fun e w' => e = .returned (.bool true) ∧ Mod [] w w' := by
  obtain ⟨A, c, rfl, hl, _⟩ := hx.form'
  have hS : Sat w w [.ro Rep.u8.slice [.slice A code.length c] code] := (Sat.nil w).arg hx
  by_cases hq : 1048576 < code.length
  · go_enter Tryd.func11, Tryd.ntmps11
    go_wp2_with (first | ((with_reducible show wpList _ _ _ (⟨_, Op.box _ _, _, _, _, _⟩ :: _) _ _); refine Does.list (does_box hS rfl rfl (by rfl)) rfl ?_; clear hS; rintro _ wx ⟨bo, rfl, hS, _⟩; (simp only [Act.put, List.setIfInBounds_toArray, List.set_cons_zero, List.set_cons_succ])) | ((with_reducible show wpList _ _ _ (⟨_, Op.load _ _, _, _, _, _⟩ :: _) _ _); (first | refine Gives.list (f_load hS rfl rfl (by rfl)) rfl ?_ | refine Gives.list (f_loadS hS rfl rfl (by rfl)) rfl ?_ | refine Gives.list (f_loadAt hS rfl rfl) rfl ?_ | refine Gives.list (f_loadAtS hS rfl rfl (by rfl)) rfl ?_ | refine Gives.list (f_loadAtF hS rfl rfl (by rfl)) rfl ?_); (simp only [Act.put, List.setIfInBounds_toArray, List.set_cons_zero, List.set_cons_succ])) | ((with_reducible show wpList _ _ _ (⟨_, Op.store _ _ _, _, _, _, _⟩ :: _) _ _); (first | refine Does.list (f_store hS rfl rfl rfl (by rfl) (by rfl)) rfl ?_ | refine Does.list (f_storeS hS rfl rfl rfl (by rfl) (by rfl) (by rfl)) rfl ?_); clear hS; rintro _ wx ⟨rfl, hS⟩; (simp only [List.set_cons_zero, List.set_cons_succ] at hS); (simp only [Act.put, List.setIfInBounds_toArray, List.set_cons_zero, List.set_cons_succ])) | ((with_reducible show wpList _ _ _ (⟨_, Op.alloc _, _, _, _, _⟩ :: _) _ _); refine Does.list (does_alloc hS rfl (by rfl)) rfl ?_; clear hS; rintro _ wx ⟨ba, rfl, hS, _⟩; (simp only [Act.put, List.setIfInBounds_toArray, List.set_cons_zero, List.set_cons_succ])) | ((with_reducible show wpList _ _ _ (⟨_, Op.buildSlice _ _ _, _, _, _, _⟩ :: _) _ _); refine Does.list (does_buildSlice (X := ?_) (cs := ?_) (E := ?_) hS rfl ?_ ?_) rfl ?_; rotate_left 3; (go_simp; rfl); rfl; clear hS; rintro _ wx ⟨bx, rfl, hS, _⟩; (simp only [Act.put, List.setIfInBounds_toArray, List.set_cons_zero, List.set_cons_succ])))
    go_ret
    exact ⟨rfl, hS.mod0⟩
  go_enter Tryd.func11, Tryd.ntmps11
  go_wp2_with (first | ((with_reducible show wpList _ _ _ (⟨_, Op.box _ _, _, _, _, _⟩ :: _) _ _); refine Does.list (does_box hS rfl rfl (by rfl)) rfl ?_; clear hS; rintro _ wx ⟨bo, rfl, hS, _⟩; (simp only [Act.put, List.setIfInBounds_toArray, List.set_cons_zero, List.set_cons_succ])) | ((with_reducible show wpList _ _ _ (⟨_, Op.load _ _, _, _, _, _⟩ :: _) _ _); (first | refine Gives.list (f_load hS rfl rfl (by rfl)) rfl ?_ | refine Gives.list (f_loadS hS rfl rfl (by rfl)) rfl ?_ | refine Gives.list (f_loadAt hS rfl rfl) rfl ?_ | refine Gives.list (f_loadAtS hS rfl rfl (by rfl)) rfl ?_ | refine Gives.list (f_loadAtF hS rfl rfl (by rfl)) rfl ?_); (simp only [Act.put, List.setIfInBounds_toArray, List.set_cons_zero, List.set_cons_succ])) | ((with_reducible show wpList _ _ _ (⟨_, Op.store _ _ _, _, _, _, _⟩ :: _) _ _); (first | refine Does.list (f_store hS rfl rfl rfl (by rfl) (by rfl)) rfl ?_ | refine Does.list (f_storeS hS rfl rfl rfl (by rfl) (by rfl) (by rfl)) rfl ?_); clear hS; rintro _ wx ⟨rfl, hS⟩; (simp only [List.set_cons_zero, List.set_cons_succ] at hS); (simp only [Act.put, List.setIfInBounds_toArray, List.set_cons_zero, List.set_cons_succ])) | ((with_reducible show wpList _ _ _ (⟨_, Op.alloc _, _, _, _, _⟩ :: _) _ _); refine Does.list (does_alloc hS rfl (by rfl)) rfl ?_; clear hS; rintro _ wx ⟨ba, rfl, hS, _⟩; (simp only [Act.put, List.setIfInBounds_toArray, List.set_cons_zero, List.set_cons_succ])) | ((with_reducible show wpList _ _ _ (⟨_, Op.buildSlice _ _ _, _, _, _, _⟩ :: _) _ _); refine Does.list (does_buildSlice (X := ?_) (cs := ?_) (E := ?_) hS rfl ?_ ?_) rfl ?_; rotate_left 3; (go_simp; rfl); rfl; clear hS; rintro _ wx ⟨bx, rfl, hS, _⟩; (simp only [Act.put, List.setIfInBounds_toArray, List.set_cons_zero, List.set_cons_succ])) | (go_at_call 52; obtain ⟨Fq, hFq⟩ := hS.has Rep.u8.slice [.slice A code.length c]; refine (spec_DrawGroupPadded _ Fq _ _ hFq).mono ?_; rintro e w' ⟨cs, g, s, ns, rows, real, rfl, hcs, hbd, ⟨hg, hs⟩, hN⟩; replace hS := hS.fresh hN; clear hN hFq hcs; have hS2 := Sat.openOwnPadded hS; clear hS; obtain ⟨B1, d1, B2, d2, B3, d3, rfl, hS⟩ := hS2; (dsimp only at hS); have Hps : Hid (PSmall (ns, rows, real)) := Lib.hid (hbd.1.small (by decide)); have hgm : g.size ≤ maxLen := (by unfold maxLen; omega); have hsm : s.size ≤ maxLen := (by unfold maxLen; omega); have Hbd := Lib.hid hbd; clear hbd))
  obtain ⟨⟨⟨ms, rs, re⟩, tr, ok⟩, hF⟩ : ∃ x, groupF (ns, rows, real) g s = x := ⟨_, rfl⟩
  have HF := Lib.hid hF
  cases ok
  · obtain ⟨hz, hz2⟩ := group_false hF
    have hm : ms.length = 0 := by have h := congrArg (fun p : PaddedD => p.1.length) hz; exact h
    have hmI : ((ms.length : Int) == 0) = true := by simp [hm]
    have htI : ((tr.length : Int) == 0) = true := by rw [hz2]; rfl
    clear hF hz hz2 hm
    go_wp2_with (first | (go_at_call 51; obtain ⟨Fq, hFq⟩ := hS.has Rep.str.slice [.slice B1 ns.length d1]; obtain ⟨Fr, hFr⟩ := hS.has Rep.int.slice.slice [.slice B2 rows.length d2]; obtain ⟨Fs, hFs⟩ := hS.has Rep.bool.slice [.slice B3 real.length d3]; refine (impl_GroupPadded' g s _ (hR.mod0 hS.mod0) B1 B2 B3 d1 d2 d3 Fq Fr Fs ns rows real hFq hFr hFs hgm).mono ?_; rintro e w' ⟨cs, v, rfl, hcs, hN⟩; (rw [HF.out] at hN); (simp only [HF.out]); replace hS := hS.fresh2 hN hcs; clear hN hFq hFr hFs hcs; have hS2 := Sat.openOwnPadded hS; clear hS; obtain ⟨E1, e1, E2, e2, E3, e3, rfl, hS⟩ := hS2; (dsimp only at hS ⊢); obtain ⟨E4, e4, rfl⟩ := hS.formOwn 3 rfl) | (go_at_call 50; obtain ⟨Fq, hFq⟩ := hS.has Rep.str.slice [.slice B1 ns.length d1]; obtain ⟨Fr, hFr⟩ := hS.has Rep.int.slice.slice [.slice B2 rows.length d2]; obtain ⟨Fs, hFs⟩ := hS.has Rep.bool.slice [.slice B3 real.length d3]; refine (spec_GroupPadded' g s _ B1 B2 B3 d1 d2 d3 Fq Fr Fs ns rows real hFq hFr hFs Hps.out hgm).mono ?_; rintro e w' ⟨cs, v, rfl, hcs, hN⟩; (rw [HF.out] at hN); (simp only [HF.out]); replace hS := hS.fresh2 hN hcs; clear hN hFq hFr hFs hcs; have hS2 := Sat.openOwnPadded hS; clear hS; obtain ⟨G1, g1, G2, g2, G3, g3, rfl, hS⟩ := hS2; (dsimp only at hS ⊢); obtain ⟨G4, g4, rfl⟩ := hS.formOwn 3 rfl) | (go_at_call 18; obtain ⟨Fq, hFq⟩ := hS.has Rep.str.slice [.slice E1 ms.length e1]; obtain ⟨Fr, hFr⟩ := hS.has Rep.int.slice.slice [.slice E2 rs.length e2]; obtain ⟨Fs, hFs⟩ := hS.has Rep.bool.slice [.slice E3 re.length e3]; obtain ⟨Ft, hFt⟩ := hS.has Rep.str.slice [.slice G1 ms.length g1]; obtain ⟨Fu, hFu⟩ := hS.has Rep.int.slice.slice [.slice G2 rs.length g2]; obtain ⟨Fv, hFv⟩ := hS.has Rep.bool.slice [.slice G3 re.length g3]; refine (laws_samePadded _ _ _ [.slice E1 ms.length e1, .slice E2 rs.length e2, .slice E3 re.length e3] [.slice G1 ms.length g1, .slice G2 rs.length g2, .slice G3 re.length g3] (ms, rs, re) (ms, rs, re) (rPadded_mk hFq hFr hFs) (rPadded_mk hFt hFu hFv)).mono ?_; rintro e w' ⟨rfl, hM⟩; (simp only [eqB_rfl]); replace hS := hS.mod hM; clear hM hFq hFr hFs hFt hFu hFv) | (go_at_call 30; obtain ⟨Fq, hFq⟩ := hS.has rAccess.slice [.slice E4 tr.length e4]; obtain ⟨Fr, hFr⟩ := hS.has rAccess.slice [.slice G4 tr.length g4]; refine (impl_SameTrace _ _ _ _ _ _ _ hFq hFr).mono ?_; rintro e w' ⟨rfl, hM⟩; replace hS := hS.mod hM; clear hM hFq hFr; (simp only [eqB_rfl])) | (go_at_call 19; refine (laws_alive _ (hR.mod0 hS.mod0)).mono ?_; rintro e w' ⟨rfl, hM⟩; replace hS := hS.mod hM; clear hM) | ((with_reducible show wpList _ _ _ (⟨_, Op.box _ _, _, _, _, _⟩ :: _) _ _); refine Does.list (does_box hS rfl rfl (by rfl)) rfl ?_; clear hS; rintro _ wx ⟨bo, rfl, hS, _⟩; (simp only [Act.put, List.setIfInBounds_toArray, List.set_cons_zero, List.set_cons_succ])) | ((with_reducible show wpList _ _ _ (⟨_, Op.load _ _, _, _, _, _⟩ :: _) _ _); (first | refine Gives.list (f_load hS rfl rfl (by rfl)) rfl ?_ | refine Gives.list (f_loadS hS rfl rfl (by rfl)) rfl ?_ | refine Gives.list (f_loadAt hS rfl rfl) rfl ?_ | refine Gives.list (f_loadAtS hS rfl rfl (by rfl)) rfl ?_ | refine Gives.list (f_loadAtF hS rfl rfl (by rfl)) rfl ?_); (simp only [Act.put, List.setIfInBounds_toArray, List.set_cons_zero, List.set_cons_succ])) | ((with_reducible show wpList _ _ _ (⟨_, Op.store _ _ _, _, _, _, _⟩ :: _) _ _); (first | refine Does.list (f_store hS rfl rfl rfl (by rfl) (by rfl)) rfl ?_ | refine Does.list (f_storeS hS rfl rfl rfl (by rfl) (by rfl) (by rfl)) rfl ?_); clear hS; rintro _ wx ⟨rfl, hS⟩; (simp only [List.set_cons_zero, List.set_cons_succ] at hS); (simp only [Act.put, List.setIfInBounds_toArray, List.set_cons_zero, List.set_cons_succ])) | ((with_reducible show wpList _ _ _ (⟨_, Op.alloc _, _, _, _, _⟩ :: _) _ _); refine Does.list (does_alloc hS rfl (by rfl)) rfl ?_; clear hS; rintro _ wx ⟨ba, rfl, hS, _⟩; (simp only [Act.put, List.setIfInBounds_toArray, List.set_cons_zero, List.set_cons_succ])) | ((with_reducible show wpList _ _ _ (⟨_, Op.buildSlice _ _ _, _, _, _, _⟩ :: _) _ _); refine Does.list (does_buildSlice (X := ?_) (cs := ?_) (E := ?_) hS rfl ?_ ?_) rfl ?_; rotate_left 3; (go_simp; rfl); rfl; clear hS; rintro _ wx ⟨bx, rfl, hS, _⟩; (simp only [Act.put, List.setIfInBounds_toArray, List.set_cons_zero, List.set_cons_succ])))
    go_ret
    exact ⟨rfl, hS.mod0⟩
  · obtain ⟨tw, uw, L, ⟨h12, hx1, hql, htl⟩, ⟨hT, hU, hG⟩, hnam, htok, htw, hp, hL⟩ := group_true Hbd.out hF
    have HT := Lib.hid hT
    have HU := Lib.hid hU
    have HG := Lib.hid hG
    have Hx := Lib.hid hx1
    have Hnam := Lib.hid hnam
    have Htok := Lib.hid htok
    have HP := Lib.hid hp
    have HL := Lib.hid hL
    obtain ⟨N, hN⟩ : ∃ N, netF rows.length = N := ⟨_, rfl⟩
    have hNl : N.length ≤ 25000 := by rw [← hN]; exact netF_len (by omega)
    rw [hN] at htl
    have HNE := Lib.hid hN
    dsimp only at hql
    have e0 : ((rs.length : Int) == (rows.length : Int)) = true := by rw [hql]; exact beq_self_eq_true _
    have e1 : IntKind.i64.wrap (4 * (N.length : Int)) = 4 * (N.length : Int) := IntWalk.i64_in _ (by omega)
    have e2 : IntKind.i64.wrap (2 * (rows.length : Int)) = 2 * (rows.length : Int) := IntWalk.i64_in _ (by omega)
    have e3 : IntKind.i64.wrap (4 * (N.length : Int) + 2 * (rows.length : Int)) = (tr.length : Int) := by rw [IntWalk.i64_in _ (by omega)]; omega
    clear hF hT hU hG hx1 hnam htok hp hL hN htl hql
    go_wp2_with (first | (go_at_call 51; obtain ⟨Fq, hFq⟩ := hS.has Rep.str.slice [.slice B1 ns.length d1]; obtain ⟨Fr, hFr⟩ := hS.has Rep.int.slice.slice [.slice B2 rows.length d2]; obtain ⟨Fs, hFs⟩ := hS.has Rep.bool.slice [.slice B3 real.length d3]; refine (impl_GroupPadded' g s _ (hR.mod0 hS.mod0) B1 B2 B3 d1 d2 d3 Fq Fr Fs ns rows real hFq hFr hFs hgm).mono ?_; rintro e w' ⟨cs, v, rfl, hcs, hN⟩; (rw [HF.out] at hN); (simp only [HF.out]); replace hS := hS.fresh2 hN hcs; clear hN hFq hFr hFs hcs; have hS2 := Sat.openOwnPadded hS; clear hS; obtain ⟨E1, e1, E2, e2, E3, e3, rfl, hS⟩ := hS2; (dsimp only at hS ⊢); obtain ⟨E4, e4, rfl⟩ := hS.formOwn 3 rfl) | (go_at_call 50; obtain ⟨Fq, hFq⟩ := hS.has Rep.str.slice [.slice B1 ns.length d1]; obtain ⟨Fr, hFr⟩ := hS.has Rep.int.slice.slice [.slice B2 rows.length d2]; obtain ⟨Fs, hFs⟩ := hS.has Rep.bool.slice [.slice B3 real.length d3]; refine (spec_GroupPadded' g s _ B1 B2 B3 d1 d2 d3 Fq Fr Fs ns rows real hFq hFr hFs Hps.out hgm).mono ?_; rintro e w' ⟨cs, v, rfl, hcs, hN⟩; (rw [HF.out] at hN); (simp only [HF.out]); replace hS := hS.fresh2 hN hcs; clear hN hFq hFr hFs hcs; have hS2 := Sat.openOwnPadded hS; clear hS; obtain ⟨G1, g1, G2, g2, G3, g3, rfl, hS⟩ := hS2; (dsimp only at hS ⊢); obtain ⟨G4, g4, rfl⟩ := hS.formOwn 3 rfl) | (go_at_call 18; obtain ⟨Fq, hFq⟩ := hS.has Rep.str.slice [.slice E1 ms.length e1]; obtain ⟨Fr, hFr⟩ := hS.has Rep.int.slice.slice [.slice E2 rs.length e2]; obtain ⟨Fs, hFs⟩ := hS.has Rep.bool.slice [.slice E3 re.length e3]; obtain ⟨Ft, hFt⟩ := hS.has Rep.str.slice [.slice G1 ms.length g1]; obtain ⟨Fu, hFu⟩ := hS.has Rep.int.slice.slice [.slice G2 rs.length g2]; obtain ⟨Fv, hFv⟩ := hS.has Rep.bool.slice [.slice G3 re.length g3]; refine (laws_samePadded _ _ _ [.slice E1 ms.length e1, .slice E2 rs.length e2, .slice E3 re.length e3] [.slice G1 ms.length g1, .slice G2 rs.length g2, .slice G3 re.length g3] (ms, rs, re) (ms, rs, re) (rPadded_mk hFq hFr hFs) (rPadded_mk hFt hFu hFv)).mono ?_; rintro e w' ⟨rfl, hM⟩; (simp only [eqB_rfl]); replace hS := hS.mod hM; clear hM hFq hFr hFs hFt hFu hFv) | (go_at_call 30; obtain ⟨Fq, hFq⟩ := hS.has rAccess.slice [.slice E4 tr.length e4]; obtain ⟨Fr, hFr⟩ := hS.has rAccess.slice [.slice G4 tr.length g4]; refine (impl_SameTrace _ _ _ _ _ _ _ hFq hFr).mono ?_; rintro e w' ⟨rfl, hM⟩; replace hS := hS.mod hM; clear hM hFq hFr; (simp only [eqB_rfl])) | (go_at_call 31; (with_reducible show Calls _ _ #[.agg #[.slice B1 _ _, _, _]] _ _); obtain ⟨Fq, hFq⟩ := hS.has Rep.str.slice [.slice B1 ns.length d1]; obtain ⟨Fr, hFr⟩ := hS.has Rep.int.slice.slice [.slice B2 rows.length d2]; obtain ⟨Fs, hFs⟩ := hS.has Rep.bool.slice [.slice B3 real.length d3]; refine (impl_TakeReal' _ (hR.mod0 hS.mod0) B1 B2 B3 d1 d2 d3 Fq Fr Fs ns rows real hFq hFr hFs).mono ?_; rintro e w' ⟨cs, rfl, hN⟩; (rw [HT.out] at hN); (simp only [HT.out]); replace hS := hS.fresh hN; clear hN hFq hFr hFs; have hS2 := Sat.openOwnTable hS; clear hS; obtain ⟨T1, t1, T2, t2, rfl, hS⟩ := hS2; (dsimp only at hS ⊢)) | (go_at_call 31; (with_reducible show Calls _ _ #[.agg #[.slice E1 _ _, _, _]] _ _); obtain ⟨Fq, hFq⟩ := hS.has Rep.str.slice [.slice E1 ms.length e1]; obtain ⟨Fr, hFr⟩ := hS.has Rep.int.slice.slice [.slice E2 rs.length e2]; obtain ⟨Fs, hFs⟩ := hS.has Rep.bool.slice [.slice E3 re.length e3]; refine (impl_TakeReal' _ (hR.mod0 hS.mod0) E1 E2 E3 e1 e2 e3 Fq Fr Fs ms rs re hFq hFr hFs).mono ?_; rintro e w' ⟨cs, rfl, hN⟩; (rw [HU.out] at hN); (simp only [HU.out]); replace hS := hS.fresh hN; clear hN hFq hFr hFs; have hS2 := Sat.openOwnTable hS; clear hS; obtain ⟨U1, u1, U2, u2, rfl, hS⟩ := hS2; (dsimp only at hS ⊢)) | (go_at_call 53; obtain ⟨Fq, hFq⟩ := hS.has Rep.str.slice [.slice T1 ns.length t1]; obtain ⟨Fr, hFr⟩ := hS.has Rep.int.slice.slice [.slice T2 tw.length t2]; refine (impl_GroupRows_yes _ (hR.mod0 hS.mod0) T1 T2 t1 t2 Fq Fr ns tw g s L hFq hFr hgm hsm Hnam.out Htok.out htw HP.out HL.out).mono ?_; rintro e w' ⟨cs, rfl, hN⟩; (rw [HG.out] at hN); (simp only [HG.out]); replace hS := hS.fresh hN; clear hN hFq hFr; have hS2 := Sat.openOwnTable hS; clear hS; obtain ⟨S1, s1, S2, s2, rfl, hS⟩ := hS2; (dsimp only at hS ⊢)) | (go_at_call 20; obtain ⟨Fq, hFq⟩ := hS.has Rep.str.slice [.slice E1 ms.length e1]; obtain ⟨Fr, hFr⟩ := hS.has Rep.int.slice.slice [.slice E2 rs.length e2]; obtain ⟨Fs, hFs⟩ := hS.has Rep.bool.slice [.slice E3 re.length e3]; refine (impl_PaddedValid' _ (hR.mod0 hS.mod0) E1 E2 E3 e1 e2 e3 Fq Fr Fs ms rs re hFq hFr hFs).mono ?_; rintro e w' ⟨rfl, hM⟩; (simp only [Hx.out]); replace hS := hS.mod hM; clear hM hFq hFr hFs) | (go_at_call 34; obtain ⟨Fq, hFq⟩ := hS.has Rep.str.slice [.slice U1 ms.length u1]; obtain ⟨Fr, hFr⟩ := hS.has Rep.int.slice.slice [.slice U2 uw.length u2]; obtain ⟨Fs, hFs⟩ := hS.has Rep.str.slice [.slice S1 ms.length s1]; obtain ⟨Ft, hFt⟩ := hS.has Rep.int.slice.slice [.slice S2 uw.length s2]; refine (laws_sameTable _ U1 U2 S1 S2 u1 u2 s1 s2 Fq Fr Fs Ft ms ms uw uw hFq hFr hFs hFt).mono ?_; rintro e w' ⟨rfl, hM⟩; (simp only [eqB_rfl, Bool.and_self]); replace hS := hS.mod hM; clear hM hFq hFr hFs hFt) | (go_at_call 54; refine (impl_NetworkOf _ rows.length (by omega)).mono ?_; rintro e w' ⟨vn, rfl, hN⟩; (rw [HNE.out] at hN); replace hS := hS.fresh hN; clear hN; obtain ⟨N1, n1, rfl⟩ := hS.formOwn 0 rfl) | ((with_reducible show wpList _ _ _ (⟨_, Op.box _ _, _, _, _, _⟩ :: _) _ _); refine Does.list (does_box hS rfl rfl (by rfl)) rfl ?_; clear hS; rintro _ wx ⟨bo, rfl, hS, _⟩; (simp only [Act.put, List.setIfInBounds_toArray, List.set_cons_zero, List.set_cons_succ])) | ((with_reducible show wpList _ _ _ (⟨_, Op.load _ _, _, _, _, _⟩ :: _) _ _); (first | refine Gives.list (f_load hS rfl rfl (by rfl)) rfl ?_ | refine Gives.list (f_loadS hS rfl rfl (by rfl)) rfl ?_ | refine Gives.list (f_loadAt hS rfl rfl) rfl ?_ | refine Gives.list (f_loadAtS hS rfl rfl (by rfl)) rfl ?_ | refine Gives.list (f_loadAtF hS rfl rfl (by rfl)) rfl ?_); (simp only [Act.put, List.setIfInBounds_toArray, List.set_cons_zero, List.set_cons_succ])) | ((with_reducible show wpList _ _ _ (⟨_, Op.store _ _ _, _, _, _, _⟩ :: _) _ _); (first | refine Does.list (f_store hS rfl rfl rfl (by rfl) (by rfl)) rfl ?_ | refine Does.list (f_storeS hS rfl rfl rfl (by rfl) (by rfl) (by rfl)) rfl ?_); clear hS; rintro _ wx ⟨rfl, hS⟩; (simp only [List.set_cons_zero, List.set_cons_succ] at hS); (simp only [Act.put, List.setIfInBounds_toArray, List.set_cons_zero, List.set_cons_succ])) | ((with_reducible show wpList _ _ _ (⟨_, Op.alloc _, _, _, _, _⟩ :: _) _ _); refine Does.list (does_alloc hS rfl (by rfl)) rfl ?_; clear hS; rintro _ wx ⟨ba, rfl, hS, _⟩; (simp only [Act.put, List.setIfInBounds_toArray, List.set_cons_zero, List.set_cons_succ])) | ((with_reducible show wpList _ _ _ (⟨_, Op.buildSlice _ _ _, _, _, _, _⟩ :: _) _ _); refine Does.list (does_buildSlice (X := ?_) (cs := ?_) (E := ?_) hS rfl ?_ ?_) rfl ?_; rotate_left 3; (go_simp; rfl); rfl; clear hS; rintro _ wx ⟨bx, rfl, hS, _⟩; (simp only [Act.put, List.setIfInBounds_toArray, List.set_cons_zero, List.set_cons_succ])))
    go_ret
    exact ⟨rfl, hS.mod0⟩

theorem fnGroupPadded_met (os : Os) (args : Array Value) : laidMetH Tryd.prog Rows.fnGroupPaddedRow.laid ((World.doorLaid Tryd.prog 400 os).forCall (fun _ _ => 0) ⟨#[], args, []⟩).memory :=
  laidMetH_of_parts3 (fuel := 8) (laidMet_of_run' 8 (by kernel_rfl) (by kernel_rfl)) (by kernel_rfl) (by kernel_rfl)
set_option maxRecDepth 100000 in
theorem fnGroupPadded_lifted (os : Os) (started : os.Started) (H : Type) (enc : TypeId × Value → H) :
    ReturnsInHanded {} Tryd.checked os 11 .any (fun w args => (Rows.fnGroupPaddedSpec.pre enc Tryd.prog Tryd.f11 [] false w args ∧ laidMetH Tryd.prog Rows.fnGroupPaddedRow.laid w) ∧ sizedMet enc Tryd.prog Tryd.f11 (OpenSpec.ofChange Rows.fnGroupPaddedSpec) false w args) (Rows.fnGroupPaddedSpec.post enc Tryd.prog Tryd.f11 false true false false) := by
  refine returnsInHanded_of_change_and (C := Tryd.checked) (X := fun w _ => laidMetH Tryd.prog Rows.fnGroupPaddedRow.laid w) (fun _ _ _ hh h => h.of_heap hh) (show ownKnob Tryd.prog.godebug = none by kernel_rfl) started (by kernel_rfl) Tryd.func11
    (ChangeSpec.witness_shaped (enc := enc) (C := Tryd.checked) (os := os) (X := fun w _ => laidMetH Tryd.prog Rows.fnGroupPaddedRow.laid w) false (World.doorLaid Tryd.prog 400 os) #[.slice none 0 0] 8 rfl (World.shaped_of_RefB (by kernel_rfl) (by kernel_rfl)) (by kernel_rfl) (by kernel_rfl) (by kernel_rfl) (fnGroupPadded_met os _)) ?_
  intro W base args ds gs before hval0 hW _ _ hL _
  have hval : ∀ (j : Nat) t v, Tryd.f11.params[j]? = some t → args[j]? = some v → Value.okWide Tryd.prog W .any base t v := hval0
  have hW' := hW
  obtain ⟨p, q, hA0, hV, rfl, hfz, hnd⟩ := hW
  have hA : DataW.TrodAll enc Tryd.prog W 0 (fun _ => true) true Tryd.f11.params.toList args.toList ds p := hA0
  rw [Tryd.params11] at hA hval
  obtain ⟨v0, vs0, d0, ds0, p0, q0, hargs, rfl, rfl, r0, s0⟩ := trodAll_cons hA
  obtain ⟨rfl, rfl, rfl⟩ := trodAll_nil s0
  obtain rfl : args = #[v0] := by cases args; simp_all
  have hL' : ResOk W := res_of_laid hL
  obtain ⟨F0, x0, hx0⟩ := read_slice Tryd.underlying22 ((reads_slice Tryd.underlying22 (by kernel_rfl) (reads_u8 Tryd.underlying5 (by kernel_rfl)))) (hval 0 22 v0 rfl rfl) r0
  refine (fnGroupPadded_calls W hL' v0 F0 x0 hx0).mono fun e W' ⟨he, hm⟩ => ?_
  subst he
  obtain ⟨g0, rfl⟩ := vars_one hV
  exact ⟨_, rfl, post_law (by kernel_rfl) (by kernel_rfl) (by kernel_rfl) rfl rfl Tryd.underlying4 hW' hm⟩

theorem fnGroupPadded_row : Rows.FnGroupPaddedSaid :=
  OpenClaim.holds_of_wide 11 Tryd.f11 rfl rfl rfl rfl rfl rfl rfl ⟨rfl, rfl, rfl, rfl, rfl⟩ rfl rfl rfl rfl rfl (by kernel_rfl) Tryd.func11 (show joinedFacts Tryd.prog 11 Tryd.f11 Rows.fnGroupPaddedSpec Rows.fnGroupPaddedRow = true from (by unfold joinedFacts; rw [gen_make, gen_lifts, gen_may]; kernel_rfl))
    (of_decide_eq_true (by kernel_rfl)) (by unfold Func.isWrapper; first | (rw [if_pos (by decide +kernel)]; kernel_rfl) | (rw [if_neg (by decide +kernel)]; exact ⟨rfl, rfl⟩))
    (fun os started H enc _ => fnGroupPadded_lifted os started H enc)

theorem fnGroupPadded_holds : Rows.FnGroupPaddedCardSaid :=
  Claim7.holds_tied_plain_at .later [] _ _ _ _
    fnGroupPadded_row (fun _ h => by cases h) (by kernel_rfl) (fun _ h => by cases h) fnGroupPadded_row_tie rfl ⟨rfl, rfl⟩ (by exact gen_main) rfl
    (fun f fn hf hfn => by
      obtain rfl : f = 11 := Option.some.inj ((show Tryd.prog.funcNamed "loop.example/obliviousqueries/laws.FnGroupPadded" = some 11 by kernel_rfl).symm.trans hf) |>.symm
      obtain rfl : fn = Tryd.f11 := (Option.some.inj (Tryd.func11.symm.trans hfn)).symm
      exact ⟨by kernel_rfl, fun j t ht => by
        rw [Tryd.params11] at ht
        have hm : t ∈ [22] := by simpa using Array.mem_of_getElem? ht
        have hall : ([22].all fun u => !Tryd.prog.wantsStandIn u) = true := by kernel_rfl
        exact (show Tryd.prog.wantsStandIn t = false by simpa using List.all_eq_true.1 hall t hm)⟩)
    (by kernel_rfl)

end Go.Proofs.YtldknaajnnohiaaDoor
