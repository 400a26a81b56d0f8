/- DrawGroupPadded. Printed by gen_draw5.py. -/
import Derived.Test.YtldknaajnnohiaaDoorDrSo
import Derived.Test.YtldknaajnnohiaaDoorTypM
import Derived.Test.YtldknaajnnohiaaDoorShareO
import Derived.Deep.DeepCutAuto
namespace Go.Proofs.YtldknaajnnohiaaDoor
open Go.RowKit

theorem set_same {α : Type} {l : List α} {k : Nat} {x : α} (h : l[k]? = some x) : l.set k x = l := by
  obtain ⟨hk, rfl⟩ := List.getElem?_eq_some_iff.1 h
  exact List.set_getElem_self hk
/-- What DrawGroupPadded draws. -/
def gDrawn (ns : List ByteArray) (rows : List (List Int)) (real : List Bool) : Prop := Drawn ns rows real 12 ∧ (rows.length ≤ 12 ∨ badly rows real)
theorem gDrawn_set {ns : List ByteArray} {rows : List (List Int)} {real : List Bool} {k : Nat} {r : List Int} {x : Int} (h : gDrawn ns rows real) (hr : rows[k]? = some r) (h0 : 0 < r.length) (hb : real[k]? = some true) : gDrawn ns (rows.set k (r.set 0 x)) real := by
  obtain ⟨⟨h1, h2, h3, h4, h5⟩, h6⟩ := h
  refine ⟨⟨h1, h2, by rw [List.length_set]; exact h3, fun s hs => ?_, h5⟩, ?_⟩
  · rcases List.mem_or_eq_of_mem_set hs with h | rfl
    · exact h4 s h
    · rw [List.length_set]; exact h4 r (List.mem_of_getElem? hr)
  · rcases h6 with h6 | ⟨j, s, hj, hs⟩
    · exact .inl (by rw [List.length_set]; exact h6)
    · refine .inr ⟨j, s, ?_, hs⟩
      have hjk : k ≠ j := by
        rintro rfl
        rw [hr] at hj
        cases hj
        rcases hs with rfl | ⟨hs, _⟩
        · simp at h0
        · rw [List.getD_eq_getElem?_getD, hb] at hs; cases hs
      rw [List.getElem?_set, if_neg hjk]
      exact hj
theorem Sat.resultCTT {P : Program} {w0 w : World} {Γ : List Fact} {fn : Func} {tmps : Array Value} {t1 t2 t : Tmp} {T : TypeId} {z : Value} {n b i : Nat} {cs : List Value} (hS : Sat w0 w Γ) (h : fn.results = #[.cell t T, .tmp t1, .tmp t2]) (ht : tmps.getD t undef = .pointer (some ⟨b, 0, none⟩))
    [hi : BoxAt Γ b cs i] [hT : Ty P T z n true] (hl : cs.length = n) : (results fn tmps).run P w = .ok (.tuple #[.agg cs.toArray, tmps.getD t1 undef, tmps.getD t2 undef]) w := by
  have hc := hS.boxCells hi.get
  have hv : (loadVar T ⟨b, 0, none⟩).run P w = .ok (.agg cs.toArray) w := by
    subst hl
    simp [loadVar, run_isAgg hT, run_sizeOf hT, run_loadCells_list w _ cs hc]
  have ht' : tmps[t]?.getD undef = .pointer (some ⟨b, 0, none⟩) := by simpa using ht
  simp [results, h, ht', asAddr, hv]
set_option maxHeartbeats 8000000 in
set_option maxRecDepth 10000 in
theorem spec_DrawGroupPadded (w : World) (F : List Nat) (v : Value) (code : List UInt8) (hx : SliceHas Rep.u8 w F [v] code) :
    Calls Tryd.prog 52 #[v] w fun e w' => ∃ (cs : List Value) (g s : ByteArray) (ns : List ByteArray) (rows : List (List Int)) (real : List Bool), e = .returned (.tuple #[.agg cs.toArray, .string g, .string s]) ∧ cs.length = 3 ∧ gDrawn ns rows real ∧ (g.size ≤ 100 ∧ s.size ≤ 100) ∧ Fresh oPadded w w' cs (ns, rows, real) := by
  obtain ⟨A, c, rfl, hl, _⟩ := hx.form'
  have hS : Sat w w [.ro Rep.u8.slice [.slice A code.length c] code] := (Sat.nil w).arg hx
  clear hx
  go_enter Tryd.func52, Tryd.ntmps52
  go_upto_region 1 with (first | ((with_reducible show wpList _ _ _ (⟨_, Op.box _ _, _, _, _, _⟩ :: _) _ _); refine Does.list (does_box hS rfl rfl (by rfl)) rfl ?_; clear hS; rintro _ wx ⟨bo, rfl, hS, _⟩; (simp only [Act.put, List.setIfInBounds_toArray, List.set_cons_zero, List.set_cons_succ])) | ((with_reducible show wpList _ _ _ (⟨_, Op.load _ _, _, _, _, _⟩ :: _) _ _); (first | refine Gives.list (f_load hS rfl rfl (by rfl)) rfl ?_ | refine Gives.list (f_loadS hS rfl rfl (by rfl)) rfl ?_ | refine Gives.list (f_loadAt hS rfl rfl) rfl ?_ | refine Gives.list (f_loadAtS hS rfl rfl (by rfl)) rfl ?_ | refine Gives.list (f_loadAtF hS rfl rfl (by rfl)) rfl ?_); (simp only [Act.put, List.setIfInBounds_toArray, List.set_cons_zero, List.set_cons_succ])) | ((with_reducible show wpList _ _ _ (⟨_, Op.store _ _ _, _, _, _, _⟩ :: _) _ _); (first | refine Does.list (f_store hS rfl rfl rfl (by rfl) (by rfl)) rfl ?_ | refine Does.list (f_storeS hS rfl rfl rfl (by rfl) (by rfl) (by rfl)) rfl ?_); clear hS; rintro _ wx ⟨rfl, hS⟩; (simp only [List.set_cons_zero, List.set_cons_succ] at hS); (simp only [Act.put, List.setIfInBounds_toArray, List.set_cons_zero, List.set_cons_succ])) | ((with_reducible show wpList _ _ _ (⟨_, Op.alloc _, _, _, _, _⟩ :: _) _ _); refine Does.list (does_alloc hS rfl (by rfl)) rfl ?_; clear hS; rintro _ wx ⟨ba, rfl, hS, _⟩; (simp only [Act.put, List.setIfInBounds_toArray, List.set_cons_zero, List.set_cons_succ])) | ((with_reducible show wpList _ _ _ (⟨_, Op.buildSlice _ _ _, _, _, _, _⟩ :: _) _ _); refine Does.list (does_buildSlice (X := ?_) (cs := ?_) (E := ?_) hS rfl ?_ ?_) rfl ?_; rotate_left 3; (go_simp; rfl); rfl; clear hS; rintro _ wx ⟨bx, rfl, hS, _⟩; (simp only [Act.put, List.setIfInBounds_toArray, List.set_cons_zero, List.set_cons_succ])))
  obtain ⟨bz, rfl⟩ : ∃ bz, bz = ba := ⟨_, rfl⟩
  go_upto_if 13 with (first | (go_at_call 63; refine (spec_l20Open hS (i := 1) rfl).mono ?_; clear hS; rintro e w' ⟨br, Ar, nr, cr, cd, rfl, hS⟩) | (go_at_call 84; go_loud (obtain ⟨hrd, up⟩ := Sat.rdF hS br; have hL := spec_l20PaddedB _ br _ _ _ _ 0 9 12 (by omega) (by omega) (by decide) (by decide) (by decide) hrd (by omega); (rw [show ((12 : Nat) : Int) = 12 from rfl] at hL); refine hL.mono ?_; clear hL; rintro e w' ⟨cs, ns, rows, real, rfl, hbd, hbad, hN, ⟨p3, hp3, hrd2⟩, hM⟩; replace hS := (up _ _ hrd2 hM).2 _ _ _ hN; clear up hrd hrd2 hM hN; (simp only [List.set_cons_zero, List.set_cons_succ] at hS); have hS2 := Sat.openOwnPadded hS; clear hS; obtain ⟨B1, d1, B2, d2, B3, d3, rfl, hS⟩ := hS2; (dsimp only at hS); have HG := Lib.hid (show gDrawn ns rows real from ⟨hbd, hbad⟩); clear hbd hbad)) | (go_at_call 66; obtain ⟨hrd, up⟩ := Sat.rdF hS br; refine (spec_odd _ br _ _ _ _ _ hrd (by omega) (by omega) (by omega)).mono ?_; rintro e w' ⟨⟨ob, rfl, _⟩, ⟨p4, hp4, hrd2⟩, hM⟩; replace hS := (up _ _ hrd2 hM).1; clear up hrd hrd2 hM; (simp only [List.set_cons_zero, List.set_cons_succ] at hS)) | ((with_reducible show wpList _ _ _ (⟨_, Op.box _ _, _, _, _, _⟩ :: _) _ _); refine Does.list (does_box hS rfl rfl (by rfl)) rfl ?_; clear hS; rintro _ wx ⟨bo, rfl, hS, _⟩; (simp only [Act.put, List.setIfInBounds_toArray, List.set_cons_zero, List.set_cons_succ])) | ((with_reducible show wpList _ _ _ (⟨_, Op.load _ _, _, _, _, _⟩ :: _) _ _); (first | refine Gives.list (f_load hS rfl rfl (by rfl)) rfl ?_ | refine Gives.list (f_loadS hS rfl rfl (by rfl)) rfl ?_ | refine Gives.list (f_loadAt hS rfl rfl) rfl ?_ | refine Gives.list (f_loadAtS hS rfl rfl (by rfl)) rfl ?_ | refine Gives.list (f_loadAtF hS rfl rfl (by rfl)) rfl ?_); (simp only [Act.put, List.setIfInBounds_toArray, List.set_cons_zero, List.set_cons_succ])) | ((with_reducible show wpList _ _ _ (⟨_, Op.store _ _ _, _, _, _, _⟩ :: _) _ _); (first | refine Does.list (f_store hS rfl rfl rfl (by rfl) (by rfl)) rfl ?_ | refine Does.list (f_storeS hS rfl rfl rfl (by rfl) (by rfl) (by rfl)) rfl ?_); clear hS; rintro _ wx ⟨rfl, hS⟩; (simp only [List.set_cons_zero, List.set_cons_succ] at hS); (simp only [Act.put, List.setIfInBounds_toArray, List.set_cons_zero, List.set_cons_succ])) | ((with_reducible show wpList _ _ _ (⟨_, Op.alloc _, _, _, _, _⟩ :: _) _ _); refine Does.list (does_alloc hS rfl (by rfl)) rfl ?_; clear hS; rintro _ wx ⟨ba, rfl, hS, _⟩; (simp only [Act.put, List.setIfInBounds_toArray, List.set_cons_zero, List.set_cons_succ])) | ((with_reducible show wpList _ _ _ (⟨_, Op.buildSlice _ _ _, _, _, _, _⟩ :: _) _ _); refine Does.list (does_buildSlice (X := ?_) (cs := ?_) (E := ?_) hS rfl ?_ ?_) rfl ?_; rotate_left 3; (go_simp; rfl); rfl; clear hS; rintro _ wx ⟨bx, rfl, hS, _⟩; (simp only [Act.put, List.setIfInBounds_toArray, List.set_cons_zero, List.set_cons_succ])))
  have hp9 : p4 ≤ 900000000 := by omega
  have hn13 : rows.length ≤ 13 := HG.out.1.2.2.1
  replace hS : Sat w _ [.box ba [.slice B1 ns.length d1, .slice B2 rows.length d2, .slice B3 real.length d3], .own Rep.bool.rows [.slice B3 real.length d3] real, .own Rep.int.rows.rows [.slice B2 rows.length d2] rows, .own Rep.str.rows [.slice B1 ns.length d1] ns, .box br [.slice Ar nr cr, .int .i64 ((p4 : Nat) : Int)], .ro Rep.u8.slice [.slice Ar nr cr] cd, .box bz [.slice none 0 0, .slice none 0 0, .slice none 0 0]] := hS.sel [0, 1, 2, 3, 4, 5, 6] rfl (by decide)
  go_cut [7] (fun iv wr => ∃ (rs : List (List Int)), Hid (gDrawn ns rs real) ∧ Sat w wr [.box ba [.slice B1 ns.length d1, .slice B2 rows.length d2, .slice B3 real.length d3], .own Rep.bool.rows [.slice B3 real.length d3] real, .own Rep.int.rows.rows [.slice B2 rows.length d2] rs, .own Rep.str.rows [.slice B1 ns.length d1] ns, .box br [.slice Ar nr cr, .int .i64 ((p4 : Nat) : Int)], .ro Rep.u8.slice [.slice Ar nr cr] cd, .box bz [.slice none 0 0, .slice none 0 0, .slice none 0 0]])
  case first => as_aux_lemma =>
    cases ob
    · go_wp2_with (first | ((with_reducible show wpList _ _ _ (⟨_, Op.box _ _, _, _, _, _⟩ :: _) _ _); refine Does.list (does_box hS rfl rfl (by rfl)) rfl ?_; clear hS; rintro _ wx ⟨bo, rfl, hS, _⟩; (simp only [Act.put, List.setIfInBounds_toArray, List.set_cons_zero, List.set_cons_succ])) | ((with_reducible show wpList _ _ _ (⟨_, Op.load _ _, _, _, _, _⟩ :: _) _ _); (first | refine Gives.list (f_load hS rfl rfl (by rfl)) rfl ?_ | refine Gives.list (f_loadS hS rfl rfl (by rfl)) rfl ?_ | refine Gives.list (f_loadAt hS rfl rfl) rfl ?_ | refine Gives.list (f_loadAtS hS rfl rfl (by rfl)) rfl ?_ | refine Gives.list (f_loadAtF hS rfl rfl (by rfl)) rfl ?_); (simp only [Act.put, List.setIfInBounds_toArray, List.set_cons_zero, List.set_cons_succ])) | ((with_reducible show wpList _ _ _ (⟨_, Op.store _ _ _, _, _, _, _⟩ :: _) _ _); (first | refine Does.list (f_store hS rfl rfl rfl (by rfl) (by rfl)) rfl ?_ | refine Does.list (f_storeS hS rfl rfl rfl (by rfl) (by rfl) (by rfl)) rfl ?_); clear hS; rintro _ wx ⟨rfl, hS⟩; (simp only [List.set_cons_zero, List.set_cons_succ] at hS); (simp only [Act.put, List.setIfInBounds_toArray, List.set_cons_zero, List.set_cons_succ])) | ((with_reducible show wpList _ _ _ (⟨_, Op.alloc _, _, _, _, _⟩ :: _) _ _); refine Does.list (does_alloc hS rfl (by rfl)) rfl ?_; clear hS; rintro _ wx ⟨ba, rfl, hS, _⟩; (simp only [Act.put, List.setIfInBounds_toArray, List.set_cons_zero, List.set_cons_succ])) | ((with_reducible show wpList _ _ _ (⟨_, Op.buildSlice _ _ _, _, _, _, _⟩ :: _) _ _); refine Does.list (does_buildSlice (X := ?_) (cs := ?_) (E := ?_) hS rfl ?_ ?_) rfl ?_; rotate_left 3; (go_simp; rfl); rfl; clear hS; rintro _ wx ⟨bx, rfl, hS, _⟩; (simp only [Act.put, List.setIfInBounds_toArray, List.set_cons_zero, List.set_cons_succ])))
      go_meet
      case rel => exact ⟨rows, HG, hS⟩
    · go_wp2_with (first | ((with_reducible show wpList _ _ _ (⟨_, Op.box _ _, _, _, _, _⟩ :: _) _ _); refine Does.list (does_box hS rfl rfl (by rfl)) rfl ?_; clear hS; rintro _ wx ⟨bo, rfl, hS, _⟩; (simp only [Act.put, List.setIfInBounds_toArray, List.set_cons_zero, List.set_cons_succ])) | ((with_reducible show wpList _ _ _ (⟨_, Op.load _ _, _, _, _, _⟩ :: _) _ _); (first | refine Gives.list (f_load hS rfl rfl (by rfl)) rfl ?_ | refine Gives.list (f_loadS hS rfl rfl (by rfl)) rfl ?_ | refine Gives.list (f_loadAt hS rfl rfl) rfl ?_ | refine Gives.list (f_loadAtS hS rfl rfl (by rfl)) rfl ?_ | refine Gives.list (f_loadAtF hS rfl rfl (by rfl)) rfl ?_); (simp only [Act.put, List.setIfInBounds_toArray, List.set_cons_zero, List.set_cons_succ])) | ((with_reducible show wpList _ _ _ (⟨_, Op.store _ _ _, _, _, _, _⟩ :: _) _ _); (first | refine Does.list (f_store hS rfl rfl rfl (by rfl) (by rfl)) rfl ?_ | refine Does.list (f_storeS hS rfl rfl rfl (by rfl) (by rfl) (by rfl)) rfl ?_); clear hS; rintro _ wx ⟨rfl, hS⟩; (simp only [List.set_cons_zero, List.set_cons_succ] at hS); (simp only [Act.put, List.setIfInBounds_toArray, List.set_cons_zero, List.set_cons_succ])) | ((with_reducible show wpList _ _ _ (⟨_, Op.alloc _, _, _, _, _⟩ :: _) _ _); refine Does.list (does_alloc hS rfl (by rfl)) rfl ?_; clear hS; rintro _ wx ⟨ba, rfl, hS, _⟩; (simp only [Act.put, List.setIfInBounds_toArray, List.set_cons_zero, List.set_cons_succ])) | ((with_reducible show wpList _ _ _ (⟨_, Op.buildSlice _ _ _, _, _, _, _⟩ :: _) _ _); refine Does.list (does_buildSlice (X := ?_) (cs := ?_) (E := ?_) hS rfl ?_ ?_) rfl ?_; rotate_left 3; (go_simp; rfl); rfl; clear hS; rintro _ wx ⟨bx, rfl, hS, _⟩; (simp only [Act.put, List.setIfInBounds_toArray, List.set_cons_zero, List.set_cons_succ])))
      go_loopw [7] (fun i wr => ∃ (k : Nat) (rs : List (List Int)), i = .int .i64 k ∧ (Hid (gDrawn ns rs real) ∧ Hid (rs.length = rows.length)) ∧ k ≤ rows.length ∧ Sat w wr [.box ba [.slice B1 ns.length d1, .slice B2 rows.length d2, .slice B3 real.length d3], .own Rep.bool.rows [.slice B3 real.length d3] real, .own Rep.int.rows.rows [.slice B2 rows.length d2] rs, .own Rep.str.rows [.slice B1 ns.length d1] ns, .box br [.slice Ar nr cr, .int .i64 ((p4 : Nat) : Int)], .ro Rep.u8.slice [.slice Ar nr cr] cd, .box bz [.slice none 0 0, .slice none 0 0, .slice none 0 0]]) (fun i _ => rows.length - (intOf i).toNat)
      case atStart => exact ⟨0, rows, rfl, ⟨HG, Lib.hid rfl⟩, Nat.zero_le _, hS⟩
      case round =>
        clear hS HG
        obtain ⟨k, rs, rfl, ⟨HG, HL⟩, hk, hS⟩ := hrel
        by_cases hlt : k < rows.length
        · have hltI : (k : Int) < (rows.length : Int) := by omega
          have hd1 : decide ((k : Int) < (rows.length : Int)) = true := decide_eq_true hltI
          by_cases hlr : k < real.length
          · have hlrI : (k : Int) < (real.length : Int) := by omega
            have hd2 : decide ((k : Int) < (real.length : Int)) = true := decide_eq_true hlrI
            obtain ⟨r, hr⟩ : ∃ r, rs[k]? = some r := ⟨_, get_some (by rw [HL.out]; exact hlt)⟩
            obtain ⟨b, hb⟩ : ∃ b, real[k]? = some b := ⟨_, get_some hlr⟩
            have Hb := Lib.hid hb
            obtain ⟨g1, o1, rfl⟩ := hS.rowAt 2 rfl hlt
            obtain ⟨g3, o3, rfl⟩ := hS.rowAt 1 rfl hlr
            have hS3 := Sat.openAt (e := Rep.int.rows) k hr (hS.pull 2 rfl)
            clear hS
            obtain ⟨css, ch, hcl, hck, hS⟩ := hS3
            obtain ⟨A6, c2, rfl⟩ := hS.rowForm
            have Hcl := Lib.hid hcl
            have Hck := Lib.hid hck
            clear hcl hck
            replace hS : Sat w _ [.own Rep.int.rows [.slice A6 r.length c2] r, .own (Rep.raw 1).rows [.slice (some ⟨g1, o1, none⟩) rows.length d2] css, .own (Rep.lnkH Rep.int.rows) [] (css, rs, k), .box ba [.slice B1 ns.length d1, .slice (some ⟨g1, o1, none⟩) rows.length d2, .slice (some ⟨g3, o3, none⟩) real.length d3], .own Rep.bool.rows [.slice (some ⟨g3, o3, none⟩) real.length d3] real, .own Rep.str.rows [.slice B1 ns.length d1] ns, .box br [.slice Ar nr cr, .int .i64 ((p4 : Nat) : Int)], .ro Rep.u8.slice [.slice Ar nr cr] cd, .box bz [.slice none 0 0, .slice none 0 0, .slice none 0 0]] := hS
            have HR := Lib.hid hr
            clear hr hb
            have hkw : IntKind.i64.wrap ((k : Int) + 1) = (k : Int) + 1 := IntWalk.i64_in _ (by omega)
            by_cases hr0 : 0 < r.length
            · have hr0I : (0 : Int) < (r.length : Int) := by omega
              have hd3 : decide ((0 : Int) < (r.length : Int)) = true := decide_eq_true hr0I
              obtain ⟨g2, o2, rfl⟩ := hS.rowAt 0 rfl hr0
              cases b
              · go_wp2_with (first | ((with_reducible show wpList _ _ _ (⟨_, Op.load _ _, _, _, _, _⟩ :: _) _ _); refine Gives.list (f_loadRaw (g := g1) (off := o1) (n := rows.length) (c := d2) (k := k) hS rfl rfl Hck.out) rfl ?_; (simp only [Act.put, List.setIfInBounds_toArray, List.set_cons_zero, List.set_cons_succ])) | ((with_reducible show wpList _ _ _ (⟨_, Op.load _ _, _, _, _, _⟩ :: _) _ _); refine Gives.list (f_loadBoolRow (g := g3) (off := o3) (n := real.length) (c := d3) (k := k) hS rfl rfl Hb.out) rfl ?_; (simp only [Act.put, List.setIfInBounds_toArray, List.set_cons_zero, List.set_cons_succ])) | ((with_reducible show wpList _ _ _ (⟨_, Op.box _ _, _, _, _, _⟩ :: _) _ _); refine Does.list (does_box hS rfl rfl (by rfl)) rfl ?_; clear hS; rintro _ wx ⟨bo, rfl, hS, _⟩; (simp only [Act.put, List.setIfInBounds_toArray, List.set_cons_zero, List.set_cons_succ])) | ((with_reducible show wpList _ _ _ (⟨_, Op.load _ _, _, _, _, _⟩ :: _) _ _); (first | refine Gives.list (f_load hS rfl rfl (by rfl)) rfl ?_ | refine Gives.list (f_loadS hS rfl rfl (by rfl)) rfl ?_ | refine Gives.list (f_loadAt hS rfl rfl) rfl ?_ | refine Gives.list (f_loadAtS hS rfl rfl (by rfl)) rfl ?_ | refine Gives.list (f_loadAtF hS rfl rfl (by rfl)) rfl ?_); (simp only [Act.put, List.setIfInBounds_toArray, List.set_cons_zero, List.set_cons_succ])) | ((with_reducible show wpList _ _ _ (⟨_, Op.store _ _ _, _, _, _, _⟩ :: _) _ _); (first | refine Does.list (f_store hS rfl rfl rfl (by rfl) (by rfl)) rfl ?_ | refine Does.list (f_storeS hS rfl rfl rfl (by rfl) (by rfl) (by rfl)) rfl ?_); clear hS; rintro _ wx ⟨rfl, hS⟩; (simp only [List.set_cons_zero, List.set_cons_succ] at hS); (simp only [Act.put, List.setIfInBounds_toArray, List.set_cons_zero, List.set_cons_succ])) | ((with_reducible show wpList _ _ _ (⟨_, Op.alloc _, _, _, _, _⟩ :: _) _ _); refine Does.list (does_alloc hS rfl (by rfl)) rfl ?_; clear hS; rintro _ wx ⟨ba, rfl, hS, _⟩; (simp only [Act.put, List.setIfInBounds_toArray, List.set_cons_zero, List.set_cons_succ])) | ((with_reducible show wpList _ _ _ (⟨_, Op.buildSlice _ _ _, _, _, _, _⟩ :: _) _ _); refine Does.list (does_buildSlice (X := ?_) (cs := ?_) (E := ?_) hS rfl ?_ ?_) rfl ?_; rotate_left 3; (go_simp; rfl); rfl; clear hS; rintro _ wx ⟨bx, rfl, hS, _⟩; (simp only [Act.put, List.setIfInBounds_toArray, List.set_cons_zero, List.set_cons_succ])))
                have hS2 := Sat.closeSame (e := Rep.int.rows) Hck.out Hcl.out hS
                rw [set_same HR.out] at hS2
                go_roundw
                case rel => exact ⟨k + 1, rs, by go_num, ⟨HG, HL⟩, hlt, Sat.sel [1, 2, 0, 3, 4, 5, 6] hS2 rfl (by decide)⟩
                case measure => simp [intOf]; omega
              · go_wp2_with (first | ((with_reducible show wpList _ _ _ (⟨_, Op.load _ _, _, _, _, _⟩ :: _) _ _); refine Gives.list (f_loadRaw (g := g1) (off := o1) (n := rows.length) (c := d2) (k := k) hS rfl rfl Hck.out) rfl ?_; (simp only [Act.put, List.setIfInBounds_toArray, List.set_cons_zero, List.set_cons_succ])) | ((with_reducible show wpList _ _ _ (⟨_, Op.load _ _, _, _, _, _⟩ :: _) _ _); refine Gives.list (f_loadBoolRow (g := g3) (off := o3) (n := real.length) (c := d3) (k := k) hS rfl rfl Hb.out) rfl ?_; (simp only [Act.put, List.setIfInBounds_toArray, List.set_cons_zero, List.set_cons_succ])) | ((with_reducible show wpList _ _ _ (⟨_, Op.store _ _ _, _, _, _, _⟩ :: _) _ _); refine Does.list (does_storeEl (e := Rep.int) (g := g2) (off := o2) (k := 0) 0 (hS.int (n := 100000) (by unfold I64; omega)) rfl rfl rfl rfl rfl rfl hr0) rfl ?_; clear hS; rintro _ wx ⟨rfl, hS⟩; (simp only [List.set_cons_zero, List.set_cons_succ] at hS); (simp only [Act.put, List.setIfInBounds_toArray, List.set_cons_zero, List.set_cons_succ])) | ((with_reducible show wpList _ _ _ (⟨_, Op.box _ _, _, _, _, _⟩ :: _) _ _); refine Does.list (does_box hS rfl rfl (by rfl)) rfl ?_; clear hS; rintro _ wx ⟨bo, rfl, hS, _⟩; (simp only [Act.put, List.setIfInBounds_toArray, List.set_cons_zero, List.set_cons_succ])) | ((with_reducible show wpList _ _ _ (⟨_, Op.load _ _, _, _, _, _⟩ :: _) _ _); (first | refine Gives.list (f_load hS rfl rfl (by rfl)) rfl ?_ | refine Gives.list (f_loadS hS rfl rfl (by rfl)) rfl ?_ | refine Gives.list (f_loadAt hS rfl rfl) rfl ?_ | refine Gives.list (f_loadAtS hS rfl rfl (by rfl)) rfl ?_ | refine Gives.list (f_loadAtF hS rfl rfl (by rfl)) rfl ?_); (simp only [Act.put, List.setIfInBounds_toArray, List.set_cons_zero, List.set_cons_succ])) | ((with_reducible show wpList _ _ _ (⟨_, Op.store _ _ _, _, _, _, _⟩ :: _) _ _); (first | refine Does.list (f_store hS rfl rfl rfl (by rfl) (by rfl)) rfl ?_ | refine Does.list (f_storeS hS rfl rfl rfl (by rfl) (by rfl) (by rfl)) rfl ?_); clear hS; rintro _ wx ⟨rfl, hS⟩; (simp only [List.set_cons_zero, List.set_cons_succ] at hS); (simp only [Act.put, List.setIfInBounds_toArray, List.set_cons_zero, List.set_cons_succ])) | ((with_reducible show wpList _ _ _ (⟨_, Op.alloc _, _, _, _, _⟩ :: _) _ _); refine Does.list (does_alloc hS rfl (by rfl)) rfl ?_; clear hS; rintro _ wx ⟨ba, rfl, hS, _⟩; (simp only [Act.put, List.setIfInBounds_toArray, List.set_cons_zero, List.set_cons_succ])) | ((with_reducible show wpList _ _ _ (⟨_, Op.buildSlice _ _ _, _, _, _, _⟩ :: _) _ _); refine Does.list (does_buildSlice (X := ?_) (cs := ?_) (E := ?_) hS rfl ?_ ?_) rfl ?_; rotate_left 3; (go_simp; rfl); rfl; clear hS; rintro _ wx ⟨bx, rfl, hS, _⟩; (simp only [Act.put, List.setIfInBounds_toArray, List.set_cons_zero, List.set_cons_succ])))
                have hS2 := Sat.closeSame (e := Rep.int.rows) Hck.out Hcl.out hS
                go_roundw
                case rel => exact ⟨k + 1, rs.set k (r.set 0 100000), by go_num, ⟨Lib.hid (gDrawn_set HG.out HR.out hr0 Hb.out), Lib.hid (by rw [List.length_set]; exact HL.out)⟩, hlt, Sat.sel [1, 2, 0, 3, 4, 5, 6] hS2 rfl (by decide)⟩
                case measure => simp [intOf]; omega
            · have hd3 : decide ((0 : Int) < (r.length : Int)) = false := decide_eq_false (by omega)
              go_wp2_with (first | ((with_reducible show wpList _ _ _ (⟨_, Op.load _ _, _, _, _, _⟩ :: _) _ _); refine Gives.list (f_loadRaw (g := g1) (off := o1) (n := rows.length) (c := d2) (k := k) hS rfl rfl Hck.out) rfl ?_; (simp only [Act.put, List.setIfInBounds_toArray, List.set_cons_zero, List.set_cons_succ])) | ((with_reducible show wpList _ _ _ (⟨_, Op.load _ _, _, _, _, _⟩ :: _) _ _); refine Gives.list (f_loadBoolRow (g := g3) (off := o3) (n := real.length) (c := d3) (k := k) hS rfl rfl Hb.out) rfl ?_; (simp only [Act.put, List.setIfInBounds_toArray, List.set_cons_zero, List.set_cons_succ])) | ((with_reducible show wpList _ _ _ (⟨_, Op.box _ _, _, _, _, _⟩ :: _) _ _); refine Does.list (does_box hS rfl rfl (by rfl)) rfl ?_; clear hS; rintro _ wx ⟨bo, rfl, hS, _⟩; (simp only [Act.put, List.setIfInBounds_toArray, List.set_cons_zero, List.set_cons_succ])) | ((with_reducible show wpList _ _ _ (⟨_, Op.load _ _, _, _, _, _⟩ :: _) _ _); (first | refine Gives.list (f_load hS rfl rfl (by rfl)) rfl ?_ | refine Gives.list (f_loadS hS rfl rfl (by rfl)) rfl ?_ | refine Gives.list (f_loadAt hS rfl rfl) rfl ?_ | refine Gives.list (f_loadAtS hS rfl rfl (by rfl)) rfl ?_ | refine Gives.list (f_loadAtF hS rfl rfl (by rfl)) rfl ?_); (simp only [Act.put, List.setIfInBounds_toArray, List.set_cons_zero, List.set_cons_succ])) | ((with_reducible show wpList _ _ _ (⟨_, Op.store _ _ _, _, _, _, _⟩ :: _) _ _); (first | refine Does.list (f_store hS rfl rfl rfl (by rfl) (by rfl)) rfl ?_ | refine Does.list (f_storeS hS rfl rfl rfl (by rfl) (by rfl) (by rfl)) rfl ?_); clear hS; rintro _ wx ⟨rfl, hS⟩; (simp only [List.set_cons_zero, List.set_cons_succ] at hS); (simp only [Act.put, List.setIfInBounds_toArray, List.set_cons_zero, List.set_cons_succ])) | ((with_reducible show wpList _ _ _ (⟨_, Op.alloc _, _, _, _, _⟩ :: _) _ _); refine Does.list (does_alloc hS rfl (by rfl)) rfl ?_; clear hS; rintro _ wx ⟨ba, rfl, hS, _⟩; (simp only [Act.put, List.setIfInBounds_toArray, List.set_cons_zero, List.set_cons_succ])) | ((with_reducible show wpList _ _ _ (⟨_, Op.buildSlice _ _ _, _, _, _, _⟩ :: _) _ _); refine Does.list (does_buildSlice (X := ?_) (cs := ?_) (E := ?_) hS rfl ?_ ?_) rfl ?_; rotate_left 3; (go_simp; rfl); rfl; clear hS; rintro _ wx ⟨bx, rfl, hS, _⟩; (simp only [Act.put, List.setIfInBounds_toArray, List.set_cons_zero, List.set_cons_succ])))
              have hS2 := Sat.closeSame (e := Rep.int.rows) Hck.out Hcl.out hS
              rw [set_same HR.out] at hS2
              go_roundw
              case rel => exact ⟨k + 1, rs, by go_num, ⟨HG, HL⟩, hlt, Sat.sel [1, 2, 0, 3, 4, 5, 6] hS2 rfl (by decide)⟩
              case measure => simp [intOf]; omega
          · have hd2 : decide ((k : Int) < (real.length : Int)) = false := decide_eq_false (by omega)
            go_wp2_with (first | ((with_reducible show wpList _ _ _ (⟨_, Op.box _ _, _, _, _, _⟩ :: _) _ _); refine Does.list (does_box hS rfl rfl (by rfl)) rfl ?_; clear hS; rintro _ wx ⟨bo, rfl, hS, _⟩; (simp only [Act.put, List.setIfInBounds_toArray, List.set_cons_zero, List.set_cons_succ])) | ((with_reducible show wpList _ _ _ (⟨_, Op.load _ _, _, _, _, _⟩ :: _) _ _); (first | refine Gives.list (f_load hS rfl rfl (by rfl)) rfl ?_ | refine Gives.list (f_loadS hS rfl rfl (by rfl)) rfl ?_ | refine Gives.list (f_loadAt hS rfl rfl) rfl ?_ | refine Gives.list (f_loadAtS hS rfl rfl (by rfl)) rfl ?_ | refine Gives.list (f_loadAtF hS rfl rfl (by rfl)) rfl ?_); (simp only [Act.put, List.setIfInBounds_toArray, List.set_cons_zero, List.set_cons_succ])) | ((with_reducible show wpList _ _ _ (⟨_, Op.store _ _ _, _, _, _, _⟩ :: _) _ _); (first | refine Does.list (f_store hS rfl rfl rfl (by rfl) (by rfl)) rfl ?_ | refine Does.list (f_storeS hS rfl rfl rfl (by rfl) (by rfl) (by rfl)) rfl ?_); clear hS; rintro _ wx ⟨rfl, hS⟩; (simp only [List.set_cons_zero, List.set_cons_succ] at hS); (simp only [Act.put, List.setIfInBounds_toArray, List.set_cons_zero, List.set_cons_succ])) | ((with_reducible show wpList _ _ _ (⟨_, Op.alloc _, _, _, _, _⟩ :: _) _ _); refine Does.list (does_alloc hS rfl (by rfl)) rfl ?_; clear hS; rintro _ wx ⟨ba, rfl, hS, _⟩; (simp only [Act.put, List.setIfInBounds_toArray, List.set_cons_zero, List.set_cons_succ])) | ((with_reducible show wpList _ _ _ (⟨_, Op.buildSlice _ _ _, _, _, _, _⟩ :: _) _ _); refine Does.list (does_buildSlice (X := ?_) (cs := ?_) (E := ?_) hS rfl ?_ ?_) rfl ?_; rotate_left 3; (go_simp; rfl); rfl; clear hS; rintro _ wx ⟨bx, rfl, hS, _⟩; (simp only [Act.put, List.setIfInBounds_toArray, List.set_cons_zero, List.set_cons_succ])))
            go_meet
            case rel => exact ⟨rs, HG, hS⟩
        · obtain rfl : k = rows.length := by omega
          have hd1 : decide ((rows.length : Int) < (rows.length : Int)) = false := decide_eq_false (by omega)
          go_wp2_with (first | ((with_reducible show wpList _ _ _ (⟨_, Op.box _ _, _, _, _, _⟩ :: _) _ _); refine Does.list (does_box hS rfl rfl (by rfl)) rfl ?_; clear hS; rintro _ wx ⟨bo, rfl, hS, _⟩; (simp only [Act.put, List.setIfInBounds_toArray, List.set_cons_zero, List.set_cons_succ])) | ((with_reducible show wpList _ _ _ (⟨_, Op.load _ _, _, _, _, _⟩ :: _) _ _); (first | refine Gives.list (f_load hS rfl rfl (by rfl)) rfl ?_ | refine Gives.list (f_loadS hS rfl rfl (by rfl)) rfl ?_ | refine Gives.list (f_loadAt hS rfl rfl) rfl ?_ | refine Gives.list (f_loadAtS hS rfl rfl (by rfl)) rfl ?_ | refine Gives.list (f_loadAtF hS rfl rfl (by rfl)) rfl ?_); (simp only [Act.put, List.setIfInBounds_toArray, List.set_cons_zero, List.set_cons_succ])) | ((with_reducible show wpList _ _ _ (⟨_, Op.store _ _ _, _, _, _, _⟩ :: _) _ _); (first | refine Does.list (f_store hS rfl rfl rfl (by rfl) (by rfl)) rfl ?_ | refine Does.list (f_storeS hS rfl rfl rfl (by rfl) (by rfl) (by rfl)) rfl ?_); clear hS; rintro _ wx ⟨rfl, hS⟩; (simp only [List.set_cons_zero, List.set_cons_succ] at hS); (simp only [Act.put, List.setIfInBounds_toArray, List.set_cons_zero, List.set_cons_succ])) | ((with_reducible show wpList _ _ _ (⟨_, Op.alloc _, _, _, _, _⟩ :: _) _ _); refine Does.list (does_alloc hS rfl (by rfl)) rfl ?_; clear hS; rintro _ wx ⟨ba, rfl, hS, _⟩; (simp only [Act.put, List.setIfInBounds_toArray, List.set_cons_zero, List.set_cons_succ])) | ((with_reducible show wpList _ _ _ (⟨_, Op.buildSlice _ _ _, _, _, _, _⟩ :: _) _ _); refine Does.list (does_buildSlice (X := ?_) (cs := ?_) (E := ?_) hS rfl ?_ ?_) rfl ?_; rotate_left 3; (go_simp; rfl); rfl; clear hS; rintro _ wx ⟨bx, rfl, hS, _⟩; (simp only [Act.put, List.setIfInBounds_toArray, List.set_cons_zero, List.set_cons_succ])))
          go_meet
          case rel => exact ⟨rs, HG, hS⟩
  case rest =>
    clear hS HG
    obtain ⟨rs, HG, hS⟩ := hcut
    go_upto_region 9 with (first | ((with_reducible show wpList _ _ _ (⟨_, Op.box _ _, _, _, _, _⟩ :: _) _ _); refine Does.list (does_box hS rfl rfl (by rfl)) rfl ?_; clear hS; rintro _ wx ⟨bo, rfl, hS, _⟩; (simp only [Act.put, List.setIfInBounds_toArray, List.set_cons_zero, List.set_cons_succ])) | ((with_reducible show wpList _ _ _ (⟨_, Op.load _ _, _, _, _, _⟩ :: _) _ _); (first | refine Gives.list (f_load hS rfl rfl (by rfl)) rfl ?_ | refine Gives.list (f_loadS hS rfl rfl (by rfl)) rfl ?_ | refine Gives.list (f_loadAt hS rfl rfl) rfl ?_ | refine Gives.list (f_loadAtS hS rfl rfl (by rfl)) rfl ?_ | refine Gives.list (f_loadAtF hS rfl rfl (by rfl)) rfl ?_); (simp only [Act.put, List.setIfInBounds_toArray, List.set_cons_zero, List.set_cons_succ])) | ((with_reducible show wpList _ _ _ (⟨_, Op.store _ _ _, _, _, _, _⟩ :: _) _ _); (first | refine Does.list (f_store hS rfl rfl rfl (by rfl) (by rfl)) rfl ?_ | refine Does.list (f_storeS hS rfl rfl rfl (by rfl) (by rfl) (by rfl)) rfl ?_); clear hS; rintro _ wx ⟨rfl, hS⟩; (simp only [List.set_cons_zero, List.set_cons_succ] at hS); (simp only [Act.put, List.setIfInBounds_toArray, List.set_cons_zero, List.set_cons_succ])) | ((with_reducible show wpList _ _ _ (⟨_, Op.alloc _, _, _, _, _⟩ :: _) _ _); refine Does.list (does_alloc hS rfl (by rfl)) rfl ?_; clear hS; rintro _ wx ⟨ba, rfl, hS, _⟩; (simp only [Act.put, List.setIfInBounds_toArray, List.set_cons_zero, List.set_cons_succ])) | ((with_reducible show wpList _ _ _ (⟨_, Op.buildSlice _ _ _, _, _, _, _⟩ :: _) _ _); refine Does.list (does_buildSlice (X := ?_) (cs := ?_) (E := ?_) hS rfl ?_ ?_) rfl ?_; rotate_left 3; (go_simp; rfl); rfl; clear hS; rintro _ wx ⟨bx, rfl, hS, _⟩; (simp only [Act.put, List.setIfInBounds_toArray, List.set_cons_zero, List.set_cons_succ])))
    replace hS := hS.sel (Γ' := [.box br [.slice Ar nr cr, .int .i64 ((p4 : Nat) : Int)], .box bz [.slice none 0 0, .slice none 0 0, .slice none 0 0], .ro Rep.u8.slice [.slice Ar nr cr] cd, .box ba [.slice B1 ns.length d1, .slice B2 rows.length d2, .slice B3 real.length d3], .own Rep.bool.rows [.slice B3 real.length d3] real, .own Rep.int.rows.rows [.slice B2 rows.length d2] rs, .own Rep.str.rows [.slice B1 ns.length d1] ns]) [4, 6, 5, 0, 1, 2, 3] rfl (by decide)
    obtain ⟨hRZ, hzz, hne, -⟩ := Sat.rdZ hS
    have hSr := hS.mod (w' := wc.drew) (Mod.drew (Mod.refl _ _))
    obtain ⟨-, -, -, up⟩ := Sat.rdZ hSr
    have hul : ([.slice none 0 0, .slice none 0 0, .slice none 0 0] : List Value).length = 3 := rfl
    refine wp_region_rdM br bz 1 17 3 [.slice B1 ns.length d1, .slice B2 rows.length d2, .slice B3 real.length d3] [TX (.agg #[.slice B1 ns.length d1, .slice B2 rows.length d2, .slice B3 real.length d3]), TSn wc.drew.heap.size 3 (TS), TSn wc.drew.heap.size 6 (TI (0) (2)), TX (.pointer (some ⟨br, 0, none⟩)), TI (0) (5), TPn wc.drew.heap.size (TI (0) (2)), TI (0) (2), TPn wc.drew.heap.size (TS), TS, TSn wc.drew.heap.size 3 (TS), TSn wc.drew.heap.size 6 (TI (0) (2)), TX (.pointer (some ⟨br, 0, none⟩)), TI (0) (5), TPn wc.drew.heap.size (TI (0) (2)), TI (0) (2), TPn wc.drew.heap.size (TS), TS, TAny, TS, TS] hRZ hul hzz hne (by decide) (by kernel_rfl) (by kernel_rfl) ⟨?_, ?_, ?_, ?_, ?_, ?_, ?_, ?_, ?_, ?_, ?_, ?_, ?_, ?_, ?_, ?_, ?_, ?_, ?_, ?_, trivial⟩ ?_
    · refine opM_E (by decide) hne ?_
      intro n ρ w hc hf hb hd hJ hbase hM hn
      exact M_loadS hSr hM (by decide) rfl rfl (hb 6 rfl) hJ
    · refine opM_E (by decide) hne ?_
      intro n ρ w hc hf hb hd hJ hbase hM hn
      refine M_build (cs := ?_) rfl (by simp only [List.map_toArray, List.map_cons, List.map_nil, hc]; go_simp; rfl) rfl ?_ hbase hJ
      intro j hj
      match j, hj with
      | 0, _ => exact ⟨_, rfl, _, rfl, by decide⟩
      | 1, _ => exact ⟨_, rfl, _, rfl, by decide⟩
      | 2, _ => exact ⟨_, rfl, _, rfl, by decide⟩
      | j + 3, hj => omega
    · refine opM_E (by decide) hne ?_
      intro n ρ w hc hf hb hd hJ hbase hM hn
      refine M_build (cs := ?_) rfl (by simp only [List.map_toArray, List.map_cons, List.map_nil, hc]; go_simp; rfl) rfl ?_ hbase hJ
      intro j hj
      match j, hj with
      | 0, _ => exact ⟨_, rfl, _, rfl, by omega, by omega⟩
      | 1, _ => exact ⟨_, rfl, _, rfl, by omega, by omega⟩
      | 2, _ => exact ⟨_, rfl, _, rfl, by omega, by omega⟩
      | 3, _ => exact ⟨_, rfl, _, rfl, by omega, by omega⟩
      | 4, _ => exact ⟨_, rfl, _, rfl, by omega, by omega⟩
      | 5, _ => exact ⟨_, rfl, _, rfl, by omega, by omega⟩
      | j + 6, hj => omega
    · refine opM_E (by decide) hne ?_
      intro n ρ w hc hf hb hd hJ hbase hM hn
      exact E_move rfl (hb 5 rfl) hJ
    · refine opM_E (by decide) hne ?_
      intro n ρ w hc hf hb hd hJ hbase hM hn
      have e0 : ρ (.tmp 51) = _ := hd.1 rfl
      refine E_call (run_call (hf _) rfl (by simp only [List.map_toArray, List.map_cons, List.map_nil, hc, e0]; go_simp)) hJ (fun p2 hp2 hr2 => ?_)
      simp only [List.map_toArray, List.map_cons, List.map_nil, hc, e0]
      refine (spec_pick _ _ _ _ _ _ _ hr2 (by have hn2 : n < 20 := hn; omega) (by omega)).mono ?_
      rintro e w' ⟨⟨x, rfl, h1, h2, h3⟩, h4, h5⟩
      exact ⟨_, rfl, ⟨x, rfl, by omega, by omega⟩, h5, _, by omega, h4⟩
    · refine opM_E (by decide) hne ?_
      intro n ρ w hc hf hb hd hJ hbase hM hn
      obtain ⟨b0, e0, nb0, hl0, hc0⟩ : TSn wc.drew.heap.size 6 (TI (0) (2)) (ρ (.tmp 50)) w := hd.1 rfl
      obtain ⟨x1, e1, l1, u1⟩ : TI (0) (5) (ρ (.tmp 52)) w := hd.2.1 rfl
      obtain ⟨k1, rfl⟩ : ∃ k : Nat, x1 = k := ⟨x1.toNat, by omega⟩
      obtain ⟨u, hu, ht⟩ := hc0 k1 (by omega)
      refine E_val (v := .pointer (some ⟨b0, k1, none⟩)) ?_ ⟨b0, k1, rfl, nb0, hl0, u, hu, ht⟩ hJ
      unfold execOp; simp only [e0, e1]; go_simp
      first | done | (intro hh; exact absurd hh (by omega))
    · refine opM_E (by decide) hne ?_
      intro n ρ w hc hf hb hd hJ hbase hM hn
      exact M_load rfl (hd.1 rfl) hJ
    · refine opM_E (by decide) hne ?_
      intro n ρ w hc hf hb hd hJ hbase hM hn
      obtain ⟨b0, e0, nb0, hl0, hc0⟩ : TSn wc.drew.heap.size 3 (TS) (ρ (.tmp 49)) w := hd.1 rfl
      obtain ⟨x1, e1, l1, u1⟩ : TI (0) (2) (ρ (.tmp 54)) w := hd.2.1 rfl
      obtain ⟨k1, rfl⟩ : ∃ k : Nat, x1 = k := ⟨x1.toNat, by omega⟩
      obtain ⟨u, hu, ht⟩ := hc0 k1 (by omega)
      refine E_val (v := .pointer (some ⟨b0, k1, none⟩)) ?_ ⟨b0, k1, rfl, nb0, hl0, u, hu, ht⟩ hJ
      unfold execOp; simp only [e0, e1]; go_simp
      first | done | (intro hh; exact absurd hh (by omega))
    · refine opM_E (by decide) hne ?_
      intro n ρ w hc hf hb hd hJ hbase hM hn
      exact M_load rfl (hd.1 rfl) hJ
    · refine opM_E (by decide) hne ?_
      intro n ρ w hc hf hb hd hJ hbase hM hn
      refine M_build (cs := ?_) rfl (by simp only [List.map_toArray, List.map_cons, List.map_nil, hc]; go_simp; rfl) rfl ?_ hbase hJ
      intro j hj
      match j, hj with
      | 0, _ => exact ⟨_, rfl, _, rfl, by decide⟩
      | 1, _ => exact ⟨_, rfl, _, rfl, by decide⟩
      | 2, _ => exact ⟨_, rfl, _, rfl, by decide⟩
      | j + 3, hj => omega
    · refine opM_E (by decide) hne ?_
      intro n ρ w hc hf hb hd hJ hbase hM hn
      refine M_build (cs := ?_) rfl (by simp only [List.map_toArray, List.map_cons, List.map_nil, hc]; go_simp; rfl) rfl ?_ hbase hJ
      intro j hj
      match j, hj with
      | 0, _ => exact ⟨_, rfl, _, rfl, by omega, by omega⟩
      | 1, _ => exact ⟨_, rfl, _, rfl, by omega, by omega⟩
      | 2, _ => exact ⟨_, rfl, _, rfl, by omega, by omega⟩
      | 3, _ => exact ⟨_, rfl, _, rfl, by omega, by omega⟩
      | 4, _ => exact ⟨_, rfl, _, rfl, by omega, by omega⟩
      | 5, _ => exact ⟨_, rfl, _, rfl, by omega, by omega⟩
      | j + 6, hj => omega
    · refine opM_E (by decide) hne ?_
      intro n ρ w hc hf hb hd hJ hbase hM hn
      exact E_move rfl (hb 5 rfl) hJ
    · refine opM_E (by decide) hne ?_
      intro n ρ w hc hf hb hd hJ hbase hM hn
      have e0 : ρ (.tmp 59) = _ := hd.1 rfl
      refine E_call (run_call (hf _) rfl (by simp only [List.map_toArray, List.map_cons, List.map_nil, hc, e0]; go_simp)) hJ (fun p2 hp2 hr2 => ?_)
      simp only [List.map_toArray, List.map_cons, List.map_nil, hc, e0]
      refine (spec_pick _ _ _ _ _ _ _ hr2 (by have hn2 : n < 20 := hn; omega) (by omega)).mono ?_
      rintro e w' ⟨⟨x, rfl, h1, h2, h3⟩, h4, h5⟩
      exact ⟨_, rfl, ⟨x, rfl, by omega, by omega⟩, h5, _, by omega, h4⟩
    · refine opM_E (by decide) hne ?_
      intro n ρ w hc hf hb hd hJ hbase hM hn
      obtain ⟨b0, e0, nb0, hl0, hc0⟩ : TSn wc.drew.heap.size 6 (TI (0) (2)) (ρ (.tmp 58)) w := hd.1 rfl
      obtain ⟨x1, e1, l1, u1⟩ : TI (0) (5) (ρ (.tmp 60)) w := hd.2.1 rfl
      obtain ⟨k1, rfl⟩ : ∃ k : Nat, x1 = k := ⟨x1.toNat, by omega⟩
      obtain ⟨u, hu, ht⟩ := hc0 k1 (by omega)
      refine E_val (v := .pointer (some ⟨b0, k1, none⟩)) ?_ ⟨b0, k1, rfl, nb0, hl0, u, hu, ht⟩ hJ
      unfold execOp; simp only [e0, e1]; go_simp
      first | done | (intro hh; exact absurd hh (by omega))
    · refine opM_E (by decide) hne ?_
      intro n ρ w hc hf hb hd hJ hbase hM hn
      exact M_load rfl (hd.1 rfl) hJ
    · refine opM_E (by decide) hne ?_
      intro n ρ w hc hf hb hd hJ hbase hM hn
      obtain ⟨b0, e0, nb0, hl0, hc0⟩ : TSn wc.drew.heap.size 3 (TS) (ρ (.tmp 57)) w := hd.1 rfl
      obtain ⟨x1, e1, l1, u1⟩ : TI (0) (2) (ρ (.tmp 62)) w := hd.2.1 rfl
      obtain ⟨k1, rfl⟩ : ∃ k : Nat, x1 = k := ⟨x1.toNat, by omega⟩
      obtain ⟨u, hu, ht⟩ := hc0 k1 (by omega)
      refine E_val (v := .pointer (some ⟨b0, k1, none⟩)) ?_ ⟨b0, k1, rfl, nb0, hl0, u, hu, ht⟩ hJ
      unfold execOp; simp only [e0, e1]; go_simp
      first | done | (intro hh; exact absurd hh (by omega))
    · refine opM_E (by decide) hne ?_
      intro n ρ w hc hf hb hd hJ hbase hM hn
      exact M_load rfl (hd.1 rfl) hJ
    · exact opM_store hne rfl rfl rfl rfl (fun a w hb hd => ⟨hb 2 rfl, (hd.1 rfl).1⟩)
    · refine opM_E (by decide) hne ?_
      intro n ρ w hc hf hb hd hJ hbase hM hn
      exact E_assign rfl (hd.1 rfl) hJ
    · refine opM_E (by decide) hne ?_
      intro n ρ w hc hf hb hd hJ hbase hM hn
      exact E_assign rfl (hd.1 rfl) hJ
    intro v w' p' hT hz hp' hr' hM
    obtain ⟨sg, hv1, hg1⟩ : TS (v 18) w' := hT 18 (by decide)
    obtain ⟨ss, hv2, hg2⟩ : TS (v 19) w' := hT 19 (by decide)
    have hS2 := up w' p' _ Rep.bool [.bool true] true hr' hz hM ⟨[], ⟨rfl, rfl⟩, Good.nil w', by simp⟩
    clear hS hSr up hRZ hzz hT
    have hS := hS2
    clear hS2
    simp only [putAll, Act.put, List.setIfInBounds_toArray, List.set_cons_zero, List.set_cons_succ]
    go_wp2_with fail
    refine bodyPost_ret (hS.resultCTT rfl rfl (by rfl)) rfl ?_
    refine ⟨[.slice B1 ns.length d1, .slice B2 rows.length d2, .slice B3 real.length d3], sg, ss, ns, rs, real, ?_, rfl, HG.out, ⟨hg1, hg2⟩, (Sat.mkPadded (hS.sel (Γ' := [.own Rep.bool.rows [.slice B3 real.length d3] real, .own Rep.int.rows.rows [.slice B2 rows.length d2] rs, .own Rep.str.rows [.slice B1 ns.length d1] ns]) [5, 6, 7] rfl (by decide))).result⟩
    show Ending.returned (.tuple #[_, v 18, v 19]) = _
    rw [hv1, hv2]
end Go.Proofs.YtldknaajnnohiaaDoor
