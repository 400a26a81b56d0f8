/- DrawTakePadded. Printed by gen_draw4.py. -/
import Derived.Test.YtldknaajnnohiaaDoorDrSo
import Derived.Test.YtldknaajnnohiaaDoorTypM
import Derived.Deep.DeepCutAuto
namespace Go.Proofs.YtldknaajnnohiaaDoor
open Go.RowKit

set_option maxHeartbeats 8000000 in
set_option maxRecDepth 10000 in
theorem spec_DrawTakePadded (w : World) (F : List Nat) (v : Value) (code : List UInt8) (hx : SliceHas Rep.u8 w F [v] code) :
    Calls Tryd.prog 27 #[v] w fun e w' => ∃ (cs : List Value) (v2 : Value) (ns : List ByteArray) (rows : List (List Int)) (real : List Bool) (cols : List ByteArray), e = .returned (.tuple #[.agg cs.toArray, v2]) ∧ cs.length = 3 ∧ Drawn ns rows real 9 ∧ cols.length ≤ 3 ∧ Fresh (Rep.pair oPadded Rep.str.rows) w w' (cs ++ [v2]) ((ns, rows, real), cols) := by
  obtain ⟨A, c, rfl, hl, _⟩ := hx.form'
  have hS : Sat w w [.ro Rep.u8.slice [.slice A code.length c] code] := (Sat.nil w).arg hx
  clear hx
  go_enter Tryd.func27, Tryd.ntmps27
  go_upto_region 1 with (first | ((with_reducible show wpList _ _ _ (⟨_, Op.alloc _, _, _, _, _⟩ :: _) _ _); refine Does.list (does_alloc hS rfl (by rfl)) rfl ?_; clear hS; rintro _ wx ⟨ba, rfl, hS, _⟩; (simp only [Act.put, List.setIfInBounds_toArray, List.set_cons_zero, List.set_cons_succ])))
  obtain ⟨bz, rfl⟩ : ∃ bz, bz = ba := ⟨_, rfl⟩
  go_upto_region 3 with (first | (go_at_call 63; refine (spec_l20Open hS (i := 1) rfl).mono ?_; clear hS; rintro e w' ⟨br, Ar, nr, cr, cd, rfl, hS⟩) | (go_at_call 84; go_loud (obtain ⟨hrd, up⟩ := Sat.rdF hS br; have hL := spec_l20Padded _ br _ _ _ _ 0 9 9 (by omega) (by omega) (by decide) (by decide) (by decide) hrd (by omega); (rw [show ((9 : Nat) : Int) = 9 from rfl] at hL); refine hL.mono ?_; clear hL; rintro e w' ⟨cs, ns, rows, real, rfl, hbd, hN, ⟨p3, hp3, hrd2⟩, hM⟩; replace hS := (up _ _ hrd2 hM).2 _ _ _ hN; clear up hrd hrd2 hM hN; (simp only [List.set_cons_zero, List.set_cons_succ] at hS); have hS2 := Sat.openOwnPadded hS; clear hS; obtain ⟨B1, d1, B2, d2, B3, d3, rfl, hS⟩ := hS2; (dsimp only at hS); have Hbd := Lib.hid (show Drawn ns rows real 9 from hbd); clear hbd)) | ((with_reducible show wpList _ _ _ (⟨_, Op.store _ _ _, _, _, _, _⟩ :: _) _ _); (first | refine Does.list (f_store hS rfl rfl rfl (by rfl) (by rfl)) rfl ?_ | refine Does.list (f_storeS hS rfl rfl rfl (by rfl) (by rfl) (by rfl)) rfl ?_); clear hS; rintro _ wx ⟨rfl, hS⟩; (simp only [List.set_cons_zero, List.set_cons_succ] at hS); (simp only [Act.put, List.setIfInBounds_toArray, List.set_cons_zero, List.set_cons_succ])) | ((with_reducible show wpList _ _ _ (⟨_, Op.alloc _, _, _, _, _⟩ :: _) _ _); refine Does.list (does_alloc hS rfl (by rfl)) rfl ?_; clear hS; rintro _ wx ⟨ba, rfl, hS, _⟩; (simp only [Act.put, List.setIfInBounds_toArray, List.set_cons_zero, List.set_cons_succ])))
  have hp9 : p3 ≤ 900000000 := by omega
  replace hS := hS.sel (Γ' := [.box br [.slice Ar nr cr, .int .i64 ((p3 : Nat) : Int)], .box bz [.slice none 0 0, .slice none 0 0, .slice none 0 0], .ro Rep.u8.slice [.slice Ar nr cr] cd, .box ba [.slice B1 ns.length d1, .slice B2 rows.length d2, .slice B3 real.length d3], .own Rep.bool.rows [.slice B3 real.length d3] real, .own Rep.int.rows.rows [.slice B2 rows.length d2] rows, .own Rep.str.rows [.slice B1 ns.length d1] ns]) [4, 6, 5, 0, 1, 2, 3] rfl (by decide)
  obtain ⟨hRZ, hzz, hne, -⟩ := Sat.rdZ hS
  have hSr := hS.mod (w' := wx.drew) (Mod.drew (Mod.refl _ _))
  obtain ⟨-, -, -, up⟩ := Sat.rdZ hSr
  have hul : ([.slice none 0 0, .slice none 0 0, .slice none 0 0] : List Value).length = 3 := rfl
  refine wp_region_rdM br bz 1 16 3 [.slice B1 ns.length d1, .slice B2 rows.length d2, .slice B3 real.length d3] [TX (.agg #[.slice B1 ns.length d1, .slice B2 rows.length d2, .slice B3 real.length d3]), TE wx.drew.heap.size, TNn wx.drew.heap.size, TNn wx.drew.heap.size, TNn wx.drew.heap.size, TNn wx.drew.heap.size, TNn wx.drew.heap.size, TSn wx.drew.heap.size 5 (TNn wx.drew.heap.size), TSn wx.drew.heap.size 7 (TI (0) (4)), TX (.pointer (some ⟨br, 0, none⟩)), TI (0) (6), TPn wx.drew.heap.size (TI (0) (4)), TI (0) (4), TPn wx.drew.heap.size (TNn wx.drew.heap.size), TNn wx.drew.heap.size, TRow wx.drew.heap.size, TAny, TRow wx.drew.heap.size] hRZ hul hzz hne (by decide) (by kernel_rfl) (by kernel_rfl) ⟨?_, ?_, ?_, ?_, ?_, ?_, ?_, ?_, ?_, ?_, ?_, ?_, ?_, ?_, ?_, ?_, ?_, ?_, trivial⟩ ?_
  · refine opM_E (by decide) hne ?_
    intro n ρ w hc hf hb hd hJ hbase hM hn
    exact M_loadS hSr hM (by decide) rfl rfl (hb 5 rfl) hJ
  · refine opM_E (by decide) hne ?_
    intro n ρ w hc hf hb hd hJ hbase hM hn
    refine M_buildE rfl (by simp only [List.map_toArray, List.map_cons, List.map_nil]; go_simp; rfl) rfl hbase hJ
  · refine opM_E (by decide) hne ?_
    intro n ρ w hc hf hb hd hJ hbase hM hn
    refine M_buildN (cs := ?_) rfl (by simp only [List.map_toArray, List.map_cons, List.map_nil, hc]; go_simp; rfl) rfl rfl (by decide) ?_ hbase hJ
    intro u hu
    simp only [List.mem_cons, List.not_mem_nil, or_false] at hu
    rcases hu with rfl <;> exact ⟨_, rfl, by decide⟩
  · refine opM_E (by decide) hne ?_
    intro n ρ w hc hf hb hd hJ hbase hM hn
    refine M_buildN (cs := ?_) rfl (by simp only [List.map_toArray, List.map_cons, List.map_nil, hc]; go_simp; rfl) rfl rfl (by decide) ?_ hbase hJ
    intro u hu
    simp only [List.mem_cons, List.not_mem_nil, or_false] at hu
    rcases hu with rfl | rfl <;> exact ⟨_, rfl, by decide⟩
  · refine opM_E (by decide) hne ?_
    intro n ρ w hc hf hb hd hJ hbase hM hn
    refine M_buildN (cs := ?_) rfl (by simp only [List.map_toArray, List.map_cons, List.map_nil, hc]; go_simp; rfl) rfl rfl (by decide) ?_ hbase hJ
    intro u hu
    simp only [List.mem_cons, List.not_mem_nil, or_false] at hu
    rcases hu with rfl | rfl <;> exact ⟨_, rfl, by decide⟩
  · refine opM_E (by decide) hne ?_
    intro n ρ w hc hf hb hd hJ hbase hM hn
    refine M_buildN (cs := ?_) rfl (by simp only [List.map_toArray, List.map_cons, List.map_nil, hc]; go_simp; rfl) rfl rfl (by decide) ?_ hbase hJ
    intro u hu
    cases hu
  · refine opM_E (by decide) hne ?_
    intro n ρ w hc hf hb hd hJ hbase hM hn
    refine M_buildN (cs := ?_) rfl (by simp only [List.map_toArray, List.map_cons, List.map_nil, hc]; go_simp; rfl) rfl rfl (by decide) ?_ hbase hJ
    intro u hu
    simp only [List.mem_cons, List.not_mem_nil, or_false] at hu
    rcases hu with rfl | rfl | rfl <;> exact ⟨_, rfl, by decide⟩
  · refine opM_E (by decide) hne ?_
    intro n ρ w hc hf hb hd hJ hbase hM hn
    obtain ⟨b0, n0, e0, h0⟩ : TNn wx.drew.heap.size (ρ (.tmp 12)) w := hd.1 rfl
    obtain ⟨b1, n1, e1, h1⟩ : TNn wx.drew.heap.size (ρ (.tmp 13)) w := hd.2.1 rfl
    obtain ⟨b2, n2, e2, h2⟩ : TNn wx.drew.heap.size (ρ (.tmp 14)) w := hd.2.2.1 rfl
    obtain ⟨b3, n3, e3, h3⟩ : TNn wx.drew.heap.size (ρ (.tmp 15)) w := hd.2.2.2.1 rfl
    obtain ⟨b4, n4, e4, h4⟩ : TNn wx.drew.heap.size (ρ (.tmp 16)) w := hd.2.2.2.2.1 rfl
    refine M_build (cs := ?_) rfl (by simp only [List.map_toArray, List.map_cons, List.map_nil, hc, e0, e1, e2, e3, e4]; go_simp; rfl) rfl ?_ hbase hJ
    intro j hj
    match j, hj with
    | 0, _ => exact ⟨_, rfl, b0, n0, rfl, h0⟩
    | 1, _ => exact ⟨_, rfl, b1, n1, rfl, h1⟩
    | 2, _ => exact ⟨_, rfl, b2, n2, rfl, h2⟩
    | 3, _ => exact ⟨_, rfl, b3, n3, rfl, h3⟩
    | 4, _ => exact ⟨_, rfl, b4, n4, rfl, h4⟩
    | j + 5, hj => omega
  · refine opM_E (by decide) hne ?_
    intro n ρ w hc hf hb hd hJ hbase hM hn
    refine M_build (cs := ?_) rfl (by simp only [List.map_toArray, List.map_cons, List.map_nil, hc]; go_simp; rfl) rfl ?_ hbase hJ
    intro j hj
    match j, hj with
    | 0, _ => exact ⟨_, rfl, _, rfl, by omega, by omega⟩
    | 1, _ => exact ⟨_, rfl, _, rfl, by omega, by omega⟩
    | 2, _ => exact ⟨_, rfl, _, rfl, by omega, by omega⟩
    | 3, _ => exact ⟨_, rfl, _, rfl, by omega, by omega⟩
    | 4, _ => exact ⟨_, rfl, _, rfl, by omega, by omega⟩
    | 5, _ => exact ⟨_, rfl, _, rfl, by omega, by omega⟩
    | 6, _ => exact ⟨_, rfl, _, rfl, by omega, by omega⟩
    | j + 7, hj => omega
  · refine opM_E (by decide) hne ?_
    intro n ρ w hc hf hb hd hJ hbase hM hn
    exact E_move rfl (hb 4 rfl) hJ
  · refine opM_E (by decide) hne ?_
    intro n ρ w hc hf hb hd hJ hbase hM hn
    have e0 : ρ (.tmp 19) = _ := hd.1 rfl
    refine E_call (run_call (hf _) rfl (by simp only [List.map_toArray, List.map_cons, List.map_nil, hc, e0]; go_simp)) hJ (fun p2 hp2 hr2 => ?_)
    simp only [List.map_toArray, List.map_cons, List.map_nil, hc, e0]
    refine (spec_pick _ _ _ _ _ _ _ hr2 (by have hn2 : n < 18 := hn; omega) (by omega)).mono ?_
    rintro e w' ⟨⟨x, rfl, h1, h2, h3⟩, h4, h5⟩
    exact ⟨_, rfl, ⟨x, rfl, by omega, by omega⟩, h5, _, by omega, h4⟩
  · refine opM_E (by decide) hne ?_
    intro n ρ w hc hf hb hd hJ hbase hM hn
    obtain ⟨b0, e0, nb0, hl0, hc0⟩ : TSn wx.drew.heap.size 7 (TI (0) (4)) (ρ (.tmp 18)) w := hd.1 rfl
    obtain ⟨x1, e1, l1, u1⟩ : TI (0) (6) (ρ (.tmp 20)) w := hd.2.1 rfl
    obtain ⟨k1, rfl⟩ : ∃ k : Nat, x1 = k := ⟨x1.toNat, by omega⟩
    obtain ⟨u, hu, ht⟩ := hc0 k1 (by omega)
    refine E_val (v := .pointer (some ⟨b0, k1, none⟩)) ?_ ⟨b0, k1, rfl, nb0, hl0, u, hu, ht⟩ hJ
    unfold execOp; simp only [e0, e1]; go_simp
    first | done | (intro hh; exact absurd hh (by omega))
  · refine opM_E (by decide) hne ?_
    intro n ρ w hc hf hb hd hJ hbase hM hn
    exact M_load rfl (hd.1 rfl) hJ
  · refine opM_E (by decide) hne ?_
    intro n ρ w hc hf hb hd hJ hbase hM hn
    obtain ⟨b0, e0, nb0, hl0, hc0⟩ : TSn wx.drew.heap.size 5 (TNn wx.drew.heap.size) (ρ (.tmp 17)) w := hd.1 rfl
    obtain ⟨x1, e1, l1, u1⟩ : TI (0) (4) (ρ (.tmp 22)) w := hd.2.1 rfl
    obtain ⟨k1, rfl⟩ : ∃ k : Nat, x1 = k := ⟨x1.toNat, by omega⟩
    obtain ⟨u, hu, ht⟩ := hc0 k1 (by omega)
    refine E_val (v := .pointer (some ⟨b0, k1, none⟩)) ?_ ⟨b0, k1, rfl, nb0, hl0, u, hu, ht⟩ hJ
    unfold execOp; simp only [e0, e1]; go_simp
    first | done | (intro hh; exact absurd hh (by omega))
  · refine opM_E (by decide) hne ?_
    intro n ρ w hc hf hb hd hJ hbase hM hn
    exact M_load rfl (hd.1 rfl) hJ
  · exact opM_append (by decide) hne rfl (by decide) rfl rfl (fun a w hb hd => ⟨(hd.1 rfl).1, (hd.2.1 rfl).1⟩)
  · exact opM_store hne rfl rfl rfl rfl (fun a w hb hd => ⟨hb 2 rfl, (hd.1 rfl).1⟩)
  · refine opM_E (by decide) hne ?_
    intro n ρ w hc hf hb hd hJ hbase hM hn
    exact E_assign rfl (hd.1 rfl) hJ
  intro v w' p' hT hz hp' hr' hM
  obtain ⟨cols, F', h1, h2, h3, h4⟩ := hT 17 (by decide)
  have hS2 := up w' p' _ Rep.str.rows [v 17] cols hr' hz hM ⟨F', h2, h3, h4⟩
  clear hS hSr up hRZ hzz
  have hS := hS2
  clear hS2
  simp only [putAll, Act.put, List.setIfInBounds_toArray, List.set_cons_zero, List.set_cons_succ]
  go_wp2_with fail
  refine bodyPost_ret (hS.resultCellTmp rfl rfl (by rfl)) rfl ?_
  exact ⟨_, v 17, ns, rows, real, cols, rfl, rfl, Hbd.out, h1, (Sat.pair (Sat.mkPadded (hS.sel (Γ' := [.own Rep.bool.rows [.slice B3 real.length d3] real, .own Rep.int.rows.rows [.slice B2 rows.length d2] rows, .own Rep.str.rows [.slice B1 ns.length d1] ns, .own Rep.str.rows [v 17] cols]) [5, 6, 7, 0] rfl (by decide)))).result⟩
end Go.Proofs.YtldknaajnnohiaaDoor
