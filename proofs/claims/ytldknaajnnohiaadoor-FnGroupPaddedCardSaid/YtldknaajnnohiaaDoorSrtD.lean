/- A padded table sorted by the program. -/
import Derived.Test.YtldknaajnnohiaaDoorSho
import Derived.Test.YtldknaajnnohiaaDoorSrtA
import Derived.Test.YtldknaajnnohiaaDoorSrtS
import Derived.Test.YtldknaajnnohiaaDoorSPl
import Derived.Test.YtldknaajnnohiaaDoorNtI
import Derived.Test.YtldknaajnnohiaaDoorNtI
import Derived.Test.YtldknaajnnohiaaDoorPSa
import Derived.Test.YtldknaajnnohiaaDoorNew
namespace Go.Proofs.YtldknaajnnohiaaDoor
open Go.RowKit

theorem Weak.pre {lt : Int → Int → Bool} (h : Weak lt) : Pre (leOf lt) := by
  constructor
  · intro x y
    unfold leOf
    cases hyx : lt y x
    · exact .inl rfl
    · exact .inr (h.asym y x hyx)
  · intro x y z h1 h2
    unfold leOf at h1 h2 ⊢
    cases hzx : lt z x
    · rfl
    · rcases h.neg z y x hzx with h3 | h3
      · rw [h2] at h3; cases h3
      · rw [h1] at h3; cases h3
theorem ltI_weak {c : Int} {down : Bool} {rows : List (List Int)} {real : List Bool} : Weak (ltI c down rows real) := ⟨fun x y => (ltR_weak c down).asym _ _, fun x y z => (ltR_weak c down).neg _ _ _⟩
set_option maxHeartbeats 8000000 in
set_option maxRecDepth 8000 in
theorem impl_sorted (w : World) (A1 A2 A3 : Option Addr) (c1 c2 c3 : Nat) (F G H' : List Nat) (ns : List ByteArray) (rows : List (List Int)) (real : List Bool) (col : ByteArray) (down : Bool) (hx : SliceHas Rep.str w F [.slice A1 ns.length c1] ns) (hy : SliceHas Rep.int.slice w G [.slice A2 rows.length c2] rows) (hz : SliceHas Rep.bool w H' [.slice A3 real.length c3] real) (hok : paddedOk (ns, rows, real) = true) :
    Calls Tryd.prog 99 #[.agg #[.slice A1 ns.length c1, .slice A2 rows.length c2, .slice A3 real.length c3], .string col, .bool down] w fun e w' => ∃ cs v, e = .returned (.tuple #[.agg cs.toArray, v]) ∧ cs.length = 3 ∧ Fresh (Rep.pair oPadded rAccess.rows) w w' (cs ++ [v]) (sortP (colOf ns col) down (ns, rows, real), pairF (netF rows.length)) := by
  obtain ⟨hnok, h256, hl, hrow⟩ := paddedOk_all4 hok
  obtain ⟨hn6, hrl⟩ := padded_rows6 hok
  have Hl := Lib.hid hl
  have Hrl := Lib.hid hrl
  have Hrow := Lib.hid hrow
  have hS : Sat w w [.ro Rep.str.slice [.slice A1 ns.length c1] ns, .ro Rep.int.slice.slice [.slice A2 rows.length c2] rows, .ro Rep.bool.slice [.slice A3 real.length c3] real] := (((Sat.nil w).arg hz).arg hy).arg hx
  clear hx hy hz hl hrow hrl hok hnok
  go_enter Tryd.func99, Tryd.ntmps99
  go_wp2_with (first | ((with_reducible show wpList _ _ _ (⟨_, Op.box _ _, _, _, _, _⟩ :: _) _ _); refine Does.list (does_box hS rfl rfl (by rfl)) rfl ?_; clear hS; rintro _ wx ⟨bo, rfl, hS, _⟩; (simp only [Act.put, sA, sZ, sS])) | ((with_reducible show wpList _ _ _ (⟨_, Op.load _ _, _, _, _, _⟩ :: _) _ _); (first | refine Gives.list (f_load hS rfl rfl (by rfl)) rfl ?_ | refine Gives.list (f_loadS hS rfl rfl (by rfl)) rfl ?_ | refine Gives.list (f_loadAt hS rfl rfl) rfl ?_ | refine Gives.list (f_loadAtS hS rfl rfl (by rfl)) rfl ?_ | refine Gives.list (f_loadAtF hS rfl rfl (by rfl)) rfl ?_); (simp only [Act.put, sA, sZ, sS])) | ((with_reducible show wpList _ _ _ (⟨_, Op.alloc _, _, _, _, _⟩ :: _) _ _); refine Does.list (does_alloc hS rfl (by rfl)) rfl ?_; clear hS; rintro _ wx ⟨ba, rfl, hS, _⟩; (simp only [Act.put, sA, sZ, sS])))
  obtain ⟨bz, rfl⟩ : ∃ bz, bz = ba := ⟨_, rfl⟩
  go_wp2_with (first | (go_at_call 162; refine (impl_rowOrder A1 c1 ns col down (hS.sel (Γ' := [.ro Rep.str.slice [.slice A1 ns.length c1] ns, .box bz [.slice none 0 0, .slice none 0 0, .slice none 0 0], .box bo [.slice A1 ns.length c1, .slice A2 rows.length c2, .slice A3 real.length c3], .ro Rep.int.slice.slice [.slice A2 rows.length c2] rows, .ro Rep.bool.slice [.slice A3 real.length c3] real]) [2, 0, 1, 3, 4] rfl (by decide))).mono ?_; clear hS; rintro e w' ⟨bat, bdn, rfl, hS⟩) | ((with_reducible show wpList _ _ _ (⟨_, Op.store _ _ _, _, _, _, _⟩ :: _) _ _); refine Does.list (f_store (u := .func _ _ _) hS rfl rfl rfl (by rfl) (by rfl)) rfl ?_; clear hS; rintro _ wx ⟨rfl, hS⟩; (simp only [sZ, sS] at hS); (simp only [Act.put, sA, sZ, sS])) | ((with_reducible show wpList _ _ _ (⟨_, Op.makeSlice _ _ _, _, _, _, _⟩ :: _) _ _); refine Does.list (does_make (e := Rep.int) (n := rows.length) (zx := 0) hS rfl rfl rfl rfl rfl (by decide) (fun _ => ⟨rfl, rfl, by unfold I64; omega⟩) (by decide) (by omega)) rfl ?_; clear hS; rintro _ wx ⟨bm, rfl, hS, _⟩; (simp only [Act.put, sA, sZ, sS])) | ((with_reducible show wpList _ _ _ (⟨_, Op.load _ _, _, _, _, _⟩ :: _) _ _); (first | refine Gives.list (f_load hS rfl rfl (by rfl)) rfl ?_ | refine Gives.list (f_loadS hS rfl rfl (by rfl)) rfl ?_ | refine Gives.list (f_loadAt hS rfl rfl) rfl ?_ | refine Gives.list (f_loadAtS hS rfl rfl (by rfl)) rfl ?_ | refine Gives.list (f_loadAtF hS rfl rfl (by rfl)) rfl ?_); (simp only [Act.put, sA, sZ, sS])) | ((with_reducible show wpList _ _ _ (⟨_, Op.alloc _, _, _, _, _⟩ :: _) _ _); refine Does.list (does_alloc hS rfl (by rfl)) rfl ?_; clear hS; rintro _ wx ⟨ba, rfl, hS, _⟩; (simp only [Act.put, sA, sZ, sS])))
  obtain ⟨bc, rfl⟩ : ∃ bc, bc = ba := ⟨_, rfl⟩
  replace hS : Sat w wx [.own Rep.int.rows [.slice (some ⟨bm, 0, none⟩) rows.length rows.length] (fillI 0 rows.length), .box bc [.func (.func 184) #[] #[.pointer (some ⟨bat, 0, none⟩), .pointer (some ⟨bdn, 0, none⟩)]], .box bat [.int .i64 (colOf ns col)], .box bdn [.bool down], .box bz [.slice none 0 0, .slice none 0 0, .slice none 0 0], .box bo [.slice A1 ns.length c1, .slice A2 rows.length c2, .slice A3 real.length c3], .ro Rep.str.slice [.slice A1 ns.length c1] ns, .ro Rep.int.slice.slice [.slice A2 rows.length c2] rows, .ro Rep.bool.slice [.slice A3 real.length c3] real] := by rw [fillI_zero]; exact hS.sel [0, 1, 2, 3, 5, 6, 4, 7, 8] rfl (by decide)
  go_loopw [25] (fun i wr => ∃ k : Nat, i = .int .i64 (k : Int) ∧ k ≤ rows.length ∧ Sat w wr [.own Rep.int.rows [.slice (some ⟨bm, 0, none⟩) rows.length rows.length] (fillI k rows.length), .box bc [.func (.func 184) #[] #[.pointer (some ⟨bat, 0, none⟩), .pointer (some ⟨bdn, 0, none⟩)]], .box bat [.int .i64 (colOf ns col)], .box bdn [.bool down], .box bz [.slice none 0 0, .slice none 0 0, .slice none 0 0], .box bo [.slice A1 ns.length c1, .slice A2 rows.length c2, .slice A3 real.length c3], .ro Rep.str.slice [.slice A1 ns.length c1] ns, .ro Rep.int.slice.slice [.slice A2 rows.length c2] rows, .ro Rep.bool.slice [.slice A3 real.length c3] real]) (fun i _ => rows.length - (intOf i).toNat)
  case atStart => exact ⟨0, rfl, Nat.zero_le _, hS⟩
  case round =>
    clear hS
    obtain ⟨k, rfl, hk, hS⟩ := hrel
    by_cases hlt : k < rows.length
    · have hltI : (k : Int) < (rows.length : Int) := by omega
      have H := Lib.hid (fillI_set hlt)
      go_wp2_with (first | ((with_reducible show wpList _ _ _ (⟨_, Op.store _ _ _, _, _, _, _⟩ :: _) _ _); refine Does.list (does_storeEl (e := Rep.int) (k := k) 0 (hS.int (n := (k : Int)) (by unfold I64; omega)) rfl (show _ = Value.pointer (some ⟨bm, 0 + k, none⟩) from (by rw [Nat.zero_add]; rfl)) rfl rfl rfl rfl hlt) rfl ?_; clear hS; rintro _ wx ⟨rfl, hS⟩; (simp only [sZ, sS] at hS); (simp only [Act.put, sA, sZ, sS])))
      go_roundw
      case rel => exact ⟨k + 1, by go_num, hlt, by rw [← H.out]; exact hS⟩
      case measure => simp [intOf]; omega
    obtain rfl : k = rows.length := by omega
    rw [fillI_end] at hS
    have hcol : colOf ns col = -1 ∨ ∃ j : Nat, colOf ns col = (j : Int) ∧ j < ns.length := by
      obtain ⟨k1, k2⟩ := colOf_bd (xs := ns) (x := col)
      by_cases h : 0 ≤ colOf ns col
      · exact .inr ⟨(colOf ns col).toNat, by omega, by omega⟩
      · exact .inl (by omega)
    have HC : Hid (CmpOk w [.box bc [.func (.func 184) #[] #[.pointer (some ⟨bat, 0, none⟩), .pointer (some ⟨bdn, 0, none⟩)]], .box bat [.int .i64 (colOf ns col)], .box bdn [.bool down], .box bz [.slice none 0 0, .slice none 0 0, .slice none 0 0], .box bo [.slice A1 ns.length c1, .slice A2 rows.length c2, .slice A3 real.length c3], .ro Rep.str.slice [.slice A1 ns.length c1] ns, .ro Rep.int.slice.slice [.slice A2 rows.length c2] rows, .ro Rep.bool.slice [.slice A3 real.length c3] real] bm 0 rows.length rows.length bo bc (fun x => ∃ i : Nat, x = (i : Int) ∧ i < rows.length) (ltI (colOf ns col) down rows real)) := Lib.hid (by
      intro wz xs hz x y hx hy
      obtain ⟨i, rfl, hi⟩ := hx
      obtain ⟨k, rfl, hk⟩ := hy
      obtain ⟨Fr, hFr⟩ := hz.has Rep.int.slice.slice [.slice A2 rows.length c2]
      obtain ⟨Fs, hFs⟩ := hz.has Rep.bool.slice [.slice A3 real.length c3]
      have hl := Hl.out
      refine (clo_sorted wz _ _ _ _ Fr Fs bo bc bat bdn (.slice A1 ns.length c1) A2 A3 c2 c3 rows real (colOf ns col) down (hz.boxR (i := 5) rfl) (hz.boxR (i := 1) rfl) (hz.boxR (i := 2) rfl) (hz.boxR (i := 3) rfl) hFr hFs hl ns.length Hrl.out hcol i k hi hk).mono ?_
      rintro e w' ⟨⟨r, rfl, hr⟩, hM⟩
      refine ⟨⟨r, rfl, ?_⟩, hM⟩
      rw [hr]
      unfold ltI
      rw [zAt_get hi (by omega), zAt_get hk (by omega)])
    clear hcol
    go_wp2_with (first | (go_at_call 163; refine (sortStable_w bm 0 rows.length rows.length bo bc (fun x => ∃ i : Nat, x = (i : Int) ∧ i < rows.length) (ltI (colOf ns col) down rows real) ltI_weak.pre HC.out (iota rows.length) iota_len (by omega) (fun z hz => iota_mem hz) hS).mono ?_; clear hS; rintro e w' ⟨rfl, Y, hYp, hYs, hS⟩) | (go_at_call 69; obtain ⟨Fq, hFq⟩ := hS.has Rep.str.slice [.slice A1 ns.length c1]; refine (impl_cloneNames' _ Fq _ ns hFq (by omega)).mono ?_; rintro e w' ⟨v1, rfl, hN⟩; replace hS := hS.fresh hN; clear hN hFq; obtain ⟨B1, d1, rfl⟩ := hS.formOwn 0 rfl) | ((with_reducible show wpList _ _ _ (⟨_, Op.load _ _, _, _, _, _⟩ :: _) _ _); (first | refine Gives.list (f_load hS rfl rfl (by rfl)) rfl ?_ | refine Gives.list (f_loadS hS rfl rfl (by rfl)) rfl ?_ | refine Gives.list (f_loadAt hS rfl rfl) rfl ?_ | refine Gives.list (f_loadAtS hS rfl rfl (by rfl)) rfl ?_ | refine Gives.list (f_loadAtF hS rfl rfl (by rfl)) rfl ?_); (simp only [Act.put, sA, sZ, sS])) | ((with_reducible show wpList _ _ _ (⟨_, Op.store _ _ _, _, _, _, _⟩ :: _) _ _); (first | refine Does.list (f_store hS rfl rfl rfl (by rfl) (by rfl)) rfl ?_ | refine Does.list (f_storeS hS rfl rfl rfl (by rfl) (by rfl) (by rfl)) rfl ?_); clear hS; rintro _ wx ⟨rfl, hS⟩; (simp only [sZ, sS] at hS); (simp only [Act.put, sA, sZ, sS])) | ((with_reducible show wpList _ _ _ (⟨_, Op.alloc _, _, _, _, _⟩ :: _) _ _); refine Does.list (does_alloc hS rfl (by rfl)) rfl ?_; clear hS; rintro _ wx ⟨ba, rfl, hS, _⟩; (simp only [Act.put, sA, sZ, sS])))
    have hYl : Y.length = rows.length := by rw [hYp.length_eq, iota_len]
    have HY := Lib.hid hYl
    have HYm : Hid (∀ x ∈ Y, ∃ i : Nat, x = (i : Int) ∧ i < rows.length) := Lib.hid (fun x hx => iota_mem (hYp.mem_iff.1 hx))
    have HE : Hid ((ns, Y.map (fun x => (zAt rows real x).1), Y.map (fun x => (zAt rows real x).2)) = sortP (colOf ns col) down (ns, rows, real)) := Lib.hid (sortP_places Hl.out hYp hYs)
    clear hYl hYp hYs HC
    replace hS := Sat.nilRow Rep.bool (Sat.nilRow Rep.int.rows hS)
    go_loopw [42] (fun iv wr => ∃ (k : Nat) (B2 : Option Addr) (d2 : Nat) (B3 : Option Addr) (d3 : Nat), iv = .int .i64 (k : Int) ∧ k ≤ rows.length ∧ Sat w wr [.box ba [.slice B1 ns.length d1, .slice B2 k d2, .slice B3 k d3], .own Rep.int.rows.rows [.slice B2 k d2] ((Y.take k).map (fun x => (zAt rows real x).1)), .own Rep.bool.rows [.slice B3 k d3] ((Y.take k).map (fun x => (zAt rows real x).2)), .own Rep.str.rows [.slice B1 ns.length d1] ns, .own Rep.int.rows [.slice (some ⟨bm, 0, none⟩) rows.length rows.length] Y, .box bc [.func (.func 184) #[] #[.pointer (some ⟨bat, 0, none⟩), .pointer (some ⟨bdn, 0, none⟩)]], .box bat [.int .i64 (colOf ns col)], .box bdn [.bool down], .box bz [.slice none 0 0, .slice none 0 0, .slice none 0 0], .box bo [.slice A1 ns.length c1, .slice A2 rows.length c2, .slice A3 real.length c3], .ro Rep.str.slice [.slice A1 ns.length c1] ns, .ro Rep.int.slice.slice [.slice A2 rows.length c2] rows, .ro Rep.bool.slice [.slice A3 real.length c3] real]) (fun iv _ => rows.length - (intOf iv).toNat)
    case atStart => exact ⟨0, none, 0, none, 0, rfl, Nat.zero_le _, hS.sel [2, 1, 0, 3, 4, 5, 6, 7, 8, 9, 10, 11, 12] rfl (by decide)⟩
    case round =>
      clear hS
      obtain ⟨k, B2, d2, B3, d3, rfl, hk, hS⟩ := hrel
      by_cases hlt : k < rows.length
      · have hltI : (k : Int) < (rows.length : Int) := by omega
        have hkY : k < Y.length := by rw [HY.out]; exact hlt
        obtain ⟨i, hxi, hi⟩ := HYm.out _ (List.getElem_mem hkY)
        have H1 : Hid ((Y.take k).map (fun x => (zAt rows real x).1) ++ [(zAt rows real (i : Int)).1] = (Y.take (k + 1)).map (fun x => (zAt rows real x).1)) := Lib.hid (by rw [List.take_succ_eq_append_getElem hkY, List.map_append, ← hxi]; rfl)
        have H2 : Hid ((Y.take k).map (fun x => (zAt rows real x).2) ++ [(zAt rows real (i : Int)).2] = (Y.take (k + 1)).map (fun x => (zAt rows real x).2)) := Lib.hid (by rw [List.take_succ_eq_append_getElem hkY, List.map_append, ← hxi]; rfl)
        have Hx : Hid (Y[k]? = some (i : Int)) := Lib.hid (by rw [List.getElem?_eq_getElem hkY, hxi])
        have hl := Hl.out
        have hi3 : i < real.length := by omega
        have hz := zAt_get hi hi3
        rw [hz] at H1 H2
        dsimp only at H1 H2
        have hro := Hrow.out i hi hi3
        have hrl := Hrl.out _ (List.getElem_mem hi)
        have hiI : (i : Int) < (rows.length : Int) := by omega
        have hi3I : (i : Int) < (real.length : Int) := by omega
        obtain ⟨ad3, rfl, hS⟩ := hS.elBool A3 real.length c3 (get_some hi3)
        obtain ⟨ad2, Ar, cr, rfl, j0, j1, hS⟩ := hS.elSlice Rep.int A2 rows.length c2 (get_some hi)
        obtain ⟨r, hr⟩ : ∃ r, rows[i] = r := ⟨_, rfl⟩
        obtain ⟨b, hb⟩ : ∃ b, real[i] = b := ⟨_, rfl⟩
        rw [hr] at hS H1 hro hrl j0
        rw [hb] at hS H2 hro
        have Hrn := Lib.hid hrl
        have hrb : r.length ≤ 1000000 := by omega
        clear hl hz hr hb hrl hkY hxi
        cases b
        · have Hz : Hid (List.replicate ns.length 0 = r) := Lib.hid (rowOkZ_zero (r := r) hro).symm
          clear hro
          go_wp2_with (first | ((with_reducible show Code.wp _ (Code.region 13 _ true) _ _ _); refine wp_region_drawn [(0, 0), (1, 1), (2, 0), (3, 0), (4, 1), (5, 0), (6, 1), (7, 0), (8, 0), (9, 1), (10, 3)] (by kernel_rfl) (by kernel_rfl) (by intro _ _ dq _ _ hq; cases dq <;> exact hq) ?_; replace hS := hS.mod (Mod.drew (Mod.refl _ _)); (generalize hwd : World.drew _ = wz at hS ⊢); clear hwd) | ((with_reducible show wpD _ _ _ ((_, 3) :: _) _ _); (refine D_callLoud (f := 121) (args := ?_) rfl rfl ?_ ?_); rotate_left 1; (show (Sem.run _ (execOp _ (Oper.mk _ _ _ _ _ _)) _) = _; go_simp; rfl); refine (impl_add_f ba k ns.length (.slice Ar r.length cr) B1 B2 B3 d1 d2 d3 _ _ (by omega) (by omega) (hS.sel (Γ' := [.box ba [.slice B1 ns.length d1, .slice B2 k d2, .slice B3 k d3], .own Rep.int.rows.rows [.slice B2 k d2] ((Y.take k).map (fun x => (zAt rows real x).1)), .own Rep.bool.rows [.slice B3 k d3] ((Y.take k).map (fun x => (zAt rows real x).2)), .ro Rep.int.slice [.slice Ar r.length cr] r, .own Rep.str.rows [.slice B1 ns.length d1] ns, .own Rep.int.rows [.slice (some ⟨bm, 0, none⟩) rows.length rows.length] Y, .box bc [.func (.func 184) #[] #[.pointer (some ⟨bat, 0, none⟩), .pointer (some ⟨bdn, 0, none⟩)]], .box bat [.int .i64 (colOf ns col)], .box bdn [.bool down], .box bz [.slice none 0 0, .slice none 0 0, .slice none 0 0], .box bo [.slice A1 ns.length c1, .slice (some ad2) rows.length c2, .slice (some ad3) real.length c3], .ro Rep.str.slice [.slice A1 ns.length c1] ns, .ro Rep.int.slice.slice [.slice (some ad2) rows.length c2] rows, .ro Rep.bool.slice [.slice (some ad3) real.length c3] real]) [3, 4, 5, 1, 6, 7, 8, 9, 10, 11, 12, 13, 14, 15] rfl (by decide))).mono ?_; clear hS; rintro e wy ⟨rfl, B2', d2', B3', d3', hS⟩; refine ⟨_, rfl, ?_⟩; (first | show wpD _ _ _ _ (Act.put _ (some _) _) _ | show wpD _ _ _ _ (Act.put _ none _) _); (simp only [Act.put, sA, sZ, sS])) | ((with_reducible show wpD _ _ _ [] _ _); refine D_nil ?_) | ((with_reducible show wpD _ _ _ ((_, 0) :: _) _ _); (first | (refine D_skip rfl rfl ?_; (first | show wpD _ _ _ _ (Act.put _ (some _) _) _ | show wpD _ _ _ _ (Act.put _ none _) _); (simp only [Act.put, sA, sZ, sS])) | (refine D_pure (v := ?_) rfl rfl (fun wq => ?_) ?_; rotate_left 1; (show (Sem.run _ (execOp _ (Oper.mk _ _ _ _ _ _)) _) = _; go_simp; (try go_bits); with_reducible rfl); (first | show wpD _ _ _ _ (Act.put _ (some _) _) _ | show wpD _ _ _ _ (Act.put _ none _) _); (simp only [Act.put, sA, sZ, sS])))) | ((with_reducible show wpD _ _ _ ((_, 1) :: _) _ _); (first | (refine D_skip rfl rfl ?_; (first | show wpD _ _ _ _ (Act.put _ (some _) _) _ | show wpD _ _ _ _ (Act.put _ none _) _); (simp only [Act.put, sA, sZ, sS])) | ((first | refine D_load rfl rfl (fun x hx => f_load (hS.mod hx) rfl rfl (by rfl)) ?_ | refine D_load rfl rfl (fun x hx => f_loadS (hS.mod hx) rfl rfl (by rfl)) ?_ | refine D_load rfl rfl (fun x hx => f_loadAt (hS.mod hx) rfl rfl) ?_ | refine D_load rfl rfl (fun x hx => f_loadAtS (hS.mod hx) rfl rfl (by rfl)) ?_ | refine D_load rfl rfl (fun x hx => f_loadAtF (hS.mod hx) rfl rfl (by rfl)) ?_); (first | show wpD _ _ _ _ (Act.put _ (some _) _) _ | show wpD _ _ _ _ (Act.put _ none _) _); (simp only [Act.put, sA, sZ, sS])))) | ((with_reducible show wpList _ _ _ (⟨_, Op.load _ _, _, _, _, _⟩ :: _) _ _); refine Gives.list (f_loadRow (g := bm) (off := 0) (k := k) (n := rows.length) (c := rows.length) hS rfl (show _ = Value.pointer (some ⟨bm, 0 + k, none⟩) from (by rw [Nat.zero_add]; rfl)) Hx.out) rfl ?_; (simp only [Act.put, sA, sZ, sS])))
          go_roundw
          case rel => exact ⟨k + 1, B2', d2', B3', d3', by go_num, hlt, by rw [← H1.out, ← H2.out, ← Hz.out]; exact hS.sel [0, 1, 2, 4, 5, 6, 7, 8, 9, 10, 11, 12, 13] rfl (by decide)⟩
          case measure => simp [intOf]; omega
        · clear hro
          go_wp2_with (first | ((with_reducible show Code.wp _ (Code.region 13 _ true) _ _ _); refine wp_region_drawn [(0, 0), (1, 1), (2, 0), (3, 0), (4, 1), (5, 0), (6, 1), (7, 0), (8, 0), (9, 1), (10, 3)] (by kernel_rfl) (by kernel_rfl) (by intro _ _ dq _ _ hq; cases dq <;> exact hq) ?_; replace hS := hS.mod (Mod.drew (Mod.refl _ _)); (generalize hwd : World.drew _ = wz at hS ⊢); clear hwd) | ((with_reducible show wpD _ _ _ ((_, 3) :: _) _ _); (refine D_callLoud (f := 121) (args := ?_) rfl rfl ?_ ?_); rotate_left 1; (show (Sem.run _ (execOp _ (Oper.mk _ _ _ _ _ _)) _) = _; go_simp; rfl); refine (impl_add_t ba k (.slice B1 ns.length d1) B2 B3 Ar d2 d3 cr _ _ r (by omega) hrb (hS.sel (Γ' := [.box ba [.slice B1 ns.length d1, .slice B2 k d2, .slice B3 k d3], .own Rep.int.rows.rows [.slice B2 k d2] ((Y.take k).map (fun x => (zAt rows real x).1)), .own Rep.bool.rows [.slice B3 k d3] ((Y.take k).map (fun x => (zAt rows real x).2)), .ro Rep.int.slice [.slice Ar r.length cr] r, .own Rep.str.rows [.slice B1 ns.length d1] ns, .own Rep.int.rows [.slice (some ⟨bm, 0, none⟩) rows.length rows.length] Y, .box bc [.func (.func 184) #[] #[.pointer (some ⟨bat, 0, none⟩), .pointer (some ⟨bdn, 0, none⟩)]], .box bat [.int .i64 (colOf ns col)], .box bdn [.bool down], .box bz [.slice none 0 0, .slice none 0 0, .slice none 0 0], .box bo [.slice A1 ns.length c1, .slice (some ad2) rows.length c2, .slice (some ad3) real.length c3], .ro Rep.str.slice [.slice A1 ns.length c1] ns, .ro Rep.int.slice.slice [.slice (some ad2) rows.length c2] rows, .ro Rep.bool.slice [.slice (some ad3) real.length c3] real]) [3, 4, 5, 1, 6, 7, 8, 9, 10, 11, 12, 13, 14, 15] rfl (by decide))).mono ?_; clear hS; rintro e wy ⟨rfl, B2', d2', B3', d3', hS⟩; refine ⟨_, rfl, ?_⟩; (first | show wpD _ _ _ _ (Act.put _ (some _) _) _ | show wpD _ _ _ _ (Act.put _ none _) _); (simp only [Act.put, sA, sZ, sS])) | ((with_reducible show wpD _ _ _ [] _ _); refine D_nil ?_) | ((with_reducible show wpD _ _ _ ((_, 0) :: _) _ _); (first | (refine D_skip rfl rfl ?_; (first | show wpD _ _ _ _ (Act.put _ (some _) _) _ | show wpD _ _ _ _ (Act.put _ none _) _); (simp only [Act.put, sA, sZ, sS])) | (refine D_pure (v := ?_) rfl rfl (fun wq => ?_) ?_; rotate_left 1; (show (Sem.run _ (execOp _ (Oper.mk _ _ _ _ _ _)) _) = _; go_simp; (try go_bits); with_reducible rfl); (first | show wpD _ _ _ _ (Act.put _ (some _) _) _ | show wpD _ _ _ _ (Act.put _ none _) _); (simp only [Act.put, sA, sZ, sS])))) | ((with_reducible show wpD _ _ _ ((_, 1) :: _) _ _); (first | (refine D_skip rfl rfl ?_; (first | show wpD _ _ _ _ (Act.put _ (some _) _) _ | show wpD _ _ _ _ (Act.put _ none _) _); (simp only [Act.put, sA, sZ, sS])) | ((first | refine D_load rfl rfl (fun x hx => f_load (hS.mod hx) rfl rfl (by rfl)) ?_ | refine D_load rfl rfl (fun x hx => f_loadS (hS.mod hx) rfl rfl (by rfl)) ?_ | refine D_load rfl rfl (fun x hx => f_loadAt (hS.mod hx) rfl rfl) ?_ | refine D_load rfl rfl (fun x hx => f_loadAtS (hS.mod hx) rfl rfl (by rfl)) ?_ | refine D_load rfl rfl (fun x hx => f_loadAtF (hS.mod hx) rfl rfl (by rfl)) ?_); (first | show wpD _ _ _ _ (Act.put _ (some _) _) _ | show wpD _ _ _ _ (Act.put _ none _) _); (simp only [Act.put, sA, sZ, sS])))) | ((with_reducible show wpList _ _ _ (⟨_, Op.load _ _, _, _, _, _⟩ :: _) _ _); refine Gives.list (f_loadRow (g := bm) (off := 0) (k := k) (n := rows.length) (c := rows.length) hS rfl (show _ = Value.pointer (some ⟨bm, 0 + k, none⟩) from (by rw [Nat.zero_add]; rfl)) Hx.out) rfl ?_; (simp only [Act.put, sA, sZ, sS])))
          go_roundw
          case rel => exact ⟨k + 1, B2', d2', B3', d3', by go_num, hlt, by rw [← H1.out, ← H2.out]; exact hS.sel [0, 1, 2, 4, 5, 6, 7, 8, 9, 10, 11, 12, 13] rfl (by decide)⟩
          case measure => simp [intOf]; omega
      obtain rfl : k = rows.length := by omega
      have hT : Y.take rows.length = Y := List.take_of_length_le (by rw [HY.out]; exact Nat.le_refl _)
      rw [hT] at hS
      have HNL := Lib.hid (netF_len h256)
      clear hT
      go_wp2_with (first | ((with_reducible show Code.wp _ (Code.region 15 _ true) _ _ _); refine wp_region_drawn [(0, 1), (1, 0), (2, 1), (3, 0), (4, 2), (5, 2), (6, 3), (7, 0)] (by kernel_rfl) (by kernel_rfl) (by intro _ _ dq _ _ hq; cases dq <;> exact hq) ?_; replace hS := hS.mod (Mod.drew (Mod.refl _ _)); (generalize hwd : World.drew _ = wz at hS ⊢); clear hwd) | ((with_reducible show wpD _ _ _ ((_, 2) :: _) _ _); (refine D_call (f := 54) (args := ?_) rfl rfl ?_ ?_); rotate_left 1; (show (Sem.run _ (execOp _ (Oper.mk _ _ _ _ _ _)) _) = _; go_simp; rfl); refine (impl_NetworkOf _ rows.length (by omega)).mono ?_; rintro e wy ⟨v1, rfl, hN⟩; have hM := hN.mod0; replace hS := hS.fresh hN; clear hN; obtain ⟨A9, c9, rfl⟩ := hS.formOwn 0 rfl; refine ⟨_, rfl, hM, ?_⟩; clear hM; (first | show wpD _ _ _ _ (Act.put _ (some _) _) _ | show wpD _ _ _ _ (Act.put _ none _) _); (simp only [Act.put, sA, sZ, sS])) | ((with_reducible show wpD _ _ _ ((_, 2) :: _) _ _); (refine D_call (f := 58) (args := ?_) rfl rfl ?_ ?_); rotate_left 1; (show (Sem.run _ (execOp _ (Oper.mk _ _ _ _ _ _)) _) = _; go_simp; rfl); obtain ⟨Fq, hFq⟩ := hS.has rPair.slice [.slice A9 (netF rows.length).length c9]; refine (impl_PairTraceR _ Fq _ _ hFq (by have := HNL.out; omega)).mono ?_; rintro e wy ⟨v2, rfl, hN⟩; have hM := hN.mod0; replace hS := hS.fresh hN; clear hN hFq; refine ⟨_, rfl, hM, ?_⟩; clear hM; (first | show wpD _ _ _ _ (Act.put _ (some _) _) _ | show wpD _ _ _ _ (Act.put _ none _) _); (simp only [Act.put, sA, sZ, sS])) | ((with_reducible show wpD _ _ _ ((_, 3) :: _) _ _); refine D_loud rfl rfl (f_storeS hS rfl rfl rfl (by rfl) (by rfl) (by rfl)) ?_; clear hS; rintro _ wx ⟨rfl, hS⟩; (simp only [sZ, sS] at hS); (first | show wpD _ _ _ _ (Act.put _ (some _) _) _ | show wpD _ _ _ _ (Act.put _ none _) _); (simp only [Act.put, sA, sZ, sS])) | ((with_reducible show wpD _ _ _ [] _ _); refine D_nil ?_) | ((with_reducible show wpD _ _ _ ((_, 0) :: _) _ _); (first | (refine D_skip rfl rfl ?_; (first | show wpD _ _ _ _ (Act.put _ (some _) _) _ | show wpD _ _ _ _ (Act.put _ none _) _); (simp only [Act.put, sA, sZ, sS])) | (refine D_pure (v := ?_) rfl rfl (fun wq => ?_) ?_; rotate_left 1; (show (Sem.run _ (execOp _ (Oper.mk _ _ _ _ _ _)) _) = _; go_simp; (try go_bits); with_reducible rfl); (first | show wpD _ _ _ _ (Act.put _ (some _) _) _ | show wpD _ _ _ _ (Act.put _ none _) _); (simp only [Act.put, sA, sZ, sS])))) | ((with_reducible show wpD _ _ _ ((_, 1) :: _) _ _); (first | (refine D_skip rfl rfl ?_; (first | show wpD _ _ _ _ (Act.put _ (some _) _) _ | show wpD _ _ _ _ (Act.put _ none _) _); (simp only [Act.put, sA, sZ, sS])) | ((first | refine D_load rfl rfl (fun x hx => f_load (hS.mod hx) rfl rfl (by rfl)) ?_ | refine D_load rfl rfl (fun x hx => f_loadS (hS.mod hx) rfl rfl (by rfl)) ?_ | refine D_load rfl rfl (fun x hx => f_loadAt (hS.mod hx) rfl rfl) ?_ | refine D_load rfl rfl (fun x hx => f_loadAtS (hS.mod hx) rfl rfl (by rfl)) ?_ | refine D_load rfl rfl (fun x hx => f_loadAtF (hS.mod hx) rfl rfl (by rfl)) ?_); (first | show wpD _ _ _ _ (Act.put _ (some _) _) _ | show wpD _ _ _ _ (Act.put _ none _) _); (simp only [Act.put, sA, sZ, sS])))))
      refine bodyPost_ret (hS.resultCellTmp rfl rfl (by rfl)) rfl ?_
      refine ⟨_, _, rfl, rfl, ?_⟩
      rw [← HE.out]
      exact (Sat.pair (Sat.mkPadded (hS.sel (Γ' := [.own Rep.bool.rows [.slice B3 rows.length d3] (Y.map (fun x => (zAt rows real x).2)), .own Rep.int.rows.rows [.slice B2 rows.length d2] (Y.map (fun x => (zAt rows real x).1)), .own Rep.str.rows [.slice B1 ns.length d1] ns, .own rAccess.rows [v2] (pairF (netF rows.length))]) [4, 3, 5, 0] rfl (by decide)))).result
end Go.Proofs.YtldknaajnnohiaaDoor
