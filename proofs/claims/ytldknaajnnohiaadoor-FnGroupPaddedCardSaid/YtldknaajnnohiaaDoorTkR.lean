/- TakeReal: the program's contract; tables and marks compared. -/
import Derived.Test.YtldknaajnnohiaaDoorSho
import Derived.Test.YtldknaajnnohiaaDoorCutI
import Derived.Test.YtldknaajnnohiaaDoorNew
import Derived.Test.YtldknaajnnohiaaDoorPSa
import Derived.Test.YtldknaajnnohiaaDoorCat
import Derived.Deep.DeepCutAuto
namespace Go.Proofs.YtldknaajnnohiaaDoor
open Go.RowKit

/-- The real rows. -/
def realRows (rows : List (List Int)) (real : List Bool) : List (List Int) := ((rows.zip real).filter (·.2)).map (·.1)
def zeroT : TableD := ([], [])
/-- What TakeReal returns. -/
def tkrF (p : PaddedD) : TableD × Bool := if paddedOk p && decide (p.2.2.countP id ≤ 16) then ((p.1, realRows p.2.1 p.2.2), true) else (zeroT, false)
section
variable {rows : List (List Int)} {real : List Bool} {k : Nat} {r : List Int} {b : Bool}
theorem tkrF_p {p : PaddedD} (h : paddedOk p = false) : tkrF p = (zeroT, false) := by unfold tkrF; rw [h]; rfl
theorem tkrF_n {p : PaddedD} (h : ¬ p.2.2.countP id ≤ 16) : tkrF p = (zeroT, false) := by unfold tkrF; rw [decide_eq_false h]; simp
theorem tkrF_t {p : PaddedD} (h : paddedOk p = true) (h2 : p.2.2.countP id ≤ 16) : tkrF p = ((p.1, realRows p.2.1 p.2.2), true) := by unfold tkrF; rw [h, decide_eq_true h2]; rfl
def realTo (rows : List (List Int)) (real : List Bool) (k : Nat) : List (List Int) := (((rows.zip real).take k).filter (·.2)).map (·.1)
theorem realTo_t (h1 : rows[k]? = some r) (h2 : real[k]? = some true) : realTo rows real k ++ [r] = realTo rows real (k + 1) := by
  have h : (rows.zip real)[k]? = some (r, true) := by rw [List.getElem?_zip_eq_some]; exact ⟨h1, h2⟩
  obtain ⟨hl, he⟩ := List.getElem?_eq_some_iff.1 h
  unfold realTo
  rw [List.take_succ_eq_append_getElem hl, he, List.filter_append, List.map_append]; rfl
theorem realTo_f (h1 : rows[k]? = some r) (h2 : real[k]? = some false) : realTo rows real k = realTo rows real (k + 1) := by
  have h : (rows.zip real)[k]? = some (r, false) := by rw [List.getElem?_zip_eq_some]; exact ⟨h1, h2⟩
  obtain ⟨hl, he⟩ := List.getElem?_eq_some_iff.1 h
  unfold realTo
  rw [List.take_succ_eq_append_getElem hl, he, List.filter_append, List.map_append]
  show _ = _ ++ []
  rw [List.append_nil]
theorem realTo_end (h : real.length = rows.length) : realTo rows real rows.length = realRows rows real := by
  unfold realTo realRows
  rw [List.take_of_length_le (by rw [List.length_zip, h, Nat.min_self]; exact Nat.le_refl _)]
end
set_option maxHeartbeats 4000000 in
set_option maxRecDepth 8000 in
theorem impl_TakeReal' (w : World) (hR : ResOk w) (A1 A2 A3 : Option Addr) (c1 c2 c3 : Nat) (F G H' : List Nat) (ns : List ByteArray) (rows : List (List Int)) (real : List Bool) (hx : SliceHas Rep.str w F [.slice A1 ns.length c1] ns) (hy : SliceHas Rep.int.slice w G [.slice A2 rows.length c2] rows) (hz : SliceHas Rep.bool w H' [.slice A3 real.length c3] real) :
    Calls Tryd.prog 31 #[.agg #[.slice A1 ns.length c1, .slice A2 rows.length c2, .slice A3 real.length c3]] w fun e w' => ∃ cs, e = .returned (.tuple #[.agg cs.toArray, .bool (tkrF (ns, rows, real)).2]) ∧ Fresh oTable w w' cs (tkrF (ns, rows, real)).1 := by
  have hS : Sat w w [.ro Rep.str.slice [.slice A1 ns.length c1] ns, .ro Rep.int.slice.slice [.slice A2 rows.length c2] rows, .ro Rep.bool.slice [.slice A3 real.length c3] real] := (((Sat.nil w).arg hz).arg hy).arg hx
  clear hx hy hz
  go_enter Tryd.func31, Tryd.ntmps31
  go_upto_region 1 with (first | ((with_reducible show wpList _ _ _ (⟨_, Op.box _ _, _, _, _, _⟩ :: _) _ _); refine Does.list (does_box hS rfl rfl (by rfl)) rfl ?_; clear hS; rintro _ wx ⟨bo, rfl, hS, _⟩; (simp only [Act.put, sA, sZ, sS])) | ((with_reducible show wpList _ _ _ (⟨_, Op.alloc _, _, _, _, _⟩ :: _) _ _); refine Does.list (does_alloc hS rfl (by rfl)) rfl ?_; clear hS; rintro _ wx ⟨ba, rfl, hS, _⟩; (simp only [Act.put, sA, sZ, sS])))
  obtain ⟨bz, rfl⟩ : ∃ bz, bz = ba := ⟨_, rfl⟩
  obtain ⟨m, hm⟩ : ∃ m, real.countP id = m := ⟨_, rfl⟩
  have Hn := Lib.hid hm
  cases hp : paddedOk (ns, rows, real)
  · have H := Lib.hid (tkrF_p hp)
    have Hp := Lib.hid hp
    clear hp hm
    go_wp2_with (first | (go_at_call 20; obtain ⟨Fq, hFq⟩ := hS.has Rep.str.slice [.slice A1 ns.length c1]; obtain ⟨Fr, hFr⟩ := hS.has Rep.int.slice.slice [.slice A2 rows.length c2]; obtain ⟨Fs, hFs⟩ := hS.has Rep.bool.slice [.slice A3 real.length c3]; refine (impl_PaddedValid' _ (hR.mod0 hS.mod0) A1 A2 A3 c1 c2 c3 Fq Fr Fs ns rows real hFq hFr hFs).mono ?_; rintro e w' ⟨rfl, hM⟩; replace hS := hS.mod hM; clear hM hFq hFr hFs; (simp only [Hp.out])) | ((with_reducible show wpList _ _ _ (⟨_, Op.load _ _, _, _, _, _⟩ :: _) _ _); (first | refine Gives.list (f_load hS rfl rfl (by rfl)) rfl ?_ | refine Gives.list (f_loadS hS rfl rfl (by rfl)) rfl ?_ | refine Gives.list (f_loadAt hS rfl rfl) rfl ?_ | refine Gives.list (f_loadAtS hS rfl rfl (by rfl)) rfl ?_ | refine Gives.list (f_loadAtF hS rfl rfl (by rfl)) rfl ?_); (simp only [Act.put, sA, sZ, sS])) | ((with_reducible show wpList _ _ _ (⟨_, Op.store _ _ _, _, _, _, _⟩ :: _) _ _); (first | refine Does.list (f_store hS rfl rfl rfl (by rfl) (by rfl)) rfl ?_ | refine Does.list (f_storeS hS rfl rfl rfl (by rfl) (by rfl) (by rfl)) rfl ?_); clear hS; rintro _ wx ⟨rfl, hS⟩; (simp only [sZ, sS] at hS); (simp only [Act.put, sA, sZ, sS])))
    (try simp only [Exit.inBlock, Exit.then]); refine bodyPost_ret (hS.resultCellTmp rfl rfl (by rfl)) rfl ?_
    rw [H.out]
    exact ⟨_, rfl, (Sat.mkTable (Sat.nilRow Rep.int.rows (Sat.nilRow Rep.str hS))).result⟩
  have Hp := Lib.hid hp
  by_cases h16 : m ≤ 16
  case neg =>
    have H := Lib.hid (tkrF_n (p := (ns, rows, real)) (by dsimp only; rw [hm]; exact h16))
    have h16I : (16 : Int) < (m : Int) := by omega
    clear hp hm
    go_wp2_with (first | (go_at_call 20; obtain ⟨Fq, hFq⟩ := hS.has Rep.str.slice [.slice A1 ns.length c1]; obtain ⟨Fr, hFr⟩ := hS.has Rep.int.slice.slice [.slice A2 rows.length c2]; obtain ⟨Fs, hFs⟩ := hS.has Rep.bool.slice [.slice A3 real.length c3]; refine (impl_PaddedValid' _ (hR.mod0 hS.mod0) A1 A2 A3 c1 c2 c3 Fq Fr Fs ns rows real hFq hFr hFs).mono ?_; rintro e w' ⟨rfl, hM⟩; replace hS := hS.mod hM; clear hM hFq hFr hFs; (simp only [Hp.out])) | (go_at_call 92; obtain ⟨Fs, hFs⟩ := hS.has Rep.bool.slice [.slice A3 real.length c3]; refine (impl_reals _ A1 A2 A3 _ _ _ c1 c2 c3 Fs real hFs).mono ?_; rintro e w' ⟨rfl, hM⟩; replace hS := hS.mod hM; clear hM hFs; (simp only [Hn.out])) | ((with_reducible show wpList _ _ _ (⟨_, Op.load _ _, _, _, _, _⟩ :: _) _ _); (first | refine Gives.list (f_load hS rfl rfl (by rfl)) rfl ?_ | refine Gives.list (f_loadS hS rfl rfl (by rfl)) rfl ?_ | refine Gives.list (f_loadAt hS rfl rfl) rfl ?_ | refine Gives.list (f_loadAtS hS rfl rfl (by rfl)) rfl ?_ | refine Gives.list (f_loadAtF hS rfl rfl (by rfl)) rfl ?_); (simp only [Act.put, sA, sZ, sS])) | ((with_reducible show wpList _ _ _ (⟨_, Op.store _ _ _, _, _, _, _⟩ :: _) _ _); (first | refine Does.list (f_store hS rfl rfl rfl (by rfl) (by rfl)) rfl ?_ | refine Does.list (f_storeS hS rfl rfl rfl (by rfl) (by rfl) (by rfl)) rfl ?_); clear hS; rintro _ wx ⟨rfl, hS⟩; (simp only [sZ, sS] at hS); (simp only [Act.put, sA, sZ, sS])))
    (try simp only [Exit.inBlock, Exit.then]); refine bodyPost_ret (hS.resultCellTmp rfl rfl (by rfl)) rfl ?_
    rw [H.out]
    exact ⟨_, rfl, (Sat.mkTable (Sat.nilRow Rep.int.rows (Sat.nilRow Rep.str hS))).result⟩
  have H := Lib.hid (tkrF_t hp (by dsimp only; rw [hm]; exact h16))
  have h16I : ¬ (16 : Int) < (m : Int) := by omega
  obtain ⟨hn6, hrl⟩ := padded_rows6 hp
  obtain ⟨h256, hal⟩ := padded_lenC hp
  have Hrl := Lib.hid hrl
  have Hal := Lib.hid hal
  clear hp hm hrl hal
  go_wp2_with (first | (go_at_call 20; obtain ⟨Fq, hFq⟩ := hS.has Rep.str.slice [.slice A1 ns.length c1]; obtain ⟨Fr, hFr⟩ := hS.has Rep.int.slice.slice [.slice A2 rows.length c2]; obtain ⟨Fs, hFs⟩ := hS.has Rep.bool.slice [.slice A3 real.length c3]; refine (impl_PaddedValid' _ (hR.mod0 hS.mod0) A1 A2 A3 c1 c2 c3 Fq Fr Fs ns rows real hFq hFr hFs).mono ?_; rintro e w' ⟨rfl, hM⟩; replace hS := hS.mod hM; clear hM hFq hFr hFs; (simp only [Hp.out])) | (go_at_call 92; obtain ⟨Fs, hFs⟩ := hS.has Rep.bool.slice [.slice A3 real.length c3]; refine (impl_reals _ A1 A2 A3 _ _ _ c1 c2 c3 Fs real hFs).mono ?_; rintro e w' ⟨rfl, hM⟩; replace hS := hS.mod hM; clear hM hFs; (simp only [Hn.out])) | (go_at_call 69; obtain ⟨Fq, hFq⟩ := hS.has Rep.str.slice [.slice A1 ns.length c1]; refine (impl_cloneNames' _ Fq _ ns hFq (by omega)).mono ?_; rintro e w' ⟨v1, rfl, hN⟩; replace hS := hS.fresh hN; clear hN hFq; obtain ⟨B1, d1, rfl⟩ := hS.formOwn 0 rfl) | ((with_reducible show wpList _ _ _ (⟨_, Op.load _ _, _, _, _, _⟩ :: _) _ _); (first | refine Gives.list (f_load hS rfl rfl (by rfl)) rfl ?_ | refine Gives.list (f_loadS hS rfl rfl (by rfl)) rfl ?_ | refine Gives.list (f_loadAt hS rfl rfl) rfl ?_ | refine Gives.list (f_loadAtS hS rfl rfl (by rfl)) rfl ?_ | refine Gives.list (f_loadAtF hS rfl rfl (by rfl)) rfl ?_); (simp only [Act.put, sA, sZ, sS])) | ((with_reducible show wpList _ _ _ (⟨_, Op.store _ _ _, _, _, _, _⟩ :: _) _ _); (first | refine Does.list (f_store hS rfl rfl rfl (by rfl) (by rfl)) rfl ?_ | refine Does.list (f_storeS hS rfl rfl rfl (by rfl) (by rfl) (by rfl)) rfl ?_); clear hS; rintro _ wx ⟨rfl, hS⟩; (simp only [sZ, sS] at hS); (simp only [Act.put, sA, sZ, sS])) | ((with_reducible show wpList _ _ _ (⟨_, Op.alloc _, _, _, _, _⟩ :: _) _ _); refine Does.list (does_alloc hS rfl (by rfl)) rfl ?_; clear hS; rintro _ wx ⟨ba, rfl, hS, _⟩; (simp only [Act.put, sA, sZ, sS])))
  replace hS := Sat.nilRow Rep.int.rows hS
  go_loopw [23] (fun iv wr => ∃ (k q : Nat) (B2 : Option Addr) (d2 : Nat), iv = .int .i64 k ∧ k ≤ rows.length ∧ q ≤ k ∧ Sat w wr [.box ba [.slice B1 ns.length d1, .slice B2 q d2], .own Rep.int.rows.rows [.slice B2 q d2] (realTo rows real k), .own Rep.str.rows [.slice B1 ns.length d1] ns, .box bz [.slice none 0 0, .slice none 0 0], .box bo [.slice A1 ns.length c1, .slice A2 rows.length c2, .slice A3 real.length c3], .ro Rep.str.slice [.slice A1 ns.length c1] ns, .ro Rep.int.slice.slice [.slice A2 rows.length c2] rows, .ro Rep.bool.slice [.slice A3 real.length c3] real]) (fun iv _ => rows.length - (intOf iv).toNat)
  case atStart => exact ⟨0, 0, none, 0, rfl, Nat.zero_le _, Nat.le_refl _, hS.sel [1, 0, 2, 3, 4, 5, 6, 7] rfl (by decide)⟩
  case round =>
    clear hS
    obtain ⟨k, q, B2, d2, rfl, hk, hq, hS⟩ := hrel
    by_cases hlt : k < rows.length
    · have hltI : (k : Int) < (rows.length : Int) := by omega
      have hkr : k < real.length := by rw [Hal.out]; exact hlt
      have hkrI : (k : Int) < (real.length : Int) := by omega
      obtain ⟨r, hr⟩ : ∃ x, rows[k] = x := ⟨_, rfl⟩
      obtain ⟨b, hb⟩ : ∃ x, real[k] = x := ⟨_, rfl⟩
      have hrk : rows[k]? = some r := by rw [get_some hlt, hr]
      have hbk : real[k]? = some b := by rw [get_some hkr, hb]
      have hrl : r.length ≤ 6 := by rw [← hr, Hrl.out _ (List.getElem_mem hlt)]; exact hn6
      have Hrk := Lib.hid hrk
      have Hbk := Lib.hid hbk
      obtain ⟨ad2, Ar, cr, rfl, j0, j1, hS⟩ := hS.elSlice Rep.int A2 rows.length c2 hrk
      obtain ⟨ad3, rfl, hS⟩ := hS.elBool A3 real.length c3 hbk
      clear hr hb hrk hbk
      cases b
      · have HV := Lib.hid (realTo_f Hrk.out Hbk.out)
        go_wp2_with (first | ((with_reducible show wpList _ _ _ (⟨_, Op.load _ _, _, _, _, _⟩ :: _) _ _); (first | refine Gives.list (f_load hS rfl rfl (by rfl)) rfl ?_ | refine Gives.list (f_loadS hS rfl rfl (by rfl)) rfl ?_ | refine Gives.list (f_loadAt hS rfl rfl) rfl ?_ | refine Gives.list (f_loadAtS hS rfl rfl (by rfl)) rfl ?_ | refine Gives.list (f_loadAtF hS rfl rfl (by rfl)) rfl ?_); (simp only [Act.put, sA, sZ, sS])))
        go_roundw
        case rel => exact ⟨k + 1, q, B2, d2, by go_num, hlt, by omega, by rw [← HV.out]; exact hS.sel [3, 4, 5, 6, 7, 8, 9, 10] rfl (by decide)⟩
        case measure => simp [intOf]; omega
      · have HV := Lib.hid (realTo_t Hrk.out Hbk.out)
        go_wp2_with (first | ((with_reducible show Code.wp _ (Code.region 8 _ true) _ _ _); refine wp_region_drawn [(0, 0), (1, 1), (2, 0), (3, 2), (4, 2), (5, 3), (6, 0), (7, 3)] (by kernel_rfl) (by kernel_rfl) (by intro _ _ dq _ _ hq; cases dq <;> exact hq) ?_; replace hS := hS.mod (Mod.drew (Mod.refl _ _)); (generalize hwd : World.drew _ = wz at hS ⊢); clear hwd) | ((with_reducible show wpD _ _ _ ((_, 2) :: _) _ _); (refine D_call (f := 93) (args := ?_) rfl rfl ?_ ?_); rotate_left 1; (show (Sem.run _ (execOp _ (Oper.mk _ _ _ _ _ _)) _) = _; go_simp; rfl); obtain ⟨Fq, hFq⟩ := hS.has Rep.int.slice [.slice Ar r.length cr]; refine (sl_Clone_int _ Fq _ _ _ _ hFq (by omega)).mono ?_; rintro e wy ⟨v1, rfl, hN⟩; have hM := hN.mod0; replace hS := hS.fresh hN; clear hN hFq; obtain ⟨A9, c9, rfl⟩ := hS.formOwn 0 rfl; refine ⟨_, rfl, hM, ?_⟩; clear hM; (first | show wpD _ _ _ _ (Act.put _ (some _) _) _ | show wpD _ _ _ _ (Act.put _ none _) _); (simp only [Act.put, sA, sZ, sS])) | ((with_reducible show wpD _ _ _ ((_, 3) :: _) _ _); refine D_loud rfl rfl (f_append Rep.int.rows (Sat.vec1 (Sat.swap hS)) rfl rfl rfl rfl rfl (by decide) (by omega)) ?_; clear hS; rintro _ wx ⟨C2, g2, rfl, hS⟩; (simp only [sZ, sS] at hS); (first | show wpD _ _ _ _ (Act.put _ (some _) _) _ | show wpD _ _ _ _ (Act.put _ none _) _); (simp only [Act.put, sA, sZ, sS])) | ((with_reducible show wpD _ _ _ ((_, 3) :: _) _ _); refine D_loud rfl rfl (f_store (u := .slice _ _ _) hS rfl rfl rfl (by rfl) (by rfl)) ?_; clear hS; rintro _ wx ⟨rfl, hS⟩; (simp only [sZ, sS] at hS); (first | show wpD _ _ _ _ (Act.put _ (some _) _) _ | show wpD _ _ _ _ (Act.put _ none _) _); (simp only [Act.put, sA, sZ, sS])) | ((with_reducible show wpD _ _ _ [] _ _); refine D_nil ?_) | ((with_reducible show wpD _ _ _ ((_, 0) :: _) _ _); (first | (refine D_skip rfl rfl ?_; (first | show wpD _ _ _ _ (Act.put _ (some _) _) _ | show wpD _ _ _ _ (Act.put _ none _) _); (simp only [Act.put, sA, sZ, sS])) | (refine D_pure (v := ?_) rfl rfl (fun wq => ?_) ?_; rotate_left 1; (show (Sem.run _ (execOp _ (Oper.mk _ _ _ _ _ _)) _) = _; go_simp; (try go_bits); with_reducible rfl); (first | show wpD _ _ _ _ (Act.put _ (some _) _) _ | show wpD _ _ _ _ (Act.put _ none _) _); (simp only [Act.put, sA, sZ, sS])))) | ((with_reducible show wpD _ _ _ ((_, 1) :: _) _ _); (first | (refine D_skip rfl rfl ?_; (first | show wpD _ _ _ _ (Act.put _ (some _) _) _ | show wpD _ _ _ _ (Act.put _ none _) _); (simp only [Act.put, sA, sZ, sS])) | ((first | refine D_load rfl rfl (fun x hx => f_load (hS.mod hx) rfl rfl (by rfl)) ?_ | refine D_load rfl rfl (fun x hx => f_loadS (hS.mod hx) rfl rfl (by rfl)) ?_ | refine D_load rfl rfl (fun x hx => f_loadAt (hS.mod hx) rfl rfl) ?_ | refine D_load rfl rfl (fun x hx => f_loadAtS (hS.mod hx) rfl rfl (by rfl)) ?_ | refine D_load rfl rfl (fun x hx => f_loadAtF (hS.mod hx) rfl rfl (by rfl)) ?_); (first | show wpD _ _ _ _ (Act.put _ (some _) _) _ | show wpD _ _ _ _ (Act.put _ none _) _); (simp only [Act.put, sA, sZ, sS])))) | ((with_reducible show wpD _ _ _ ((_, 2) :: _) _ _); ((refine D_calm rfl rfl (does_buildSlice (X := ?_) (cs := ?_) (E := ?_) hS rfl ?_ ?_) ?_); rotate_left 3; (go_simp; rfl); rfl; clear hS; rintro _ wx ⟨bx, rfl, hS, hM⟩; refine ⟨hM, ?_⟩; clear hM; (first | show wpD _ _ _ _ (Act.put _ (some _) _) _ | show wpD _ _ _ _ (Act.put _ none _) _); (simp only [Act.put, sA, sZ, sS]))) | ((with_reducible show wpList _ _ _ (⟨_, Op.load _ _, _, _, _, _⟩ :: _) _ _); (first | refine Gives.list (f_load hS rfl rfl (by rfl)) rfl ?_ | refine Gives.list (f_loadS hS rfl rfl (by rfl)) rfl ?_ | refine Gives.list (f_loadAt hS rfl rfl) rfl ?_ | refine Gives.list (f_loadAtS hS rfl rfl (by rfl)) rfl ?_ | refine Gives.list (f_loadAtF hS rfl rfl (by rfl)) rfl ?_); (simp only [Act.put, sA, sZ, sS])))
        go_roundw
        case rel => exact ⟨k + 1, q + 1, C2, g2, by go_num, hlt, by omega, by rw [← HV.out]; exact hS.sel [3, 4, 5, 6, 7, 8, 9, 10] rfl (by decide)⟩
        case measure => simp [intOf]; omega
    · obtain rfl : k = rows.length := by omega
      rw [realTo_end Hal.out] at hS
      go_wp2_with (first | ((with_reducible show wpList _ _ _ (⟨_, Op.load _ _, _, _, _, _⟩ :: _) _ _); (first | refine Gives.list (f_load hS rfl rfl (by rfl)) rfl ?_ | refine Gives.list (f_loadS hS rfl rfl (by rfl)) rfl ?_ | refine Gives.list (f_loadAt hS rfl rfl) rfl ?_ | refine Gives.list (f_loadAtS hS rfl rfl (by rfl)) rfl ?_ | refine Gives.list (f_loadAtF hS rfl rfl (by rfl)) rfl ?_); (simp only [Act.put, sA, sZ, sS])) | ((with_reducible show wpList _ _ _ (⟨_, Op.store _ _ _, _, _, _, _⟩ :: _) _ _); (first | refine Does.list (f_store hS rfl rfl rfl (by rfl) (by rfl)) rfl ?_ | refine Does.list (f_storeS hS rfl rfl rfl (by rfl) (by rfl) (by rfl)) rfl ?_); clear hS; rintro _ wx ⟨rfl, hS⟩; (simp only [sZ, sS] at hS); (simp only [Act.put, sA, sZ, sS])))
      (try simp only [Exit.inBlock, Exit.then]); refine bodyPost_ret (hS.resultCellTmp rfl rfl (by rfl)) rfl ?_
      rw [H.out]
      exact ⟨_, rfl, (Sat.mkTable (hS.sel (Γ' := [.own Rep.int.rows.rows [.slice B2 q d2] (realRows rows real), .own Rep.str.rows [.slice B1 ns.length d1] ns]) [1, 2] rfl (by decide))).result⟩
end Go.Proofs.YtldknaajnnohiaaDoor
