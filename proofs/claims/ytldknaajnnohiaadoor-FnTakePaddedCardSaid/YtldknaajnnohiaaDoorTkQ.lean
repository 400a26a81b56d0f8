/- ProjectRows: the program's contract; tables compared; what TakePadded's law wants. -/
import Derived.Test.YtldknaajnnohiaaDoorSho
import Derived.Test.YtldknaajnnohiaaDoorTkR
import Derived.Test.YtldknaajnnohiaaDoorTakL
import Derived.Test.YtldknaajnnohiaaDoorEqD
import Derived.Test.YtldknaajnnohiaaDoorSPl
namespace Go.Proofs.YtldknaajnnohiaaDoor
open Go.RowKit

/-- What ProjectRows returns. -/
def projF (t : TableD) (cols : List ByteArray) : TableD × Bool := if tableOk t && takenB t.1 cols then ((cols, takeRows t.1 cols t.2), true) else (zeroT, false)
theorem projF_o {t : TableD} {cols : List ByteArray} (h : tableOk t = false) : projF t cols = (zeroT, false) := by unfold projF; rw [h]; rfl
theorem projF_c {t : TableD} {cols : List ByteArray} (h : takenB t.1 cols = false) : projF t cols = (zeroT, false) := by unfold projF; rw [h]; simp
theorem projF_t {t : TableD} {cols : List ByteArray} (h : tableOk t = true) (h2 : takenB t.1 cols = true) : projF t cols = ((cols, takeRows t.1 cols t.2), true) := by unfold projF; rw [h, h2]; rfl
set_option maxHeartbeats 4000000 in
set_option maxRecDepth 8000 in
theorem impl_ProjectRows' (w : World) (hR : ResOk w) (A1 A2 A3 : Option Addr) (c1 c2 c3 : Nat) (F G H' : List Nat) (ns : List ByteArray) (rows : List (List Int)) (cols : List ByteArray) (hx : SliceHas Rep.str w F [.slice A1 ns.length c1] ns) (hy : SliceHas Rep.int.slice w G [.slice A2 rows.length c2] rows) (hz : SliceHas Rep.str w H' [.slice A3 cols.length c3] cols) (hcl : cols.length ≤ 1000) :
    Calls Tryd.prog 32 #[.agg #[.slice A1 ns.length c1, .slice A2 rows.length c2], .slice A3 cols.length c3] w fun e w' => ∃ cs, e = .returned (.tuple #[.agg cs.toArray, .bool (projF (ns, rows) cols).2]) ∧ Fresh oTable w w' cs (projF (ns, rows) cols).1 := by
  have hS : Sat w w [.ro Rep.str.slice [.slice A1 ns.length c1] ns, .ro Rep.int.slice.slice [.slice A2 rows.length c2] rows, .ro Rep.str.slice [.slice A3 cols.length c3] cols] := (((Sat.nil w).arg hz).arg hy).arg hx
  clear hx hy hz
  go_enter Tryd.func32, Tryd.ntmps32
  cases ht : tableOk (ns, rows)
  · have H := Lib.hid (projF_o (cols := cols) ht)
    have Ht := Lib.hid ht
    clear ht
    go_wp2_with (first | (go_at_call 94; obtain ⟨Fq, hFq⟩ := hS.has Rep.str.slice [.slice A1 ns.length c1]; obtain ⟨Fr, hFr⟩ := hS.has Rep.int.slice.slice [.slice A2 rows.length c2]; refine (impl_TableValid' _ (hR.mod0 hS.mod0) A1 A2 c1 c2 Fq Fr ns rows hFq hFr).mono ?_; rintro e w' ⟨rfl, hM⟩; replace hS := hS.mod hM; clear hM hFq hFr; (simp only [Ht.out])) | ((with_reducible show wpList _ _ _ (⟨_, Op.box _ _, _, _, _, _⟩ :: _) _ _); refine Does.list (does_box hS rfl rfl (by rfl)) rfl ?_; clear hS; rintro _ wx ⟨bo, rfl, hS, _⟩; (simp only [Act.put, sA, sZ, sS])) | ((with_reducible show wpList _ _ _ (⟨_, Op.load _ _, _, _, _, _⟩ :: _) _ _); (first | refine Gives.list (f_load hS rfl rfl (by rfl)) rfl ?_ | refine Gives.list (f_loadS hS rfl rfl (by rfl)) rfl ?_ | refine Gives.list (f_loadAt hS rfl rfl) rfl ?_ | refine Gives.list (f_loadAtS hS rfl rfl (by rfl)) rfl ?_ | refine Gives.list (f_loadAtF hS rfl rfl (by rfl)) rfl ?_); (simp only [Act.put, sA, sZ, sS])) | ((with_reducible show wpList _ _ _ (⟨_, Op.store _ _ _, _, _, _, _⟩ :: _) _ _); (first | refine Does.list (f_store hS rfl rfl rfl (by rfl) (by rfl)) rfl ?_ | refine Does.list (f_storeS hS rfl rfl rfl (by rfl) (by rfl) (by rfl)) rfl ?_); clear hS; rintro _ wx ⟨rfl, hS⟩; (simp only [sZ, sS] at hS); (simp only [Act.put, sA, sZ, sS])) | ((with_reducible show wpList _ _ _ (⟨_, Op.alloc _, _, _, _, _⟩ :: _) _ _); refine Does.list (does_alloc hS rfl (by rfl)) rfl ?_; clear hS; rintro _ wx ⟨ba, rfl, hS, _⟩; (simp only [Act.put, sA, sZ, sS])))
    (try simp only [Exit.inBlock, Exit.then]); refine bodyPost_ret (hS.resultCellTmp rfl rfl (by rfl)) rfl ?_
    rw [H.out]
    exact ⟨_, rfl, (Sat.mkTable (Sat.nilRow Rep.int.rows (Sat.nilRow Rep.str hS))).result⟩
  have Ht := Lib.hid ht
  cases hc : takenB ns cols
  · have H := Lib.hid (projF_c (t := (ns, rows)) hc)
    have Hc := Lib.hid hc
    clear ht hc
    go_wp2_with (first | (go_at_call 94; obtain ⟨Fq, hFq⟩ := hS.has Rep.str.slice [.slice A1 ns.length c1]; obtain ⟨Fr, hFr⟩ := hS.has Rep.int.slice.slice [.slice A2 rows.length c2]; refine (impl_TableValid' _ (hR.mod0 hS.mod0) A1 A2 c1 c2 Fq Fr ns rows hFq hFr).mono ?_; rintro e w' ⟨rfl, hM⟩; replace hS := hS.mod hM; clear hM hFq hFr; (simp only [Ht.out])) | (go_at_call 85; obtain ⟨Fq, hFq⟩ := hS.has Rep.str.slice [.slice A1 ns.length c1]; obtain ⟨Fr, hFr⟩ := hS.has Rep.str.slice [.slice A3 cols.length c3]; refine (impl_taken _ (hR.mod0 hS.mod0) A1 A3 c1 c3 Fq Fr ns cols hFq hFr).mono ?_; rintro e w' ⟨rfl, hM⟩; replace hS := hS.mod hM; clear hM hFq hFr; (simp only [Hc.out])) | ((with_reducible show wpList _ _ _ (⟨_, Op.box _ _, _, _, _, _⟩ :: _) _ _); refine Does.list (does_box hS rfl rfl (by rfl)) rfl ?_; clear hS; rintro _ wx ⟨bo, rfl, hS, _⟩; (simp only [Act.put, sA, sZ, sS])) | ((with_reducible show wpList _ _ _ (⟨_, Op.load _ _, _, _, _, _⟩ :: _) _ _); (first | refine Gives.list (f_load hS rfl rfl (by rfl)) rfl ?_ | refine Gives.list (f_loadS hS rfl rfl (by rfl)) rfl ?_ | refine Gives.list (f_loadAt hS rfl rfl) rfl ?_ | refine Gives.list (f_loadAtS hS rfl rfl (by rfl)) rfl ?_ | refine Gives.list (f_loadAtF hS rfl rfl (by rfl)) rfl ?_); (simp only [Act.put, sA, sZ, sS])) | ((with_reducible show wpList _ _ _ (⟨_, Op.store _ _ _, _, _, _, _⟩ :: _) _ _); (first | refine Does.list (f_store hS rfl rfl rfl (by rfl) (by rfl)) rfl ?_ | refine Does.list (f_storeS hS rfl rfl rfl (by rfl) (by rfl) (by rfl)) rfl ?_); clear hS; rintro _ wx ⟨rfl, hS⟩; (simp only [sZ, sS] at hS); (simp only [Act.put, sA, sZ, sS])) | ((with_reducible show wpList _ _ _ (⟨_, Op.alloc _, _, _, _, _⟩ :: _) _ _); refine Does.list (does_alloc hS rfl (by rfl)) rfl ?_; clear hS; rintro _ wx ⟨ba, rfl, hS, _⟩; (simp only [Act.put, sA, sZ, sS])))
    (try simp only [Exit.inBlock, Exit.then]); refine bodyPost_ret (hS.resultCellTmp rfl rfl (by rfl)) rfl ?_
    rw [H.out]
    exact ⟨_, rfl, (Sat.mkTable (Sat.nilRow Rep.int.rows (Sat.nilRow Rep.str hS))).result⟩
  have Hc := Lib.hid hc
  have H := Lib.hid (projF_t (t := (ns, rows)) ht hc)
  have Hoff : Hid (cols.any (offS ns) = false) := Lib.hid (by
    unfold takenB at hc
    simp only [Bool.and_eq_true, Bool.not_eq_true'] at hc
    exact hc.2)
  have hp : rows.length ≤ 16 ∧ ∀ r ∈ rows, r.length = ns.length := by
    unfold tableOk at ht
    simp only [Bool.and_eq_true, decide_eq_true_eq, List.all_eq_true] at ht
    refine ⟨ht.2.1, fun r hr => ?_⟩
    have h := ht.2.2 r hr
    unfold fitRow at h
    simp only [Bool.and_eq_true, decide_eq_true_eq] at h
    exact h.1
  obtain ⟨h16, hrl⟩ := hp
  have Hrl := Lib.hid hrl
  clear ht hc hrl
  go_wp2_with (first | (go_at_call 94; obtain ⟨Fq, hFq⟩ := hS.has Rep.str.slice [.slice A1 ns.length c1]; obtain ⟨Fr, hFr⟩ := hS.has Rep.int.slice.slice [.slice A2 rows.length c2]; refine (impl_TableValid' _ (hR.mod0 hS.mod0) A1 A2 c1 c2 Fq Fr ns rows hFq hFr).mono ?_; rintro e w' ⟨rfl, hM⟩; replace hS := hS.mod hM; clear hM hFq hFr; (simp only [Ht.out])) | (go_at_call 85; obtain ⟨Fq, hFq⟩ := hS.has Rep.str.slice [.slice A1 ns.length c1]; obtain ⟨Fr, hFr⟩ := hS.has Rep.str.slice [.slice A3 cols.length c3]; refine (impl_taken _ (hR.mod0 hS.mod0) A1 A3 c1 c3 Fq Fr ns cols hFq hFr).mono ?_; rintro e w' ⟨rfl, hM⟩; replace hS := hS.mod hM; clear hM hFq hFr; (simp only [Hc.out])) | ((with_reducible show Code.wp _ (Code.region 3 _ true) _ _ _); refine wp_region_drawn [(0, 0), (2, 0), (3, 1), (4, 0), (5, 1), (6, 0), (1, 2), (7, 2), (8, 0), (9, 3), (10, 0)] (by kernel_rfl) (by kernel_rfl) (by intro _ _ dq _ _ hq; cases dq <;> exact hq) ?_; replace hS := hS.mod (Mod.drew (Mod.refl _ _)); (generalize hwd : World.drew _ = wz at hS ⊢); clear hwd) | ((with_reducible show wpD _ _ _ ((_, 2) :: _) _ _); (refine D_call (f := 69) (args := ?_) rfl rfl ?_ ?_); rotate_left 1; (show (Sem.run _ (execOp _ (Oper.mk _ _ _ _ _ _)) _) = _; go_simp; rfl); obtain ⟨Fq, hFq⟩ := hS.has Rep.str.slice [.slice A3 cols.length c3]; refine (impl_cloneNames' _ Fq _ cols hFq (by omega)).mono ?_; rintro e wy ⟨v1, rfl, hN⟩; have hM := hN.mod0; replace hS := hS.fresh hN; clear hN hFq; obtain ⟨B1, d1, rfl⟩ := hS.formOwn 0 rfl; refine ⟨_, rfl, hM, ?_⟩; clear hM; (first | show wpD _ _ _ _ (Act.put _ (some _) _) _ | show wpD _ _ _ _ (Act.put _ none _) _); (simp only [Act.put, sA, sZ, sS])) | ((with_reducible show wpD _ _ _ ((_, 2) :: _) _ _); (refine D_call (f := 86) (args := ?_) rfl rfl ?_ ?_); rotate_left 1; (show (Sem.run _ (execOp _ (Oper.mk _ _ _ _ _ _)) _) = _; go_simp; rfl); obtain ⟨Fq, hFq⟩ := hS.has Rep.str.slice [.slice A1 ns.length c1]; obtain ⟨Fr, hFr⟩ := hS.has Rep.int.slice.slice [.slice A2 rows.length c2]; obtain ⟨Fs, hFs⟩ := hS.has Rep.str.slice [.slice A3 cols.length c3]; refine (impl_take _ A1 A2 A3 c1 c2 c3 Fq Fr Fs ns cols rows hFq hFr hFs Hoff.out Hrl.out (by omega) (by omega)).mono ?_; rintro e wy ⟨v2, rfl, hN⟩; have hM := hN.mod0; replace hS := hS.fresh hN; clear hN hFq hFr hFs; obtain ⟨B2, d2, rfl⟩ := hS.formOwn 0 rfl; refine ⟨_, rfl, hM, ?_⟩; clear hM; (first | show wpD _ _ _ _ (Act.put _ (some _) _) _ | show wpD _ _ _ _ (Act.put _ none _) _); (simp only [Act.put, sA, sZ, sS])) | ((with_reducible show wpD _ _ _ ((_, 3) :: _) _ _); refine D_loud rfl rfl (f_storeS hS rfl rfl rfl (by rfl) (by rfl) (by rfl)) ?_; clear hS; rintro _ wx ⟨rfl, hS⟩; (simp only [sZ, sS] at hS); (first | show wpD _ _ _ _ (Act.put _ (some _) _) _ | show wpD _ _ _ _ (Act.put _ none _) _); (simp only [Act.put, sA, sZ, sS])) | ((with_reducible show wpD _ _ _ [] _ _); refine D_nil ?_) | ((with_reducible show wpD _ _ _ ((_, 0) :: _) _ _); (first | (refine D_skip rfl rfl ?_; (first | show wpD _ _ _ _ (Act.put _ (some _) _) _ | show wpD _ _ _ _ (Act.put _ none _) _); (simp only [Act.put, sA, sZ, sS])) | (refine D_pure (v := ?_) rfl rfl (fun wq => ?_) ?_; rotate_left 1; (show (Sem.run _ (execOp _ (Oper.mk _ _ _ _ _ _)) _) = _; go_simp; (try go_bits); with_reducible rfl); (first | show wpD _ _ _ _ (Act.put _ (some _) _) _ | show wpD _ _ _ _ (Act.put _ none _) _); (simp only [Act.put, sA, sZ, sS])))) | ((with_reducible show wpD _ _ _ ((_, 1) :: _) _ _); (first | (refine D_skip rfl rfl ?_; (first | show wpD _ _ _ _ (Act.put _ (some _) _) _ | show wpD _ _ _ _ (Act.put _ none _) _); (simp only [Act.put, sA, sZ, sS])) | ((first | refine D_load rfl rfl (fun x hx => f_load (hS.mod hx) rfl rfl (by rfl)) ?_ | refine D_load rfl rfl (fun x hx => f_loadS (hS.mod hx) rfl rfl (by rfl)) ?_ | refine D_load rfl rfl (fun x hx => f_loadAt (hS.mod hx) rfl rfl) ?_ | refine D_load rfl rfl (fun x hx => f_loadAtS (hS.mod hx) rfl rfl (by rfl)) ?_ | refine D_load rfl rfl (fun x hx => f_loadAtF (hS.mod hx) rfl rfl (by rfl)) ?_); (first | show wpD _ _ _ _ (Act.put _ (some _) _) _ | show wpD _ _ _ _ (Act.put _ none _) _); (simp only [Act.put, sA, sZ, sS])))) | ((with_reducible show wpList _ _ _ (⟨_, Op.box _ _, _, _, _, _⟩ :: _) _ _); refine Does.list (does_box hS rfl rfl (by rfl)) rfl ?_; clear hS; rintro _ wx ⟨bo, rfl, hS, _⟩; (simp only [Act.put, sA, sZ, sS])) | ((with_reducible show wpList _ _ _ (⟨_, Op.load _ _, _, _, _, _⟩ :: _) _ _); (first | refine Gives.list (f_load hS rfl rfl (by rfl)) rfl ?_ | refine Gives.list (f_loadS hS rfl rfl (by rfl)) rfl ?_ | refine Gives.list (f_loadAt hS rfl rfl) rfl ?_ | refine Gives.list (f_loadAtS hS rfl rfl (by rfl)) rfl ?_ | refine Gives.list (f_loadAtF hS rfl rfl (by rfl)) rfl ?_); (simp only [Act.put, sA, sZ, sS])) | ((with_reducible show wpList _ _ _ (⟨_, Op.alloc _, _, _, _, _⟩ :: _) _ _); refine Does.list (does_alloc hS rfl (by rfl)) rfl ?_; clear hS; rintro _ wx ⟨ba, rfl, hS, _⟩; (simp only [Act.put, sA, sZ, sS])))
  (try simp only [Exit.inBlock, Exit.then]); refine bodyPost_ret (hS.resultCellTmp rfl rfl (by rfl)) rfl ?_
  rw [H.out]
  exact ⟨_, rfl, (Sat.mkTable (hS.sel (Γ' := [.own Rep.int.rows.rows [.slice B2 (takeRows ns cols rows).length d2] (takeRows ns cols rows), .own Rep.str.rows [.slice B1 cols.length d1] cols]) [0, 1] rfl (by decide))).result⟩
set_option maxHeartbeats 2000000 in
theorem laws_sameTable (w : World) (A1 A2 B1 B2 : Option Addr) (a1 a2 b1 b2 : Nat) (F1 F2 G1 G2 : List Nat) (ns ms : List ByteArray) (rows ows : List (List Int)) (h1 : SliceHas Rep.str w F1 [.slice A1 ns.length a1] ns) (h2 : SliceHas Rep.int.slice w F2 [.slice A2 rows.length a2] rows) (k1 : SliceHas Rep.str w G1 [.slice B1 ms.length b1] ms) (k2 : SliceHas Rep.int.slice w G2 [.slice B2 ows.length b2] ows) :
    Calls Tryd.prog 34 #[.agg #[.slice A1 ns.length a1, .slice A2 rows.length a2], .agg #[.slice B1 ms.length b1, .slice B2 ows.length b2]] w fun e w' => e = .returned (.bool (eqB ns ms && eqB rows ows)) ∧ Mod [] w w' := by
  have hS : Sat w w [] := Sat.nil w
  obtain ⟨q1, e1⟩ : ∃ b, eqB ns ms = b := ⟨_, rfl⟩
  obtain ⟨q2, e2⟩ : ∃ b, eqB rows ows = b := ⟨_, rfl⟩
  have H1 := Lib.hid e1
  have H2 := Lib.hid e2
  rw [e1, e2]
  clear e1 e2
  go_enter Tryd.func34, Tryd.ntmps34
  cases q1 <;> cases q2
  all_goals
    go_wp2_with (first | (go_at_call 21; refine (laws_sameTexts _ _ _ _ _ _ _ (Rep.str.slice.mod0 h1 hS.mod0) (Rep.str.slice.mod0 k1 hS.mod0)).mono ?_; rintro e w' ⟨rfl, hM⟩; replace hS := hS.mod hM; clear hM; (simp only [H1.out])) | (go_at_call 75; refine (laws_sameRows _ _ _ _ _ _ _ (Rep.int.slice.slice.mod0 h2 hS.mod0) (Rep.int.slice.slice.mod0 k2 hS.mod0)).mono ?_; rintro e w' ⟨rfl, hM⟩; replace hS := hS.mod hM; clear hM; (simp only [H2.out])) | ((with_reducible show wpList _ _ _ (⟨_, Op.box _ _, _, _, _, _⟩ :: _) _ _); refine Does.list (does_box hS rfl rfl (by rfl)) rfl ?_; clear hS; rintro _ wx ⟨bo, rfl, hS, _⟩; (simp only [Act.put, sA, sZ, sS])) | ((with_reducible show wpList _ _ _ (⟨_, Op.load _ _, _, _, _, _⟩ :: _) _ _); (first | refine Gives.list (f_load hS rfl rfl (by rfl)) rfl ?_ | refine Gives.list (f_loadS hS rfl rfl (by rfl)) rfl ?_ | refine Gives.list (f_loadAt hS rfl rfl) rfl ?_ | refine Gives.list (f_loadAtS hS rfl rfl (by rfl)) rfl ?_ | refine Gives.list (f_loadAtF hS rfl rfl (by rfl)) rfl ?_); (simp only [Act.put, sA, sZ, sS])))
    go_ret
    exact ⟨rfl, hS.mod0⟩
/-! ### The plain law -/
section
variable {ns cols : List ByteArray} {rows : List (List Int)} {real : List Bool} {n : Nat} {b : Bool} {r : List Int}
theorem padRow_take (h : padRow n b r = true) : padRow cols.length b (takeRow ns cols r) = true := by
  unfold padRow at h ⊢
  simp only [Bool.and_eq_true, decide_eq_true_eq, Bool.not_eq_true', List.any_eq_false] at h ⊢
  refine ⟨by simp [takeRow], fun x hx => ?_⟩
  obtain ⟨c, -, rfl⟩ := List.mem_map.1 hx
  unfold cellOf
  rw [List.getD_eq_getElem?_getD]
  by_cases hc : (colOf ns c).toNat < r.length
  · rw [List.getElem?_eq_getElem hc]
    exact h.2 _ (List.getElem_mem hc)
  · rw [List.getElem?_eq_none (by omega)]
    cases b <;> decide
theorem take_zip (hl : real.length = rows.length) : takeRows ns cols rows = ((rows.zip real).map (fun x => (takeRow ns cols x.1, x.2))).map Prod.fst ∧ real = ((rows.zip real).map (fun x => (takeRow ns cols x.1, x.2))).map Prod.snd := by
  constructor
  · unfold takeRows
    rw [List.map_map]
    conv => lhs; rw [← List.map_fst_zip (l₁ := rows) (l₂ := real) (by omega)]
    rw [List.map_map]; rfl
  · rw [List.map_map]
    exact (List.map_snd_zip (l₁ := rows) (l₂ := real) (by omega)).symm
theorem takeF_ok (h1 : paddedOk (ns, rows, real) = true) (h2 : takenB ns cols = true) : paddedOk (cols, takeRows ns cols rows, real) = true := by
  obtain ⟨h256, hl⟩ := padded_lenC h1
  have hz := padded_zip h1
  obtain ⟨e1, e2⟩ := take_zip (ns := ns) (cols := cols) hl
  have hn : namesOk cols = true := by
    unfold takenB at h2
    simp only [Bool.and_eq_true] at h2
    exact h2.1
  have := padded_of_zip (Z := (rows.zip real).map (fun x => (takeRow ns cols x.1, x.2))) hn (by rw [List.length_map, List.length_zip]; omega) (fun a ha => by
    obtain ⟨x, hx, rfl⟩ := List.mem_map.1 ha
    exact padRow_take (hz x hx))
  rwa [← e1, ← e2] at this
theorem realRows_take (hl : real.length = rows.length) : realRows (takeRows ns cols rows) real = takeRows ns cols (realRows rows real) := by
  unfold realRows takeRows
  rw [List.zip_map_left, List.filter_map, List.map_map, List.map_map]
  rfl
theorem realRows_ok (h1 : paddedOk (ns, rows, real) = true) (h2 : real.countP id ≤ 16) : tableOk (ns, realRows rows real) = true := by
  have hz := padded_zip h1
  have hn := (paddedOk_all4 h1).1
  have hlen : (realRows rows real).length = real.countP id := by
    unfold realRows
    rw [List.length_map, ← List.countP_eq_length_filter]
    conv => rhs; rw [← List.map_snd_zip (l₁ := rows) (l₂ := real) (by have := (padded_lenC h1).2; omega)]
    rw [List.countP_map]; rfl
  unfold tableOk
  rw [hn, hlen, decide_eq_true h2]
  simp only [Bool.true_and, List.all_eq_true]
  intro r hr
  unfold realRows at hr
  obtain ⟨x, hx, rfl⟩ := List.mem_map.1 hr
  have hx2 := hz x (List.mem_filter.1 hx).1
  unfold rowOkZ padRow at hx2
  simp only [Bool.and_eq_true, decide_eq_true_eq, Bool.not_eq_true', List.any_eq_false] at hx2
  unfold fitRow
  simp only [Bool.and_eq_true, decide_eq_true_eq, Bool.not_eq_true', List.any_eq_false]
  refine ⟨hx2.1, fun y hy => ?_⟩
  have h5 := hx2.2 y hy
  unfold padBad at h5
  simp only [Bool.or_eq_true, not_or] at h5
  exact h5.1
end
end Go.Proofs.YtldknaajnnohiaaDoor
