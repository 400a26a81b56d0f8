/- SortPadded: the program's contract. -/
import Derived.Test.YtldknaajnnohiaaDoorSho
import Derived.Test.YtldknaajnnohiaaDoorSrtD
import Derived.Test.YtldknaajnnohiaaDoorPdv
import Derived.Test.YtldknaajnnohiaaDoorSpt
import Derived.Test.YtldknaajnnohiaaDoorPass
import Derived.Test.YtldknaajnnohiaaDoorPSa
section
namespace Go.Proofs.YtldknaajnnohiaaDoor
open Go.RowKit

def emptyB (x : ByteArray) : Bool := x.toList == []
def sortOk (p : PaddedD) (col : ByteArray) : Bool := paddedOk p && (emptyB col || hasS p.1 col)
/-- What SortPadded returns. -/
def sortF (p : PaddedD) (col : ByteArray) (down : Bool) : PaddedD × List AccessD × Bool := if sortOk p col then (sortP (colOf p.1 col) down p, pairF (netF p.2.1.length), true) else (zeroP, [], false)
theorem sortF_t {p : PaddedD} {col : ByteArray} {down : Bool} (h : sortOk p col = true) : sortF p col down = (sortP (colOf p.1 col) down p, pairF (netF p.2.1.length), true) := by unfold sortF; rw [h]; rfl
theorem sortF_f {p : PaddedD} {col : ByteArray} {down : Bool} (h : sortOk p col = false) : sortF p col down = (zeroP, [], false) := by unfold sortF; rw [h]; rfl
theorem does_of_gives {P : Program} {o : Oper} {a : Act} {w : World} {u : Value} (h : Gives P o a w u) : Does P o a w (fun v w' => v = u ∧ w = w') := ⟨u, w, ⟨rfl, rfl⟩, .inl h⟩
theorem Sat.front3 {w0 w : World} {a b c : Fact} {L Γ : List Fact} (h : Sat w0 w (L ++ a :: b :: c :: Γ)) : Sat w0 w (a :: b :: c :: (L ++ Γ)) := by
  refine h.perm ?_
  have h1 : (L ++ a :: b :: c :: Γ).Perm (a :: b :: c :: Γ ++ L) := List.perm_append_comm
  refine h1.trans ?_
  exact ((List.perm_append_comm (l₁ := Γ) (l₂ := L)).cons c |>.cons b |>.cons a)
theorem ret_pt {F : PaddedD × List AccessD × Bool} {p : PaddedD} {tr : List AccessD} {b : Bool} {cs : List Value} {v : Value} {e : Rep PaddedD} {e2 : Rep (List AccessD)} {w w' : World} (h : F = (p, tr, b)) (hl : cs.length = 3) (hf : Fresh (Rep.pair e e2) w w' (cs ++ [v]) (p, tr)) :
    ∃ va vb, Ending.returned (.tuple #[.agg cs.toArray, v, .bool b]) = .returned (.tuple #[.agg va.toArray, vb, .bool F.2.2]) ∧ va.length = 3 ∧ Fresh (Rep.pair e e2) w w' (va ++ [vb]) (F.1, F.2.1) := by
  subst h; exact ⟨cs, v, rfl, hl, hf⟩
theorem Sat.resultC2T {P : Program} {w0 w : World} {Γ : List Fact} {fn : Func} {tmps : Array Value} {u1 u2 t : Tmp} {T : TypeId} {z : Value} {n b i : Nat} {cs : List Value} (hS : Sat w0 w Γ) (h : fn.results = #[.cell t T, .tmp u1, .tmp u2]) (ht : tmps.getD t undef = .pointer (some ⟨b, 0, none⟩))
    [hi : BoxAt Γ b cs i] [hT : Ty P T z n true] (hl : cs.length = n) : (results fn tmps).run P w = .ok (.tuple #[.agg cs.toArray, tmps.getD u1 undef, tmps.getD u2 undef]) w := by
  have hc := hS.boxCells hi.get
  have hv : (loadVar T ⟨b, 0, none⟩).run P w = .ok (.agg cs.toArray) w := by
    subst hl
    simp [loadVar, run_isAgg hT, run_sizeOf hT, run_loadCells_list w _ cs hc]
  have ht' : tmps[t]?.getD undef = .pointer (some ⟨b, 0, none⟩) := by simpa using ht
  simp [results, h, ht', asAddr, hv]
end Go.Proofs.YtldknaajnnohiaaDoor
end

section
namespace Go.Proofs.YtldknaajnnohiaaDoor
open Go.RowKit

set_option maxHeartbeats 4000000 in
set_option maxRecDepth 8000 in
theorem spec_SortPadded' (w : World) (A1 A2 A3 : Option Addr) (c1 c2 c3 : Nat) (F G H' : List Nat) (ns : List ByteArray) (rows : List (List Int)) (real : List Bool) (col : ByteArray) (down : Bool) (hx : SliceHas Rep.str w F [.slice A1 ns.length c1] ns) (hy : SliceHas Rep.int.slice w G [.slice A2 rows.length c2] rows) (hz : SliceHas Rep.bool w H' [.slice A3 real.length c3] real) (hps : PSmall (ns, rows, real)) :
    Calls Tryd.prog 41 #[.agg #[.slice A1 ns.length c1, .slice A2 rows.length c2, .slice A3 real.length c3], .string col, .bool down] w fun e w' => ∃ va vb, e = .returned (.tuple #[.agg va.toArray, vb, .bool (sortF (ns, rows, real) col down).2.2]) ∧ va.length = 3 ∧ Fresh (Rep.pair oPadded rAccess.rows) w w' (va ++ [vb]) ((sortF (ns, rows, real) col down).1, (sortF (ns, rows, real) col down).2.1) := by
  have hS : Sat w w [.ro Rep.str.slice [.slice A1 ns.length c1] ns, .ro Rep.int.slice.slice [.slice A2 rows.length c2] rows, .ro Rep.bool.slice [.slice A3 real.length c3] real] := (((Sat.nil w).arg hz).arg hy).arg hx
  have Hps := Lib.hid hps
  clear hx hy hz hps
  go_enter Tryd.func41, Tryd.ntmps41
  go_wp2_with (first | (go_at_call 88; obtain ⟨Fq, hFq⟩ := hS.has Rep.str.slice [.slice A1 ns.length c1]; obtain ⟨Fr, hFr⟩ := hS.has Rep.int.slice.slice [.slice A2 rows.length c2]; obtain ⟨Fs, hFs⟩ := hS.has Rep.bool.slice [.slice A3 real.length c3]; refine (spec_l1OwnPadded _ A1 A2 A3 c1 c2 c3 Fq Fr Fs ns rows real hFq hFr hFs Hps.out).mono ?_; rintro e w' ⟨cs, rfl, hN⟩; replace hS := hS.fresh hN; clear hN hFq hFr hFs; have hS2 := Sat.openOwnPadded hS; clear hS; obtain ⟨B1, d1, B2, d2, B3, d3, rfl, hS⟩ := hS2; (dsimp only at hS ⊢)) | ((with_reducible show wpList _ _ _ (⟨_, Op.box _ _, _, _, _, _⟩ :: _) _ _); refine Does.list (does_box hS rfl rfl (by rfl)) rfl ?_; clear hS; rintro _ wx ⟨bo, rfl, hS, _⟩; (simp only [Act.put, sA, sZ, sS])) | ((with_reducible show wpList _ _ _ (⟨_, Op.load _ _, _, _, _, _⟩ :: _) _ _); (first | refine Gives.list (f_load hS rfl rfl (by rfl)) rfl ?_ | refine Gives.list (f_loadS hS rfl rfl (by rfl)) rfl ?_ | refine Gives.list (f_loadAt hS rfl rfl) rfl ?_ | refine Gives.list (f_loadAtS hS rfl rfl (by rfl)) rfl ?_ | refine Gives.list (f_loadAtF hS rfl rfl (by rfl)) rfl ?_); (simp only [Act.put, sA, sZ, sS])) | ((with_reducible show wpList _ _ _ (⟨_, Op.store _ _ _, _, _, _, _⟩ :: _) _ _); (first | refine Does.list (f_store hS rfl rfl rfl (by rfl) (by rfl)) rfl ?_ | refine Does.list (f_storeS hS rfl rfl rfl (by rfl) (by rfl) (by rfl)) rfl ?_); clear hS; rintro _ wx ⟨rfl, hS⟩; (simp only [sZ, sS] at hS); (simp only [Act.put, sA, sZ, sS])) | ((with_reducible show wpList _ _ _ (⟨_, Op.alloc _, _, _, _, _⟩ :: _) _ _); refine Does.list (does_alloc hS rfl (by rfl)) rfl ?_; clear hS; rintro _ wx ⟨ba, rfl, hS, _⟩; (simp only [Act.put, sA, sZ, sS])))
  cases hp : paddedOk (ns, rows, real)
  · have H := Lib.hid (sortF_f (down := down) (show sortOk (ns, rows, real) col = false by unfold sortOk; rw [hp]; rfl))
    have Hp := Lib.hid hp
    clear hp
    go_wp2_with (first | (go_at_call 74; obtain ⟨Fq, hFq⟩ := hS.has Rep.str.slice [.slice B1 ns.length d1]; obtain ⟨Fr, hFr⟩ := hS.has Rep.int.slice.slice [.slice B2 rows.length d2]; obtain ⟨Fs, hFs⟩ := hS.has Rep.bool.slice [.slice B3 real.length d3]; refine (spec_PaddedValid' _ B1 B2 B3 d1 d2 d3 Fq Fr Fs ns rows real hFq hFr hFs).mono ?_; rintro e w' ⟨rfl, hM⟩; replace hS := hS.mod hM; clear hM hFq hFr hFs; (simp only [Hp.out])) | ((with_reducible show wpList _ _ _ (⟨_, Op.store _ _ _, _, _, _, _⟩ :: _) _ _); (first | refine Does.list (f_store hS rfl rfl rfl (by rfl) (by rfl)) rfl ?_ | refine Does.list (f_storeS hS rfl rfl rfl (by rfl) (by rfl) (by rfl)) rfl ?_); clear hS; rintro _ wx ⟨rfl, hS⟩; (simp only [sZ, sS] at hS); (simp only [Act.put, sA, sZ, sS])) | ((with_reducible show wpList _ _ _ (⟨_, Op.buildSlice _ _ _, _, _, _, _⟩ :: _) _ _); refine Does.list (does_buildSlice (X := ?_) (cs := ?_) (E := ?_) hS rfl ?_ ?_) rfl ?_; rotate_left 3; (go_simp; rfl); rfl; clear hS; rintro _ wx ⟨bx, rfl, hS, _⟩; (simp only [Act.put, sA, sZ, sS])))
    (try simp only [Exit.inBlock, Exit.then]); refine bodyPost_ret (hS.resultC2T rfl rfl (by rfl)) rfl ?_
    exact ret_pt H.out rfl (Sat.pair (Sat.zeroPadded ((Sat.vec0 rAccess hS).lit (Nat.zero_le _)))).result
  have Hp := Lib.hid hp
  have hch := colOf_has (xs := ns) (x := col)
  cases he : emptyB col
  · have t1 : (col.toList == []) = false := he
    have t2 : (col.toList != []) = true := by rw [bne, t1]; rfl
    cases hh : hasS ns col
    · have H := Lib.hid (sortF_f (down := down) (show sortOk (ns, rows, real) col = false by unfold sortOk; rw [hp, he, hh]; rfl))
      rw [hh] at hch
      have hd : decide (colOf ns col < 0) = true := by
        have := of_decide_eq_false hch
        exact decide_eq_true (by omega)
      clear hp he hh hch
      go_wp2_with (first | (go_at_call 74; obtain ⟨Fq, hFq⟩ := hS.has Rep.str.slice [.slice B1 ns.length d1]; obtain ⟨Fr, hFr⟩ := hS.has Rep.int.slice.slice [.slice B2 rows.length d2]; obtain ⟨Fs, hFs⟩ := hS.has Rep.bool.slice [.slice B3 real.length d3]; refine (spec_PaddedValid' _ B1 B2 B3 d1 d2 d3 Fq Fr Fs ns rows real hFq hFr hFs).mono ?_; rintro e w' ⟨rfl, hM⟩; replace hS := hS.mod hM; clear hM hFq hFr hFs; (simp only [Hp.out])) | (go_at_call 89; obtain ⟨Fq, hFq⟩ := hS.has Rep.str.slice [.slice B1 ns.length d1]; refine (spec_l1Column _ Fq _ ns col hFq).mono ?_; rintro e w' ⟨rfl, hM⟩; replace hS := hS.mod hM; clear hM hFq) | ((with_reducible show wpList _ _ _ (⟨_, Op.load _ _, _, _, _, _⟩ :: _) _ _); (first | refine Gives.list (f_load hS rfl rfl (by rfl)) rfl ?_ | refine Gives.list (f_loadS hS rfl rfl (by rfl)) rfl ?_ | refine Gives.list (f_loadAt hS rfl rfl) rfl ?_ | refine Gives.list (f_loadAtS hS rfl rfl (by rfl)) rfl ?_ | refine Gives.list (f_loadAtF hS rfl rfl (by rfl)) rfl ?_); (simp only [Act.put, sA, sZ, sS])) | ((with_reducible show wpList _ _ _ (⟨_, Op.store _ _ _, _, _, _, _⟩ :: _) _ _); (first | refine Does.list (f_store hS rfl rfl rfl (by rfl) (by rfl)) rfl ?_ | refine Does.list (f_storeS hS rfl rfl rfl (by rfl) (by rfl) (by rfl)) rfl ?_); clear hS; rintro _ wx ⟨rfl, hS⟩; (simp only [sZ, sS] at hS); (simp only [Act.put, sA, sZ, sS])) | ((with_reducible show wpList _ _ _ (⟨_, Op.buildSlice _ _ _, _, _, _, _⟩ :: _) _ _); refine Does.list (does_buildSlice (X := ?_) (cs := ?_) (E := ?_) hS rfl ?_ ?_) rfl ?_; rotate_left 3; (go_simp; rfl); rfl; clear hS; rintro _ wx ⟨bx, rfl, hS, _⟩; (simp only [Act.put, sA, sZ, sS])))
      (try simp only [Exit.inBlock, Exit.then]); refine bodyPost_ret (hS.resultC2T rfl rfl (by rfl)) rfl ?_
      exact ret_pt H.out rfl (Sat.pair (Sat.zeroPadded ((Sat.vec0 rAccess hS).lit (Nat.zero_le _)))).result
    rw [hh] at hch
    have hd : decide (colOf ns col < 0) = false := by
      have := of_decide_eq_true hch
      exact decide_eq_false (by omega)
    clear hch
    have H := Lib.hid (sortF_t (down := down) (show sortOk (ns, rows, real) col = true by unfold sortOk; rw [hp, he, hh]; rfl))
    have h256 := (paddedOk_all4 hp).2.1
    have HNL := Lib.hid (netF_len h256)
    have Hcol : Hid (colOf ns col = -1 ∨ ∃ j : Nat, colOf ns col = (j : Int) ∧ j < ns.length) := Lib.hid (by
      obtain ⟨k1, k2⟩ := colOf_bd (xs := ns) (x := col)
      by_cases h : 0 ≤ colOf ns col
      · exact .inr ⟨(colOf ns col).toNat, by omega, by omega⟩
      · exact .inl (by omega))
    obtain ⟨q, hq⟩ : ∃ q, sortP (colOf ns col) down (ns, rows, real) = q := ⟨_, rfl⟩
    obtain ⟨tr, htr⟩ : ∃ q, pairF (netF rows.length) = q := ⟨_, rfl⟩
    dsimp only at H
    rw [hq, htr] at H
    have HQ := Lib.hid hq
    have HT := Lib.hid htr
    clear hq htr hp he hh
    go_wp2_with (first | (go_at_call 74; obtain ⟨Fq, hFq⟩ := hS.has Rep.str.slice [.slice B1 ns.length d1]; obtain ⟨Fr, hFr⟩ := hS.has Rep.int.slice.slice [.slice B2 rows.length d2]; obtain ⟨Fs, hFs⟩ := hS.has Rep.bool.slice [.slice B3 real.length d3]; refine (spec_PaddedValid' _ B1 B2 B3 d1 d2 d3 Fq Fr Fs ns rows real hFq hFr hFs).mono ?_; rintro e w' ⟨rfl, hM⟩; replace hS := hS.mod hM; clear hM hFq hFr hFs; (simp only [Hp.out])) | (go_at_call 89; obtain ⟨Fq, hFq⟩ := hS.has Rep.str.slice [.slice B1 ns.length d1]; refine (spec_l1Column _ Fq _ ns col hFq).mono ?_; rintro e w' ⟨rfl, hM⟩; replace hS := hS.mod hM; clear hM hFq) | ((with_reducible show Code.wp _ (Code.region 4 _ true) _ _ _); refine wp_region_drawn [(0, 1), (1, 0), (2, 1), (3, 0), (5, 0), (7, 0), (8, 1), (9, 0), (4, 2), (6, 2), (10, 2), (11, 2), (12, 3), (13, 0), (14, 0)] (by kernel_rfl) (by kernel_rfl) (by intro _ _ dq _ _ hq; cases dq <;> exact hq) ?_; replace hS := hS.mod (Mod.drew (Mod.refl _ _)); (generalize hwd : World.drew _ = wz at hS ⊢); clear hwd) | ((with_reducible show wpD _ _ _ ((_, 2) :: _) _ _); (refine D_call (f := 89) (args := ?_) rfl rfl ?_ ?_); rotate_left 1; (show (Sem.run _ (execOp _ (Oper.mk _ _ _ _ _ _)) _) = _; go_simp; rfl); obtain ⟨Fq, hFq⟩ := hS.has Rep.str.slice [.slice B1 ns.length d1]; refine (spec_l1Column _ Fq _ ns col hFq).mono ?_; rintro e wy ⟨rfl, hM⟩; replace hS := hS.mod hM; clear hFq; refine ⟨_, rfl, hM, ?_⟩; clear hM; (first | show wpD _ _ _ _ (Act.put _ (some _) _) _ | show wpD _ _ _ _ (Act.put _ none _) _); (simp only [Act.put, sA, sZ, sS])) | ((with_reducible show wpD _ _ _ ((_, 2) :: _) _ _); (refine D_call (f := 100) (args := ?_) rfl rfl ?_ ?_); rotate_left 1; (show (Sem.run _ (execOp _ (Oper.mk _ _ _ _ _ _)) _) = _; go_simp; rfl); obtain ⟨Fq, hFq⟩ := hS.has Rep.str.slice [.slice B1 ns.length d1]; obtain ⟨Fr, hFr⟩ := hS.has Rep.int.slice.slice [.slice B2 rows.length d2]; obtain ⟨Fs, hFs⟩ := hS.has Rep.bool.slice [.slice B3 real.length d3]; refine (spec_l11Sort _ B1 B2 B3 d1 d2 d3 Fq Fr Fs ns rows real (colOf ns col) down hFq hFr hFs Hp.out Hps.out Hcol.out).mono ?_; rintro e wy ⟨cs, rfl, hN⟩; (rw [HQ.out] at hN); have hM := hN.mod0; replace hS := hS.fresh hN; clear hN hFq hFr hFs; have hS2 := Sat.openOwnPadded hS; clear hS; obtain ⟨E1, k1, E2, k2, E3, k3, rfl, hS⟩ := hS2; refine ⟨_, rfl, hM, ?_⟩; clear hM; (first | show wpD _ _ _ _ (Act.put _ (some _) _) _ | show wpD _ _ _ _ (Act.put _ none _) _); (simp only [Act.put, sA, sZ, sS])) | ((with_reducible show wpD _ _ _ ((_, 2) :: _) _ _); (refine D_call (f := 101) (args := ?_) rfl rfl ?_ ?_); rotate_left 1; (show (Sem.run _ (execOp _ (Oper.mk _ _ _ _ _ _)) _) = _; go_simp; rfl); refine (spec_NetworkOf _ rows.length h256).mono ?_; rintro e wy ⟨v1, rfl, hN⟩; have hM := hN.mod0; replace hS := hS.fresh hN; clear hN; obtain ⟨A9, c9, rfl⟩ := hS.formOwn 0 rfl; refine ⟨_, rfl, hM, ?_⟩; clear hM; (first | show wpD _ _ _ _ (Act.put _ (some _) _) _ | show wpD _ _ _ _ (Act.put _ none _) _); (simp only [Act.put, sA, sZ, sS])) | ((with_reducible show wpD _ _ _ ((_, 2) :: _) _ _); (refine D_call (f := 59) (args := ?_) rfl rfl ?_ ?_); rotate_left 1; (show (Sem.run _ (execOp _ (Oper.mk _ _ _ _ _ _)) _) = _; go_simp; rfl); obtain ⟨Fq, hFq⟩ := hS.has rPair.slice [.slice A9 (netF rows.length).length c9]; refine (spec_PairTraceR _ Fq _ _ hFq (by have := HNL.out; omega)).mono ?_; rintro e wy ⟨v2, rfl, hN⟩; (rw [HT.out] at hN); have hM := hN.mod0; replace hS := hS.fresh hN; clear hN hFq; refine ⟨_, rfl, hM, ?_⟩; clear hM; (first | show wpD _ _ _ _ (Act.put _ (some _) _) _ | show wpD _ _ _ _ (Act.put _ none _) _); (simp only [Act.put, sA, sZ, sS])) | ((with_reducible show wpD _ _ _ ((_, 3) :: _) _ _); refine D_loud rfl rfl (f_storeS hS rfl rfl rfl (by rfl) (by rfl) (by rfl)) ?_; clear hS; rintro _ wx ⟨rfl, hS⟩; (simp only [sZ, sS] at hS); (first | show wpD _ _ _ _ (Act.put _ (some _) _) _ | show wpD _ _ _ _ (Act.put _ none _) _); (simp only [Act.put, sA, sZ, sS])) | ((with_reducible show wpD _ _ _ [] _ _); refine D_nil ?_) | ((with_reducible show wpD _ _ _ ((_, 0) :: _) _ _); (first | (refine D_skip rfl rfl ?_; (first | show wpD _ _ _ _ (Act.put _ (some _) _) _ | show wpD _ _ _ _ (Act.put _ none _) _); (simp only [Act.put, sA, sZ, sS])) | (refine D_pure (v := ?_) rfl rfl (fun wq => ?_) ?_; rotate_left 1; (show (Sem.run _ (execOp _ (Oper.mk _ _ _ _ _ _)) _) = _; go_simp; (try go_bits); with_reducible rfl); (first | show wpD _ _ _ _ (Act.put _ (some _) _) _ | show wpD _ _ _ _ (Act.put _ none _) _); (simp only [Act.put, sA, sZ, sS])))) | ((with_reducible show wpD _ _ _ ((_, 1) :: _) _ _); (first | (refine D_skip rfl rfl ?_; (first | show wpD _ _ _ _ (Act.put _ (some _) _) _ | show wpD _ _ _ _ (Act.put _ none _) _); (simp only [Act.put, sA, sZ, sS])) | ((first | refine D_load rfl rfl (fun x hx => f_load (hS.mod hx) rfl rfl (by rfl)) ?_ | refine D_load rfl rfl (fun x hx => f_loadS (hS.mod hx) rfl rfl (by rfl)) ?_ | refine D_load rfl rfl (fun x hx => f_loadAt (hS.mod hx) rfl rfl) ?_ | refine D_load rfl rfl (fun x hx => f_loadAtS (hS.mod hx) rfl rfl (by rfl)) ?_ | refine D_load rfl rfl (fun x hx => f_loadAtF (hS.mod hx) rfl rfl (by rfl)) ?_); (first | show wpD _ _ _ _ (Act.put _ (some _) _) _ | show wpD _ _ _ _ (Act.put _ none _) _); (simp only [Act.put, sA, sZ, sS])))) | ((with_reducible show wpList _ _ _ (⟨_, Op.load _ _, _, _, _, _⟩ :: _) _ _); (first | refine Gives.list (f_load hS rfl rfl (by rfl)) rfl ?_ | refine Gives.list (f_loadS hS rfl rfl (by rfl)) rfl ?_ | refine Gives.list (f_loadAt hS rfl rfl) rfl ?_ | refine Gives.list (f_loadAtS hS rfl rfl (by rfl)) rfl ?_ | refine Gives.list (f_loadAtF hS rfl rfl (by rfl)) rfl ?_); (simp only [Act.put, sA, sZ, sS])))
    (try simp only [Exit.inBlock, Exit.then]); refine bodyPost_ret (hS.resultC2T rfl rfl (by rfl)) rfl ?_
    exact ret_pt H.out rfl (Sat.pair (Sat.mkPadded (hS.sel (Γ' := [.own Rep.bool.rows [.slice E3 q.2.2.length k3] q.2.2, .own Rep.int.rows.rows [.slice E2 q.2.1.length k2] q.2.1, .own Rep.str.rows [.slice E1 q.1.length k1] q.1, .own rAccess.rows [v2] tr]) [2, 3, 4, 0] rfl (by decide)))).result
  · have t1 : (col.toList == []) = true := he
    have t2 : (col.toList != []) = false := by rw [bne, t1]; rfl
    clear hch
    have H := Lib.hid (sortF_t (down := down) (show sortOk (ns, rows, real) col = true by unfold sortOk; rw [hp, he]; rfl))
    have h256 := (paddedOk_all4 hp).2.1
    have HNL := Lib.hid (netF_len h256)
    have Hcol : Hid (colOf ns col = -1 ∨ ∃ j : Nat, colOf ns col = (j : Int) ∧ j < ns.length) := Lib.hid (by
      obtain ⟨k1, k2⟩ := colOf_bd (xs := ns) (x := col)
      by_cases h : 0 ≤ colOf ns col
      · exact .inr ⟨(colOf ns col).toNat, by omega, by omega⟩
      · exact .inl (by omega))
    obtain ⟨q, hq⟩ : ∃ q, sortP (colOf ns col) down (ns, rows, real) = q := ⟨_, rfl⟩
    obtain ⟨tr, htr⟩ : ∃ q, pairF (netF rows.length) = q := ⟨_, rfl⟩
    dsimp only at H
    rw [hq, htr] at H
    have HQ := Lib.hid hq
    have HT := Lib.hid htr
    clear hq htr hp he
    go_wp2_with (first | (go_at_call 74; obtain ⟨Fq, hFq⟩ := hS.has Rep.str.slice [.slice B1 ns.length d1]; obtain ⟨Fr, hFr⟩ := hS.has Rep.int.slice.slice [.slice B2 rows.length d2]; obtain ⟨Fs, hFs⟩ := hS.has Rep.bool.slice [.slice B3 real.length d3]; refine (spec_PaddedValid' _ B1 B2 B3 d1 d2 d3 Fq Fr Fs ns rows real hFq hFr hFs).mono ?_; rintro e w' ⟨rfl, hM⟩; replace hS := hS.mod hM; clear hM hFq hFr hFs; (simp only [Hp.out])) | ((with_reducible show Code.wp _ (Code.region 4 _ true) _ _ _); refine wp_region_drawn [(0, 1), (1, 0), (2, 1), (3, 0), (5, 0), (7, 0), (8, 1), (9, 0), (4, 2), (6, 2), (10, 2), (11, 2), (12, 3), (13, 0), (14, 0)] (by kernel_rfl) (by kernel_rfl) (by intro _ _ dq _ _ hq; cases dq <;> exact hq) ?_; replace hS := hS.mod (Mod.drew (Mod.refl _ _)); (generalize hwd : World.drew _ = wz at hS ⊢); clear hwd) | ((with_reducible show wpD _ _ _ ((_, 2) :: _) _ _); (refine D_call (f := 89) (args := ?_) rfl rfl ?_ ?_); rotate_left 1; (show (Sem.run _ (execOp _ (Oper.mk _ _ _ _ _ _)) _) = _; go_simp; rfl); obtain ⟨Fq, hFq⟩ := hS.has Rep.str.slice [.slice B1 ns.length d1]; refine (spec_l1Column _ Fq _ ns col hFq).mono ?_; rintro e wy ⟨rfl, hM⟩; replace hS := hS.mod hM; clear hFq; refine ⟨_, rfl, hM, ?_⟩; clear hM; (first | show wpD _ _ _ _ (Act.put _ (some _) _) _ | show wpD _ _ _ _ (Act.put _ none _) _); (simp only [Act.put, sA, sZ, sS])) | ((with_reducible show wpD _ _ _ ((_, 2) :: _) _ _); (refine D_call (f := 100) (args := ?_) rfl rfl ?_ ?_); rotate_left 1; (show (Sem.run _ (execOp _ (Oper.mk _ _ _ _ _ _)) _) = _; go_simp; rfl); obtain ⟨Fq, hFq⟩ := hS.has Rep.str.slice [.slice B1 ns.length d1]; obtain ⟨Fr, hFr⟩ := hS.has Rep.int.slice.slice [.slice B2 rows.length d2]; obtain ⟨Fs, hFs⟩ := hS.has Rep.bool.slice [.slice B3 real.length d3]; refine (spec_l11Sort _ B1 B2 B3 d1 d2 d3 Fq Fr Fs ns rows real (colOf ns col) down hFq hFr hFs Hp.out Hps.out Hcol.out).mono ?_; rintro e wy ⟨cs, rfl, hN⟩; (rw [HQ.out] at hN); have hM := hN.mod0; replace hS := hS.fresh hN; clear hN hFq hFr hFs; have hS2 := Sat.openOwnPadded hS; clear hS; obtain ⟨E1, k1, E2, k2, E3, k3, rfl, hS⟩ := hS2; refine ⟨_, rfl, hM, ?_⟩; clear hM; (first | show wpD _ _ _ _ (Act.put _ (some _) _) _ | show wpD _ _ _ _ (Act.put _ none _) _); (simp only [Act.put, sA, sZ, sS])) | ((with_reducible show wpD _ _ _ ((_, 2) :: _) _ _); (refine D_call (f := 101) (args := ?_) rfl rfl ?_ ?_); rotate_left 1; (show (Sem.run _ (execOp _ (Oper.mk _ _ _ _ _ _)) _) = _; go_simp; rfl); refine (spec_NetworkOf _ rows.length h256).mono ?_; rintro e wy ⟨v1, rfl, hN⟩; have hM := hN.mod0; replace hS := hS.fresh hN; clear hN; obtain ⟨A9, c9, rfl⟩ := hS.formOwn 0 rfl; refine ⟨_, rfl, hM, ?_⟩; clear hM; (first | show wpD _ _ _ _ (Act.put _ (some _) _) _ | show wpD _ _ _ _ (Act.put _ none _) _); (simp only [Act.put, sA, sZ, sS])) | ((with_reducible show wpD _ _ _ ((_, 2) :: _) _ _); (refine D_call (f := 59) (args := ?_) rfl rfl ?_ ?_); rotate_left 1; (show (Sem.run _ (execOp _ (Oper.mk _ _ _ _ _ _)) _) = _; go_simp; rfl); obtain ⟨Fq, hFq⟩ := hS.has rPair.slice [.slice A9 (netF rows.length).length c9]; refine (spec_PairTraceR _ Fq _ _ hFq (by have := HNL.out; omega)).mono ?_; rintro e wy ⟨v2, rfl, hN⟩; (rw [HT.out] at hN); have hM := hN.mod0; replace hS := hS.fresh hN; clear hN hFq; refine ⟨_, rfl, hM, ?_⟩; clear hM; (first | show wpD _ _ _ _ (Act.put _ (some _) _) _ | show wpD _ _ _ _ (Act.put _ none _) _); (simp only [Act.put, sA, sZ, sS])) | ((with_reducible show wpD _ _ _ ((_, 3) :: _) _ _); refine D_loud rfl rfl (f_storeS hS rfl rfl rfl (by rfl) (by rfl) (by rfl)) ?_; clear hS; rintro _ wx ⟨rfl, hS⟩; (simp only [sZ, sS] at hS); (first | show wpD _ _ _ _ (Act.put _ (some _) _) _ | show wpD _ _ _ _ (Act.put _ none _) _); (simp only [Act.put, sA, sZ, sS])) | ((with_reducible show wpD _ _ _ [] _ _); refine D_nil ?_) | ((with_reducible show wpD _ _ _ ((_, 0) :: _) _ _); (first | (refine D_skip rfl rfl ?_; (first | show wpD _ _ _ _ (Act.put _ (some _) _) _ | show wpD _ _ _ _ (Act.put _ none _) _); (simp only [Act.put, sA, sZ, sS])) | (refine D_pure (v := ?_) rfl rfl (fun wq => ?_) ?_; rotate_left 1; (show (Sem.run _ (execOp _ (Oper.mk _ _ _ _ _ _)) _) = _; go_simp; (try go_bits); with_reducible rfl); (first | show wpD _ _ _ _ (Act.put _ (some _) _) _ | show wpD _ _ _ _ (Act.put _ none _) _); (simp only [Act.put, sA, sZ, sS])))) | ((with_reducible show wpD _ _ _ ((_, 1) :: _) _ _); (first | (refine D_skip rfl rfl ?_; (first | show wpD _ _ _ _ (Act.put _ (some _) _) _ | show wpD _ _ _ _ (Act.put _ none _) _); (simp only [Act.put, sA, sZ, sS])) | ((first | refine D_load rfl rfl (fun x hx => f_load (hS.mod hx) rfl rfl (by rfl)) ?_ | refine D_load rfl rfl (fun x hx => f_loadS (hS.mod hx) rfl rfl (by rfl)) ?_ | refine D_load rfl rfl (fun x hx => f_loadAt (hS.mod hx) rfl rfl) ?_ | refine D_load rfl rfl (fun x hx => f_loadAtS (hS.mod hx) rfl rfl (by rfl)) ?_ | refine D_load rfl rfl (fun x hx => f_loadAtF (hS.mod hx) rfl rfl (by rfl)) ?_); (first | show wpD _ _ _ _ (Act.put _ (some _) _) _ | show wpD _ _ _ _ (Act.put _ none _) _); (simp only [Act.put, sA, sZ, sS])))))
    (try simp only [Exit.inBlock, Exit.then]); refine bodyPost_ret (hS.resultC2T rfl rfl (by rfl)) rfl ?_
    exact ret_pt H.out rfl (Sat.pair (Sat.mkPadded (hS.sel (Γ' := [.own Rep.bool.rows [.slice E3 q.2.2.length k3] q.2.2, .own Rep.int.rows.rows [.slice E2 q.2.1.length k2] q.2.1, .own Rep.str.rows [.slice E1 q.1.length k1] q.1, .own rAccess.rows [v2] tr]) [2, 3, 4, 0] rfl (by decide)))).result
end Go.Proofs.YtldknaajnnohiaaDoor
end

section
namespace Go.Proofs.YtldknaajnnohiaaDoor
open Go.RowKit

end Go.Proofs.YtldknaajnnohiaaDoor
end
