/- LeafOf: the program's side. -/
import Derived.Test.YthabgnhedmepjaaLeaf
import Derived.Test.YthabgnhedmepjaaRes
namespace Go.Proofs.Ythabgnhedmepjaa
open Go.RowKit

theorem leafOf_far {m : MemoryD} {a : Int} (h : memOk m = true) (ha : inB a 0 7 = false) : leafOf m a = -1 := by
  refine leafOf_no ?_
  rw [List.any_eq_false]
  intro b hb hba
  unfold memOk at h
  simp only [Bool.and_eq_true] at h
  have h1 := List.all_eq_true.1 h.1.1.2 b hb
  unfold blockOk at h1
  simp only [Bool.and_eq_true] at h1
  have he : b.1 = a := by simpa [isAt] using hba
  rw [he] at h1
  rw [h1.1.1] at ha
  cases ha
/-- In a good memory each address has a block. -/
theorem mem_has {m : MemoryD} {a : Int} (h : memOk m = true) (ha : inB a 0 7 = true) : (memAll m).any (isAt a) = true := by
  unfold memOk at h
  simp only [Bool.and_eq_true, decide_eq_true_eq] at h
  obtain ⟨⟨⟨_, hb⟩, hn⟩, hl⟩ := h
  have hbd : ∀ x ∈ addrs (memAll m), 0 ≤ x ∧ x ≤ 7 := by
    intro x hx
    obtain ⟨b, hb2, rfl⟩ := List.mem_map.1 hx
    have := List.all_eq_true.1 hb b hb2
    unfold blockOk at this
    simp only [Bool.and_eq_true] at this
    exact inB_of this.1.1
  obtain ⟨a0, a7⟩ := inB_of ha
  have hc := (counts_iff hbd).2 ⟨hn, by rw [addrs_len]; exact hl⟩ a.toNat (by omega)
  rw [show ((a.toNat : Nat) : Int) = a by omega] at hc
  have hm : a ∈ addrs (memAll m) := List.count_pos_iff.1 (by omega)
  obtain ⟨b, hb1, hb2⟩ := List.mem_map.1 hm
  exact List.any_eq_true.2 ⟨b, hb1, by simp [isAt, hb2]⟩

set_option maxHeartbeats 1000000 in
theorem clo_block (w : World) (b : BlockD) (bk : Nat) (a : Int) (F : List Nat) (hk : (Rep.cellR ⟨bk, 0, none⟩).has w F [] [.int .i64 a]) :
    Calls Try.prog 101 #[.agg #[.int .i64 b.1, .int .i64 b.2.1, .int .i64 b.2.2], .pointer (some ⟨bk, 0, none⟩)] w fun e w' => e = .returned (.bool (isAt a b)) ∧ Mod [] w w' := by
  have hS : Sat w w [.at ⟨bk, 0, none⟩ [.int .i64 a]] := (Sat.nil w).argAt hk
  clear hk
  go_enter Try.func101, Try.ntmps101
  go_wp2_with (first | ((with_reducible show wpList _ _ _ ({ dst := _, op := Op.box _ _, type := _, pos := _, after := _, guard := _ } :: _) _ _); refine Does.list (does_box hS rfl rfl (by rfl)) rfl ?_; clear hS; rintro _ wx ⟨bo, rfl, hS, _⟩; (simp only [Act.put, List.setIfInBounds_toArray, List.set_cons_zero, List.set_cons_succ])) | ((with_reducible show wpList _ _ _ ({ dst := _, op := Op.load _ _, type := _, pos := _, after := _, guard := _ } :: _) _ _); (first | refine Gives.list (f_load hS rfl rfl (by rfl)) rfl ?_ | refine Gives.list (f_loadS hS rfl rfl (by rfl)) rfl ?_ | refine Gives.list (f_loadAt hS rfl rfl) rfl ?_ | refine Gives.list (f_loadAtS hS rfl rfl (by rfl)) rfl ?_ | refine Gives.list (f_loadAtF hS rfl rfl (by rfl)) rfl ?_); (simp only [Act.put, List.setIfInBounds_toArray, List.set_cons_zero, List.set_cons_succ])) | ((with_reducible show wpList _ _ _ ({ dst := _, op := Op.store _ _ _, type := _, pos := _, after := _, guard := _ } :: _) _ _); (first | refine Does.list (f_store hS rfl rfl rfl (by rfl) (by rfl)) rfl ?_ | refine Does.list (f_storeS hS rfl rfl rfl (by rfl) (by rfl) (by rfl)) rfl ?_); clear hS; rintro _ wx ⟨rfl, hS⟩; (simp only [List.set_cons_zero, List.set_cons_succ] at hS); (simp only [Act.put, List.setIfInBounds_toArray, List.set_cons_zero, List.set_cons_succ])) | ((with_reducible show wpList _ _ _ ({ dst := _, op := Op.alloc _, type := _, pos := _, after := _, guard := _ } :: _) _ _); refine Does.list (does_alloc hS rfl (by rfl)) rfl ?_; clear hS; rintro _ wx ⟨ba, rfl, hS, _⟩; (simp only [Act.put, List.setIfInBounds_toArray, List.set_cons_zero, List.set_cons_succ])) | ((with_reducible show wpList _ _ _ ({ dst := _, op := Op.buildSlice _ _ _, type := _, pos := _, after := _, guard := _ } :: _) _ _); refine Does.list (does_buildSlice (X := ?_) (cs := ?_) (E := ?_) hS rfl ?_ ?_) rfl ?_; rotate_left 3; (go_simp; rfl); rfl; clear hS; rintro _ wx ⟨bx, rfl, hS, _⟩; (simp only [Act.put, List.setIfInBounds_toArray, List.set_cons_zero, List.set_cons_succ])) | fail | ((with_reducible show wpD _ _ _ [] _ _); refine D_nil ?_) | ((with_reducible show wpD _ _ _ ((_, 0) :: _) _ _); (first | (refine D_skip rfl rfl ?_; (first | show wpD _ _ _ _ (Act.put _ (some _) _) _ | show wpD _ _ _ _ (Act.put _ none _) _); (simp only [Act.put, List.setIfInBounds_toArray, List.set_cons_zero, List.set_cons_succ])) | (refine D_pure (v := ?_) rfl rfl (fun wq => ?_) ?_; rotate_left 1; (show (Sem.run _ (execOp _ (Oper.mk _ _ _ _ _ _)) _) = _; go_simp; (try go_bits); with_reducible rfl); (first | show wpD _ _ _ _ (Act.put _ (some _) _) _ | show wpD _ _ _ _ (Act.put _ none _) _); (simp only [Act.put, List.setIfInBounds_toArray, List.set_cons_zero, List.set_cons_succ])))) | ((with_reducible show wpD _ _ _ ((_, 1) :: _) _ _); (first | (refine D_skip rfl rfl ?_; (first | show wpD _ _ _ _ (Act.put _ (some _) _) _ | show wpD _ _ _ _ (Act.put _ none _) _); (simp only [Act.put, List.setIfInBounds_toArray, List.set_cons_zero, List.set_cons_succ])) | ((first | refine D_load rfl rfl (fun x hx => f_load (hS.mod hx) rfl rfl (by rfl)) ?_ | refine D_load rfl rfl (fun x hx => f_loadS (hS.mod hx) rfl rfl (by rfl)) ?_ | refine D_load rfl rfl (fun x hx => f_loadAt (hS.mod hx) rfl rfl) ?_ | refine D_load rfl rfl (fun x hx => f_loadAtS (hS.mod hx) rfl rfl (by rfl)) ?_ | refine D_load rfl rfl (fun x hx => f_loadAtF (hS.mod hx) rfl rfl (by rfl)) ?_); (first | show wpD _ _ _ _ (Act.put _ (some _) _) _ | show wpD _ _ _ _ (Act.put _ none _) _); (simp only [Act.put, List.setIfInBounds_toArray, List.set_cons_zero, List.set_cons_succ])))) | ((with_reducible show wpD _ _ _ ((_, 2) :: _) _ _); (refine D_skip rfl rfl ?_; (first | show wpD _ _ _ _ (Act.put _ (some _) _) _ | show wpD _ _ _ _ (Act.put _ none _) _); (simp only [Act.put, List.setIfInBounds_toArray, List.set_cons_zero, List.set_cons_succ]))) | ((with_reducible show wpD _ _ _ ((_, 3) :: _) _ _); (refine D_skip rfl rfl ?_; (first | show wpD _ _ _ _ (Act.put _ (some _) _) _ | show wpD _ _ _ _ (Act.put _ none _) _); (simp only [Act.put, List.setIfInBounds_toArray, List.set_cons_zero, List.set_cons_succ]))) | ((with_reducible show wpD _ _ _ ((_, 2) :: _) _ _); ((refine D_calm rfl rfl (does_buildSlice (X := ?_) (cs := ?_) (E := ?_) hS rfl ?_ ?_) ?_); rotate_left 3; (go_simp; rfl); rfl; clear hS; rintro _ wx ⟨bx, rfl, hS, hM⟩; refine ⟨hM, ?_⟩; clear hM; (first | show wpD _ _ _ _ (Act.put _ (some _) _) _ | show wpD _ _ _ _ (Act.put _ none _) _); (simp only [Act.put, List.setIfInBounds_toArray, List.set_cons_zero, List.set_cons_succ]))) | ((with_reducible show wpD _ _ _ ((_, 2) :: _) _ _); ((first | refine D_calm rfl rfl (does_alloc hS rfl (by rfl)) ?_ | refine D_calm rfl rfl (does_box hS rfl rfl (by rfl)) ?_); clear hS; rintro _ wx ⟨bx, rfl, hS, hM⟩; refine ⟨hM, ?_⟩; clear hM; (first | show wpD _ _ _ _ (Act.put _ (some _) _) _ | show wpD _ _ _ _ (Act.put _ none _) _); (simp only [Act.put, List.setIfInBounds_toArray, List.set_cons_zero, List.set_cons_succ]))) | ((with_reducible show wpD _ _ _ ((_, 3) :: _) _ _); ((first | refine D_loud rfl rfl (f_store hS rfl rfl rfl (by rfl) (by rfl)) ?_ | refine D_loud rfl rfl (f_storeS hS rfl rfl rfl (by rfl) (by rfl) (by rfl)) ?_); clear hS; rintro _ wx ⟨rfl, hS⟩; (simp only [List.set_cons_zero, List.set_cons_succ] at hS); (first | show wpD _ _ _ _ (Act.put _ (some _) _) _ | show wpD _ _ _ _ (Act.put _ none _) _); (simp only [Act.put, List.setIfInBounds_toArray, List.set_cons_zero, List.set_cons_succ]))))
  go_ret
  exact ⟨ret_bool rfl, hS.mod0⟩
set_option maxHeartbeats 1000000 in
theorem ixf_block (w : World) (F : List Nat) (v : Value) (bs : List BlockD) (hx : SliceHas rBlock w F [v] bs) (bk : Nat) (a : Int) (Fk : List Nat) (hk : (Rep.cellR ⟨bk, 0, none⟩).has w Fk [] [.int .i64 a]) (hex : bs.any (isAt a) = true) :
    Calls Try.prog 98 #[v, .func (.func 101) #[] #[.pointer (some ⟨bk, 0, none⟩)]] w fun e w' => ∃ q : Nat, ∃ b, e = .returned (.int .i64 q) ∧ q < bs.length ∧ bs[q]? = some b ∧ (bs.take q).any (isAt a) = false ∧ isAt a b = true ∧ Mod [] w w' := by
  obtain ⟨A, c, rfl, hc, _⟩ := hx.form'
  have hS : Sat w w [.ro rBlock.slice [.slice A bs.length c] bs] := (Sat.nil w).arg hx
  clear hx
  have Hex := Lib.hid hex
  clear hex
  go_enter Try.func98, Try.ntmps98
  go_wp2_with fail
  go_loopw [8] (fun i wr => ∃ q : Nat, q ≤ bs.length ∧ i = .int .i64 q ∧ (bs.take q).any (isAt a) = false ∧ Sat w wr [.ro rBlock.slice [.slice A bs.length c] bs]) (fun i _ => bs.length - (intOf i).toNat)
  case atStart => exact ⟨0, Nat.zero_le _, rfl, rfl, hS⟩
  case round =>
    clear hS
    obtain ⟨q, hq, rfl, ha, hS⟩ := hrel
    have Ha := Lib.hid ha
    clear ha
    by_cases hlt : q < bs.length
    · have hy := get_some hlt
      cases hp : isAt a bs[q]
      · have H := Lib.hid (any_succ_f (p := isAt a) hlt Ha.out hp)
        generalize bs[q] = x at hy hp
        have Hy := Lib.hid hy
        clear hy
        obtain ⟨ad, rfl, j0, j1, j2, hS⟩ := hS.elBlock A bs.length c Hy.out
        go_wp2_with (first | ((with_reducible show wpList _ _ _ ({ dst := _, op := Op.box _ _, type := _, pos := _, after := _, guard := _ } :: _) _ _); refine Does.list (does_box hS rfl rfl (by rfl)) rfl ?_; clear hS; rintro _ wx ⟨bo, rfl, hS, _⟩; (simp only [Act.put, List.setIfInBounds_toArray, List.set_cons_zero, List.set_cons_succ])) | ((with_reducible show wpList _ _ _ ({ dst := _, op := Op.load _ _, type := _, pos := _, after := _, guard := _ } :: _) _ _); (first | refine Gives.list (f_load hS rfl rfl (by rfl)) rfl ?_ | refine Gives.list (f_loadS hS rfl rfl (by rfl)) rfl ?_ | refine Gives.list (f_loadAt hS rfl rfl) rfl ?_ | refine Gives.list (f_loadAtS hS rfl rfl (by rfl)) rfl ?_ | refine Gives.list (f_loadAtF hS rfl rfl (by rfl)) rfl ?_); (simp only [Act.put, List.setIfInBounds_toArray, List.set_cons_zero, List.set_cons_succ])) | ((with_reducible show wpList _ _ _ ({ dst := _, op := Op.store _ _ _, type := _, pos := _, after := _, guard := _ } :: _) _ _); (first | refine Does.list (f_store hS rfl rfl rfl (by rfl) (by rfl)) rfl ?_ | refine Does.list (f_storeS hS rfl rfl rfl (by rfl) (by rfl) (by rfl)) rfl ?_); clear hS; rintro _ wx ⟨rfl, hS⟩; (simp only [List.set_cons_zero, List.set_cons_succ] at hS); (simp only [Act.put, List.setIfInBounds_toArray, List.set_cons_zero, List.set_cons_succ])) | ((with_reducible show wpList _ _ _ ({ dst := _, op := Op.alloc _, type := _, pos := _, after := _, guard := _ } :: _) _ _); refine Does.list (does_alloc hS rfl (by rfl)) rfl ?_; clear hS; rintro _ wx ⟨ba, rfl, hS, _⟩; (simp only [Act.put, List.setIfInBounds_toArray, List.set_cons_zero, List.set_cons_succ])) | ((with_reducible show wpList _ _ _ ({ dst := _, op := Op.buildSlice _ _ _, type := _, pos := _, after := _, guard := _ } :: _) _ _); refine Does.list (does_buildSlice (X := ?_) (cs := ?_) (E := ?_) hS rfl ?_ ?_) rfl ?_; rotate_left 3; (go_simp; rfl); rfl; clear hS; rintro _ wx ⟨bx, rfl, hS, _⟩; (simp only [Act.put, List.setIfInBounds_toArray, List.set_cons_zero, List.set_cons_succ])) | (go_at_call 101; refine (clo_block _ x bk a Fk ((Rep.cellR _).mod0 hk hS.mod0)).mono ?_; rintro e w' ⟨rfl, hM⟩; replace hS := hS.mod hM; clear hM))
        go_roundw
        case rel => exact ⟨q + 1, hlt, by go_num, H.out, hS.sel [1] rfl (by decide)⟩
        case measure => simp [intOf]; omega
      · generalize bs[q] = x at hy hp
        have Hy := Lib.hid hy
        have Hp := Lib.hid hp
        clear hy
        obtain ⟨ad, rfl, j0, j1, j2, hS⟩ := hS.elBlock A bs.length c Hy.out
        go_wp2_with (first | ((with_reducible show wpList _ _ _ ({ dst := _, op := Op.box _ _, type := _, pos := _, after := _, guard := _ } :: _) _ _); refine Does.list (does_box hS rfl rfl (by rfl)) rfl ?_; clear hS; rintro _ wx ⟨bo, rfl, hS, _⟩; (simp only [Act.put, List.setIfInBounds_toArray, List.set_cons_zero, List.set_cons_succ])) | ((with_reducible show wpList _ _ _ ({ dst := _, op := Op.load _ _, type := _, pos := _, after := _, guard := _ } :: _) _ _); (first | refine Gives.list (f_load hS rfl rfl (by rfl)) rfl ?_ | refine Gives.list (f_loadS hS rfl rfl (by rfl)) rfl ?_ | refine Gives.list (f_loadAt hS rfl rfl) rfl ?_ | refine Gives.list (f_loadAtS hS rfl rfl (by rfl)) rfl ?_ | refine Gives.list (f_loadAtF hS rfl rfl (by rfl)) rfl ?_); (simp only [Act.put, List.setIfInBounds_toArray, List.set_cons_zero, List.set_cons_succ])) | ((with_reducible show wpList _ _ _ ({ dst := _, op := Op.store _ _ _, type := _, pos := _, after := _, guard := _ } :: _) _ _); (first | refine Does.list (f_store hS rfl rfl rfl (by rfl) (by rfl)) rfl ?_ | refine Does.list (f_storeS hS rfl rfl rfl (by rfl) (by rfl) (by rfl)) rfl ?_); clear hS; rintro _ wx ⟨rfl, hS⟩; (simp only [List.set_cons_zero, List.set_cons_succ] at hS); (simp only [Act.put, List.setIfInBounds_toArray, List.set_cons_zero, List.set_cons_succ])) | ((with_reducible show wpList _ _ _ ({ dst := _, op := Op.alloc _, type := _, pos := _, after := _, guard := _ } :: _) _ _); refine Does.list (does_alloc hS rfl (by rfl)) rfl ?_; clear hS; rintro _ wx ⟨ba, rfl, hS, _⟩; (simp only [Act.put, List.setIfInBounds_toArray, List.set_cons_zero, List.set_cons_succ])) | ((with_reducible show wpList _ _ _ ({ dst := _, op := Op.buildSlice _ _ _, type := _, pos := _, after := _, guard := _ } :: _) _ _); refine Does.list (does_buildSlice (X := ?_) (cs := ?_) (E := ?_) hS rfl ?_ ?_) rfl ?_; rotate_left 3; (go_simp; rfl); rfl; clear hS; rintro _ wx ⟨bx, rfl, hS, _⟩; (simp only [Act.put, List.setIfInBounds_toArray, List.set_cons_zero, List.set_cons_succ])) | (go_at_call 101; refine (clo_block _ x bk a Fk ((Rep.cellR _).mod0 hk hS.mod0)).mono ?_; rintro e w' ⟨rfl, hM⟩; replace hS := hS.mod hM; clear hM))
        go_ret
        exact ⟨q, x, rfl, hlt, Hy.out, Ha.out, Hp.out, hS.mod0⟩
    · exfalso
      have ha := Ha.out
      rw [List.take_of_length_le (by omega), Hex.out] at ha
      cases ha
set_option maxHeartbeats 2000000 in
theorem impl_block (a : Int) (w : World) (cells : List Value) (F : List Nat) (m : MemoryD) (h : rMemory.has w F cells m) (hall : (memAll m).length ≤ 1000000000) (hok : memOk m = true) (ha : inB a 0 7 = true) :
    Calls Try.prog 87 #[.agg cells.toArray, .int .i64 a] w fun e w' => ∃ b1 b2, e = .returned (.agg #[.int .i64 b1, .int .i64 b2, .int .i64 (leafOf m a)]) ∧ Mod [] w w' := by
  have Hex := Lib.hid (mem_has hok ha)
  have hS0 : Sat w w [.ro rMemory cells m] := (Sat.nil w).arg h
  obtain ⟨Ab, cb, As, cs, rfl, hS⟩ := Sat.openRoMemory hS0
  have Hok := Lib.hid hok
  clear hS0 hok ha
  go_enter Try.func87, Try.ntmps87
  go_wp2_with (first | ((with_reducible show wpList _ _ _ ({ dst := _, op := Op.box _ _, type := _, pos := _, after := _, guard := _ } :: _) _ _); refine Does.list (does_box hS rfl rfl (by rfl)) rfl ?_; clear hS; rintro _ wx ⟨bo, rfl, hS, _⟩; (simp only [Act.put, List.setIfInBounds_toArray, List.set_cons_zero, List.set_cons_succ])) | ((with_reducible show wpList _ _ _ ({ dst := _, op := Op.load _ _, type := _, pos := _, after := _, guard := _ } :: _) _ _); (first | refine Gives.list (f_load hS rfl rfl (by rfl)) rfl ?_ | refine Gives.list (f_loadS hS rfl rfl (by rfl)) rfl ?_ | refine Gives.list (f_loadAt hS rfl rfl) rfl ?_ | refine Gives.list (f_loadAtS hS rfl rfl (by rfl)) rfl ?_ | refine Gives.list (f_loadAtF hS rfl rfl (by rfl)) rfl ?_); (simp only [Act.put, List.setIfInBounds_toArray, List.set_cons_zero, List.set_cons_succ])) | ((with_reducible show wpList _ _ _ ({ dst := _, op := Op.store _ _ _, type := _, pos := _, after := _, guard := _ } :: _) _ _); (first | refine Does.list (f_store hS rfl rfl rfl (by rfl) (by rfl)) rfl ?_ | refine Does.list (f_storeS hS rfl rfl rfl (by rfl) (by rfl) (by rfl)) rfl ?_); clear hS; rintro _ wx ⟨rfl, hS⟩; (simp only [List.set_cons_zero, List.set_cons_succ] at hS); (simp only [Act.put, List.setIfInBounds_toArray, List.set_cons_zero, List.set_cons_succ])) | ((with_reducible show wpList _ _ _ ({ dst := _, op := Op.alloc _, type := _, pos := _, after := _, guard := _ } :: _) _ _); refine Does.list (does_alloc hS rfl (by rfl)) rfl ?_; clear hS; rintro _ wx ⟨ba, rfl, hS, _⟩; (simp only [Act.put, List.setIfInBounds_toArray, List.set_cons_zero, List.set_cons_succ])) | ((with_reducible show wpList _ _ _ ({ dst := _, op := Op.buildSlice _ _ _, type := _, pos := _, after := _, guard := _ } :: _) _ _); refine Does.list (does_buildSlice (X := ?_) (cs := ?_) (E := ?_) hS rfl ?_ ?_) rfl ?_; rotate_left 3; (go_simp; rfl); rfl; clear hS; rintro _ wx ⟨bx, rfl, hS, _⟩; (simp only [Act.put, List.setIfInBounds_toArray, List.set_cons_zero, List.set_cons_succ])) | (go_at_call 74; have hh := rMemory.mod0 h hS.mod0; refine (impl_all _ _ F m hh hall).mono ?_; clear hh; rintro e wy ⟨v, rfl, hN⟩; replace hS := hS.fresh hN; clear hN; obtain ⟨A2, c2, rfl⟩ := hS.formOwn 0 rfl; replace hS := Sat.still (e' := rBlock.slice) hS) | (go_at_call 98; obtain ⟨Fq, hFq⟩ := hS.readRo; refine (ixf_block _ Fq _ _ hFq _ a _ (hS.boxR (i := 2) rfl) Hex.out).mono ?_; rintro e w' ⟨q, b, rfl, hql, hqb, hqa, hqi, hM⟩; replace hS := hS.mod hM; clear hM hFq; obtain ⟨ad, rfl, j0, j1, j2, hS⟩ := hS.elBlock A2 (memAll m).length c2 hqb))
  have hl := leafOf_at Hok.out hqa hqb hqi
  (try simp only [Exit.inBlock, Exit.then])
  refine bodyPost_ret (hS.resultCell rfl rfl (by rfl)) rfl ?_
  exact ⟨b.1, b.2.1, by rw [hl], hS.mod0⟩
set_option maxHeartbeats 400000 in
set_option maxRecDepth 8000 in
theorem impl_LeafOf' (a : Int) (w : World) (cells : List Value) (F : List Nat) (m : MemoryD) (h : rMemory.has w F cells m) (hall : (memAll m).length ≤ 1000000000) :
    Calls Try.prog 44 #[.agg cells.toArray, .int .i64 a] w fun e w' => e = .returned (.int .i64 (leafOf m a)) ∧ Mod [] w w' := by
  have hS0 : Sat w w [.ro rMemory cells m] := (Sat.nil w).arg h
  obtain ⟨Ab, cb, As, cs, rfl, hS⟩ := Sat.openRoMemory hS0
  clear hS0
  cases hok : memOk m
  · have H := Lib.hid (leafOf_bad (a := a) hok)
    go_enter Try.func44, Try.ntmps44
    go_wp2_with (first | ((with_reducible show wpList _ _ _ ({ dst := _, op := Op.box _ _, type := _, pos := _, after := _, guard := _ } :: _) _ _); refine Does.list (does_box hS rfl rfl (by rfl)) rfl ?_; clear hS; rintro _ wx ⟨bo, rfl, hS, _⟩; (simp only [Act.put, List.setIfInBounds_toArray, List.set_cons_zero, List.set_cons_succ])) | ((with_reducible show wpList _ _ _ ({ dst := _, op := Op.load _ _, type := _, pos := _, after := _, guard := _ } :: _) _ _); (first | refine Gives.list (f_load hS rfl rfl (by rfl)) rfl ?_ | refine Gives.list (f_loadS hS rfl rfl (by rfl)) rfl ?_ | refine Gives.list (f_loadAt hS rfl rfl) rfl ?_ | refine Gives.list (f_loadAtS hS rfl rfl (by rfl)) rfl ?_ | refine Gives.list (f_loadAtF hS rfl rfl (by rfl)) rfl ?_); (simp only [Act.put, List.setIfInBounds_toArray, List.set_cons_zero, List.set_cons_succ])) | ((with_reducible show wpList _ _ _ ({ dst := _, op := Op.store _ _ _, type := _, pos := _, after := _, guard := _ } :: _) _ _); (first | refine Does.list (f_store hS rfl rfl rfl (by rfl) (by rfl)) rfl ?_ | refine Does.list (f_storeS hS rfl rfl rfl (by rfl) (by rfl) (by rfl)) rfl ?_); clear hS; rintro _ wx ⟨rfl, hS⟩; (simp only [List.set_cons_zero, List.set_cons_succ] at hS); (simp only [Act.put, List.setIfInBounds_toArray, List.set_cons_zero, List.set_cons_succ])) | ((with_reducible show wpList _ _ _ ({ dst := _, op := Op.alloc _, type := _, pos := _, after := _, guard := _ } :: _) _ _); refine Does.list (does_alloc hS rfl (by rfl)) rfl ?_; clear hS; rintro _ wx ⟨ba, rfl, hS, _⟩; (simp only [Act.put, List.setIfInBounds_toArray, List.set_cons_zero, List.set_cons_succ])) | ((with_reducible show wpList _ _ _ ({ dst := _, op := Op.buildSlice _ _ _, type := _, pos := _, after := _, guard := _ } :: _) _ _); refine Does.list (does_buildSlice (X := ?_) (cs := ?_) (E := ?_) hS rfl ?_ ?_) rfl ?_; rotate_left 3; (go_simp; rfl); rfl; clear hS; rintro _ wx ⟨bx, rfl, hS, _⟩; (simp only [Act.put, List.setIfInBounds_toArray, List.set_cons_zero, List.set_cons_succ])) | (go_at_call 36; have hh := rMemory.mod0 h hS.mod0; refine (impl_MemoryValid' _ _ F m hh hall).mono ?_; clear hh; rintro e w' ⟨rfl, hM⟩; replace hS := hS.mod hM; clear hM) | (go_at_call 75; refine (impl_isAddress _ _).mono ?_; rintro e w' ⟨rfl, rfl⟩))
    go_ret
    exact ⟨ret_i64 H.out.symm, hS.mod0⟩
  cases hin : inB a 0 7
  · have H := Lib.hid (leafOf_far hok hin)
    go_enter Try.func44, Try.ntmps44
    go_wp2_with (first | ((with_reducible show wpList _ _ _ ({ dst := _, op := Op.box _ _, type := _, pos := _, after := _, guard := _ } :: _) _ _); refine Does.list (does_box hS rfl rfl (by rfl)) rfl ?_; clear hS; rintro _ wx ⟨bo, rfl, hS, _⟩; (simp only [Act.put, List.setIfInBounds_toArray, List.set_cons_zero, List.set_cons_succ])) | ((with_reducible show wpList _ _ _ ({ dst := _, op := Op.load _ _, type := _, pos := _, after := _, guard := _ } :: _) _ _); (first | refine Gives.list (f_load hS rfl rfl (by rfl)) rfl ?_ | refine Gives.list (f_loadS hS rfl rfl (by rfl)) rfl ?_ | refine Gives.list (f_loadAt hS rfl rfl) rfl ?_ | refine Gives.list (f_loadAtS hS rfl rfl (by rfl)) rfl ?_ | refine Gives.list (f_loadAtF hS rfl rfl (by rfl)) rfl ?_); (simp only [Act.put, List.setIfInBounds_toArray, List.set_cons_zero, List.set_cons_succ])) | ((with_reducible show wpList _ _ _ ({ dst := _, op := Op.store _ _ _, type := _, pos := _, after := _, guard := _ } :: _) _ _); (first | refine Does.list (f_store hS rfl rfl rfl (by rfl) (by rfl)) rfl ?_ | refine Does.list (f_storeS hS rfl rfl rfl (by rfl) (by rfl) (by rfl)) rfl ?_); clear hS; rintro _ wx ⟨rfl, hS⟩; (simp only [List.set_cons_zero, List.set_cons_succ] at hS); (simp only [Act.put, List.setIfInBounds_toArray, List.set_cons_zero, List.set_cons_succ])) | ((with_reducible show wpList _ _ _ ({ dst := _, op := Op.alloc _, type := _, pos := _, after := _, guard := _ } :: _) _ _); refine Does.list (does_alloc hS rfl (by rfl)) rfl ?_; clear hS; rintro _ wx ⟨ba, rfl, hS, _⟩; (simp only [Act.put, List.setIfInBounds_toArray, List.set_cons_zero, List.set_cons_succ])) | ((with_reducible show wpList _ _ _ ({ dst := _, op := Op.buildSlice _ _ _, type := _, pos := _, after := _, guard := _ } :: _) _ _); refine Does.list (does_buildSlice (X := ?_) (cs := ?_) (E := ?_) hS rfl ?_ ?_) rfl ?_; rotate_left 3; (go_simp; rfl); rfl; clear hS; rintro _ wx ⟨bx, rfl, hS, _⟩; (simp only [Act.put, List.setIfInBounds_toArray, List.set_cons_zero, List.set_cons_succ])) | (go_at_call 36; have hh := rMemory.mod0 h hS.mod0; refine (impl_MemoryValid' _ _ F m hh hall).mono ?_; clear hh; rintro e w' ⟨rfl, hM⟩; replace hS := hS.mod hM; clear hM) | (go_at_call 75; refine (impl_isAddress _ _).mono ?_; rintro e w' ⟨rfl, rfl⟩))
    go_ret
    exact ⟨ret_i64 H.out.symm, hS.mod0⟩
  · have hfd : ∀ (b1 b2 b3 : Int) (w : World), (Instr.field 98 (.agg #[.int .i64 b1, .int .i64 b2, .int .i64 b3]) 2).run Try.prog w = .ok (.int .i64 b3) w := fun _ _ _ _ => by kernel_rfl
    have Hok := Lib.hid hok
    have Hin := Lib.hid hin
    go_enter Try.func44, Try.ntmps44
    go_wp2_with (first | ((with_reducible show wpList _ _ _ ({ dst := _, op := Op.box _ _, type := _, pos := _, after := _, guard := _ } :: _) _ _); refine Does.list (does_box hS rfl rfl (by rfl)) rfl ?_; clear hS; rintro _ wx ⟨bo, rfl, hS, _⟩; (simp only [Act.put, List.setIfInBounds_toArray, List.set_cons_zero, List.set_cons_succ])) | ((with_reducible show wpList _ _ _ ({ dst := _, op := Op.load _ _, type := _, pos := _, after := _, guard := _ } :: _) _ _); (first | refine Gives.list (f_load hS rfl rfl (by rfl)) rfl ?_ | refine Gives.list (f_loadS hS rfl rfl (by rfl)) rfl ?_ | refine Gives.list (f_loadAt hS rfl rfl) rfl ?_ | refine Gives.list (f_loadAtS hS rfl rfl (by rfl)) rfl ?_ | refine Gives.list (f_loadAtF hS rfl rfl (by rfl)) rfl ?_); (simp only [Act.put, List.setIfInBounds_toArray, List.set_cons_zero, List.set_cons_succ])) | ((with_reducible show wpList _ _ _ ({ dst := _, op := Op.store _ _ _, type := _, pos := _, after := _, guard := _ } :: _) _ _); (first | refine Does.list (f_store hS rfl rfl rfl (by rfl) (by rfl)) rfl ?_ | refine Does.list (f_storeS hS rfl rfl rfl (by rfl) (by rfl) (by rfl)) rfl ?_); clear hS; rintro _ wx ⟨rfl, hS⟩; (simp only [List.set_cons_zero, List.set_cons_succ] at hS); (simp only [Act.put, List.setIfInBounds_toArray, List.set_cons_zero, List.set_cons_succ])) | ((with_reducible show wpList _ _ _ ({ dst := _, op := Op.alloc _, type := _, pos := _, after := _, guard := _ } :: _) _ _); refine Does.list (does_alloc hS rfl (by rfl)) rfl ?_; clear hS; rintro _ wx ⟨ba, rfl, hS, _⟩; (simp only [Act.put, List.setIfInBounds_toArray, List.set_cons_zero, List.set_cons_succ])) | ((with_reducible show wpList _ _ _ ({ dst := _, op := Op.buildSlice _ _ _, type := _, pos := _, after := _, guard := _ } :: _) _ _); refine Does.list (does_buildSlice (X := ?_) (cs := ?_) (E := ?_) hS rfl ?_ ?_) rfl ?_; rotate_left 3; (go_simp; rfl); rfl; clear hS; rintro _ wx ⟨bx, rfl, hS, _⟩; (simp only [Act.put, List.setIfInBounds_toArray, List.set_cons_zero, List.set_cons_succ])) | (go_at_call 36; have hh := rMemory.mod0 h hS.mod0; refine (impl_MemoryValid' _ _ F m hh hall).mono ?_; clear hh; rintro e w' ⟨rfl, hM⟩; replace hS := hS.mod hM; clear hM) | (go_at_call 75; refine (impl_isAddress _ _).mono ?_; rintro e w' ⟨rfl, rfl⟩) | (go_at_call 87; have hh := rMemory.mod0 h hS.mod0; refine (impl_block _ _ _ F m hh hall Hok.out Hin.out).mono ?_; clear hh; rintro e w' ⟨b1, b2, rfl, hM⟩; replace hS := hS.mod hM; clear hM))
    go_ret
    exact ⟨rfl, hS.mod0⟩
end Go.Proofs.Ythabgnhedmepjaa
