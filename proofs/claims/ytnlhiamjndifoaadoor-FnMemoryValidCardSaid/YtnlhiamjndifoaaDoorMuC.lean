/- What a memory keeps when it is used. No program occurs here. -/
import Derived.Test.YtnlhiamjndifoaaDoorMemL
import Derived.Test.YtnlhiamjndifoaaDoorMemO
import Derived.Test.YtnlhiamjndifoaaDoorMemV
import Derived.Test.YtnlhiamjndifoaaDoorDrawB
import Derived.Test.YtnlhiamjndifoaaDoorNew
import Derived.Deep.DeepCutAuto
section
namespace Go.Proofs.YtnlhiamjndifoaaDoor
open Go.RowKit

/-- What a memory keeps through a use. -/
def memInv (m : MemoryD) : Prop := m.1.length = 7 ∧ (∀ j, bucketOk j (m.1.getD j []) = true) ∧ (∀ b ∈ memAll m, blockOk b = true) ∧ (addrs (memAll m)).Nodup ∧ (memAll m).length = 8
theorem memOk_inv {m : MemoryD} (h : memOk m = true) : memInv m := by
  unfold memOk at h
  simp only [Bool.and_eq_true, decide_eq_true_eq] at h
  obtain ⟨⟨⟨⟨h1, h2⟩, h3⟩, h4⟩, h5⟩ := h
  refine ⟨h1, fun j => ?_, fun b hb => List.all_eq_true.1 h3 b hb, h4, h5⟩
  by_cases hj : j < m.1.length
  · exact bucketsTo_mono h2 hj
  · rw [List.getD_eq_getElem?_getD, List.getElem?_eq_none (by omega)]
    rfl
theorem inv_memOk {m : MemoryD} (h : memInv m) : memOk m = true := by
  obtain ⟨h1, h2, h3, h4, h5⟩ := h
  unfold memOk bucketsTo
  simp only [Bool.and_eq_true, decide_eq_true_eq]
  exact ⟨⟨⟨⟨h1, List.all_eq_true.2 fun j _ => h2 j⟩, List.all_eq_true.2 h3⟩, h4⟩, h5⟩
theorem set_flat {α : Type} : ∀ {bs : List (List α)} {j : Nat} {y : List α}, j < bs.length → ((bs.set j y).flatten ++ bs.getD j []).Perm (bs.flatten ++ y)
  | b :: bs, 0, y, _ => by
    show (y ++ bs.flatten ++ b).Perm (b ++ bs.flatten ++ y)
    refine List.perm_append_comm.trans ?_
    rw [List.append_assoc b]
    exact List.perm_append_comm.append_left b
  | b :: bs, j + 1, y, h => by
    show (b ++ (bs.set j y).flatten ++ bs.getD j []).Perm (b ++ bs.flatten ++ y)
    rw [List.append_assoc, List.append_assoc]
    exact (set_flat (by simpa using h)).append_left b
/-- The blocks of a list are moved between the stash and one bucket. -/
theorem inv_move {m : MemoryD} {q : Nat} {y s : List BlockD} (h : memInv m) (hq : q < 7) (hy : bucketOk q y = true) (hp : (s ++ y).Perm (m.2 ++ m.1.getD q [])) : memInv (m.1.set q y, s) := by
  obtain ⟨h1, h2, h3, h4, h5⟩ := h
  have hP : (memAll (m.1.set q y, s)).Perm (memAll m) := by
    have k := set_flat (bs := m.1) (y := y) (by omega : q < m.1.length)
    show (s ++ (m.1.set q y).flatten).Perm (m.2 ++ m.1.flatten)
    have k2 : ((s ++ (m.1.set q y).flatten) ++ m.1.getD q []).Perm ((m.2 ++ m.1.flatten) ++ m.1.getD q []) := by
      rw [List.append_assoc]
      refine (k.append_left s).trans ?_
      refine (List.perm_append_comm.append_left s).trans ?_
      rw [← List.append_assoc]
      refine (hp.append_right _).trans ?_
      rw [List.append_assoc, List.append_assoc]
      exact List.perm_append_comm.append_left _
    exact (List.perm_append_right_iff _).1 k2
  refine ⟨by rw [List.length_set]; exact h1, fun j => ?_, fun b hb => h3 b (hP.mem_iff.1 hb), (hP.map _).nodup_iff.2 h4, hP.length_eq.trans h5⟩
  show bucketOk j ((m.1.set q y).getD j []) = true
  rw [List.getD_eq_getElem?_getD, List.getElem?_set]
  by_cases hj : q = j
  · subst hj
    rw [if_pos rfl, if_pos (by omega)]
    exact hy
  · rw [if_neg hj, ← List.getD_eq_getElem?_getD]
    exact h2 j
/-- A bucket is laid behind the stash. -/
theorem inv_take {m : MemoryD} {q : Nat} (h : memInv m) (hq : q < 7) : memInv (m.1.set q [], m.2 ++ m.1.getD q []) :=
  inv_move h hq rfl (by rw [List.append_nil])
/-- A block of the stash is written anew. -/
theorem inv_block {m : MemoryD} {k : Nat} {b c : BlockD} (h : memInv m) (hb : m.2[k]? = some b) (hc : c.1 = b.1) (hok : blockOk c = true) : memInv (m.1, m.2.set k c) := by
  obtain ⟨h1, h2, h3, h4, h5⟩ := h
  obtain ⟨hk, hbk⟩ := List.getElem?_eq_some_iff.1 hb
  have hA : addrs (memAll (m.1, m.2.set k c)) = addrs (memAll m) := by
    show (m.2.set k c ++ m.1.flatten).map (·.1) = (m.2 ++ m.1.flatten).map (·.1)
    rw [List.map_append, List.map_append, List.map_set]
    congr 1
    refine List.ext_getElem? fun i => ?_
    rw [List.getElem?_set]
    by_cases hi : k = i
    · subst hi
      rw [if_pos rfl, if_pos (by simpa using hk), List.getElem?_map, hb]
      simp [hc]
    · rw [if_neg hi]
  refine ⟨h1, h2, fun x hx => ?_, by rw [hA]; exact h4, ?_⟩
  · rcases List.mem_append.1 (show x ∈ m.2.set k c ++ m.1.flatten from hx) with h | h
    · rcases List.mem_or_eq_of_mem_set h with h | rfl
      · exact h3 x (List.mem_append_left _ h)
      · exact hok
    · exact h3 x (List.mem_append_right _ h)
  · rw [← h5]
    show (m.2.set k c ++ m.1.flatten).length = (m.2 ++ m.1.flatten).length
    rw [List.length_append, List.length_append, List.length_set]
/-- What one pass over the stash has done so far: y holds the bucket, r the rest. -/
def passP (q : Nat) (S y0 y r : List BlockD) (j : Nat) : Prop := bucketOk q y = true ∧ (r ++ y).Perm (S.take j ++ y0)
theorem pass_zero {q : Nat} {S y0 : List BlockD} (h : bucketOk q y0 = true) : passP q S y0 y0 [] 0 := ⟨h, by simp⟩
theorem pass_in {q : Nat} {S y0 y r : List BlockD} {j : Nat} {b : BlockD} (h : passP q S y0 y r j) (hb : S[j]? = some b) (hl : y.length < 2) (ho : onB q b.2.2 = true) : passP q S y0 (y ++ [b]) r (j + 1) := by
  obtain ⟨h1, h2⟩ := h
  refine ⟨?_, ?_⟩
  · unfold bucketOk at h1 ⊢
    simp only [Bool.and_eq_true, decide_eq_true_eq, List.length_append, List.length_singleton, List.all_append, List.all_cons, List.all_nil, Bool.and_true] at h1 ⊢
    exact ⟨by omega, h1.2, ho⟩
  · rw [List.take_add_one, hb, ← List.append_assoc]
    refine (h2.append_right [b]).trans ?_
    rw [List.append_assoc, List.append_assoc]
    exact List.perm_append_comm.append_left _
theorem pass_out {q : Nat} {S y0 y r : List BlockD} {j : Nat} {b : BlockD} (h : passP q S y0 y r j) (hb : S[j]? = some b) : passP q S y0 y (r ++ [b]) (j + 1) := by
  obtain ⟨h1, h2⟩ := h
  refine ⟨h1, ?_⟩
  rw [List.take_add_one, hb, List.append_assoc]
  refine (List.perm_append_comm.append_left r).trans ?_
  rw [← List.append_assoc]
  refine (h2.append_right [b]).trans ?_
  rw [List.append_assoc, List.append_assoc]
  exact List.perm_append_comm.append_left _
theorem pass_end {q : Nat} {m : MemoryD} {y r : List BlockD} {j : Nat} (hm : memInv m) (hq : q < 7) (h : passP q m.2 (m.1.getD q []) y r j) (hj : m.2.length ≤ j) : memInv (m.1.set q y, r) := by
  obtain ⟨h1, h2⟩ := h
  rw [List.take_of_length_le hj] at h2
  exact inv_move hm hq h1 h2
theorem memOk_more {m : MemoryD} {b : BlockD} (h : memOk m = true) : memOk (m.1, m.2 ++ [b]) = false := by
  rw [Bool.eq_false_iff]
  intro h2
  have a := (memOk_inv h).2.2.2.2
  have c := (memOk_inv h2).2.2.2.2
  have : (memAll (m.1, m.2 ++ [b])).length = (memAll m).length + 1 := by
    show (m.2 ++ [b] ++ m.1.flatten).length = (m.2 ++ m.1.flatten).length + 1
    simp only [List.length_append, List.length_singleton]
    omega
  omega
theorem memOk_nil : memOk ([], []) = false := rfl
end Go.Proofs.YtnlhiamjndifoaaDoor
end

section
namespace Go.Proofs.YtnlhiamjndifoaaDoor
open Go.RowKit

theorem inv_small {m : MemoryD} (h : memInv m) {k : Nat} {b : List BlockD} (hb : m.1[k]? = some b) : b.length ≤ 2 := by
  have h2 := h.2.1 k
  rw [List.getD_eq_getElem?_getD, hb] at h2
  unfold bucketOk at h2
  simp only [Option.getD_some, Bool.and_eq_true, decide_eq_true_eq] at h2
  exact h2.1
theorem inv_stash {m : MemoryD} (h : memInv m) : m.2.length ≤ 8 := by
  have h2 := h.2.2.2.2
  unfold memAll at h2
  rw [List.length_append] at h2
  omega
theorem take_snocM {α : Type} {l : List α} {k : Nat} {x : α} (h : l[k]? = some x) : l.take k ++ [x] = l.take (k + 1) := by rw [List.take_add_one, h]; rfl
set_option maxHeartbeats 4000000 in
set_option maxRecDepth 8000 in
theorem spec_l22Copy (w : World) (cells : List Value) (F : List Nat) (m : MemoryD) (h : rMemory.has w F cells m) (hm : memInv m) :
    Calls Tryd.prog 31 #[.agg cells.toArray] w fun e w' => ∃ cs, e = .returned (.agg cs.toArray) ∧ Fresh oMemory w w' cs m := by
  have hS0 : Sat w w [.ro rMemory cells m] := (Sat.nil w).arg h
  obtain ⟨Ab, cb, As, cs, rfl, hS⟩ := Sat.openRoMemory hS0
  clear hS0 h
  have h7 : m.1.length = 7 := hm.1
  have h7b : m.1.length ≤ 7 := by omega
  have h8 := inv_stash hm
  have HM := Lib.hid hm
  clear hm h7
  go_enter Tryd.func31, Tryd.ntmps31
  go_upto_region 1 with (first | ((with_reducible show wpList _ _ _ (⟨_, Op.box _ _, _, _, _, _⟩ :: _) _ _); refine Does.list (does_box hS rfl rfl (by rfl)) rfl ?_; clear hS; rintro _ wx ⟨bo, rfl, hS, _⟩; (simp only [Act.put, List.setIfInBounds_toArray, List.set_cons_zero, List.set_cons_succ])) | ((with_reducible show wpList _ _ _ (⟨_, Op.load _ _, _, _, _, _⟩ :: _) _ _); (first | refine Gives.list (f_load hS rfl rfl (by rfl)) rfl ?_ | refine Gives.list (f_loadS hS rfl rfl (by rfl)) rfl ?_ | refine Gives.list (f_loadAt hS rfl rfl) rfl ?_ | refine Gives.list (f_loadAtS hS rfl rfl (by rfl)) rfl ?_ | refine Gives.list (f_loadAtF hS rfl rfl (by rfl)) rfl ?_); (simp only [Act.put, List.setIfInBounds_toArray, List.set_cons_zero, List.set_cons_succ])) | ((with_reducible show wpList _ _ _ (⟨_, Op.store _ _ _, _, _, _, _⟩ :: _) _ _); (first | refine Does.list (f_store hS rfl rfl rfl (by rfl) (by rfl)) rfl ?_ | refine Does.list (f_storeS hS rfl rfl rfl (by rfl) (by rfl) (by rfl)) rfl ?_); clear hS; rintro _ wx ⟨rfl, hS⟩; (simp only [List.set_cons_zero, List.set_cons_succ] at hS); (simp only [Act.put, List.setIfInBounds_toArray, List.set_cons_zero, List.set_cons_succ])) | ((with_reducible show wpList _ _ _ (⟨_, Op.alloc _, _, _, _, _⟩ :: _) _ _); refine Does.list (does_alloc hS rfl (by rfl)) rfl ?_; clear hS; rintro _ wx ⟨ba, rfl, hS, _⟩; (simp only [Act.put, List.setIfInBounds_toArray, List.set_cons_zero, List.set_cons_succ])) | ((with_reducible show wpList _ _ _ (⟨_, Op.buildSlice _ _ _, _, _, _, _⟩ :: _) _ _); refine Does.list (does_buildSlice (X := ?_) (cs := ?_) (E := ?_) hS rfl ?_ ?_) rfl ?_; rotate_left 3; (go_simp; rfl); rfl; clear hS; rintro _ wx ⟨bx, rfl, hS, _⟩; (simp only [Act.put, List.setIfInBounds_toArray, List.set_cons_zero, List.set_cons_succ])))
  obtain ⟨bz, rfl⟩ : ∃ bz, bz = ba := ⟨_, rfl⟩
  go_wp2_with (first | ((with_reducible show wpList _ _ _ (⟨_, Op.call { callee := Callee.builtin Builtin.append, args := _, argTypes := _ }, _, _, _, _⟩ :: _) _ _); replace hS := (Sat.vec0 oBlock hS).lit (Nat.zero_le _); refine Does.list (f_appendFlat oBlock rBlock hS rfl rfl rfl rfl rfl rfl (by decide) (by omega)) rfl ?_; clear hS; rintro _ wx ⟨A2, c2, rfl, hS⟩; (simp only [List.set_cons_zero, List.set_cons_succ] at hS); (simp only [Act.put, List.setIfInBounds_toArray, List.set_cons_zero, List.set_cons_succ]); (simp only [Nat.zero_add, List.nil_append] at hS ⊢)) | ((with_reducible show wpList _ _ _ (⟨_, Op.box _ _, _, _, _, _⟩ :: _) _ _); refine Does.list (does_box hS rfl rfl (by rfl)) rfl ?_; clear hS; rintro _ wx ⟨bo, rfl, hS, _⟩; (simp only [Act.put, List.setIfInBounds_toArray, List.set_cons_zero, List.set_cons_succ])) | ((with_reducible show wpList _ _ _ (⟨_, Op.load _ _, _, _, _, _⟩ :: _) _ _); (first | refine Gives.list (f_load hS rfl rfl (by rfl)) rfl ?_ | refine Gives.list (f_loadS hS rfl rfl (by rfl)) rfl ?_ | refine Gives.list (f_loadAt hS rfl rfl) rfl ?_ | refine Gives.list (f_loadAtS hS rfl rfl (by rfl)) rfl ?_ | refine Gives.list (f_loadAtF hS rfl rfl (by rfl)) rfl ?_); (simp only [Act.put, List.setIfInBounds_toArray, List.set_cons_zero, List.set_cons_succ])) | ((with_reducible show wpList _ _ _ (⟨_, Op.store _ _ _, _, _, _, _⟩ :: _) _ _); (first | refine Does.list (f_store hS rfl rfl rfl (by rfl) (by rfl)) rfl ?_ | refine Does.list (f_storeS hS rfl rfl rfl (by rfl) (by rfl) (by rfl)) rfl ?_); clear hS; rintro _ wx ⟨rfl, hS⟩; (simp only [List.set_cons_zero, List.set_cons_succ] at hS); (simp only [Act.put, List.setIfInBounds_toArray, List.set_cons_zero, List.set_cons_succ])) | ((with_reducible show wpList _ _ _ (⟨_, Op.alloc _, _, _, _, _⟩ :: _) _ _); refine Does.list (does_alloc hS rfl (by rfl)) rfl ?_; clear hS; rintro _ wx ⟨ba, rfl, hS, _⟩; (simp only [Act.put, List.setIfInBounds_toArray, List.set_cons_zero, List.set_cons_succ])) | ((with_reducible show wpList _ _ _ (⟨_, Op.buildSlice _ _ _, _, _, _, _⟩ :: _) _ _); refine Does.list (does_buildSlice (X := ?_) (cs := ?_) (E := ?_) hS rfl ?_ ?_) rfl ?_; rotate_left 3; (go_simp; rfl); rfl; clear hS; rintro _ wx ⟨bx, rfl, hS, _⟩; (simp only [Act.put, List.setIfInBounds_toArray, List.set_cons_zero, List.set_cons_succ])))
  replace hS : Sat w _ [.box ba [.slice none 0 0, .slice A2 m.2.length c2], .own oBlock.rows.rows [.slice none 0 0] [], .own oBlock.rows [.slice A2 m.2.length c2] m.2, .box bz [.slice none 0 0, .slice none 0 0], .box bo [.slice Ab m.1.length cb, .slice As m.2.length cs], .ro (rBlock.slice).slice [.slice Ab m.1.length cb] m.1] := (Sat.nilRow oBlock.rows hS).sel [1, 0, 2, 3, 4, 6] rfl (by decide)
  go_loopw [4] (fun i wr => ∃ (k : Nat) (B : Option Addr) (d : Nat), i = .int .i64 k ∧ k ≤ m.1.length ∧ Sat w wr [.box ba [.slice B k d, .slice A2 m.2.length c2], .own oBlock.rows.rows [.slice B k d] (m.1.take k), .own oBlock.rows [.slice A2 m.2.length c2] m.2, .box bz [.slice none 0 0, .slice none 0 0], .box bo [.slice Ab m.1.length cb, .slice As m.2.length cs], .ro (rBlock.slice).slice [.slice Ab m.1.length cb] m.1]) (fun i _ => m.1.length - (intOf i).toNat)
  case atStart => exact ⟨0, none, 0, rfl, Nat.zero_le _, hS⟩
  case round =>
    clear hS
    obtain ⟨k, B, d, rfl, hk, hS⟩ := hrel
    by_cases hlt : k < m.1.length
    · have hltI : (k : Int) < (m.1.length : Int) := by omega
      obtain ⟨b, hbk⟩ : ∃ b, m.1[k]? = some b := ⟨_, get_some hlt⟩
      have hb2 := inv_small HM.out hbk
      have HT := Lib.hid (take_snocM hbk)
      obtain ⟨ad, A', c', rfl, j0, j1, hS⟩ := hS.elSlice rBlock Ab m.1.length cb hbk
      clear hbk
      go_wp2_with (first | ((with_reducible show Code.wp _ (Code.region 5 _ true) _ _ _); refine wp_region_drawn [(0, 0), (1, 1), (3, 0), (4, 1), (5, 0), (6, 0), (7, 1), (2, 2), (8, 2), (9, 2), (10, 3), (11, 0), (12, 3)] (by kernel_rfl) (by kernel_rfl) (by intro _ _ dq _ _ hq; cases dq <;> exact hq) ?_; replace hS := hS.mod (Mod.drew (Mod.refl _ _)); (generalize hwd : World.drew _ = wz at hS ⊢); clear hwd) | ((with_reducible show wpD _ _ _ ((8, 2) :: _) _ _); refine D_calm rfl rfl (does_appendNew (e := oBlock) hS rBlock rfl rfl rfl rfl rfl rfl (by decide) (by omega)) ?_; clear hS; rintro _ wx ⟨A5, c5, rfl, hS, hM⟩; refine ⟨hM, ?_⟩; clear hM; (first | show wpD _ _ _ _ (Act.put _ (some _) _) _ | show wpD _ _ _ _ (Act.put _ none _) _); (simp only [Act.put, List.setIfInBounds_toArray, List.set_cons_zero, List.set_cons_succ])) | ((with_reducible show wpD _ _ _ ((10, 3) :: _) _ _); refine D_loud rfl rfl (f_append oBlock.rows (Sat.vec1 (Sat.swap hS)) rfl rfl rfl rfl rfl (by decide) (by omega)) ?_; clear hS; rintro _ wx ⟨A6, c6, rfl, hS⟩; (simp only [List.set_cons_zero, List.set_cons_succ] at hS); (first | show wpD _ _ _ _ (Act.put _ (some _) _) _ | show wpD _ _ _ _ (Act.put _ none _) _); (simp only [Act.put, List.setIfInBounds_toArray, List.set_cons_zero, List.set_cons_succ])) | ((with_reducible show wpD _ _ _ ((12, 3) :: _) _ _); refine D_loud rfl rfl (f_store (u := .slice _ _ _) hS rfl rfl rfl (by rfl) (by rfl)) ?_; clear hS; rintro _ wx ⟨rfl, hS⟩; (simp only [List.set_cons_zero, List.set_cons_succ] at hS); (first | show wpD _ _ _ _ (Act.put _ (some _) _) _ | show wpD _ _ _ _ (Act.put _ none _) _); (simp only [Act.put, List.setIfInBounds_toArray, List.set_cons_zero, List.set_cons_succ])) | ((with_reducible show wpD _ _ _ [] _ _); refine D_nil ?_) | ((with_reducible show wpD _ _ _ ((_, 0) :: _) _ _); (first | (refine D_skip rfl rfl ?_; (first | show wpD _ _ _ _ (Act.put _ (some _) _) _ | show wpD _ _ _ _ (Act.put _ none _) _); (simp only [Act.put, List.setIfInBounds_toArray, List.set_cons_zero, List.set_cons_succ])) | (refine D_pure (v := ?_) rfl rfl (fun wq => ?_) ?_; rotate_left 1; (show (Sem.run _ (execOp _ (Oper.mk _ _ _ _ _ _)) _) = _; go_simp; (try go_bits); with_reducible rfl); (first | show wpD _ _ _ _ (Act.put _ (some _) _) _ | show wpD _ _ _ _ (Act.put _ none _) _); (simp only [Act.put, List.setIfInBounds_toArray, List.set_cons_zero, List.set_cons_succ])))) | ((with_reducible show wpD _ _ _ ((_, 1) :: _) _ _); (first | (refine D_skip rfl rfl ?_; (first | show wpD _ _ _ _ (Act.put _ (some _) _) _ | show wpD _ _ _ _ (Act.put _ none _) _); (simp only [Act.put, List.setIfInBounds_toArray, List.set_cons_zero, List.set_cons_succ])) | ((first | refine D_load rfl rfl (fun x hx => f_load (hS.mod hx) rfl rfl (by rfl)) ?_ | refine D_load rfl rfl (fun x hx => f_loadS (hS.mod hx) rfl rfl (by rfl)) ?_ | refine D_load rfl rfl (fun x hx => f_loadAt (hS.mod hx) rfl rfl) ?_ | refine D_load rfl rfl (fun x hx => f_loadAtS (hS.mod hx) rfl rfl (by rfl)) ?_ | refine D_load rfl rfl (fun x hx => f_loadAtF (hS.mod hx) rfl rfl (by rfl)) ?_); (first | show wpD _ _ _ _ (Act.put _ (some _) _) _ | show wpD _ _ _ _ (Act.put _ none _) _); (simp only [Act.put, List.setIfInBounds_toArray, List.set_cons_zero, List.set_cons_succ])))) | ((with_reducible show wpD _ _ _ ((_, 2) :: _) _ _); (refine D_skip rfl rfl ?_; (first | show wpD _ _ _ _ (Act.put _ (some _) _) _ | show wpD _ _ _ _ (Act.put _ none _) _); (simp only [Act.put, List.setIfInBounds_toArray, List.set_cons_zero, List.set_cons_succ]))) | ((with_reducible show wpD _ _ _ ((_, 3) :: _) _ _); (refine D_skip rfl rfl ?_; (first | show wpD _ _ _ _ (Act.put _ (some _) _) _ | show wpD _ _ _ _ (Act.put _ none _) _); (simp only [Act.put, List.setIfInBounds_toArray, List.set_cons_zero, List.set_cons_succ]))) | ((with_reducible show wpD _ _ _ ((_, 2) :: _) _ _); ((refine D_calm rfl rfl (does_buildSlice (X := ?_) (cs := ?_) (E := ?_) hS rfl ?_ ?_) ?_); rotate_left 3; (go_simp; rfl); rfl; clear hS; rintro _ wx ⟨bx, rfl, hS, hM⟩; refine ⟨hM, ?_⟩; clear hM; (first | show wpD _ _ _ _ (Act.put _ (some _) _) _ | show wpD _ _ _ _ (Act.put _ none _) _); (simp only [Act.put, List.setIfInBounds_toArray, List.set_cons_zero, List.set_cons_succ]))) | ((with_reducible show wpD _ _ _ ((_, 2) :: _) _ _); ((first | refine D_calm rfl rfl (does_alloc hS rfl (by rfl)) ?_ | refine D_calm rfl rfl (does_box hS rfl rfl (by rfl)) ?_); clear hS; rintro _ wx ⟨bx, rfl, hS, hM⟩; refine ⟨hM, ?_⟩; clear hM; (first | show wpD _ _ _ _ (Act.put _ (some _) _) _ | show wpD _ _ _ _ (Act.put _ none _) _); (simp only [Act.put, List.setIfInBounds_toArray, List.set_cons_zero, List.set_cons_succ]))) | ((with_reducible show wpD _ _ _ ((_, 3) :: _) _ _); ((first | refine D_loud rfl rfl (f_store hS rfl rfl rfl (by rfl) (by rfl)) ?_ | refine D_loud rfl rfl (f_storeS hS rfl rfl rfl (by rfl) (by rfl) (by rfl)) ?_); clear hS; rintro _ wx ⟨rfl, hS⟩; (simp only [List.set_cons_zero, List.set_cons_succ] at hS); (first | show wpD _ _ _ _ (Act.put _ (some _) _) _ | show wpD _ _ _ _ (Act.put _ none _) _); (simp only [Act.put, List.setIfInBounds_toArray, List.set_cons_zero, List.set_cons_succ]))) | ((with_reducible show wpList _ _ _ (⟨_, Op.box _ _, _, _, _, _⟩ :: _) _ _); refine Does.list (does_box hS rfl rfl (by rfl)) rfl ?_; clear hS; rintro _ wx ⟨bo, rfl, hS, _⟩; (simp only [Act.put, List.setIfInBounds_toArray, List.set_cons_zero, List.set_cons_succ])) | ((with_reducible show wpList _ _ _ (⟨_, Op.load _ _, _, _, _, _⟩ :: _) _ _); (first | refine Gives.list (f_load hS rfl rfl (by rfl)) rfl ?_ | refine Gives.list (f_loadS hS rfl rfl (by rfl)) rfl ?_ | refine Gives.list (f_loadAt hS rfl rfl) rfl ?_ | refine Gives.list (f_loadAtS hS rfl rfl (by rfl)) rfl ?_ | refine Gives.list (f_loadAtF hS rfl rfl (by rfl)) rfl ?_); (simp only [Act.put, List.setIfInBounds_toArray, List.set_cons_zero, List.set_cons_succ])) | ((with_reducible show wpList _ _ _ (⟨_, Op.store _ _ _, _, _, _, _⟩ :: _) _ _); (first | refine Does.list (f_store hS rfl rfl rfl (by rfl) (by rfl)) rfl ?_ | refine Does.list (f_storeS hS rfl rfl rfl (by rfl) (by rfl) (by rfl)) rfl ?_); clear hS; rintro _ wx ⟨rfl, hS⟩; (simp only [List.set_cons_zero, List.set_cons_succ] at hS); (simp only [Act.put, List.setIfInBounds_toArray, List.set_cons_zero, List.set_cons_succ])) | ((with_reducible show wpList _ _ _ (⟨_, Op.alloc _, _, _, _, _⟩ :: _) _ _); refine Does.list (does_alloc hS rfl (by rfl)) rfl ?_; clear hS; rintro _ wx ⟨ba, rfl, hS, _⟩; (simp only [Act.put, List.setIfInBounds_toArray, List.set_cons_zero, List.set_cons_succ])) | ((with_reducible show wpList _ _ _ (⟨_, Op.buildSlice _ _ _, _, _, _, _⟩ :: _) _ _); refine Does.list (does_buildSlice (X := ?_) (cs := ?_) (E := ?_) hS rfl ?_ ?_) rfl ?_; rotate_left 3; (go_simp; rfl); rfl; clear hS; rintro _ wx ⟨bx, rfl, hS, _⟩; (simp only [Act.put, List.setIfInBounds_toArray, List.set_cons_zero, List.set_cons_succ])))
      go_roundw
      case rel => exact ⟨k + 1, A6, c6, by go_num, hlt, by rw [← HT.out]; exact hS.sel [2, 3, 4, 5, 6, 7] rfl (by decide)⟩
      case measure => simp [intOf]; omega
    · obtain rfl : k = m.1.length := by omega
      rw [List.take_length] at hS
      go_wp2_with (first | ((with_reducible show wpList _ _ _ (⟨_, Op.box _ _, _, _, _, _⟩ :: _) _ _); refine Does.list (does_box hS rfl rfl (by rfl)) rfl ?_; clear hS; rintro _ wx ⟨bo, rfl, hS, _⟩; (simp only [Act.put, List.setIfInBounds_toArray, List.set_cons_zero, List.set_cons_succ])) | ((with_reducible show wpList _ _ _ (⟨_, Op.load _ _, _, _, _, _⟩ :: _) _ _); (first | refine Gives.list (f_load hS rfl rfl (by rfl)) rfl ?_ | refine Gives.list (f_loadS hS rfl rfl (by rfl)) rfl ?_ | refine Gives.list (f_loadAt hS rfl rfl) rfl ?_ | refine Gives.list (f_loadAtS hS rfl rfl (by rfl)) rfl ?_ | refine Gives.list (f_loadAtF hS rfl rfl (by rfl)) rfl ?_); (simp only [Act.put, List.setIfInBounds_toArray, List.set_cons_zero, List.set_cons_succ])) | ((with_reducible show wpList _ _ _ (⟨_, Op.store _ _ _, _, _, _, _⟩ :: _) _ _); (first | refine Does.list (f_store hS rfl rfl rfl (by rfl) (by rfl)) rfl ?_ | refine Does.list (f_storeS hS rfl rfl rfl (by rfl) (by rfl) (by rfl)) rfl ?_); clear hS; rintro _ wx ⟨rfl, hS⟩; (simp only [List.set_cons_zero, List.set_cons_succ] at hS); (simp only [Act.put, List.setIfInBounds_toArray, List.set_cons_zero, List.set_cons_succ])) | ((with_reducible show wpList _ _ _ (⟨_, Op.alloc _, _, _, _, _⟩ :: _) _ _); refine Does.list (does_alloc hS rfl (by rfl)) rfl ?_; clear hS; rintro _ wx ⟨ba, rfl, hS, _⟩; (simp only [Act.put, List.setIfInBounds_toArray, List.set_cons_zero, List.set_cons_succ])) | ((with_reducible show wpList _ _ _ (⟨_, Op.buildSlice _ _ _, _, _, _, _⟩ :: _) _ _); refine Does.list (does_buildSlice (X := ?_) (cs := ?_) (E := ?_) hS rfl ?_ ?_) rfl ?_; rotate_left 3; (go_simp; rfl); rfl; clear hS; rintro _ wx ⟨bx, rfl, hS, _⟩; (simp only [Act.put, List.setIfInBounds_toArray, List.set_cons_zero, List.set_cons_succ])))
      refine bodyPost_ret (hS.resultCell rfl rfl (by rfl)) rfl ?_
      exact ⟨_, rfl, (Sat.mkMemory (hS.sel (Γ' := [.own oBlock.rows [.slice A2 m.2.length c2] m.2, .own oBlock.rows.rows [.slice B m.1.length d] m.1]) [2, 1] rfl (by decide))).result⟩
end Go.Proofs.YtnlhiamjndifoaaDoor
end
