/- LeafOf: contracts. -/
import Derived.Test.YtnlhiamjndifoaaDoorMemV
import Derived.Test.YtnlhiamjndifoaaDoorMemW
namespace Go.Proofs.YtnlhiamjndifoaaDoor
open Go.RowKit

def isAt (a : Int) (b : BlockD) : Bool := b.1 == a
def leafOf (m : MemoryD) (a : Int) : Int := if memOk m then (((memAll m).find? (isAt a)).map (·.2.2)).getD (-1) else -1
theorem find_at {α : Type} {p : α → Bool} {l : List α} {q : Nat} {b : α} (h : (l.take q).any p = false) (hb : l[q]? = some b) (hp : p b = true) : l.find? p = some b := by
  obtain ⟨hq, hb⟩ := List.getElem?_eq_some_iff.1 hb
  have e : l = l.take q ++ b :: l.drop (q + 1) := by rw [← hb, ← List.drop_eq_getElem_cons hq, List.take_append_drop]
  have h2 : l.find? p = (l.take q ++ b :: l.drop (q + 1)).find? p := congrArg (List.find? p) e
  have h3 : (l.take q).find? p = none := List.find?_eq_none.2 fun x hx hpx => by
    rw [List.any_eq_false] at h
    exact h x hx hpx
  rw [h2, List.find?_append, h3, List.find?_cons]
  simp [hp]
theorem find_no {α : Type} {p : α → Bool} {l : List α} (h : l.any p = false) : l.find? p = none := List.find?_eq_none.2 fun x hx hpx => by
  rw [List.any_eq_false] at h
  exact h x hx hpx
theorem leafOf_bad {m : MemoryD} {a : Int} (h : memOk m = false) : leafOf m a = -1 := by unfold leafOf; rw [h]; rfl
theorem leafOf_at {m : MemoryD} {a : Int} {q : Nat} {b : BlockD} (h : memOk m = true) (hn : ((memAll m).take q).any (isAt a) = false) (hb : (memAll m)[q]? = some b) (hp : isAt a b = true) : leafOf m a = b.2.2 := by
  unfold leafOf
  rw [h, find_at hn hb hp]
  rfl
theorem leafOf_no {m : MemoryD} {a : Int} (hn : (memAll m).any (isAt a) = false) : leafOf m a = -1 := by
  unfold leafOf
  rw [find_no hn]
  cases memOk m <;> rfl
theorem ret_i64 {x y : Int} (h : x = y) : Ending.returned (.int .i64 x) = .returned (.int .i64 y) := by rw [h]

set_option maxHeartbeats 2000000 in
theorem spec_LeafOf' (a : Int) (w : World) (cells : List Value) (F : List Nat) (m : MemoryD) (h : rMemory.has w F cells m) (hall : (memAll m).length ≤ 1000000000) :
    Calls Tryd.prog 34 #[.agg cells.toArray, .int .i64 a] w fun e w' => e = .returned (.int .i64 (leafOf m a)) ∧ Mod [] w w' := by
  have hS0 : Sat w w [.ro rMemory cells m] := (Sat.nil w).arg h
  obtain ⟨Ab, cb, As, cs, rfl, hS⟩ := Sat.openRoMemory hS0
  have lb : m.1.length ≤ 9223372036854775807 := by
    obtain ⟨_, _, he, l1, l2⟩ := hS.formRo 1 rfl
    unfold maxLen at l2
    omega
  clear hS0
  cases hok : memOk m
  case false =>
    have H := Lib.hid (leafOf_bad (a := a) hok)
    go_enter Tryd.func34, Tryd.ntmps34
    go_wp2_with (first | ((with_reducible show wpList _ _ _ (⟨_, Op.box _ _, _, _, _, _⟩ :: _) _ _); refine Does.list (does_box hS rfl rfl (by rfl)) rfl ?_; clear hS; rintro _ wx ⟨bo, rfl, hS, _⟩; (simp only [Act.put, List.setIfInBounds_toArray, List.set_cons_zero, List.set_cons_succ])) | ((with_reducible show wpList _ _ _ (⟨_, Op.load _ _, _, _, _, _⟩ :: _) _ _); (first | refine Gives.list (f_load hS rfl rfl (by rfl)) rfl ?_ | refine Gives.list (f_loadS hS rfl rfl (by rfl)) rfl ?_ | refine Gives.list (f_loadAt hS rfl rfl) rfl ?_ | refine Gives.list (f_loadAtS hS rfl rfl (by rfl)) rfl ?_ | refine Gives.list (f_loadAtF hS rfl rfl (by rfl)) rfl ?_); (simp only [Act.put, List.setIfInBounds_toArray, List.set_cons_zero, List.set_cons_succ])) | ((with_reducible show wpList _ _ _ (⟨_, Op.store _ _ _, _, _, _, _⟩ :: _) _ _); (first | refine Does.list (f_store hS rfl rfl rfl (by rfl) (by rfl)) rfl ?_ | refine Does.list (f_storeS hS rfl rfl rfl (by rfl) (by rfl) (by rfl)) rfl ?_); clear hS; rintro _ wx ⟨rfl, hS⟩; (simp only [List.set_cons_zero, List.set_cons_succ] at hS); (simp only [Act.put, List.setIfInBounds_toArray, List.set_cons_zero, List.set_cons_succ])) | ((with_reducible show wpList _ _ _ (⟨_, Op.alloc _, _, _, _, _⟩ :: _) _ _); refine Does.list (does_alloc hS rfl (by rfl)) rfl ?_; clear hS; rintro _ wx ⟨ba, rfl, hS, _⟩; (simp only [Act.put, List.setIfInBounds_toArray, List.set_cons_zero, List.set_cons_succ])) | ((with_reducible show wpList _ _ _ (⟨_, Op.buildSlice _ _ _, _, _, _, _⟩ :: _) _ _); refine Does.list (does_buildSlice (X := ?_) (cs := ?_) (E := ?_) hS rfl ?_ ?_) rfl ?_; rotate_left 3; (go_simp; rfl); rfl; clear hS; rintro _ wx ⟨bx, rfl, hS, _⟩; (simp only [Act.put, List.setIfInBounds_toArray, List.set_cons_zero, List.set_cons_succ])) | (go_at_call 6; have hh := rMemory.mod0 h hS.mod0; refine (spec_MemoryValid' _ _ F m hh hall).mono ?_; clear hh; rintro e w' ⟨rfl, hM⟩; replace hS := hS.mod hM; clear hM))
    go_ret
    exact ⟨ret_i64 H.out.symm, hS.mod0⟩
  have hst : (0 + m.2.length) ≤ 1000000000 := by
    have := allTo_le (m := m) (k := 0)
    rw [allTo_zero] at this
    omega
  have Hok := Lib.hid hok
  go_enter Tryd.func34, Tryd.ntmps34
  go_wp2_with (first | ((with_reducible show wpList _ _ _ (⟨_, Op.box _ _, _, _, _, _⟩ :: _) _ _); refine Does.list (does_box hS rfl rfl (by rfl)) rfl ?_; clear hS; rintro _ wx ⟨bo, rfl, hS, _⟩; (simp only [Act.put, List.setIfInBounds_toArray, List.set_cons_zero, List.set_cons_succ])) | ((with_reducible show wpList _ _ _ (⟨_, Op.load _ _, _, _, _, _⟩ :: _) _ _); (first | refine Gives.list (f_load hS rfl rfl (by rfl)) rfl ?_ | refine Gives.list (f_loadS hS rfl rfl (by rfl)) rfl ?_ | refine Gives.list (f_loadAt hS rfl rfl) rfl ?_ | refine Gives.list (f_loadAtS hS rfl rfl (by rfl)) rfl ?_ | refine Gives.list (f_loadAtF hS rfl rfl (by rfl)) rfl ?_); (simp only [Act.put, List.setIfInBounds_toArray, List.set_cons_zero, List.set_cons_succ])) | ((with_reducible show wpList _ _ _ (⟨_, Op.store _ _ _, _, _, _, _⟩ :: _) _ _); (first | refine Does.list (f_store hS rfl rfl rfl (by rfl) (by rfl)) rfl ?_ | refine Does.list (f_storeS hS rfl rfl rfl (by rfl) (by rfl) (by rfl)) rfl ?_); clear hS; rintro _ wx ⟨rfl, hS⟩; (simp only [List.set_cons_zero, List.set_cons_succ] at hS); (simp only [Act.put, List.setIfInBounds_toArray, List.set_cons_zero, List.set_cons_succ])) | ((with_reducible show wpList _ _ _ (⟨_, Op.alloc _, _, _, _, _⟩ :: _) _ _); refine Does.list (does_alloc hS rfl (by rfl)) rfl ?_; clear hS; rintro _ wx ⟨ba, rfl, hS, _⟩; (simp only [Act.put, List.setIfInBounds_toArray, List.set_cons_zero, List.set_cons_succ])) | ((with_reducible show wpList _ _ _ (⟨_, Op.buildSlice _ _ _, _, _, _, _⟩ :: _) _ _); refine Does.list (does_buildSlice (X := ?_) (cs := ?_) (E := ?_) hS rfl ?_ ?_) rfl ?_; rotate_left 3; (go_simp; rfl); rfl; clear hS; rintro _ wx ⟨bx, rfl, hS, _⟩; (simp only [Act.put, List.setIfInBounds_toArray, List.set_cons_zero, List.set_cons_succ])) | ((with_reducible show wpList _ _ _ (⟨_, Op.call { callee := Callee.builtin Builtin.append, args := _, argTypes := _ }, _, _, _, _⟩ :: _) _ _); (try replace hS := (Sat.vec0 oBlock hS).lit (Nat.zero_le _)); refine Does.list (f_appendFlat oBlock rBlock hS rfl rfl rfl rfl rfl rfl (by decide) (by omega)) rfl ?_; clear hS; rintro _ wx ⟨A2, c2, rfl, hS⟩; (simp only [List.set_cons_zero, List.set_cons_succ] at hS); (simp only [Act.put, List.setIfInBounds_toArray, List.set_cons_zero, List.set_cons_succ])) | (go_at_call 6; have hh := rMemory.mod0 h hS.mod0; refine (spec_MemoryValid' _ _ F m hh hall).mono ?_; clear hh; rintro e w' ⟨rfl, hM⟩; replace hS := hS.mod hM; clear hM))
  clear hst hok h
  rw [Nat.zero_add] at hS ⊢
  replace hS : Sat w wx [.own oBlock.rows [.slice A2 (allTo m 0).length c2] (allTo m 0), .box bo [.slice Ab m.1.length cb, .slice As m.2.length cs], .ro (rBlock.slice).slice [.slice Ab m.1.length cb] m.1] := by
    rw [allTo_zero]
    rw [List.nil_append] at hS
    exact hS.sel [0, 1, 3] rfl (by decide)
  have Hall := Lib.hid hall
  clear hall
  go_loopw [6, 5] (fun i s wr => ∃ (k : Nat) (A' : Option Addr) (c' : Nat), k ≤ m.1.length ∧ i = .int .i64 k ∧ s = .slice A' (allTo m k).length c' ∧ Sat w wr [.own oBlock.rows [.slice A' (allTo m k).length c'] (allTo m k), .box bo [.slice Ab m.1.length cb, .slice As m.2.length cs], .ro (rBlock.slice).slice [.slice Ab m.1.length cb] m.1]) (fun i _ _ => m.1.length - (intOf i).toNat)
  case atStart => exact ⟨0, A2, c2, Nat.zero_le _, rfl, by rw [allTo_zero], hS⟩
  case round =>
    clear hS
    obtain ⟨k, A', c', hk, rfl, rfl, hS⟩ := hrel
    have hNb : (allTo m k).length ≤ 1000000000 := Nat.le_trans allTo_le Hall.out
    by_cases hlt : k < m.1.length
    · have hx := get_some hlt
      have hN : (allTo m k).length + m.1[k].length ≤ 1000000000 := by
        have h1 := allTo_le (m := m) (k := k + 1)
        rw [allTo_succ hlt, List.length_append] at h1
        exact Nat.le_trans h1 Hall.out
      have HE : Hid (allTo m (k + 1) = allTo m k ++ m.1[k]) := allTo_succ hlt
      generalize m.1[k] = bs at hx hN HE
      have Hx := Lib.hid hx
      clear hx
      obtain ⟨adb, Ak, ck, rfl, lk, lk2, hS⟩ := hS.elSlice rBlock Ab m.1.length cb Hx.out
      go_wp2_with (first | ((with_reducible show wpList _ _ _ (⟨_, Op.box _ _, _, _, _, _⟩ :: _) _ _); refine Does.list (does_box hS rfl rfl (by rfl)) rfl ?_; clear hS; rintro _ wx ⟨bo, rfl, hS, _⟩; (simp only [Act.put, List.setIfInBounds_toArray, List.set_cons_zero, List.set_cons_succ])) | ((with_reducible show wpList _ _ _ (⟨_, Op.load _ _, _, _, _, _⟩ :: _) _ _); (first | refine Gives.list (f_load hS rfl rfl (by rfl)) rfl ?_ | refine Gives.list (f_loadS hS rfl rfl (by rfl)) rfl ?_ | refine Gives.list (f_loadAt hS rfl rfl) rfl ?_ | refine Gives.list (f_loadAtS hS rfl rfl (by rfl)) rfl ?_ | refine Gives.list (f_loadAtF hS rfl rfl (by rfl)) rfl ?_); (simp only [Act.put, List.setIfInBounds_toArray, List.set_cons_zero, List.set_cons_succ])) | ((with_reducible show wpList _ _ _ (⟨_, Op.store _ _ _, _, _, _, _⟩ :: _) _ _); (first | refine Does.list (f_store hS rfl rfl rfl (by rfl) (by rfl)) rfl ?_ | refine Does.list (f_storeS hS rfl rfl rfl (by rfl) (by rfl) (by rfl)) rfl ?_); clear hS; rintro _ wx ⟨rfl, hS⟩; (simp only [List.set_cons_zero, List.set_cons_succ] at hS); (simp only [Act.put, List.setIfInBounds_toArray, List.set_cons_zero, List.set_cons_succ])) | ((with_reducible show wpList _ _ _ (⟨_, Op.alloc _, _, _, _, _⟩ :: _) _ _); refine Does.list (does_alloc hS rfl (by rfl)) rfl ?_; clear hS; rintro _ wx ⟨ba, rfl, hS, _⟩; (simp only [Act.put, List.setIfInBounds_toArray, List.set_cons_zero, List.set_cons_succ])) | ((with_reducible show wpList _ _ _ (⟨_, Op.buildSlice _ _ _, _, _, _, _⟩ :: _) _ _); refine Does.list (does_buildSlice (X := ?_) (cs := ?_) (E := ?_) hS rfl ?_ ?_) rfl ?_; rotate_left 3; (go_simp; rfl); rfl; clear hS; rintro _ wx ⟨bx, rfl, hS, _⟩; (simp only [Act.put, List.setIfInBounds_toArray, List.set_cons_zero, List.set_cons_succ])) | ((with_reducible show wpList _ _ _ (⟨_, Op.call { callee := Callee.builtin Builtin.append, args := _, argTypes := _ }, _, _, _, _⟩ :: _) _ _); (try replace hS := (Sat.vec0 oBlock hS).lit (Nat.zero_le _)); refine Does.list (f_appendFlat oBlock rBlock hS rfl rfl rfl rfl rfl rfl (by decide) (by omega)) rfl ?_; clear hS; rintro _ wx ⟨A2, c2, rfl, hS⟩; (simp only [List.set_cons_zero, List.set_cons_succ] at hS); (simp only [Act.put, List.setIfInBounds_toArray, List.set_cons_zero, List.set_cons_succ])))
      go_roundw
      case rel => exact ⟨k + 1, _, _, hlt, by go_num, by rw [HE.out, List.length_append], by rw [HE.out, List.length_append]; exact hS.sel [2, 3, 4] rfl (by decide)⟩
      case measure => simp [intOf]; omega
    · obtain rfl : k = m.1.length := by omega
      go_wp2_with (first | ((with_reducible show wpList _ _ _ (⟨_, Op.box _ _, _, _, _, _⟩ :: _) _ _); refine Does.list (does_box hS rfl rfl (by rfl)) rfl ?_; clear hS; rintro _ wx ⟨bo, rfl, hS, _⟩; (simp only [Act.put, List.setIfInBounds_toArray, List.set_cons_zero, List.set_cons_succ])) | ((with_reducible show wpList _ _ _ (⟨_, Op.load _ _, _, _, _, _⟩ :: _) _ _); (first | refine Gives.list (f_load hS rfl rfl (by rfl)) rfl ?_ | refine Gives.list (f_loadS hS rfl rfl (by rfl)) rfl ?_ | refine Gives.list (f_loadAt hS rfl rfl) rfl ?_ | refine Gives.list (f_loadAtS hS rfl rfl (by rfl)) rfl ?_ | refine Gives.list (f_loadAtF hS rfl rfl (by rfl)) rfl ?_); (simp only [Act.put, List.setIfInBounds_toArray, List.set_cons_zero, List.set_cons_succ])) | ((with_reducible show wpList _ _ _ (⟨_, Op.store _ _ _, _, _, _, _⟩ :: _) _ _); (first | refine Does.list (f_store hS rfl rfl rfl (by rfl) (by rfl)) rfl ?_ | refine Does.list (f_storeS hS rfl rfl rfl (by rfl) (by rfl) (by rfl)) rfl ?_); clear hS; rintro _ wx ⟨rfl, hS⟩; (simp only [List.set_cons_zero, List.set_cons_succ] at hS); (simp only [Act.put, List.setIfInBounds_toArray, List.set_cons_zero, List.set_cons_succ])) | ((with_reducible show wpList _ _ _ (⟨_, Op.alloc _, _, _, _, _⟩ :: _) _ _); refine Does.list (does_alloc hS rfl (by rfl)) rfl ?_; clear hS; rintro _ wx ⟨ba, rfl, hS, _⟩; (simp only [Act.put, List.setIfInBounds_toArray, List.set_cons_zero, List.set_cons_succ])) | ((with_reducible show wpList _ _ _ (⟨_, Op.buildSlice _ _ _, _, _, _, _⟩ :: _) _ _); refine Does.list (does_buildSlice (X := ?_) (cs := ?_) (E := ?_) hS rfl ?_ ?_) rfl ?_; rotate_left 3; (go_simp; rfl); rfl; clear hS; rintro _ wx ⟨bx, rfl, hS, _⟩; (simp only [Act.put, List.setIfInBounds_toArray, List.set_cons_zero, List.set_cons_succ])))
      rw [allTo_end (Nat.le_refl _)] at hS ⊢
      have hlen : (memAll m).length ≤ 1000000000 := Hall.out
      have Hat : ∀ q b, ((memAll m).take q).any (isAt a) = false → (memAll m)[q]? = some b → isAt a b = true → leafOf m a = b.2.2 := fun q b h1 h2 h3 => leafOf_at Hok.out h1 h2 h3
      have Hno : (memAll m).any (isAt a) = false → leafOf m a = -1 := leafOf_no
      generalize memAll m = L at hS hlen Hat Hno ⊢
      have Hat := Lib.hid Hat; have Hno := Lib.hid Hno
      clear Hall hNb
      replace hS : Sat w wr [.ro rBlock.slice [.slice A' L.length c'] L] := (Sat.still (e' := rBlock.slice) hS).sel [0] rfl (by decide)
      go_loopw [7] (fun i wr => ∃ q : Nat, q ≤ L.length ∧ i = .int .i64 q ∧ (L.take q).any (isAt a) = false ∧ Sat w wr [.ro rBlock.slice [.slice A' L.length c'] L]) (fun i _ => L.length - (intOf i).toNat)
      case atStart => exact ⟨0, Nat.zero_le _, rfl, rfl, hS⟩
      case round =>
        clear hS
        obtain ⟨q, hq, rfl, ha, hS⟩ := hrel
        have Ha := Lib.hid ha
        clear ha
        by_cases hlq : q < L.length
        · have hy := get_some hlq
          cases hp : isAt a L[q]
          · have H := Lib.hid (any_succ_f (p := isAt a) hlq Ha.out hp)
            generalize L[q] = b at hy hp
            have Hy := Lib.hid hy
            clear hy
            have hne : ¬ (b.1 = a) := by simpa [isAt] using hp
            clear hp
            obtain ⟨ad, rfl, j0, j1, j2, hS⟩ := hS.elBlock A' L.length c' Hy.out
            go_wp2_with (first | ((with_reducible show wpList _ _ _ (⟨_, Op.box _ _, _, _, _, _⟩ :: _) _ _); refine Does.list (does_box hS rfl rfl (by rfl)) rfl ?_; clear hS; rintro _ wx ⟨bo, rfl, hS, _⟩; (simp only [Act.put, List.setIfInBounds_toArray, List.set_cons_zero, List.set_cons_succ])) | ((with_reducible show wpList _ _ _ (⟨_, Op.load _ _, _, _, _, _⟩ :: _) _ _); (first | refine Gives.list (f_load hS rfl rfl (by rfl)) rfl ?_ | refine Gives.list (f_loadS hS rfl rfl (by rfl)) rfl ?_ | refine Gives.list (f_loadAt hS rfl rfl) rfl ?_ | refine Gives.list (f_loadAtS hS rfl rfl (by rfl)) rfl ?_ | refine Gives.list (f_loadAtF hS rfl rfl (by rfl)) rfl ?_); (simp only [Act.put, List.setIfInBounds_toArray, List.set_cons_zero, List.set_cons_succ])) | ((with_reducible show wpList _ _ _ (⟨_, Op.store _ _ _, _, _, _, _⟩ :: _) _ _); (first | refine Does.list (f_store hS rfl rfl rfl (by rfl) (by rfl)) rfl ?_ | refine Does.list (f_storeS hS rfl rfl rfl (by rfl) (by rfl) (by rfl)) rfl ?_); clear hS; rintro _ wx ⟨rfl, hS⟩; (simp only [List.set_cons_zero, List.set_cons_succ] at hS); (simp only [Act.put, List.setIfInBounds_toArray, List.set_cons_zero, List.set_cons_succ])) | ((with_reducible show wpList _ _ _ (⟨_, Op.alloc _, _, _, _, _⟩ :: _) _ _); refine Does.list (does_alloc hS rfl (by rfl)) rfl ?_; clear hS; rintro _ wx ⟨ba, rfl, hS, _⟩; (simp only [Act.put, List.setIfInBounds_toArray, List.set_cons_zero, List.set_cons_succ])) | ((with_reducible show wpList _ _ _ (⟨_, Op.buildSlice _ _ _, _, _, _, _⟩ :: _) _ _); refine Does.list (does_buildSlice (X := ?_) (cs := ?_) (E := ?_) hS rfl ?_ ?_) rfl ?_; rotate_left 3; (go_simp; rfl); rfl; clear hS; rintro _ wx ⟨bx, rfl, hS, _⟩; (simp only [Act.put, List.setIfInBounds_toArray, List.set_cons_zero, List.set_cons_succ])))
            go_roundw
            case rel => exact ⟨q + 1, hlq, by go_num, H.out, hS.sel [1] rfl (by decide)⟩
            case measure => simp [intOf]; omega
          · have H := Lib.hid (Hat.out q _ Ha.out hy hp)
            generalize L[q] = b at hy hp H
            have Hy := Lib.hid hy
            clear hy
            have he : b.1 = a := by simpa [isAt] using hp
            clear hp
            obtain ⟨b1, b2, b3⟩ := b
            dsimp only at he
            subst he
            obtain ⟨ad, rfl, j0, j1, j2, hS⟩ := hS.elBlock A' L.length c' Hy.out
            dsimp only at hS
            go_wp2_with (first | ((with_reducible show wpList _ _ _ (⟨_, Op.box _ _, _, _, _, _⟩ :: _) _ _); refine Does.list (does_box hS rfl rfl (by rfl)) rfl ?_; clear hS; rintro _ wx ⟨bo, rfl, hS, _⟩; (simp only [Act.put, List.setIfInBounds_toArray, List.set_cons_zero, List.set_cons_succ])) | ((with_reducible show wpList _ _ _ (⟨_, Op.load _ _, _, _, _, _⟩ :: _) _ _); (first | refine Gives.list (f_load hS rfl rfl (by rfl)) rfl ?_ | refine Gives.list (f_loadS hS rfl rfl (by rfl)) rfl ?_ | refine Gives.list (f_loadAt hS rfl rfl) rfl ?_ | refine Gives.list (f_loadAtS hS rfl rfl (by rfl)) rfl ?_ | refine Gives.list (f_loadAtF hS rfl rfl (by rfl)) rfl ?_); (simp only [Act.put, List.setIfInBounds_toArray, List.set_cons_zero, List.set_cons_succ])) | ((with_reducible show wpList _ _ _ (⟨_, Op.store _ _ _, _, _, _, _⟩ :: _) _ _); (first | refine Does.list (f_store hS rfl rfl rfl (by rfl) (by rfl)) rfl ?_ | refine Does.list (f_storeS hS rfl rfl rfl (by rfl) (by rfl) (by rfl)) rfl ?_); clear hS; rintro _ wx ⟨rfl, hS⟩; (simp only [List.set_cons_zero, List.set_cons_succ] at hS); (simp only [Act.put, List.setIfInBounds_toArray, List.set_cons_zero, List.set_cons_succ])) | ((with_reducible show wpList _ _ _ (⟨_, Op.alloc _, _, _, _, _⟩ :: _) _ _); refine Does.list (does_alloc hS rfl (by rfl)) rfl ?_; clear hS; rintro _ wx ⟨ba, rfl, hS, _⟩; (simp only [Act.put, List.setIfInBounds_toArray, List.set_cons_zero, List.set_cons_succ])) | ((with_reducible show wpList _ _ _ (⟨_, Op.buildSlice _ _ _, _, _, _, _⟩ :: _) _ _); refine Does.list (does_buildSlice (X := ?_) (cs := ?_) (E := ?_) hS rfl ?_ ?_) rfl ?_; rotate_left 3; (go_simp; rfl); rfl; clear hS; rintro _ wx ⟨bx, rfl, hS, _⟩; (simp only [Act.put, List.setIfInBounds_toArray, List.set_cons_zero, List.set_cons_succ])))
            go_ret
            exact ⟨ret_i64 H.out.symm, hS.mod0⟩
        · have H : Hid (leafOf m a = -1) := by
            have ha := Ha.out
            rw [List.take_of_length_le (by omega)] at ha
            exact Hno.out ha
          go_wp2_with (first | ((with_reducible show wpList _ _ _ (⟨_, Op.box _ _, _, _, _, _⟩ :: _) _ _); refine Does.list (does_box hS rfl rfl (by rfl)) rfl ?_; clear hS; rintro _ wx ⟨bo, rfl, hS, _⟩; (simp only [Act.put, List.setIfInBounds_toArray, List.set_cons_zero, List.set_cons_succ])) | ((with_reducible show wpList _ _ _ (⟨_, Op.load _ _, _, _, _, _⟩ :: _) _ _); (first | refine Gives.list (f_load hS rfl rfl (by rfl)) rfl ?_ | refine Gives.list (f_loadS hS rfl rfl (by rfl)) rfl ?_ | refine Gives.list (f_loadAt hS rfl rfl) rfl ?_ | refine Gives.list (f_loadAtS hS rfl rfl (by rfl)) rfl ?_ | refine Gives.list (f_loadAtF hS rfl rfl (by rfl)) rfl ?_); (simp only [Act.put, List.setIfInBounds_toArray, List.set_cons_zero, List.set_cons_succ])) | ((with_reducible show wpList _ _ _ (⟨_, Op.store _ _ _, _, _, _, _⟩ :: _) _ _); (first | refine Does.list (f_store hS rfl rfl rfl (by rfl) (by rfl)) rfl ?_ | refine Does.list (f_storeS hS rfl rfl rfl (by rfl) (by rfl) (by rfl)) rfl ?_); clear hS; rintro _ wx ⟨rfl, hS⟩; (simp only [List.set_cons_zero, List.set_cons_succ] at hS); (simp only [Act.put, List.setIfInBounds_toArray, List.set_cons_zero, List.set_cons_succ])) | ((with_reducible show wpList _ _ _ (⟨_, Op.alloc _, _, _, _, _⟩ :: _) _ _); refine Does.list (does_alloc hS rfl (by rfl)) rfl ?_; clear hS; rintro _ wx ⟨ba, rfl, hS, _⟩; (simp only [Act.put, List.setIfInBounds_toArray, List.set_cons_zero, List.set_cons_succ])) | ((with_reducible show wpList _ _ _ (⟨_, Op.buildSlice _ _ _, _, _, _, _⟩ :: _) _ _); refine Does.list (does_buildSlice (X := ?_) (cs := ?_) (E := ?_) hS rfl ?_ ?_) rfl ?_; rotate_left 3; (go_simp; rfl); rfl; clear hS; rintro _ wx ⟨bx, rfl, hS, _⟩; (simp only [Act.put, List.setIfInBounds_toArray, List.set_cons_zero, List.set_cons_succ])))
          go_ret
          exact ⟨ret_i64 H.out.symm, hS.mod0⟩
end Go.Proofs.YtnlhiamjndifoaaDoor
