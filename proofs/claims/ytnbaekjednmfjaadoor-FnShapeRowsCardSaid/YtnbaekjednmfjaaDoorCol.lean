/- NameValid: what a name is; the program's side. -/
import Derived.Test.YtnbaekjednmfjaaDoorFuncs
import Derived.Test.YtnbaekjednmfjaaDoorDoor
section
namespace Go.Proofs.YtnbaekjednmfjaaDoor
open Go.RowKit

def small (c : UInt8) : Bool := decide (97 ≤ c.toNat) && decide (c.toNat ≤ 122)
def nameOk (s : ByteArray) : Bool := s.data.toList.all small && (!hasS resWords s && inB s.size 1 8)
section
variable {s : ByteArray} {k : Nat}
theorem byte_get (h : k < s.size) : s.data.toList[k]? = some s[k] := by
  have h' : k < s.data.size := h
  rw [Array.getElem?_toList, Array.getElem?_eq_getElem h']
  rfl
theorem nameOk_byte (h : k < s.size) (hp : small s[k] = false) : nameOk s = false := by
  unfold nameOk
  rw [show s.data.toList.all small = false from List.all_eq_false.2 ⟨s[k], List.mem_of_getElem? (byte_get h), by simp [hp]⟩]
  rfl
theorem small_succ (h : k < s.size) (h1 : (s.data.toList.take k).all small = true) (hp : small s[k] = true) : (s.data.toList.take (k + 1)).all small = true := by
  rw [List.take_add_one, byte_get h, List.all_append, h1]
  simp [hp]
theorem small_all (h : s.size ≤ k) (h1 : (s.data.toList.take k).all small = true) : s.data.toList.all small = true := by
  rwa [List.take_of_length_le (by simpa using h)] at h1
theorem nameOk_long (h : inB s.size 1 8 = false) : nameOk s = false := by unfold nameOk; rw [h]; simp
theorem nameOk_end (h : s.data.toList.all small = true) (h2 : inB s.size 1 8 = true) : nameOk s = !hasS resWords s := by unfold nameOk; rw [h, h2]; simp
theorem nameOk_size (h : nameOk s = true) : 1 ≤ s.size ∧ s.size ≤ 8 := by
  unfold nameOk at h
  simp only [Bool.and_eq_true] at h
  have := inB_of h.2.2
  omega
end
theorem Sat.res {w0 w : World} {Γ : List Fact} (h : Sat w0 w Γ) (hR : ResOk w0) : ∃ A c, Sat w0 w (.ro Rep.str.slice [.slice A 13 c] resWords :: .at ⟨0, 0, none⟩ [.slice A 13 c] :: Γ) := by
  obtain ⟨A, c, F, h1, h2⟩ := hR
  exact ⟨A, c, (h.argAt h1).arg h2⟩
set_option maxHeartbeats 1000000 in
theorem impl_NameValid (s : ByteArray) (hs : s.size ≤ maxLen) (w : World) (hR : ResOk w) :
    Calls Tryd.prog 20 #[.string s] w fun e w' => e = .returned (.bool (nameOk s)) ∧ Mod [] w w' := by
  unfold maxLen at hs
  obtain ⟨A, c, hS⟩ := (Sat.nil w).res hR
  clear hR
  go_enter Tryd.func20, Tryd.ntmps20
  go_wp2_with (first | ((with_reducible show wpList _ _ _ (⟨_, Op.box _ _, _, _, _, _⟩ :: _) _ _); refine Does.list (does_box hS rfl rfl (by rfl)) rfl ?_; clear hS; rintro _ wx ⟨bo, rfl, hS, _⟩; (simp only [Act.put, List.setIfInBounds_toArray, List.set_cons_zero, List.set_cons_succ])))
  go_loopw [6] (fun i wr => ∃ k : Nat, k ≤ s.size ∧ i = .int .i64 k ∧ (s.data.toList.take k).all small = true ∧ Sat w wr [.ro Rep.str.slice [.slice A 13 c] resWords, .at ⟨0, 0, none⟩ [.slice A 13 c]]) (fun i _ => s.size - (intOf i).toNat)
  case atStart => exact ⟨0, Nat.zero_le _, rfl, rfl, hS⟩
  case round =>
    clear hS
    obtain ⟨k, hk, rfl, ha, hS⟩ := hrel
    have Ha := Lib.hid ha
    clear ha
    by_cases hlt : k < s.size
    · cases hp : small s[k]
      · have H := Lib.hid (nameOk_byte hlt hp)
        have hb : (s[k].toNat : Int) < 97 ∨ ¬ (s[k].toNat : Int) < 97 ∧ (122 : Int) < s[k].toNat := by
          unfold small at hp
          rw [Bool.and_eq_false_iff] at hp
          rcases hp with hp | hp
          · have := of_decide_eq_false hp; omega
          · have := of_decide_eq_false hp; omega
        clear hp
        rcases hb with hb | ⟨hb1, hb2⟩
        · go_wp2_with (first | ((with_reducible show wpList _ _ _ (⟨_, Op.box _ _, _, _, _, _⟩ :: _) _ _); refine Does.list (does_box hS rfl rfl (by rfl)) rfl ?_; clear hS; rintro _ wx ⟨bo, rfl, hS, _⟩; (simp only [Act.put, List.setIfInBounds_toArray, List.set_cons_zero, List.set_cons_succ])))
          go_ret
          exact ⟨ret_false H.out, hS.mod0⟩
        · go_wp2_with (first | ((with_reducible show wpList _ _ _ (⟨_, Op.box _ _, _, _, _, _⟩ :: _) _ _); refine Does.list (does_box hS rfl rfl (by rfl)) rfl ?_; clear hS; rintro _ wx ⟨bo, rfl, hS, _⟩; (simp only [Act.put, List.setIfInBounds_toArray, List.set_cons_zero, List.set_cons_succ])))
          go_ret
          exact ⟨ret_false H.out, hS.mod0⟩
      · have H := Lib.hid (small_succ hlt Ha.out hp)
        have hb : ¬ (s[k].toNat : Int) < 97 ∧ ¬ (122 : Int) < s[k].toNat := by
          unfold small at hp
          rw [Bool.and_eq_true] at hp
          have h1 := of_decide_eq_true hp.1
          have h2 := of_decide_eq_true hp.2
          omega
        obtain ⟨hb1, hb2⟩ := hb
        clear hp
        go_wp2_with (first | ((with_reducible show wpList _ _ _ (⟨_, Op.box _ _, _, _, _, _⟩ :: _) _ _); refine Does.list (does_box hS rfl rfl (by rfl)) rfl ?_; clear hS; rintro _ wx ⟨bo, rfl, hS, _⟩; (simp only [Act.put, List.setIfInBounds_toArray, List.set_cons_zero, List.set_cons_succ])))
        go_roundw
        case rel => exact ⟨k + 1, hlt, by go_num, H.out, hS⟩
        case measure => simp [intOf]; omega
    · have Hall := Lib.hid (small_all (by omega) Ha.out)
      cases hin : inB s.size 1 8
      · have H := Lib.hid (nameOk_long hin)
        go_wp2_with (first | (go_at_call 23; refine (impl_in _ _ _ _).mono ?_; rintro e w' ⟨rfl, rfl⟩))
        go_ret
        exact ⟨ret_false H.out, hS.mod0⟩
      · have H := Lib.hid (nameOk_end Hall.out hin)
        go_wp2_with (first | ((with_reducible show wpList _ _ _ (⟨_, Op.load _ _, _, _, _, _⟩ :: _) _ _); (first | refine Gives.list (f_load hS rfl rfl (by rfl)) rfl ?_ | refine Gives.list (f_loadS hS rfl rfl (by rfl)) rfl ?_ | refine Gives.list (f_loadAt hS rfl rfl) rfl ?_ | refine Gives.list (f_loadAtS hS rfl rfl (by rfl)) rfl ?_ | refine Gives.list (f_loadAtF hS rfl rfl (by rfl)) rfl ?_); (simp only [Act.put, List.setIfInBounds_toArray, List.set_cons_zero, List.set_cons_succ])) | (go_at_call 23; refine (impl_in _ _ _ _).mono ?_; rintro e w' ⟨rfl, rfl⟩) | (go_at_call 37; obtain ⟨Fq, hFq⟩ := hS.has Rep.str.slice [.slice A 13 c]; refine (sl_Contains_str _ Fq _ resWords s hFq).mono ?_; rintro e w' ⟨rfl, hM⟩; replace hS := hS.mod hM; clear hM hFq))
        go_ret
        exact ⟨ret_bool H.out.symm, hS.mod0⟩
end Go.Proofs.YtnbaekjednmfjaaDoor
end

section
namespace Go.Proofs.YtnbaekjednmfjaaDoor
open Go.RowKit

theorem Sat.strLit {w0 w : World} {Γ : List Fact} {b : Nat} (ls : List ByteArray) (h : Sat w0 w (.box b (ls.map Value.string) :: Γ)) (hs : ∀ s ∈ ls, s.size ≤ maxLen) (hl : ls.length ≤ maxLen) :
    Sat w0 w (.own Rep.str.rows [.slice (some ⟨b, 0, none⟩) ls.length ls.length] ls :: Γ) :=
  Sat.lit (m := ls.length) (h.flat (e := Rep.str.vec ls.length) ⟨rfl, all_strs w ls hs⟩) hl
theorem resWords_size : ∀ s ∈ resWords, s.size ≤ maxLen := by decide +kernel
theorem nameOk_word {s : ByteArray} {k : Nat} (hk : k < resWords.length) (h : resWords[k] = s) : nameOk s = false := by
  unfold nameOk
  rw [hasS_hit hk h]
  simp
theorem nameOk_all {s : ByteArray} (h1 : s.data.toList.all small = true) (h2 : hasS resWords s = false) : nameOk s = inB s.size 1 8 := by unfold nameOk; rw [h1, h2]; simp
set_option maxHeartbeats 1000000 in
theorem spec_NameValid (s : ByteArray) (hs : s.size ≤ maxLen) (w : World) :
    Calls Tryd.prog 34 #[.string s] w fun e w' => e = .returned (.bool (nameOk s)) ∧ Mod [] w w' := by
  unfold maxLen at hs
  have hS : Sat w w [] := Sat.nil w
  go_enter Tryd.func34, Tryd.ntmps34
  go_wp2_with (first | ((with_reducible show wpList _ _ _ (⟨_, Op.box _ _, _, _, _, _⟩ :: _) _ _); refine Does.list (does_box hS rfl rfl (by rfl)) rfl ?_; clear hS; rintro _ wx ⟨bo, rfl, hS, _⟩; (simp only [Act.put, List.setIfInBounds_toArray, List.set_cons_zero, List.set_cons_succ])))
  go_loopw [3] (fun i wr => ∃ k : Nat, k ≤ s.size ∧ i = .int .i64 k ∧ (s.data.toList.take k).all small = true ∧ Sat w wr []) (fun i _ => s.size - (intOf i).toNat)
  case atStart => exact ⟨0, Nat.zero_le _, rfl, rfl, hS⟩
  case round =>
    clear hS
    obtain ⟨k, hk, rfl, ha, hS⟩ := hrel
    have Ha := Lib.hid ha
    clear ha
    by_cases hlt : k < s.size
    · cases hp : small s[k]
      · have H := Lib.hid (nameOk_byte hlt hp)
        have hb : (s[k].toNat : Int) < 97 ∨ ¬ (s[k].toNat : Int) < 97 ∧ (122 : Int) < s[k].toNat := by
          unfold small at hp
          rw [Bool.and_eq_false_iff] at hp
          rcases hp with hp | hp
          · have := of_decide_eq_false hp; omega
          · have := of_decide_eq_false hp; omega
        clear hp
        rcases hb with hb | ⟨hb1, hb2⟩
        · go_wp2_with (first | ((with_reducible show wpList _ _ _ (⟨_, Op.box _ _, _, _, _, _⟩ :: _) _ _); refine Does.list (does_box hS rfl rfl (by rfl)) rfl ?_; clear hS; rintro _ wx ⟨bo, rfl, hS, _⟩; (simp only [Act.put, List.setIfInBounds_toArray, List.set_cons_zero, List.set_cons_succ])))
          go_ret
          exact ⟨ret_false H.out, hS.mod0⟩
        · go_wp2_with (first | ((with_reducible show wpList _ _ _ (⟨_, Op.box _ _, _, _, _, _⟩ :: _) _ _); refine Does.list (does_box hS rfl rfl (by rfl)) rfl ?_; clear hS; rintro _ wx ⟨bo, rfl, hS, _⟩; (simp only [Act.put, List.setIfInBounds_toArray, List.set_cons_zero, List.set_cons_succ])))
          go_ret
          exact ⟨ret_false H.out, hS.mod0⟩
      · have H := Lib.hid (small_succ hlt Ha.out hp)
        have hb : ¬ (s[k].toNat : Int) < 97 ∧ ¬ (122 : Int) < s[k].toNat := by
          unfold small at hp
          rw [Bool.and_eq_true] at hp
          have h1 := of_decide_eq_true hp.1
          have h2 := of_decide_eq_true hp.2
          omega
        obtain ⟨hb1, hb2⟩ := hb
        clear hp
        go_wp2_with (first | ((with_reducible show wpList _ _ _ (⟨_, Op.box _ _, _, _, _, _⟩ :: _) _ _); refine Does.list (does_box hS rfl rfl (by rfl)) rfl ?_; clear hS; rintro _ wx ⟨bo, rfl, hS, _⟩; (simp only [Act.put, List.setIfInBounds_toArray, List.set_cons_zero, List.set_cons_succ])))
        go_roundw
        case rel => exact ⟨k + 1, hlt, by go_num, H.out, hS⟩
        case measure => simp [intOf]; omega
    · have Hall := Lib.hid (small_all (by omega) Ha.out)
      clear Ha
      go_wp2_with (first | ((with_reducible show wpList _ _ _ (⟨_, Op.buildSlice _ _ _, _, _, _, _⟩ :: _) _ _); refine Does.list (does_buildSlice (X := ?_) (cs := ?_) (E := ?_) hS rfl ?_ ?_) rfl ?_; rotate_left 3; (go_simp; rfl); rfl; clear hS; rintro _ wx ⟨bx, rfl, hS, _⟩; (simp only [Act.put, List.setIfInBounds_toArray, List.set_cons_zero, List.set_cons_succ])))
      replace hS : Sat w _ [.ro Rep.str.slice [.slice (some ⟨bx, 0, none⟩) 13 13] resWords] := Sat.still (e' := Rep.str.slice) (hS.strLit resWords resWords_size (by decide))
      go_loopw [5] (fun i wr => ∃ k : Nat, k ≤ 13 ∧ i = .int .i64 k ∧ hasS (resWords.take k) s = false ∧ Sat w wr [.ro Rep.str.slice [.slice (some ⟨bx, 0, none⟩) 13 13] resWords]) (fun i _ => 13 - (intOf i).toNat)
      case atStart => exact ⟨0, Nat.zero_le _, rfl, rfl, hS⟩
      case round =>
        clear hS
        obtain ⟨q, hq, rfl, ha, hS⟩ := hrel
        have Ha := Lib.hid ha
        clear ha
        by_cases hlt : q < 13
        · have hltI : (q : Int) < 13 := by omega
          have hlr : q < resWords.length := hlt
          obtain ⟨ad, hae, hz, hS⟩ := hS.elStr (some ⟨bx, 0, none⟩) 13 13 (get_some hlr)
          cases hae
          simp only [Addr.add_lit, Nat.zero_add] at hS
          by_cases heq : resWords[q] = s
          · have H := Lib.hid (nameOk_word hlr heq)
            have t1 := toList_t heq.symm
            clear heq
            generalize resWords[q] = y at hS t1 hz
            go_wp2_with (first | ((with_reducible show wpList _ _ _ (⟨_, Op.load _ _, _, _, _, _⟩ :: _) _ _); (first | refine Gives.list (f_load hS rfl rfl (by rfl)) rfl ?_ | refine Gives.list (f_loadS hS rfl rfl (by rfl)) rfl ?_ | refine Gives.list (f_loadAt hS rfl rfl) rfl ?_ | refine Gives.list (f_loadAtS hS rfl rfl (by rfl)) rfl ?_ | refine Gives.list (f_loadAtF hS rfl rfl (by rfl)) rfl ?_); (simp only [Act.put, List.setIfInBounds_toArray, List.set_cons_zero, List.set_cons_succ])))
            go_ret
            exact ⟨ret_false H.out, hS.mod0⟩
          · have H := Lib.hid (hasS_succ_f hlr Ha.out heq)
            have t1 := toList_f (fun h => heq h.symm)
            clear heq
            generalize resWords[q] = y at hS t1 hz
            go_wp2_with (first | ((with_reducible show wpList _ _ _ (⟨_, Op.load _ _, _, _, _, _⟩ :: _) _ _); (first | refine Gives.list (f_load hS rfl rfl (by rfl)) rfl ?_ | refine Gives.list (f_loadS hS rfl rfl (by rfl)) rfl ?_ | refine Gives.list (f_loadAt hS rfl rfl) rfl ?_ | refine Gives.list (f_loadAtS hS rfl rfl (by rfl)) rfl ?_ | refine Gives.list (f_loadAtF hS rfl rfl (by rfl)) rfl ?_); (simp only [Act.put, List.setIfInBounds_toArray, List.set_cons_zero, List.set_cons_succ])))
            go_roundw
            case rel => exact ⟨q + 1, hlt, by go_num, H.out, hS.sel [1] rfl (by decide)⟩
            case measure => simp [intOf]; omega
        · have H : Hid (nameOk s = inB s.size 1 8) := by
            have ha := Ha.out
            rw [List.take_of_length_le (show resWords.length ≤ q by show 13 ≤ q; omega)] at ha
            exact nameOk_all Hall.out ha
          go_wp2_with (first | (go_at_call 36; refine (spec_in _ _ _ _).mono ?_; rintro e w' ⟨rfl, rfl⟩))
          go_ret
          exact ⟨ret_bool H.out.symm, hS.mod0⟩
end Go.Proofs.YtnbaekjednmfjaaDoor
end

section
namespace Go.Proofs.YtnbaekjednmfjaaDoor
open Go.RowKit

def namesOk (ns : List ByteArray) : Bool := ns.all nameOk && (decide ns.Nodup && inB ns.length 1 6)
section
variable {ns : List ByteArray} {k : Nat}
theorem namesOk_bad (h : k < ns.length) (h1 : nameOk ns[k] = false) : namesOk ns = false := by
  unfold namesOk
  rw [show ns.all nameOk = false from List.all_eq_false.2 ⟨ns[k], List.getElem_mem h, by simp [h1]⟩]
  rfl
theorem hasS_mem {xs : List ByteArray} {x : ByteArray} : hasS xs x = true ↔ x ∈ xs := by
  unfold hasS
  rw [List.any_eq_true]
  constructor
  · rintro ⟨y, h1, h2⟩
    rw [← eqB_iff.1 h2]; exact h1
  · intro h; exact ⟨x, h, eqB_rfl x⟩
theorem hasS_not {xs : List ByteArray} {x : ByteArray} : hasS xs x = false ↔ x ∉ xs := by
  rw [← Bool.not_eq_true, hasS_mem]
theorem namesOk_dup (h : k < ns.length) (h1 : hasS (ns.take k) ns[k] = true) : namesOk ns = false := by
  unfold namesOk
  rw [decide_eq_false]
  · simp
  · intro hn
    have hn' : (ns.take k ++ ns.drop k).Nodup := by rw [List.take_append_drop]; exact hn
    have hm : ns[k] ∈ ns.drop k := List.mem_drop_iff_getElem.2 ⟨0, by omega, by simp⟩
    exact (List.nodup_append.1 hn').2.2 _ (hasS_mem.1 h1) _ hm rfl
theorem nodup_succ (h : k < ns.length) (h0 : (ns.take k).Nodup) (h1 : hasS (ns.take k) ns[k] = false) : (ns.take (k + 1)).Nodup := by
  rw [List.take_succ_eq_append_getElem h, List.nodup_append]
  refine ⟨h0, by simp, fun a ha b hb e => ?_⟩
  rw [List.mem_singleton] at hb
  subst hb
  subst e
  exact hasS_not.1 h1 ha
theorem names_succ (h : k < ns.length) (h0 : (ns.take k).all nameOk = true) (h1 : nameOk ns[k] = true) : (ns.take (k + 1)).all nameOk = true := by
  rw [List.take_succ_eq_append_getElem h, List.all_append, h0]
  simp [h1]
theorem namesOk_end (h : ns.length ≤ k) (h0 : (ns.take k).all nameOk = true) (h1 : (ns.take k).Nodup) : namesOk ns = inB ns.length 1 6 := by
  rw [List.take_of_length_le h] at h0 h1
  unfold namesOk
  rw [h0, decide_eq_true h1]
  rfl
theorem hasS_take_succ_f {x : ByteArray} (h : k < ns.length) (h1 : hasS (ns.take k) x = false) (h2 : ns[k] ≠ x) : hasS (ns.take (k + 1)) x = false := hasS_succ_f h h1 h2
theorem hasS_take_hit {x : ByteArray} {j : Nat} (h : j < ns.length) (hjk : j < k) (h2 : ns[j] = x) : hasS (ns.take k) x = true := by
  rw [hasS_mem, ← h2, List.mem_take_iff_getElem]
  exact ⟨j, by omega, rfl⟩
theorem namesOk_len (h : namesOk ns = true) : 1 ≤ ns.length ∧ ns.length ≤ 6 := by
  unfold namesOk at h
  simp only [Bool.and_eq_true] at h
  have := inB_of h.2.2
  omega
theorem namesOk_size (h : namesOk ns = true) : ∀ s ∈ ns, 1 ≤ s.size ∧ s.size ≤ 8 := by
  unfold namesOk at h
  simp only [Bool.and_eq_true] at h
  intro s hs
  exact nameOk_size (List.all_eq_true.1 h.1 s hs)
end
set_option maxHeartbeats 1000000 in
theorem impl_columnsValid (w : World) (hR : ResOk w) (F : List Nat) (v : Value) (ns : List ByteArray) (hx : SliceHas Rep.str w F [v] ns) :
    Calls Tryd.prog 22 #[v] w fun e w' => e = .returned (.bool (namesOk ns)) ∧ Mod [] w w' := by
  obtain ⟨A, c, rfl, hl, _⟩ := hx.form'
  have hS : Sat w w [.ro Rep.str.slice [.slice A ns.length c] ns] := (Sat.nil w).arg hx
  clear hx
  go_enter Tryd.func22, Tryd.ntmps22
  go_wp2_with (first | ((with_reducible show wpList _ _ _ (⟨_, Op.box _ _, _, _, _, _⟩ :: _) _ _); refine Does.list (does_box hS rfl rfl (by rfl)) rfl ?_; clear hS; rintro _ wx ⟨bo, rfl, hS, _⟩; (simp only [Act.put, List.setIfInBounds_toArray, List.set_cons_zero, List.set_cons_succ])))
  go_loopw [7] (fun i wr => ∃ k : Nat, k ≤ ns.length ∧ i = .int .i64 k ∧ (ns.take k).all nameOk = true ∧ (ns.take k).Nodup ∧ Sat w wr [.ro Rep.str.slice [.slice A ns.length c] ns]) (fun i _ => ns.length - (intOf i).toNat)
  case atStart => exact ⟨0, Nat.zero_le _, rfl, rfl, by simp, hS⟩
  case round =>
    clear hS
    obtain ⟨k, hk, rfl, ha, hd, hS⟩ := hrel
    have Ha := Lib.hid ha
    have Hd := Lib.hid hd
    clear ha hd
    by_cases hlt : k < ns.length
    · obtain ⟨ad, rfl, hz, hS⟩ := hS.elStr A ns.length c (get_some hlt)
      cases hp : nameOk ns[k]
      · have H := Lib.hid (namesOk_bad hlt hp)
        generalize ns[k] = x at hS hp hz
        go_wp2_with (first | ((with_reducible show wpList _ _ _ (⟨_, Op.load _ _, _, _, _, _⟩ :: _) _ _); (first | refine Gives.list (f_load hS rfl rfl (by rfl)) rfl ?_ | refine Gives.list (f_loadS hS rfl rfl (by rfl)) rfl ?_ | refine Gives.list (f_loadAt hS rfl rfl) rfl ?_ | refine Gives.list (f_loadAtS hS rfl rfl (by rfl)) rfl ?_ | refine Gives.list (f_loadAtF hS rfl rfl (by rfl)) rfl ?_); (simp only [Act.put, List.setIfInBounds_toArray, List.set_cons_zero, List.set_cons_succ])) | (go_at_call 20; refine (impl_NameValid _ hz _ (hR.mod0 hS.mod0)).mono ?_; rintro e w' ⟨rfl, hM⟩; replace hS := hS.mod hM; clear hM))
        go_ret
        exact ⟨ret_false H.out, hS.mod0⟩
      · have H1 := Lib.hid (names_succ hlt Ha.out hp)
        cases hc : hasS (ns.take k) ns[k]
        · have H2 := Lib.hid (nodup_succ hlt Hd.out hc)
          generalize ns[k] = x at hS hp hz hc
          go_wp2_with (first | ((with_reducible show wpList _ _ _ (⟨_, Op.load _ _, _, _, _, _⟩ :: _) _ _); (first | refine Gives.list (f_load hS rfl rfl (by rfl)) rfl ?_ | refine Gives.list (f_loadS hS rfl rfl (by rfl)) rfl ?_ | refine Gives.list (f_loadAt hS rfl rfl) rfl ?_ | refine Gives.list (f_loadAtS hS rfl rfl (by rfl)) rfl ?_ | refine Gives.list (f_loadAtF hS rfl rfl (by rfl)) rfl ?_); (simp only [Act.put, List.setIfInBounds_toArray, List.set_cons_zero, List.set_cons_succ])) | (go_at_call 20; refine (impl_NameValid _ hz _ (hR.mod0 hS.mod0)).mono ?_; rintro e w' ⟨rfl, hM⟩; replace hS := hS.mod hM; clear hM) | ((with_reducible show wpList _ _ _ (⟨_, Op.slice _ _ _ _ _, _, _, _, _⟩ :: _) _ _); refine Does.list (f_slice Rep.str 0 k hS rfl rfl rfl rfl (by omega) (by omega) rfl) rfl ?_; clear hS; rintro _ _ ⟨A4, c4, rfl, rfl, hS⟩; (simp only [Nat.sub_zero, List.drop_zero] at hS); (simp only [Nat.sub_zero]); (simp only [Act.put, List.setIfInBounds_toArray, List.set_cons_zero, List.set_cons_succ])) | (go_at_call 37; obtain ⟨Fq, hFq⟩ := hS.has Rep.str.slice [.slice A4 k c4]; refine (sl_Contains_str _ Fq _ _ x hFq).mono ?_; rintro e w' ⟨rfl, hM⟩; replace hS := hS.mod hM; clear hM hFq))
          go_roundw
          case rel => exact ⟨k + 1, hlt, by go_num, H1.out, H2.out, hS.sel [2] rfl (by decide)⟩
          case measure => simp [intOf]; omega
        · have H := Lib.hid (namesOk_dup hlt hc)
          generalize ns[k] = x at hS hp hz hc
          go_wp2_with (first | ((with_reducible show wpList _ _ _ (⟨_, Op.load _ _, _, _, _, _⟩ :: _) _ _); (first | refine Gives.list (f_load hS rfl rfl (by rfl)) rfl ?_ | refine Gives.list (f_loadS hS rfl rfl (by rfl)) rfl ?_ | refine Gives.list (f_loadAt hS rfl rfl) rfl ?_ | refine Gives.list (f_loadAtS hS rfl rfl (by rfl)) rfl ?_ | refine Gives.list (f_loadAtF hS rfl rfl (by rfl)) rfl ?_); (simp only [Act.put, List.setIfInBounds_toArray, List.set_cons_zero, List.set_cons_succ])) | (go_at_call 20; refine (impl_NameValid _ hz _ (hR.mod0 hS.mod0)).mono ?_; rintro e w' ⟨rfl, hM⟩; replace hS := hS.mod hM; clear hM) | ((with_reducible show wpList _ _ _ (⟨_, Op.slice _ _ _ _ _, _, _, _, _⟩ :: _) _ _); refine Does.list (f_slice Rep.str 0 k hS rfl rfl rfl rfl (by omega) (by omega) rfl) rfl ?_; clear hS; rintro _ _ ⟨A4, c4, rfl, rfl, hS⟩; (simp only [Nat.sub_zero, List.drop_zero] at hS); (simp only [Nat.sub_zero]); (simp only [Act.put, List.setIfInBounds_toArray, List.set_cons_zero, List.set_cons_succ])) | (go_at_call 37; obtain ⟨Fq, hFq⟩ := hS.has Rep.str.slice [.slice A4 k c4]; refine (sl_Contains_str _ Fq _ _ x hFq).mono ?_; rintro e w' ⟨rfl, hM⟩; replace hS := hS.mod hM; clear hM hFq))
          go_ret
          exact ⟨ret_false H.out, hS.mod0⟩
    · have H := Lib.hid (namesOk_end (by omega) Ha.out Hd.out)
      go_wp2_with (first | (go_at_call 23; refine (impl_in _ _ _ _).mono ?_; rintro e w' ⟨rfl, rfl⟩))
      go_ret
      exact ⟨ret_bool H.out.symm, hS.mod0⟩
set_option maxHeartbeats 1000000 in
theorem spec_l1Names (w : World) (F : List Nat) (v : Value) (ns : List ByteArray) (hx : SliceHas Rep.str w F [v] ns) :
    Calls Tryd.prog 46 #[v] w fun e w' => e = .returned (.bool (namesOk ns)) ∧ Mod [] w w' := by
  obtain ⟨A, c, rfl, hl, _⟩ := hx.form'
  have hS : Sat w w [.ro Rep.str.slice [.slice A ns.length c] ns] := (Sat.nil w).arg hx
  clear hx
  go_enter Tryd.func46, Tryd.ntmps46
  go_wp2_with (first | ((with_reducible show wpList _ _ _ (⟨_, Op.box _ _, _, _, _, _⟩ :: _) _ _); refine Does.list (does_box hS rfl rfl (by rfl)) rfl ?_; clear hS; rintro _ wx ⟨bo, rfl, hS, _⟩; (simp only [Act.put, List.setIfInBounds_toArray, List.set_cons_zero, List.set_cons_succ])))
  go_loopw [3] (fun i wr => ∃ k : Nat, k ≤ ns.length ∧ i = .int .i64 k ∧ (ns.take k).all nameOk = true ∧ (ns.take k).Nodup ∧ Sat w wr [.ro Rep.str.slice [.slice A ns.length c] ns]) (fun i _ => ns.length - (intOf i).toNat)
  case atStart => exact ⟨0, Nat.zero_le _, rfl, rfl, by simp, hS⟩
  case round =>
    clear hS
    obtain ⟨k, hk, rfl, ha, hd, hS⟩ := hrel
    have Ha := Lib.hid ha
    have Hd := Lib.hid hd
    clear ha hd
    by_cases hlt : k < ns.length
    · obtain ⟨ad, rfl, hz, hS⟩ := hS.elStr A ns.length c (get_some hlt)
      cases hp : nameOk ns[k]
      · have H := Lib.hid (namesOk_bad hlt hp)
        generalize ns[k] = x at hS hp hz
        go_wp2_with (first | ((with_reducible show wpList _ _ _ (⟨_, Op.load _ _, _, _, _, _⟩ :: _) _ _); (first | refine Gives.list (f_load hS rfl rfl (by rfl)) rfl ?_ | refine Gives.list (f_loadS hS rfl rfl (by rfl)) rfl ?_ | refine Gives.list (f_loadAt hS rfl rfl) rfl ?_ | refine Gives.list (f_loadAtS hS rfl rfl (by rfl)) rfl ?_ | refine Gives.list (f_loadAtF hS rfl rfl (by rfl)) rfl ?_); (simp only [Act.put, List.setIfInBounds_toArray, List.set_cons_zero, List.set_cons_succ])) | (go_at_call 34; refine (spec_NameValid _ hz _).mono ?_; rintro e w' ⟨rfl, hM⟩; replace hS := hS.mod hM; clear hM))
        go_ret
        exact ⟨ret_false H.out, hS.mod0⟩
      · have H1 := Lib.hid (names_succ hlt Ha.out hp)
        have H2 : hasS (ns.take k) ns[k] = false → (ns.take (k + 1)).Nodup := nodup_succ hlt Hd.out
        have H3 : hasS (ns.take k) ns[k] = true → namesOk ns = false := namesOk_dup hlt
        generalize ns[k] = x at hS hp hz H2 H3
        have H2 := Lib.hid H2
        have H3 := Lib.hid H3
        clear Ha Hd
        go_wp2_with (first | ((with_reducible show wpList _ _ _ (⟨_, Op.load _ _, _, _, _, _⟩ :: _) _ _); (first | refine Gives.list (f_load hS rfl rfl (by rfl)) rfl ?_ | refine Gives.list (f_loadS hS rfl rfl (by rfl)) rfl ?_ | refine Gives.list (f_loadAt hS rfl rfl) rfl ?_ | refine Gives.list (f_loadAtS hS rfl rfl (by rfl)) rfl ?_ | refine Gives.list (f_loadAtF hS rfl rfl (by rfl)) rfl ?_); (simp only [Act.put, List.setIfInBounds_toArray, List.set_cons_zero, List.set_cons_succ])) | (go_at_call 34; refine (spec_NameValid _ hz _).mono ?_; rintro e w' ⟨rfl, hM⟩; replace hS := hS.mod hM; clear hM))
        go_loopw [4] (fun i wr => ∃ j : Nat, j ≤ k ∧ i = .int .i64 j ∧ hasS (ns.take j) x = false ∧ Sat w wr [.at (ad.add k) [.string x], .ro Rep.str.slice [.slice (some ad) ns.length c] ns]) (fun i _ => k - (intOf i).toNat)
        case atStart => exact ⟨0, Nat.zero_le _, rfl, rfl, hS⟩
        case round =>
          clear hS
          obtain ⟨j, hj, rfl, hc, hS⟩ := hrel
          have Hc := Lib.hid hc
          clear hc
          by_cases hjk : j < k
          · have hjl : j < ns.length := by omega
            obtain ⟨_, hae, hz2, hS⟩ := hS.elStr (some ad) ns.length c (get_some hjl)
            cases hae
            by_cases heq : ns[j] = x
            · have H := Lib.hid (H3.out (hasS_take_hit hjl hjk heq))
              have t1 := toList_t heq
              clear heq
              generalize ns[j] = y at hS t1 hz2
              go_wp2_with (first | ((with_reducible show Code.wp _ (Code.region 9 _ true) _ _ _); refine wp_region_drawn [(0, 0), (1, 0), (2, 0), (3, 1), (4, 0), (5, 0), (6, 0), (7, 1), (8, 0)] (by kernel_rfl) (by kernel_rfl) (by intro _ _ dq _ _ hq; cases dq <;> exact hq) ?_; replace hS := hS.mod (Mod.drew (Mod.refl _ _)); (generalize hwd : World.drew _ = wz at hS ⊢); clear hwd) | ((with_reducible show wpD _ _ _ [] _ _); refine D_nil ?_) | ((with_reducible show wpD _ _ _ ((_, 0) :: _) _ _); (first | (refine D_skip rfl rfl ?_; (first | show wpD _ _ _ _ (Act.put _ (some _) _) _ | show wpD _ _ _ _ (Act.put _ none _) _); (simp only [Act.put, List.setIfInBounds_toArray, List.set_cons_zero, List.set_cons_succ])) | (refine D_pure (v := ?_) rfl rfl (fun wq => ?_) ?_; rotate_left 1; (show (Sem.run _ (execOp _ (Oper.mk _ _ _ _ _ _)) _) = _; go_simp; (try go_bits); with_reducible rfl); (first | show wpD _ _ _ _ (Act.put _ (some _) _) _ | show wpD _ _ _ _ (Act.put _ none _) _); (simp only [Act.put, List.setIfInBounds_toArray, List.set_cons_zero, List.set_cons_succ])))) | ((with_reducible show wpD _ _ _ ((_, 1) :: _) _ _); (first | (refine D_skip rfl rfl ?_; (first | show wpD _ _ _ _ (Act.put _ (some _) _) _ | show wpD _ _ _ _ (Act.put _ none _) _); (simp only [Act.put, List.setIfInBounds_toArray, List.set_cons_zero, List.set_cons_succ])) | ((first | refine D_load rfl rfl (fun x hx => f_load (hS.mod hx) rfl rfl (by rfl)) ?_ | refine D_load rfl rfl (fun x hx => f_loadS (hS.mod hx) rfl rfl (by rfl)) ?_ | refine D_load rfl rfl (fun x hx => f_loadAt (hS.mod hx) rfl rfl) ?_ | refine D_load rfl rfl (fun x hx => f_loadAtS (hS.mod hx) rfl rfl (by rfl)) ?_ | refine D_load rfl rfl (fun x hx => f_loadAtF (hS.mod hx) rfl rfl (by rfl)) ?_); (first | show wpD _ _ _ _ (Act.put _ (some _) _) _ | show wpD _ _ _ _ (Act.put _ none _) _); (simp only [Act.put, List.setIfInBounds_toArray, List.set_cons_zero, List.set_cons_succ])))))
              go_ret
              exact ⟨ret_false H.out, hS.mod0⟩
            · have H := Lib.hid (hasS_take_succ_f hjl Hc.out heq)
              have t1 := toList_f heq
              clear heq
              generalize ns[j] = y at hS t1 hz2
              go_wp2_with (first | ((with_reducible show Code.wp _ (Code.region 9 _ true) _ _ _); refine wp_region_drawn [(0, 0), (1, 0), (2, 0), (3, 1), (4, 0), (5, 0), (6, 0), (7, 1), (8, 0)] (by kernel_rfl) (by kernel_rfl) (by intro _ _ dq _ _ hq; cases dq <;> exact hq) ?_; replace hS := hS.mod (Mod.drew (Mod.refl _ _)); (generalize hwd : World.drew _ = wz at hS ⊢); clear hwd) | ((with_reducible show wpD _ _ _ [] _ _); refine D_nil ?_) | ((with_reducible show wpD _ _ _ ((_, 0) :: _) _ _); (first | (refine D_skip rfl rfl ?_; (first | show wpD _ _ _ _ (Act.put _ (some _) _) _ | show wpD _ _ _ _ (Act.put _ none _) _); (simp only [Act.put, List.setIfInBounds_toArray, List.set_cons_zero, List.set_cons_succ])) | (refine D_pure (v := ?_) rfl rfl (fun wq => ?_) ?_; rotate_left 1; (show (Sem.run _ (execOp _ (Oper.mk _ _ _ _ _ _)) _) = _; go_simp; (try go_bits); with_reducible rfl); (first | show wpD _ _ _ _ (Act.put _ (some _) _) _ | show wpD _ _ _ _ (Act.put _ none _) _); (simp only [Act.put, List.setIfInBounds_toArray, List.set_cons_zero, List.set_cons_succ])))) | ((with_reducible show wpD _ _ _ ((_, 1) :: _) _ _); (first | (refine D_skip rfl rfl ?_; (first | show wpD _ _ _ _ (Act.put _ (some _) _) _ | show wpD _ _ _ _ (Act.put _ none _) _); (simp only [Act.put, List.setIfInBounds_toArray, List.set_cons_zero, List.set_cons_succ])) | ((first | refine D_load rfl rfl (fun x hx => f_load (hS.mod hx) rfl rfl (by rfl)) ?_ | refine D_load rfl rfl (fun x hx => f_loadS (hS.mod hx) rfl rfl (by rfl)) ?_ | refine D_load rfl rfl (fun x hx => f_loadAt (hS.mod hx) rfl rfl) ?_ | refine D_load rfl rfl (fun x hx => f_loadAtS (hS.mod hx) rfl rfl (by rfl)) ?_ | refine D_load rfl rfl (fun x hx => f_loadAtF (hS.mod hx) rfl rfl (by rfl)) ?_); (first | show wpD _ _ _ _ (Act.put _ (some _) _) _ | show wpD _ _ _ _ (Act.put _ none _) _); (simp only [Act.put, List.setIfInBounds_toArray, List.set_cons_zero, List.set_cons_succ])))))
              go_roundw
              case rel => exact ⟨j + 1, hjk, by go_num, H.out, hS.sel [1, 2] rfl (by decide)⟩
              case measure => simp [intOf]; omega
          · obtain rfl : j = k := by omega
            have H := Lib.hid (H2.out Hc.out)
            go_wp2_with (first | ((with_reducible show wpList _ _ _ (⟨_, Op.box _ _, _, _, _, _⟩ :: _) _ _); refine Does.list (does_box hS rfl rfl (by rfl)) rfl ?_; clear hS; rintro _ wx ⟨bo, rfl, hS, _⟩; (simp only [Act.put, List.setIfInBounds_toArray, List.set_cons_zero, List.set_cons_succ])))
            go_roundw
            case rel => exact ⟨j + 1, hlt, by go_num, H1.out, H.out, hS.sel [1] rfl (by decide)⟩
            case measure => simp [intOf]; omega
    · have H := Lib.hid (namesOk_end (by omega) Ha.out Hd.out)
      go_wp2_with (first | (go_at_call 36; refine (spec_in _ _ _ _).mono ?_; rintro e w' ⟨rfl, rfl⟩))
      go_ret
      exact ⟨ret_bool H.out.symm, hS.mod0⟩
end Go.Proofs.YtnbaekjednmfjaaDoor
end
