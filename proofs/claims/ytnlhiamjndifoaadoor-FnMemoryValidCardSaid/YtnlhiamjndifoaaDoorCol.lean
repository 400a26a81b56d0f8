/- NameValid: what a name is; the program's side. -/
import Derived.Test.YtnlhiamjndifoaaDoorFuncs
import Derived.Test.YtnlhiamjndifoaaDoorDoor
section
namespace Go.Proofs.YtnlhiamjndifoaaDoor
open Go.RowKit

def small (c : UInt8) : Bool := decide (97 ≤ c.toNat) && decide (c.toNat ≤ 122)
def nameOk (s : ByteArray) : Bool := s.data.toList.all small && (!hasS resWords s && inB s.size 1 8)
section
variable {s : ByteArray} {k : Nat}
theorem byte_get (h : k < s.size) : s.data.toList[k]? = some s[k] := by
  have h' : k < s.data.size := h
  rw [Array.getElem?_toList, Array.getElem?_eq_getElem h']
  rfl
theorem nameOk_byte (h : k < s.size) (hp : small s[k] = false) : nameOk s = false := by
  unfold nameOk
  rw [show s.data.toList.all small = false from List.all_eq_false.2 ⟨s[k], List.mem_of_getElem? (byte_get h), by simp [hp]⟩]
  rfl
theorem small_succ (h : k < s.size) (h1 : (s.data.toList.take k).all small = true) (hp : small s[k] = true) : (s.data.toList.take (k + 1)).all small = true := by
  rw [List.take_add_one, byte_get h, List.all_append, h1]
  simp [hp]
theorem small_all (h : s.size ≤ k) (h1 : (s.data.toList.take k).all small = true) : s.data.toList.all small = true := by
  rwa [List.take_of_length_le (by simpa using h)] at h1
theorem nameOk_long (h : inB s.size 1 8 = false) : nameOk s = false := by unfold nameOk; rw [h]; simp
theorem nameOk_end (h : s.data.toList.all small = true) (h2 : inB s.size 1 8 = true) : nameOk s = !hasS resWords s := by unfold nameOk; rw [h, h2]; simp
theorem nameOk_size (h : nameOk s = true) : 1 ≤ s.size ∧ s.size ≤ 8 := by
  unfold nameOk at h
  simp only [Bool.and_eq_true] at h
  have := inB_of h.2.2
  omega
end
theorem Sat.res {w0 w : World} {Γ : List Fact} (h : Sat w0 w Γ) (hR : ResOk w0) : ∃ A c, Sat w0 w (.ro Rep.str.slice [.slice A 13 c] resWords :: .at ⟨0, 0, none⟩ [.slice A 13 c] :: Γ) := by
  obtain ⟨A, c, F, h1, h2⟩ := hR
  exact ⟨A, c, (h.argAt h1).arg h2⟩
set_option maxHeartbeats 1000000 in
theorem impl_NameValid (s : ByteArray) (hs : s.size ≤ maxLen) (w : World) (hR : ResOk w) :
    Calls Tryd.prog 20 #[.string s] w fun e w' => e = .returned (.bool (nameOk s)) ∧ Mod [] w w' := by
  unfold maxLen at hs
  obtain ⟨A, c, hS⟩ := (Sat.nil w).res hR
  clear hR
  go_enter Tryd.func20, Tryd.ntmps20
  go_wp2_with (first | ((with_reducible show wpList _ _ _ (⟨_, Op.box _ _, _, _, _, _⟩ :: _) _ _); refine Does.list (does_box hS rfl rfl (by rfl)) rfl ?_; clear hS; rintro _ wx ⟨bo, rfl, hS, _⟩; (simp only [Act.put, List.setIfInBounds_toArray, List.set_cons_zero, List.set_cons_succ])))
  go_loopw [6] (fun i wr => ∃ k : Nat, k ≤ s.size ∧ i = .int .i64 k ∧ (s.data.toList.take k).all small = true ∧ Sat w wr [.ro Rep.str.slice [.slice A 13 c] resWords, .at ⟨0, 0, none⟩ [.slice A 13 c]]) (fun i _ => s.size - (intOf i).toNat)
  case atStart => exact ⟨0, Nat.zero_le _, rfl, rfl, hS⟩
  case round =>
    clear hS
    obtain ⟨k, hk, rfl, ha, hS⟩ := hrel
    have Ha := Lib.hid ha
    clear ha
    by_cases hlt : k < s.size
    · cases hp : small s[k]
      · have H := Lib.hid (nameOk_byte hlt hp)
        have hb : (s[k].toNat : Int) < 97 ∨ ¬ (s[k].toNat : Int) < 97 ∧ (122 : Int) < s[k].toNat := by
          unfold small at hp
          rw [Bool.and_eq_false_iff] at hp
          rcases hp with hp | hp
          · have := of_decide_eq_false hp; omega
          · have := of_decide_eq_false hp; omega
        clear hp
        rcases hb with hb | ⟨hb1, hb2⟩
        · go_wp2_with (first | ((with_reducible show wpList _ _ _ (⟨_, Op.box _ _, _, _, _, _⟩ :: _) _ _); refine Does.list (does_box hS rfl rfl (by rfl)) rfl ?_; clear hS; rintro _ wx ⟨bo, rfl, hS, _⟩; (simp only [Act.put, List.setIfInBounds_toArray, List.set_cons_zero, List.set_cons_succ])))
          go_ret
          exact ⟨ret_false H.out, hS.mod0⟩
        · go_wp2_with (first | ((with_reducible show wpList _ _ _ (⟨_, Op.box _ _, _, _, _, _⟩ :: _) _ _); refine Does.list (does_box hS rfl rfl (by rfl)) rfl ?_; clear hS; rintro _ wx ⟨bo, rfl, hS, _⟩; (simp only [Act.put, List.setIfInBounds_toArray, List.set_cons_zero, List.set_cons_succ])))
          go_ret
          exact ⟨ret_false H.out, hS.mod0⟩
      · have H := Lib.hid (small_succ hlt Ha.out hp)
        have hb : ¬ (s[k].toNat : Int) < 97 ∧ ¬ (122 : Int) < s[k].toNat := by
          unfold small at hp
          rw [Bool.and_eq_true] at hp
          have h1 := of_decide_eq_true hp.1
          have h2 := of_decide_eq_true hp.2
          omega
        obtain ⟨hb1, hb2⟩ := hb
        clear hp
        go_wp2_with (first | ((with_reducible show wpList _ _ _ (⟨_, Op.box _ _, _, _, _, _⟩ :: _) _ _); refine Does.list (does_box hS rfl rfl (by rfl)) rfl ?_; clear hS; rintro _ wx ⟨bo, rfl, hS, _⟩; (simp only [Act.put, List.setIfInBounds_toArray, List.set_cons_zero, List.set_cons_succ])))
        go_roundw
        case rel => exact ⟨k + 1, hlt, by go_num, H.out, hS⟩
        case measure => simp [intOf]; omega
    · have Hall := Lib.hid (small_all (by omega) Ha.out)
      cases hin : inB s.size 1 8
      · have H := Lib.hid (nameOk_long hin)
        go_wp2_with (first | (go_at_call 26; refine (impl_in _ _ _ _).mono ?_; rintro e w' ⟨rfl, rfl⟩))
        go_ret
        exact ⟨ret_false H.out, hS.mod0⟩
      · have H := Lib.hid (nameOk_end Hall.out hin)
        go_wp2_with (first | ((with_reducible show wpList _ _ _ (⟨_, Op.load _ _, _, _, _, _⟩ :: _) _ _); (first | refine Gives.list (f_load hS rfl rfl (by rfl)) rfl ?_ | refine Gives.list (f_loadS hS rfl rfl (by rfl)) rfl ?_ | refine Gives.list (f_loadAt hS rfl rfl) rfl ?_ | refine Gives.list (f_loadAtS hS rfl rfl (by rfl)) rfl ?_ | refine Gives.list (f_loadAtF hS rfl rfl (by rfl)) rfl ?_); (simp only [Act.put, List.setIfInBounds_toArray, List.set_cons_zero, List.set_cons_succ])) | (go_at_call 26; refine (impl_in _ _ _ _).mono ?_; rintro e w' ⟨rfl, rfl⟩) | (go_at_call 30; obtain ⟨Fq, hFq⟩ := hS.has Rep.str.slice [.slice A 13 c]; refine (sl_Contains_str _ Fq _ resWords s hFq).mono ?_; rintro e w' ⟨rfl, hM⟩; replace hS := hS.mod hM; clear hM hFq))
        go_ret
        exact ⟨ret_bool H.out.symm, hS.mod0⟩
end Go.Proofs.YtnlhiamjndifoaaDoor
end

section
namespace Go.Proofs.YtnlhiamjndifoaaDoor
open Go.RowKit

theorem Sat.strLit {w0 w : World} {Γ : List Fact} {b : Nat} (ls : List ByteArray) (h : Sat w0 w (.box b (ls.map Value.string) :: Γ)) (hs : ∀ s ∈ ls, s.size ≤ maxLen) (hl : ls.length ≤ maxLen) :
    Sat w0 w (.own Rep.str.rows [.slice (some ⟨b, 0, none⟩) ls.length ls.length] ls :: Γ) :=
  Sat.lit (m := ls.length) (h.flat (e := Rep.str.vec ls.length) ⟨rfl, all_strs w ls hs⟩) hl
theorem resWords_size : ∀ s ∈ resWords, s.size ≤ maxLen := by decide +kernel
theorem nameOk_word {s : ByteArray} {k : Nat} (hk : k < resWords.length) (h : resWords[k] = s) : nameOk s = false := by
  unfold nameOk
  rw [hasS_hit hk h]
  simp
theorem nameOk_all {s : ByteArray} (h1 : s.data.toList.all small = true) (h2 : hasS resWords s = false) : nameOk s = inB s.size 1 8 := by unfold nameOk; rw [h1, h2]; simp




















































































end Go.Proofs.YtnlhiamjndifoaaDoor
end

section
namespace Go.Proofs.YtnlhiamjndifoaaDoor
open Go.RowKit

def namesOk (ns : List ByteArray) : Bool := ns.all nameOk && (decide ns.Nodup && inB ns.length 1 6)
section
variable {ns : List ByteArray} {k : Nat}
theorem namesOk_bad (h : k < ns.length) (h1 : nameOk ns[k] = false) : namesOk ns = false := by
  unfold namesOk
  rw [show ns.all nameOk = false from List.all_eq_false.2 ⟨ns[k], List.getElem_mem h, by simp [h1]⟩]
  rfl
theorem hasS_mem {xs : List ByteArray} {x : ByteArray} : hasS xs x = true ↔ x ∈ xs := by
  unfold hasS
  rw [List.any_eq_true]
  constructor
  · rintro ⟨y, h1, h2⟩
    rw [← eqB_iff.1 h2]; exact h1
  · intro h; exact ⟨x, h, eqB_rfl x⟩
theorem hasS_not {xs : List ByteArray} {x : ByteArray} : hasS xs x = false ↔ x ∉ xs := by
  rw [← Bool.not_eq_true, hasS_mem]
theorem namesOk_dup (h : k < ns.length) (h1 : hasS (ns.take k) ns[k] = true) : namesOk ns = false := by
  unfold namesOk
  rw [decide_eq_false]
  · simp
  · intro hn
    have hn' : (ns.take k ++ ns.drop k).Nodup := by rw [List.take_append_drop]; exact hn
    have hm : ns[k] ∈ ns.drop k := List.mem_drop_iff_getElem.2 ⟨0, by omega, by simp⟩
    exact (List.nodup_append.1 hn').2.2 _ (hasS_mem.1 h1) _ hm rfl
theorem nodup_succ (h : k < ns.length) (h0 : (ns.take k).Nodup) (h1 : hasS (ns.take k) ns[k] = false) : (ns.take (k + 1)).Nodup := by
  rw [List.take_succ_eq_append_getElem h, List.nodup_append]
  refine ⟨h0, by simp, fun a ha b hb e => ?_⟩
  rw [List.mem_singleton] at hb
  subst hb
  subst e
  exact hasS_not.1 h1 ha
theorem names_succ (h : k < ns.length) (h0 : (ns.take k).all nameOk = true) (h1 : nameOk ns[k] = true) : (ns.take (k + 1)).all nameOk = true := by
  rw [List.take_succ_eq_append_getElem h, List.all_append, h0]
  simp [h1]
theorem namesOk_end (h : ns.length ≤ k) (h0 : (ns.take k).all nameOk = true) (h1 : (ns.take k).Nodup) : namesOk ns = inB ns.length 1 6 := by
  rw [List.take_of_length_le h] at h0 h1
  unfold namesOk
  rw [h0, decide_eq_true h1]
  rfl
theorem hasS_take_succ_f {x : ByteArray} (h : k < ns.length) (h1 : hasS (ns.take k) x = false) (h2 : ns[k] ≠ x) : hasS (ns.take (k + 1)) x = false := hasS_succ_f h h1 h2
theorem hasS_take_hit {x : ByteArray} {j : Nat} (h : j < ns.length) (hjk : j < k) (h2 : ns[j] = x) : hasS (ns.take k) x = true := by
  rw [hasS_mem, ← h2, List.mem_take_iff_getElem]
  exact ⟨j, by omega, rfl⟩
theorem namesOk_len (h : namesOk ns = true) : 1 ≤ ns.length ∧ ns.length ≤ 6 := by
  unfold namesOk at h
  simp only [Bool.and_eq_true] at h
  have := inB_of h.2.2
  omega
theorem namesOk_size (h : namesOk ns = true) : ∀ s ∈ ns, 1 ≤ s.size ∧ s.size ≤ 8 := by
  unfold namesOk at h
  simp only [Bool.and_eq_true] at h
  intro s hs
  exact nameOk_size (List.all_eq_true.1 h.1 s hs)
end














































































































end Go.Proofs.YtnlhiamjndifoaaDoor
end
