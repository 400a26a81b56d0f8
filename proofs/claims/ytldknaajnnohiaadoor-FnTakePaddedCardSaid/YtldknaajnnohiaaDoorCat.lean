/- CatalogValid: contracts. Turned from XShp. -/
import Derived.Test.YtldknaajnnohiaaDoorTab
import Derived.Test.YtldknaajnnohiaaDoorFind
section
namespace Go.Proofs.YtldknaajnnohiaaDoor
open Go.RowKit

def nmOk (x : NamedD) : Bool := nameOk x.1 && tableOk x.2
def nmNames (l : List NamedD) : List ByteArray := l.map (fun s => s.1)
def catOk (l : List NamedD) : Bool := l.all nmOk && (decide (nmNames l).Nodup && decide (l.length ≤ 4))
section
variable {l : List NamedD} {k : Nat}
theorem nmNames_len : (nmNames l).length = l.length := by simp [nmNames]
theorem nmNames_get (h : k < l.length) : (nmNames l)[k]'(by rw [nmNames_len]; exact h) = l[k].1 := by simp [nmNames]
theorem catOk_bad (h : k < l.length) (h1 : nmOk l[k] = false) : catOk l = false := by
  unfold catOk
  rw [show l.all nmOk = false from List.all_eq_false.2 ⟨l[k], List.getElem_mem h, by simp [h1]⟩]
  rfl
theorem catOk_dup (h : k < l.length) (h1 : hasS ((nmNames l).take k) l[k].1 = true) : catOk l = false := by
  unfold catOk
  rw [decide_eq_false]
  · simp
  · intro hn
    have hk : k < (nmNames l).length := by rw [nmNames_len]; exact h
    have hn' : ((nmNames l).take k ++ (nmNames l).drop k).Nodup := by rw [List.take_append_drop]; exact hn
    have hm : l[k].1 ∈ (nmNames l).drop k := List.mem_drop_iff_getElem.2 ⟨0, by omega, by simp [nmNames]⟩
    exact (List.nodup_append.1 hn').2.2 _ (hasS_mem.1 h1) _ hm rfl
theorem nmNodup_succ (h : k < l.length) (h0 : ((nmNames l).take k).Nodup) (h1 : hasS ((nmNames l).take k) l[k].1 = false) : ((nmNames l).take (k + 1)).Nodup := by
  have hk : k < (nmNames l).length := by rw [nmNames_len]; exact h
  exact nodup_succ hk h0 (by rw [nmNames_get h]; exact h1)
theorem cat_succ (h : k < l.length) (h0 : (l.take k).all nmOk = true) (h1 : nmOk l[k] = true) : (l.take (k + 1)).all nmOk = true := by
  rw [List.take_succ_eq_append_getElem h, List.all_append, h0]
  simp [h1]
theorem catOk_end (h : l.length ≤ k) (h0 : (l.take k).all nmOk = true) (h1 : ((nmNames l).take k).Nodup) : catOk l = decide (l.length ≤ 4) := by
  rw [List.take_of_length_le h] at h0
  rw [List.take_of_length_le (by rw [nmNames_len]; exact h)] at h1
  unfold catOk
  rw [h0, decide_eq_true h1]
  rfl
theorem nmHit {x : ByteArray} {j : Nat} (h : j < l.length) (hjk : j < k) (h2 : l[j].1 = x) : hasS ((nmNames l).take k) x = true := by
  have hj : j < (nmNames l).length := by rw [nmNames_len]; exact h
  exact hasS_take_hit hj hjk (by rw [nmNames_get h]; exact h2)
theorem nmMiss {x : ByteArray} {j : Nat} (h : j < l.length) (h1 : hasS ((nmNames l).take j) x = false) (h2 : l[j].1 ≠ x) : hasS ((nmNames l).take (j + 1)) x = false := by
  have hj : j < (nmNames l).length := by rw [nmNames_len]; exact h
  exact hasS_succ_f hj h1 (by rw [nmNames_get h]; exact h2)
theorem nmCol_hit {x : ByteArray} (h : k < l.length) (hn : hasS ((nmNames l).take k) x = false) (hp : l[k].1 = x) : colOf (nmNames l) x = k := by
  have hk : k < (nmNames l).length := by rw [nmNames_len]; exact h
  exact colOf_hit hk hn (by rw [nmNames_get h]; exact hp)
theorem nmCol_at (h : k < l.length) : colOf (nmNames l) l[k].1 = k ↔ hasS ((nmNames l).take k) l[k].1 = false := by
  constructor
  · intro hc
    unfold colOf at hc
    split at hc
    · rename_i i hi
      obtain ⟨hil, hp, hn⟩ := List.findIdx?_eq_some_iff_getElem.1 hi
      have : i = k := by omega
      subst this
      rw [hasS_not]
      intro hm
      obtain ⟨j, hj, he⟩ := List.mem_take_iff_getElem.1 hm
      exact hn j (by omega) (eqB_t he)
    · omega
  · intro hn
    exact nmCol_hit h hn rfl
end

/-! ### The program's side -/






































































end Go.Proofs.YtldknaajnnohiaaDoor
end

section
namespace Go.Proofs.YtldknaajnnohiaaDoor
open Go.RowKit































































































































































end Go.Proofs.YtldknaajnnohiaaDoor
end

section
namespace Go.Proofs.YtldknaajnnohiaaDoor
open Go.RowKit

def TSmall (t : TableD) : Prop := t.1.length ≤ 1048576 ∧ t.2.length ≤ 1048576 ∧ ∀ r ∈ t.2, r.length ≤ 1048576
def LSmall (l : List NamedD) : Prop := l.length ≤ 1048576 ∧ ∀ x ∈ l, TSmall x.2
set_option maxHeartbeats 2000000 in
set_option maxRecDepth 8000 in
theorem spec_l1OwnRowsInt (w : World) (F : List Nat) (v : Value) (rows : List (List Int)) (hx : SliceHas Rep.int.slice w F [v] rows) (hb1 : rows.length ≤ 1048576) (hb2 : ∀ r ∈ rows, r.length ≤ 1048576) :
    Calls Tryd.prog 159 #[v] w fun e w' => ∃ v', e = .returned v' ∧ Fresh Rep.int.rows.rows w w' [v'] rows := by
  obtain ⟨A, c, rfl, hn, _⟩ := hx.form'
  have hS : Sat w w [.ro Rep.int.slice.slice [.slice A rows.length c] rows] := (Sat.nil w).arg hx
  clear hx
  have Hb := Lib.hid hb2
  clear hb2
  go_enter Tryd.func159, Tryd.ntmps159
  go_wp2_with (first | ((with_reducible show wpList _ _ _ (⟨_, Op.buildSlice _ _ _, _, _, _, _⟩ :: _) _ _); refine Does.list (does_buildSlice (X := ?_) (cs := ?_) (E := ?_) hS rfl ?_ ?_) rfl ?_; rotate_left 3; (go_simp; rfl); rfl; clear hS; rintro _ wx ⟨bx, rfl, hS, _⟩; (simp only [Act.put, List.setIfInBounds_toArray, List.set_cons_zero, List.set_cons_succ])))
  replace hS := (Sat.vec0 Rep.int.rows hS).lit (Nat.zero_le _)
  go_loopw [4, 3] (fun i s wr => ∃ (k : Nat) (B : Option Addr) (d : Nat), i = .int .i64 k ∧ s = .slice B k d ∧ k ≤ rows.length ∧ Sat w wr [.own Rep.int.rows.rows [.slice B k d] (rows.take k), .ro Rep.int.slice.slice [.slice A rows.length c] rows]) (fun i _ _ => rows.length - (intOf i).toNat)
  case atStart => exact ⟨0, _, _, rfl, rfl, Nat.zero_le _, hS⟩
  case round =>
    clear hS
    obtain ⟨k, B, d, rfl, rfl, hk, hS⟩ := hrel
    by_cases hlt : k < rows.length
    · have hltI : (k : Int) < (rows.length : Int) := by omega
      obtain ⟨ad, A', c', rfl, j0, j1, hS⟩ := hS.elSlice Rep.int A rows.length c (get_some hlt)
      have H : Hid (rows.take k ++ [rows[k]] = rows.take (k + 1)) := Lib.hid (List.take_succ_eq_append_getElem hlt).symm
      have hrb := Hb.out _ (List.getElem_mem hlt)
      obtain ⟨r, hr⟩ : ∃ r, rows[k] = r := ⟨_, rfl⟩
      rw [hr] at hS H hrb j0
      clear hr
      go_wp2_with (first | ((with_reducible show wpList _ _ _ (⟨_, Op.load _ _, _, _, _, _⟩ :: _) _ _); (first | refine Gives.list (f_load hS rfl rfl (by rfl)) rfl ?_ | refine Gives.list (f_loadS hS rfl rfl (by rfl)) rfl ?_ | refine Gives.list (f_loadAt hS rfl rfl) rfl ?_ | refine Gives.list (f_loadAtS hS rfl rfl (by rfl)) rfl ?_ | refine Gives.list (f_loadAtF hS rfl rfl (by rfl)) rfl ?_); (simp only [Act.put, List.setIfInBounds_toArray, List.set_cons_zero, List.set_cons_succ])) | ((with_reducible show wpList _ _ _ (⟨_, Op.buildSlice _ _ _, _, _, _, _⟩ :: _) _ _); refine Does.list (does_buildSlice (X := ?_) (cs := ?_) (E := ?_) hS rfl ?_ ?_) rfl ?_; rotate_left 3; (go_simp; rfl); rfl; clear hS; rintro _ wx ⟨bx, rfl, hS, _⟩; (simp only [Act.put, List.setIfInBounds_toArray, List.set_cons_zero, List.set_cons_succ])) | ((with_reducible show wpList _ _ _ (⟨_, Op.call { callee := Callee.builtin Builtin.append, args := _, argTypes := _ }, _, _, _, _⟩ :: _) _ _); replace hS := (Sat.vec0 Rep.int hS).lit (Nat.zero_le _); refine Does.list (f_appendFlat Rep.int Rep.int hS rfl rfl rfl rfl rfl rfl (by decide) (by omega)) rfl ?_; clear hS; rintro _ wx ⟨A2, c2, rfl, hS⟩; (simp only [List.set_cons_zero, List.set_cons_succ] at hS); (simp only [Act.put, List.setIfInBounds_toArray, List.set_cons_zero, List.set_cons_succ]); (simp only [Nat.zero_add, List.nil_append] at hS ⊢)) | ((with_reducible show wpList _ _ _ (⟨_, Op.call { callee := Callee.builtin Builtin.append, args := _, argTypes := _ }, _, _, _, _⟩ :: _) _ _); replace hS := Sat.vec1 (show Sat w _ [.own Rep.int.rows [.slice A2 r.length c2] r, .box bx [.slice A2 r.length c2], .own Rep.int.rows.rows [.slice B k d] (rows.take k), .ro Rep.int.slice.slice [.slice (some ad) rows.length c] rows] from hS.sel [1, 0, 4, 5] rfl (by decide)); refine Does.list (f_append Rep.int.rows hS rfl rfl rfl rfl rfl (by decide) (by omega)) rfl ?_; clear hS; rintro _ wx ⟨A2, c2, rfl, hS⟩; (simp only [List.set_cons_zero, List.set_cons_succ] at hS); (simp only [Act.put, List.setIfInBounds_toArray, List.set_cons_zero, List.set_cons_succ])))
      go_roundw
      case rel => exact ⟨k + 1, A2, c2, by go_num, rfl, hlt, by rw [← H.out]; exact hS.sel [0, 1] rfl (by decide)⟩
      case measure => simp [intOf]; omega
    · obtain rfl : k = rows.length := by omega
      rw [List.take_length] at hS
      go_wp2_with (first | ((with_reducible show wpList _ _ _ (⟨_, Op.box _ _, _, _, _, _⟩ :: _) _ _); refine Does.list (does_box hS rfl rfl (by rfl)) rfl ?_; clear hS; rintro _ wx ⟨bo, rfl, hS, _⟩; (simp only [Act.put, List.setIfInBounds_toArray, List.set_cons_zero, List.set_cons_succ])))
      go_ret
      exact ⟨_, rfl, hS.result⟩



























end Go.Proofs.YtldknaajnnohiaaDoor
end
