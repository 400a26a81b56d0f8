/- RowText, the program's and the reference's. -/
import Derived.Test.YteafnieapifnnaaDoorTxN
namespace Go.Proofs.YteafnieapifnnaaDoor
open Go.RowKit

theorem TabOk.mod0 {w w' : World} (h : TabOk w) (hm : Mod [] w w') : TabOk w' := by
  unfold TabOk Lib.TabIs at h ⊢
  unfold World.var? at h ⊢
  cases hg : Tryd.prog.globalNamed "internal/strconv.uint64pow10" with
  | none => rw [hg] at h; cases h
  | some g =>
    rw [hg] at h
    dsimp only [Option.bind_some] at h ⊢
    have hl : g < w.heap.size := by
      rcases Nat.lt_or_ge g w.heap.size with k | k
      · exact k
      · rw [Array.getElem?_eq_none k] at h; cases h
    rw [hm.block g hl (by simp)]
    exact h
theorem join_n (w : World) (F : List Nat) (A : Option Addr) (n c : Nat) (xs : List ByteArray) (sep : ByteArray) (hx : SliceHas Rep.str w F [.slice A n c] xs) (hn : xs.length = n) (hN : xs.length ≤ 1000000) (hl : (bJoin xs sep).size ≤ 1000000000) :
    Calls Tryd.prog 50 #[.slice A n c, .string sep] w fun e w' => e = .returned (.string (bJoin xs sep)) ∧ Mod [] w w' := by
  subst hn
  exact join_w w F A c xs sep hx hN hl
def spB : ByteArray := ⟨#[32]⟩
def rowGood (row : List Int) : Bool := inB row.length 1 6 && !row.any notValue
def rowT (row : List Int) : ByteArray := if rowGood row then bJoin (row.map numT) spB else bOf []
theorem rowT_n {row : List Int} (h : inB row.length 1 6 = false) : rowT row = bOf [] := by unfold rowT rowGood; rw [h]; rfl
theorem rowT_v {row : List Int} (h : row.any notValue = true) : rowT row = bOf [] := by unfold rowT rowGood; rw [h]; simp
theorem rowT_t {row : List Int} (h : inB row.length 1 6 = true) (h2 : row.any notValue = false) : rowT row = bJoin (row.map numT) spB := by unfold rowT rowGood; rw [h, h2]; rfl
theorem any_at {row : List Int} {k : Nat} {x : Int} (hx : row[k]? = some x) (h : inB x (-100000) 100000 = false) : row.any notValue = true :=
  List.any_eq_true.2 ⟨x, List.mem_of_getElem? hx, by unfold notValue; rw [h]; rfl⟩
theorem any_succ {row : List Int} {k : Nat} {x : Int} (h0 : (row.take k).any notValue = false) (hx : row[k]? = some x) (h : inB x (-100000) 100000 = true) : (row.take (k + 1)).any notValue = false := by
  rw [List.take_add_one, hx, List.any_append, h0]
  simp [notValue, h]
theorem map_succ {α β : Type} {f : α → β} {l : List α} {k : Nat} {x : α} (hx : l[k]? = some x) : (l.take k).map f ++ [f x] = (l.take (k + 1)).map f := by
  rw [List.take_add_one, hx, List.map_append]; rfl
theorem bJoin_size (sep : ByteArray) (m : Nat) : ∀ xs : List ByteArray, (∀ x ∈ xs, x.size ≤ m) → (bJoin xs sep).size ≤ (m + sep.size) * xs.length
  | [], _ => by rw [bJoin_nil]; exact Nat.zero_le _
  | x :: r, h => by
    have hs : sep.data.toList.length = sep.size := Array.length_toList
    have key : ∀ r : List ByteArray, (∀ y ∈ r, y.size ≤ m) → (Lib.joinTail sep.data.toList (r.map (·.data.toList))).length ≤ (m + sep.size) * r.length := by
      intro r
      induction r with
      | nil => intro _; simp [Lib.joinTail]
      | cons y r ih =>
        intro hr
        have h1 := ih (fun z hz => hr z (by simp [hz]))
        have h2 := hr y (by simp)
        have h3 : y.data.toList.length = y.size := Array.length_toList
        unfold Lib.joinTail at h1 ⊢
        rw [List.map_cons, List.map_cons, List.flatten_cons, List.length_append, List.length_append, List.length_cons, Nat.mul_add]
        omega
    have h1 := key r (fun y hy => h y (by simp [hy]))
    have h2 := h x (by simp)
    have h3 : x.data.toList.length = x.size := Array.length_toList
    unfold bJoin
    rw [bOf_size, List.map_cons, Lib.join_cons, List.length_append, List.length_cons, Nat.mul_add]
    omega
theorem nums_size (row : List Int) : ∀ x ∈ row.map numT, x.size ≤ 7 := fun x hx => by
  obtain ⟨n, _, rfl⟩ := List.mem_map.1 hx
  exact numT_size n
theorem rowT_size (row : List Int) : (rowT row).size ≤ 48 := by
  unfold rowT
  split
  · rename_i h
    unfold rowGood at h
    simp only [Bool.and_eq_true, inB, decide_eq_true_eq] at h
    have := bJoin_size spB 7 (row.map numT) (nums_size row)
    rw [List.length_map, show spB.size = 1 from rfl] at this
    omega
  · rw [bOf_size]; simp

set_option maxHeartbeats 2000000 in
set_option maxRecDepth 8000 in
theorem impl_RowText (w : World) (ht : TabOk w) (F : List Nat) (A : Option Addr) (c : Nat) (row : List Int) (hx : SliceHas Rep.int w F [.slice A row.length c] row) :
    Calls Tryd.prog 19 #[.slice A row.length c] w fun e w' => e = .returned (.string (rowT row)) ∧ Mod [] w w' := by
  have hS : Sat w w [.ro Rep.int.slice [.slice A row.length c] row] := (Sat.nil w).arg hx
  clear hx
  cases hi : inB row.length 1 6
  · have Hi := Lib.hid hi
    have H := Lib.hid (rowT_n hi)
    clear hi
    go_enter Tryd.func19, Tryd.ntmps19
    go_wp2_with (first | (go_at_call 43; refine (impl_in _ _ _ _).mono ?_; rintro e w' ⟨rfl, rfl⟩; (simp only [Hi.out])) | ((with_reducible show wpList _ _ _ (⟨_, Op.box _ _, _, _, _, _⟩ :: _) _ _); refine Does.list (does_box hS rfl rfl (by rfl)) rfl ?_; clear hS; rintro _ wx ⟨bo, rfl, hS, _⟩; (simp only [Act.put, List.setIfInBounds_toArray, List.set_cons_zero, List.set_cons_succ])) | ((with_reducible show wpList _ _ _ (⟨_, Op.load _ _, _, _, _, _⟩ :: _) _ _); (first | refine Gives.list (f_load hS rfl rfl (by rfl)) rfl ?_ | refine Gives.list (f_loadS hS rfl rfl (by rfl)) rfl ?_ | refine Gives.list (f_loadAt hS rfl rfl) rfl ?_ | refine Gives.list (f_loadAtS hS rfl rfl (by rfl)) rfl ?_ | refine Gives.list (f_loadAtF hS rfl rfl (by rfl)) rfl ?_); (simp only [Act.put, List.setIfInBounds_toArray, List.set_cons_zero, List.set_cons_succ])) | ((with_reducible show wpList _ _ _ (⟨_, Op.store _ _ _, _, _, _, _⟩ :: _) _ _); (first | refine Does.list (f_store hS rfl rfl rfl (by rfl) (by rfl)) rfl ?_ | refine Does.list (f_storeS hS rfl rfl rfl (by rfl) (by rfl) (by rfl)) rfl ?_); clear hS; rintro _ wx ⟨rfl, hS⟩; (simp only [List.set_cons_zero, List.set_cons_succ] at hS); (simp only [Act.put, List.setIfInBounds_toArray, List.set_cons_zero, List.set_cons_succ])) | ((with_reducible show wpList _ _ _ (⟨_, Op.alloc _, _, _, _, _⟩ :: _) _ _); refine Does.list (does_alloc hS rfl (by rfl)) rfl ?_; clear hS; rintro _ wx ⟨ba, rfl, hS, _⟩; (simp only [Act.put, List.setIfInBounds_toArray, List.set_cons_zero, List.set_cons_succ])) | ((with_reducible show wpList _ _ _ (⟨_, Op.buildSlice _ _ _, _, _, _, _⟩ :: _) _ _); refine Does.list (does_buildSlice (X := ?_) (cs := ?_) (E := ?_) hS rfl ?_ ?_) rfl ?_; rotate_left 3; (go_simp; rfl); rfl; clear hS; rintro _ wx ⟨bx, rfl, hS, _⟩; (simp only [Act.put, List.setIfInBounds_toArray, List.set_cons_zero, List.set_cons_succ])))
    go_ret
    exact ⟨by rw [H.out]; rfl, hS.mod0⟩
  · have Hi := Lib.hid hi
    have hb := hi
    simp only [inB, Bool.and_eq_true, decide_eq_true_eq] at hb
    have hn6 : row.length ≤ 6 := by omega
    clear hi hb
    go_enter Tryd.func19, Tryd.ntmps19
    go_wp2_with (first | (go_at_call 43; refine (impl_in _ _ _ _).mono ?_; rintro e w' ⟨rfl, rfl⟩; (simp only [Hi.out])) | ((with_reducible show wpList _ _ _ (⟨_, Op.box _ _, _, _, _, _⟩ :: _) _ _); refine Does.list (does_box hS rfl rfl (by rfl)) rfl ?_; clear hS; rintro _ wx ⟨bo, rfl, hS, _⟩; (simp only [Act.put, List.setIfInBounds_toArray, List.set_cons_zero, List.set_cons_succ])) | ((with_reducible show wpList _ _ _ (⟨_, Op.load _ _, _, _, _, _⟩ :: _) _ _); (first | refine Gives.list (f_load hS rfl rfl (by rfl)) rfl ?_ | refine Gives.list (f_loadS hS rfl rfl (by rfl)) rfl ?_ | refine Gives.list (f_loadAt hS rfl rfl) rfl ?_ | refine Gives.list (f_loadAtS hS rfl rfl (by rfl)) rfl ?_ | refine Gives.list (f_loadAtF hS rfl rfl (by rfl)) rfl ?_); (simp only [Act.put, List.setIfInBounds_toArray, List.set_cons_zero, List.set_cons_succ])) | ((with_reducible show wpList _ _ _ (⟨_, Op.store _ _ _, _, _, _, _⟩ :: _) _ _); (first | refine Does.list (f_store hS rfl rfl rfl (by rfl) (by rfl)) rfl ?_ | refine Does.list (f_storeS hS rfl rfl rfl (by rfl) (by rfl) (by rfl)) rfl ?_); clear hS; rintro _ wx ⟨rfl, hS⟩; (simp only [List.set_cons_zero, List.set_cons_succ] at hS); (simp only [Act.put, List.setIfInBounds_toArray, List.set_cons_zero, List.set_cons_succ])) | ((with_reducible show wpList _ _ _ (⟨_, Op.alloc _, _, _, _, _⟩ :: _) _ _); refine Does.list (does_alloc hS rfl (by rfl)) rfl ?_; clear hS; rintro _ wx ⟨ba, rfl, hS, _⟩; (simp only [Act.put, List.setIfInBounds_toArray, List.set_cons_zero, List.set_cons_succ])) | ((with_reducible show wpList _ _ _ (⟨_, Op.buildSlice _ _ _, _, _, _, _⟩ :: _) _ _); refine Does.list (does_buildSlice (X := ?_) (cs := ?_) (E := ?_) hS rfl ?_ ?_) rfl ?_; rotate_left 3; (go_simp; rfl); rfl; clear hS; rintro _ wx ⟨bx, rfl, hS, _⟩; (simp only [Act.put, List.setIfInBounds_toArray, List.set_cons_zero, List.set_cons_succ])))
    replace hS := Sat.nilRow Rep.str hS
    go_loopw [3, 12] (fun s i wr => ∃ (k : Nat) (B : Option Addr) (d : Nat), i = .int .i64 k ∧ s = .slice B k d ∧ k ≤ row.length ∧ Hid ((row.take k).any notValue = false) ∧ Sat w wr [.own Rep.str.rows [.slice B k d] ((row.take k).map numT), .ro Rep.int.slice [.slice A row.length c] row]) (fun _ i _ => row.length - (intOf i).toNat)
    case atStart => exact ⟨0, none, 0, rfl, rfl, Nat.zero_le _, Lib.hid rfl, hS⟩
    case round =>
      clear hS
      obtain ⟨k, B, d, rfl, rfl, hk, HA, hS⟩ := hrel
      by_cases hlt : k < row.length
      · have hltI : (k : Int) < (row.length : Int) := by omega
        obtain ⟨x, hxk⟩ : ∃ x, row[k]? = some x := ⟨_, get_some hlt⟩
        obtain ⟨ad, rfl, hz, hS⟩ := hS.elInt A row.length c hxk
        have HM := Lib.hid (map_succ (f := numT) hxk)
        cases hv : inB x (-100000) 100000
        · have Hv := Lib.hid hv
          have H := Lib.hid (rowT_v (any_at hxk hv))
          clear hv hxk
          go_wp2_with (first | (go_at_call 48; refine (impl_isValue _ _).mono ?_; rintro e w' ⟨rfl, rfl⟩; (simp only [Hv.out])) | ((with_reducible show wpList _ _ _ (⟨_, Op.box _ _, _, _, _, _⟩ :: _) _ _); refine Does.list (does_box hS rfl rfl (by rfl)) rfl ?_; clear hS; rintro _ wx ⟨bo, rfl, hS, _⟩; (simp only [Act.put, List.setIfInBounds_toArray, List.set_cons_zero, List.set_cons_succ])) | ((with_reducible show wpList _ _ _ (⟨_, Op.load _ _, _, _, _, _⟩ :: _) _ _); (first | refine Gives.list (f_load hS rfl rfl (by rfl)) rfl ?_ | refine Gives.list (f_loadS hS rfl rfl (by rfl)) rfl ?_ | refine Gives.list (f_loadAt hS rfl rfl) rfl ?_ | refine Gives.list (f_loadAtS hS rfl rfl (by rfl)) rfl ?_ | refine Gives.list (f_loadAtF hS rfl rfl (by rfl)) rfl ?_); (simp only [Act.put, List.setIfInBounds_toArray, List.set_cons_zero, List.set_cons_succ])) | ((with_reducible show wpList _ _ _ (⟨_, Op.store _ _ _, _, _, _, _⟩ :: _) _ _); (first | refine Does.list (f_store hS rfl rfl rfl (by rfl) (by rfl)) rfl ?_ | refine Does.list (f_storeS hS rfl rfl rfl (by rfl) (by rfl) (by rfl)) rfl ?_); clear hS; rintro _ wx ⟨rfl, hS⟩; (simp only [List.set_cons_zero, List.set_cons_succ] at hS); (simp only [Act.put, List.setIfInBounds_toArray, List.set_cons_zero, List.set_cons_succ])) | ((with_reducible show wpList _ _ _ (⟨_, Op.alloc _, _, _, _, _⟩ :: _) _ _); refine Does.list (does_alloc hS rfl (by rfl)) rfl ?_; clear hS; rintro _ wx ⟨ba, rfl, hS, _⟩; (simp only [Act.put, List.setIfInBounds_toArray, List.set_cons_zero, List.set_cons_succ])) | ((with_reducible show wpList _ _ _ (⟨_, Op.buildSlice _ _ _, _, _, _, _⟩ :: _) _ _); refine Does.list (does_buildSlice (X := ?_) (cs := ?_) (E := ?_) hS rfl ?_ ?_) rfl ?_; rotate_left 3; (go_simp; rfl); rfl; clear hS; rintro _ wx ⟨bx, rfl, hS, _⟩; (simp only [Act.put, List.setIfInBounds_toArray, List.set_cons_zero, List.set_cons_succ])))
          go_ret
          exact ⟨by rw [H.out]; rfl, hS.mod0⟩
        · have Hv := Lib.hid hv
          have HA2 := Lib.hid (any_succ HA.out hxk hv)
          clear hv hxk
          go_wp2_with (first | (go_at_call 48; refine (impl_isValue _ _).mono ?_; rintro e w' ⟨rfl, rfl⟩; (simp only [Hv.out])) | (go_at_call 49; refine (impl_NumberText _ (ht.mod0 hS.mod0) x).mono ?_; rintro e w' ⟨rfl, hM⟩; replace hS := hS.mod hM; clear hM) | ((with_reducible show wpList _ _ _ (⟨_, Op.call { callee := Callee.builtin Builtin.append, args := _, argTypes := _ }, _, _, _, _⟩ :: _) _ _); refine Does.list (f_append Rep.str (Sat.vec1 (hS.str (s := numT x) (by have := numT_size x; unfold maxLen; omega))) rfl rfl rfl rfl rfl (by decide) (by omega)) rfl ?_; clear hS; rintro _ wx ⟨A5, c5, rfl, hS⟩; (simp only [List.set_cons_zero, List.set_cons_succ] at hS); (simp only [Act.put, List.setIfInBounds_toArray, List.set_cons_zero, List.set_cons_succ])) | ((with_reducible show wpList _ _ _ (⟨_, Op.box _ _, _, _, _, _⟩ :: _) _ _); refine Does.list (does_box hS rfl rfl (by rfl)) rfl ?_; clear hS; rintro _ wx ⟨bo, rfl, hS, _⟩; (simp only [Act.put, List.setIfInBounds_toArray, List.set_cons_zero, List.set_cons_succ])) | ((with_reducible show wpList _ _ _ (⟨_, Op.load _ _, _, _, _, _⟩ :: _) _ _); (first | refine Gives.list (f_load hS rfl rfl (by rfl)) rfl ?_ | refine Gives.list (f_loadS hS rfl rfl (by rfl)) rfl ?_ | refine Gives.list (f_loadAt hS rfl rfl) rfl ?_ | refine Gives.list (f_loadAtS hS rfl rfl (by rfl)) rfl ?_ | refine Gives.list (f_loadAtF hS rfl rfl (by rfl)) rfl ?_); (simp only [Act.put, List.setIfInBounds_toArray, List.set_cons_zero, List.set_cons_succ])) | ((with_reducible show wpList _ _ _ (⟨_, Op.store _ _ _, _, _, _, _⟩ :: _) _ _); (first | refine Does.list (f_store hS rfl rfl rfl (by rfl) (by rfl)) rfl ?_ | refine Does.list (f_storeS hS rfl rfl rfl (by rfl) (by rfl) (by rfl)) rfl ?_); clear hS; rintro _ wx ⟨rfl, hS⟩; (simp only [List.set_cons_zero, List.set_cons_succ] at hS); (simp only [Act.put, List.setIfInBounds_toArray, List.set_cons_zero, List.set_cons_succ])) | ((with_reducible show wpList _ _ _ (⟨_, Op.alloc _, _, _, _, _⟩ :: _) _ _); refine Does.list (does_alloc hS rfl (by rfl)) rfl ?_; clear hS; rintro _ wx ⟨ba, rfl, hS, _⟩; (simp only [Act.put, List.setIfInBounds_toArray, List.set_cons_zero, List.set_cons_succ])) | ((with_reducible show wpList _ _ _ (⟨_, Op.buildSlice _ _ _, _, _, _, _⟩ :: _) _ _); refine Does.list (does_buildSlice (X := ?_) (cs := ?_) (E := ?_) hS rfl ?_ ?_) rfl ?_; rotate_left 3; (go_simp; rfl); rfl; clear hS; rintro _ wx ⟨bx, rfl, hS, _⟩; (simp only [Act.put, List.setIfInBounds_toArray, List.set_cons_zero, List.set_cons_succ])))
          go_roundw
          case rel => exact ⟨k + 1, A5, c5, by go_num, rfl, hlt, HA2, by rw [← HM.out]; exact hS.sel [1, 2] rfl (by decide)⟩
          case measure => simp [intOf]; omega
      · obtain rfl : k = row.length := by omega
        have H : Hid (rowT row = bJoin (row.map numT) spB) := Lib.hid (rowT_t Hi.out (by have h := HA.out; rwa [List.take_length] at h))
        rw [List.take_length] at hS
        go_wp2_with (first | (go_at_call 50; obtain ⟨Fq, hFq⟩ := hS.has Rep.str.slice [.slice B row.length d]; refine (join_n _ Fq B row.length d (row.map numT) ⟨#[32]⟩ hFq (List.length_map _) (by rw [List.length_map]; omega) (by have h := bJoin_size spB 7 (row.map numT) (nums_size row); rw [List.length_map, show spB.size = 1 from rfl] at h; exact Nat.le_trans h (by omega))).mono ?_; rintro e w' ⟨rfl, hM⟩; replace hS := hS.mod hM; clear hM hFq) | ((with_reducible show wpList _ _ _ (⟨_, Op.box _ _, _, _, _, _⟩ :: _) _ _); refine Does.list (does_box hS rfl rfl (by rfl)) rfl ?_; clear hS; rintro _ wx ⟨bo, rfl, hS, _⟩; (simp only [Act.put, List.setIfInBounds_toArray, List.set_cons_zero, List.set_cons_succ])) | ((with_reducible show wpList _ _ _ (⟨_, Op.load _ _, _, _, _, _⟩ :: _) _ _); (first | refine Gives.list (f_load hS rfl rfl (by rfl)) rfl ?_ | refine Gives.list (f_loadS hS rfl rfl (by rfl)) rfl ?_ | refine Gives.list (f_loadAt hS rfl rfl) rfl ?_ | refine Gives.list (f_loadAtS hS rfl rfl (by rfl)) rfl ?_ | refine Gives.list (f_loadAtF hS rfl rfl (by rfl)) rfl ?_); (simp only [Act.put, List.setIfInBounds_toArray, List.set_cons_zero, List.set_cons_succ])) | ((with_reducible show wpList _ _ _ (⟨_, Op.store _ _ _, _, _, _, _⟩ :: _) _ _); (first | refine Does.list (f_store hS rfl rfl rfl (by rfl) (by rfl)) rfl ?_ | refine Does.list (f_storeS hS rfl rfl rfl (by rfl) (by rfl) (by rfl)) rfl ?_); clear hS; rintro _ wx ⟨rfl, hS⟩; (simp only [List.set_cons_zero, List.set_cons_succ] at hS); (simp only [Act.put, List.setIfInBounds_toArray, List.set_cons_zero, List.set_cons_succ])) | ((with_reducible show wpList _ _ _ (⟨_, Op.alloc _, _, _, _, _⟩ :: _) _ _); refine Does.list (does_alloc hS rfl (by rfl)) rfl ?_; clear hS; rintro _ wx ⟨ba, rfl, hS, _⟩; (simp only [Act.put, List.setIfInBounds_toArray, List.set_cons_zero, List.set_cons_succ])) | ((with_reducible show wpList _ _ _ (⟨_, Op.buildSlice _ _ _, _, _, _, _⟩ :: _) _ _); refine Does.list (does_buildSlice (X := ?_) (cs := ?_) (E := ?_) hS rfl ?_ ?_) rfl ?_; rotate_left 3; (go_simp; rfl); rfl; clear hS; rintro _ wx ⟨bx, rfl, hS, _⟩; (simp only [Act.put, List.setIfInBounds_toArray, List.set_cons_zero, List.set_cons_succ])))
        go_ret
        exact ⟨by rw [H.out]; rfl, hS.mod0⟩
theorem bOf_nil_app (x : ByteArray) : bOf [] ++ x = x := by
  rw [← bOf_of x, ← bOf_app]; rfl
theorem toList_nil : (⟨#[]⟩ : ByteArray).toList = [] := by kernel_rfl
theorem toList_nil2 : ((⟨#[]⟩ : ByteArray).toList == ([] : List UInt8)) = true := by rw [toList_nil]; rfl
theorem take_ne {α β : Type} {f : α → β} {l : List α} {k : Nat} (h0 : 0 < k) (h : k < l.length) : (l.take k).map f ≠ [] := by
  intro e
  have h1 := congrArg List.length e
  rw [List.length_map, List.length_take, List.length_nil] at h1
  omega
set_option maxHeartbeats 2000000 in
set_option maxRecDepth 8000 in
theorem spec_RowText (w : World) (F : List Nat) (A : Option Addr) (c : Nat) (row : List Int) (hx : SliceHas Rep.int w F [.slice A row.length c] row) (hb : row.length ≤ 1048576) :
    Calls Tryd.prog 17 #[.slice A row.length c] w fun e w' => e = .returned (.string (rowT row)) ∧ Mod [] w w' := by
  have hS : Sat w w [.ro Rep.int.slice [.slice A row.length c] row] := (Sat.nil w).arg hx
  clear hx
  go_enter Tryd.func17, Tryd.ntmps17
  go_wp2_with (first | ((with_reducible show wpList _ _ _ (⟨_, Op.box _ _, _, _, _, _⟩ :: _) _ _); refine Does.list (does_box hS rfl rfl (by rfl)) rfl ?_; clear hS; rintro _ wx ⟨bo, rfl, hS, _⟩; (simp only [Act.put, List.setIfInBounds_toArray, List.set_cons_zero, List.set_cons_succ])) | ((with_reducible show wpList _ _ _ (⟨_, Op.load _ _, _, _, _, _⟩ :: _) _ _); (first | refine Gives.list (f_load hS rfl rfl (by rfl)) rfl ?_ | refine Gives.list (f_loadS hS rfl rfl (by rfl)) rfl ?_ | refine Gives.list (f_loadAt hS rfl rfl) rfl ?_ | refine Gives.list (f_loadAtS hS rfl rfl (by rfl)) rfl ?_ | refine Gives.list (f_loadAtF hS rfl rfl (by rfl)) rfl ?_); (simp only [Act.put, List.setIfInBounds_toArray, List.set_cons_zero, List.set_cons_succ])) | ((with_reducible show wpList _ _ _ (⟨_, Op.store _ _ _, _, _, _, _⟩ :: _) _ _); (first | refine Does.list (f_store hS rfl rfl rfl (by rfl) (by rfl)) rfl ?_ | refine Does.list (f_storeS hS rfl rfl rfl (by rfl) (by rfl) (by rfl)) rfl ?_); clear hS; rintro _ wx ⟨rfl, hS⟩; (simp only [List.set_cons_zero, List.set_cons_succ] at hS); (simp only [Act.put, List.setIfInBounds_toArray, List.set_cons_zero, List.set_cons_succ])) | ((with_reducible show wpList _ _ _ (⟨_, Op.alloc _, _, _, _, _⟩ :: _) _ _); refine Does.list (does_alloc hS rfl (by rfl)) rfl ?_; clear hS; rintro _ wx ⟨ba, rfl, hS, _⟩; (simp only [Act.put, List.setIfInBounds_toArray, List.set_cons_zero, List.set_cons_succ])) | ((with_reducible show wpList _ _ _ (⟨_, Op.buildSlice _ _ _, _, _, _, _⟩ :: _) _ _); refine Does.list (does_buildSlice (X := ?_) (cs := ?_) (E := ?_) hS rfl ?_ ?_) rfl ?_; rotate_left 3; (go_simp; rfl); rfl; clear hS; rintro _ wx ⟨bx, rfl, hS, _⟩; (simp only [Act.put, List.setIfInBounds_toArray, List.set_cons_zero, List.set_cons_succ])))
  go_loopw [3, 4] (fun s i wr => ∃ (k : Nat) (o : ByteArray), i = .int .i64 k ∧ s = .string o ∧ k ≤ row.length ∧ (Hid ((row.take k).any notValue = false) ∧ Hid (o = bJoin ((row.take k).map numT) spB)) ∧ (o.size ≤ 8 * k ∧ (k = 0 ∨ row.length ≤ 6)) ∧ Sat w wr [.ro Rep.int.slice [.slice A row.length c] row]) (fun _ i _ => row.length - (intOf i).toNat)
  case atStart => exact ⟨0, _, rfl, rfl, Nat.zero_le _, ⟨Lib.hid rfl, Lib.hid rfl⟩, ⟨Nat.zero_le _, .inl rfl⟩, hS⟩
  case round =>
    clear hS
    obtain ⟨k, o, rfl, rfl, hk, ⟨HA, HO⟩, ⟨hos, hk6⟩, hS⟩ := hrel
    by_cases hlt : k < row.length
    · have hltI : (k : Int) < (row.length : Int) := by omega
      obtain ⟨x, hxk⟩ : ∃ x, row[k]? = some x := ⟨_, get_some hlt⟩
      obtain ⟨ad, rfl, hz, hS⟩ := hS.elInt A row.length c hxk
      have HM := Lib.hid (map_succ (f := numT) hxk)
      have h7 := numT_size x
      cases hv : inB x (-100000) 100000
      · have H := Lib.hid (rowT_v (any_at hxk hv))
        have hE : numT x = ⟨#[]⟩ := numT_empty hv
        have he : ((numT x).toList == ([] : List UInt8)) = true := by rw [hE]; exact toList_nil2
        clear hv hxk hE
        go_wp2_with (first | (go_at_call 47; refine (spec_NumberText _ x).mono ?_; rintro e w' ⟨rfl, hM⟩; replace hS := hS.mod hM; clear hM) | ((with_reducible show wpList _ _ _ (⟨_, Op.box _ _, _, _, _, _⟩ :: _) _ _); refine Does.list (does_box hS rfl rfl (by rfl)) rfl ?_; clear hS; rintro _ wx ⟨bo, rfl, hS, _⟩; (simp only [Act.put, List.setIfInBounds_toArray, List.set_cons_zero, List.set_cons_succ])) | ((with_reducible show wpList _ _ _ (⟨_, Op.load _ _, _, _, _, _⟩ :: _) _ _); (first | refine Gives.list (f_load hS rfl rfl (by rfl)) rfl ?_ | refine Gives.list (f_loadS hS rfl rfl (by rfl)) rfl ?_ | refine Gives.list (f_loadAt hS rfl rfl) rfl ?_ | refine Gives.list (f_loadAtS hS rfl rfl (by rfl)) rfl ?_ | refine Gives.list (f_loadAtF hS rfl rfl (by rfl)) rfl ?_); (simp only [Act.put, List.setIfInBounds_toArray, List.set_cons_zero, List.set_cons_succ])) | ((with_reducible show wpList _ _ _ (⟨_, Op.store _ _ _, _, _, _, _⟩ :: _) _ _); (first | refine Does.list (f_store hS rfl rfl rfl (by rfl) (by rfl)) rfl ?_ | refine Does.list (f_storeS hS rfl rfl rfl (by rfl) (by rfl) (by rfl)) rfl ?_); clear hS; rintro _ wx ⟨rfl, hS⟩; (simp only [List.set_cons_zero, List.set_cons_succ] at hS); (simp only [Act.put, List.setIfInBounds_toArray, List.set_cons_zero, List.set_cons_succ])) | ((with_reducible show wpList _ _ _ (⟨_, Op.alloc _, _, _, _, _⟩ :: _) _ _); refine Does.list (does_alloc hS rfl (by rfl)) rfl ?_; clear hS; rintro _ wx ⟨ba, rfl, hS, _⟩; (simp only [Act.put, List.setIfInBounds_toArray, List.set_cons_zero, List.set_cons_succ])) | ((with_reducible show wpList _ _ _ (⟨_, Op.buildSlice _ _ _, _, _, _, _⟩ :: _) _ _); refine Does.list (does_buildSlice (X := ?_) (cs := ?_) (E := ?_) hS rfl ?_ ?_) rfl ?_; rotate_left 3; (go_simp; rfl); rfl; clear hS; rintro _ wx ⟨bx, rfl, hS, _⟩; (simp only [Act.put, List.setIfInBounds_toArray, List.set_cons_zero, List.set_cons_succ])))
        go_ret
        exact ⟨by rw [H.out]; rfl, hS.mod0⟩
      · have HA2 := Lib.hid (any_succ HA.out hxk hv)
        have he : ((numT x).toList == ([] : List UInt8)) = false := by
          have h := numT_pos hv
          have h1 : numT x ≠ ⟨#[]⟩ := fun e => by rw [e] at h; exact absurd h (by decide)
          have h2 := toList_f h1
          rwa [toList_nil] at h2
        clear hv hxk
        by_cases hL : row.length ≤ 6
        · have hLI : ¬ (6 : Int) < (row.length : Int) := by omega
          rcases Nat.eq_zero_or_pos k with hk0 | hk0
          · have hkI : ¬ (0 : Int) < (k : Int) := by omega
            have Hk0 := Lib.hid hk0
            clear hk0
            have hsz : ¬ 9223372036854775807 < o.size + (numT x).size := by omega
            go_wp2_with (first | (go_at_call 47; refine (spec_NumberText _ x).mono ?_; rintro e w' ⟨rfl, hM⟩; replace hS := hS.mod hM; clear hM) | ((with_reducible show wpList _ _ _ (⟨_, Op.box _ _, _, _, _, _⟩ :: _) _ _); refine Does.list (does_box hS rfl rfl (by rfl)) rfl ?_; clear hS; rintro _ wx ⟨bo, rfl, hS, _⟩; (simp only [Act.put, List.setIfInBounds_toArray, List.set_cons_zero, List.set_cons_succ])) | ((with_reducible show wpList _ _ _ (⟨_, Op.load _ _, _, _, _, _⟩ :: _) _ _); (first | refine Gives.list (f_load hS rfl rfl (by rfl)) rfl ?_ | refine Gives.list (f_loadS hS rfl rfl (by rfl)) rfl ?_ | refine Gives.list (f_loadAt hS rfl rfl) rfl ?_ | refine Gives.list (f_loadAtS hS rfl rfl (by rfl)) rfl ?_ | refine Gives.list (f_loadAtF hS rfl rfl (by rfl)) rfl ?_); (simp only [Act.put, List.setIfInBounds_toArray, List.set_cons_zero, List.set_cons_succ])) | ((with_reducible show wpList _ _ _ (⟨_, Op.store _ _ _, _, _, _, _⟩ :: _) _ _); (first | refine Does.list (f_store hS rfl rfl rfl (by rfl) (by rfl)) rfl ?_ | refine Does.list (f_storeS hS rfl rfl rfl (by rfl) (by rfl) (by rfl)) rfl ?_); clear hS; rintro _ wx ⟨rfl, hS⟩; (simp only [List.set_cons_zero, List.set_cons_succ] at hS); (simp only [Act.put, List.setIfInBounds_toArray, List.set_cons_zero, List.set_cons_succ])) | ((with_reducible show wpList _ _ _ (⟨_, Op.alloc _, _, _, _, _⟩ :: _) _ _); refine Does.list (does_alloc hS rfl (by rfl)) rfl ?_; clear hS; rintro _ wx ⟨ba, rfl, hS, _⟩; (simp only [Act.put, List.setIfInBounds_toArray, List.set_cons_zero, List.set_cons_succ])) | ((with_reducible show wpList _ _ _ (⟨_, Op.buildSlice _ _ _, _, _, _, _⟩ :: _) _ _); refine Does.list (does_buildSlice (X := ?_) (cs := ?_) (E := ?_) hS rfl ?_ ?_) rfl ?_; rotate_left 3; (go_simp; rfl); rfl; clear hS; rintro _ wx ⟨bx, rfl, hS, _⟩; (simp only [Act.put, List.setIfInBounds_toArray, List.set_cons_zero, List.set_cons_succ])))
            go_roundw
            case rel => exact ⟨k + 1, _, by go_num, rfl, hlt, ⟨HA2, Lib.hid (by rw [← HM.out, HO.out, Hk0.out]; rw [List.take_zero, List.map_nil, List.nil_append, bJoin_one, bJoin_nil]; exact bOf_nil_app _)⟩, ⟨by rw [ByteArray.size_append]; omega, .inr hL⟩, hS.sel [1] rfl (by decide)⟩
            case measure => simp [intOf]; omega
          · have hkI : (0 : Int) < (k : Int) := by omega
            have hsz : ¬ 9223372036854775807 < o.size + 1 := by omega
            have hsz2 : ¬ 9223372036854775807 < o.size + 1 + (numT x).size := by omega
            go_wp2_with (first | (go_at_call 47; refine (spec_NumberText _ x).mono ?_; rintro e w' ⟨rfl, hM⟩; replace hS := hS.mod hM; clear hM) | ((with_reducible show wpList _ _ _ (⟨_, Op.box _ _, _, _, _, _⟩ :: _) _ _); refine Does.list (does_box hS rfl rfl (by rfl)) rfl ?_; clear hS; rintro _ wx ⟨bo, rfl, hS, _⟩; (simp only [Act.put, List.setIfInBounds_toArray, List.set_cons_zero, List.set_cons_succ])) | ((with_reducible show wpList _ _ _ (⟨_, Op.load _ _, _, _, _, _⟩ :: _) _ _); (first | refine Gives.list (f_load hS rfl rfl (by rfl)) rfl ?_ | refine Gives.list (f_loadS hS rfl rfl (by rfl)) rfl ?_ | refine Gives.list (f_loadAt hS rfl rfl) rfl ?_ | refine Gives.list (f_loadAtS hS rfl rfl (by rfl)) rfl ?_ | refine Gives.list (f_loadAtF hS rfl rfl (by rfl)) rfl ?_); (simp only [Act.put, List.setIfInBounds_toArray, List.set_cons_zero, List.set_cons_succ])) | ((with_reducible show wpList _ _ _ (⟨_, Op.store _ _ _, _, _, _, _⟩ :: _) _ _); (first | refine Does.list (f_store hS rfl rfl rfl (by rfl) (by rfl)) rfl ?_ | refine Does.list (f_storeS hS rfl rfl rfl (by rfl) (by rfl) (by rfl)) rfl ?_); clear hS; rintro _ wx ⟨rfl, hS⟩; (simp only [List.set_cons_zero, List.set_cons_succ] at hS); (simp only [Act.put, List.setIfInBounds_toArray, List.set_cons_zero, List.set_cons_succ])) | ((with_reducible show wpList _ _ _ (⟨_, Op.alloc _, _, _, _, _⟩ :: _) _ _); refine Does.list (does_alloc hS rfl (by rfl)) rfl ?_; clear hS; rintro _ wx ⟨ba, rfl, hS, _⟩; (simp only [Act.put, List.setIfInBounds_toArray, List.set_cons_zero, List.set_cons_succ])) | ((with_reducible show wpList _ _ _ (⟨_, Op.buildSlice _ _ _, _, _, _, _⟩ :: _) _ _); refine Does.list (does_buildSlice (X := ?_) (cs := ?_) (E := ?_) hS rfl ?_ ?_) rfl ?_; rotate_left 3; (go_simp; rfl); rfl; clear hS; rintro _ wx ⟨bx, rfl, hS, _⟩; (simp only [Act.put, List.setIfInBounds_toArray, List.set_cons_zero, List.set_cons_succ])))
            go_roundw
            case rel => exact ⟨k + 1, _, by go_num, rfl, hlt, ⟨HA2, Lib.hid (by rw [← HM.out, bJoin_snoc _ _ (take_ne hk0 hlt), ← HO.out]; rfl)⟩, ⟨by rw [ByteArray.size_append, ByteArray.size_append, show ByteArray.size ⟨#[32]⟩ = 1 from rfl]; omega, .inr hL⟩, hS.sel [1] rfl (by decide)⟩
            case measure => simp [intOf]; omega
        · have hLI : (6 : Int) < (row.length : Int) := by omega
          have H : Hid (rowT row = bOf []) := Lib.hid (rowT_n (by simp only [inB, Bool.and_eq_false_iff, decide_eq_false_iff_not]; omega))
          go_wp2_with (first | (go_at_call 47; refine (spec_NumberText _ x).mono ?_; rintro e w' ⟨rfl, hM⟩; replace hS := hS.mod hM; clear hM) | ((with_reducible show wpList _ _ _ (⟨_, Op.box _ _, _, _, _, _⟩ :: _) _ _); refine Does.list (does_box hS rfl rfl (by rfl)) rfl ?_; clear hS; rintro _ wx ⟨bo, rfl, hS, _⟩; (simp only [Act.put, List.setIfInBounds_toArray, List.set_cons_zero, List.set_cons_succ])) | ((with_reducible show wpList _ _ _ (⟨_, Op.load _ _, _, _, _, _⟩ :: _) _ _); (first | refine Gives.list (f_load hS rfl rfl (by rfl)) rfl ?_ | refine Gives.list (f_loadS hS rfl rfl (by rfl)) rfl ?_ | refine Gives.list (f_loadAt hS rfl rfl) rfl ?_ | refine Gives.list (f_loadAtS hS rfl rfl (by rfl)) rfl ?_ | refine Gives.list (f_loadAtF hS rfl rfl (by rfl)) rfl ?_); (simp only [Act.put, List.setIfInBounds_toArray, List.set_cons_zero, List.set_cons_succ])) | ((with_reducible show wpList _ _ _ (⟨_, Op.store _ _ _, _, _, _, _⟩ :: _) _ _); (first | refine Does.list (f_store hS rfl rfl rfl (by rfl) (by rfl)) rfl ?_ | refine Does.list (f_storeS hS rfl rfl rfl (by rfl) (by rfl) (by rfl)) rfl ?_); clear hS; rintro _ wx ⟨rfl, hS⟩; (simp only [List.set_cons_zero, List.set_cons_succ] at hS); (simp only [Act.put, List.setIfInBounds_toArray, List.set_cons_zero, List.set_cons_succ])) | ((with_reducible show wpList _ _ _ (⟨_, Op.alloc _, _, _, _, _⟩ :: _) _ _); refine Does.list (does_alloc hS rfl (by rfl)) rfl ?_; clear hS; rintro _ wx ⟨ba, rfl, hS, _⟩; (simp only [Act.put, List.setIfInBounds_toArray, List.set_cons_zero, List.set_cons_succ])) | ((with_reducible show wpList _ _ _ (⟨_, Op.buildSlice _ _ _, _, _, _, _⟩ :: _) _ _); refine Does.list (does_buildSlice (X := ?_) (cs := ?_) (E := ?_) hS rfl ?_ ?_) rfl ?_; rotate_left 3; (go_simp; rfl); rfl; clear hS; rintro _ wx ⟨bx, rfl, hS, _⟩; (simp only [Act.put, List.setIfInBounds_toArray, List.set_cons_zero, List.set_cons_succ])))
          go_ret
          exact ⟨by rw [H.out]; rfl, hS.mod0⟩
    · obtain rfl : k = row.length := by omega
      have H : Hid (rowT row = o) := Lib.hid (by
        have h1 := HA.out
        have h2 := HO.out
        rw [List.take_length] at h1 h2
        rcases Nat.eq_zero_or_pos row.length with h0 | h0
        · rw [rowT_n (by rw [h0]; rfl), h2, List.length_eq_zero_iff.1 h0]; rfl
        · rw [rowT_t (by simp only [inB, Bool.and_eq_true, decide_eq_true_eq]; omega) h1, h2])
      go_wp2_with (first | ((with_reducible show wpList _ _ _ (⟨_, Op.box _ _, _, _, _, _⟩ :: _) _ _); refine Does.list (does_box hS rfl rfl (by rfl)) rfl ?_; clear hS; rintro _ wx ⟨bo, rfl, hS, _⟩; (simp only [Act.put, List.setIfInBounds_toArray, List.set_cons_zero, List.set_cons_succ])) | ((with_reducible show wpList _ _ _ (⟨_, Op.load _ _, _, _, _, _⟩ :: _) _ _); (first | refine Gives.list (f_load hS rfl rfl (by rfl)) rfl ?_ | refine Gives.list (f_loadS hS rfl rfl (by rfl)) rfl ?_ | refine Gives.list (f_loadAt hS rfl rfl) rfl ?_ | refine Gives.list (f_loadAtS hS rfl rfl (by rfl)) rfl ?_ | refine Gives.list (f_loadAtF hS rfl rfl (by rfl)) rfl ?_); (simp only [Act.put, List.setIfInBounds_toArray, List.set_cons_zero, List.set_cons_succ])) | ((with_reducible show wpList _ _ _ (⟨_, Op.store _ _ _, _, _, _, _⟩ :: _) _ _); (first | refine Does.list (f_store hS rfl rfl rfl (by rfl) (by rfl)) rfl ?_ | refine Does.list (f_storeS hS rfl rfl rfl (by rfl) (by rfl) (by rfl)) rfl ?_); clear hS; rintro _ wx ⟨rfl, hS⟩; (simp only [List.set_cons_zero, List.set_cons_succ] at hS); (simp only [Act.put, List.setIfInBounds_toArray, List.set_cons_zero, List.set_cons_succ])) | ((with_reducible show wpList _ _ _ (⟨_, Op.alloc _, _, _, _, _⟩ :: _) _ _); refine Does.list (does_alloc hS rfl (by rfl)) rfl ?_; clear hS; rintro _ wx ⟨ba, rfl, hS, _⟩; (simp only [Act.put, List.setIfInBounds_toArray, List.set_cons_zero, List.set_cons_succ])) | ((with_reducible show wpList _ _ _ (⟨_, Op.buildSlice _ _ _, _, _, _, _⟩ :: _) _ _); refine Does.list (does_buildSlice (X := ?_) (cs := ?_) (E := ?_) hS rfl ?_ ?_) rfl ?_; rotate_left 3; (go_simp; rfl); rfl; clear hS; rintro _ wx ⟨bx, rfl, hS, _⟩; (simp only [Act.put, List.setIfInBounds_toArray, List.set_cons_zero, List.set_cons_succ])))
      go_ret
      exact ⟨by rw [H.out]; rfl, hS.mod0⟩
end Go.Proofs.YteafnieapifnnaaDoor
