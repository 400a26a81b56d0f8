/- l1Column; the accesses of a pass; names that are there. -/
import Derived.Test.YtldknaajnnohiaaDoorFuncs
import Derived.Test.YtldknaajnnohiaaDoorSatT
import Derived.Test.YtldknaajnnohiaaDoorLaw
import Derived.Test.YtldknaajnnohiaaDoorCol
namespace Go.Proofs.YtldknaajnnohiaaDoor
open Go.RowKit

set_option maxHeartbeats 1000000 in
theorem spec_l1Column (w : World) (F : List Nat) (v : Value) (xs : List ByteArray) (x : ByteArray) (hx : SliceHas Rep.str w F [v] xs) :
    Calls Tryd.prog 89 #[v, .string x] w fun e w' => e = .returned (.int .i64 (colOf xs x)) ∧ Mod [] w w' := by
  obtain ⟨A, c, rfl, hl, _⟩ := hx.form'
  have hS : Sat w w [.ro Rep.str.slice [.slice A xs.length c] xs] := (Sat.nil w).arg hx
  clear hx
  go_enter Tryd.func89, Tryd.ntmps89
  go_wp2_with fail
  go_loopw [5] (fun i wr => ∃ k : Nat, k ≤ xs.length ∧ i = .int .i64 k ∧ hasS (xs.take k) x = false ∧ Sat w wr [.ro Rep.str.slice [.slice A xs.length c] xs]) (fun i _ => xs.length - (intOf i).toNat)
  case atStart => exact ⟨0, Nat.zero_le _, rfl, rfl, hS⟩
  case round =>
    clear hS
    obtain ⟨k, hk, rfl, ha, hS⟩ := hrel
    have Ha := Lib.hid ha
    clear ha
    by_cases hlt : k < xs.length
    · obtain ⟨ad, rfl, hz, hS⟩ := hS.elStr A xs.length c (get_some hlt)
      by_cases heq : xs[k] = x
      · have H := Lib.hid (colOf_hit hlt Ha.out heq)
        have t1 := toList_t heq
        clear heq
        generalize xs[k] = y at hS t1 hz
        go_wp2_with (first | ((with_reducible show wpList _ _ _ (⟨_, Op.load _ _, _, _, _, _⟩ :: _) _ _); (first | refine Gives.list (f_load hS rfl rfl (by rfl)) rfl ?_ | refine Gives.list (f_loadS hS rfl rfl (by rfl)) rfl ?_ | refine Gives.list (f_loadAt hS rfl rfl) rfl ?_ | refine Gives.list (f_loadAtS hS rfl rfl (by rfl)) rfl ?_ | refine Gives.list (f_loadAtF hS rfl rfl (by rfl)) rfl ?_); (simp only [Act.put, List.setIfInBounds_toArray, List.set_cons_zero, List.set_cons_succ])))
        go_ret
        exact ⟨ret_int H.out.symm, hS.mod0⟩
      · have H := Lib.hid (hasS_succ_f hlt Ha.out heq)
        have t1 := toList_f heq
        clear heq
        generalize xs[k] = y at hS t1 hz
        go_wp2_with (first | ((with_reducible show wpList _ _ _ (⟨_, Op.load _ _, _, _, _, _⟩ :: _) _ _); (first | refine Gives.list (f_load hS rfl rfl (by rfl)) rfl ?_ | refine Gives.list (f_loadS hS rfl rfl (by rfl)) rfl ?_ | refine Gives.list (f_loadAt hS rfl rfl) rfl ?_ | refine Gives.list (f_loadAtS hS rfl rfl (by rfl)) rfl ?_ | refine Gives.list (f_loadAtF hS rfl rfl (by rfl)) rfl ?_); (simp only [Act.put, List.setIfInBounds_toArray, List.set_cons_zero, List.set_cons_succ])))
        go_roundw
        case rel => exact ⟨k + 1, hlt, by go_num, H.out, hS.sel [1] rfl (by decide)⟩
        case measure => simp [intOf]; omega
    · have H : Hid (colOf xs x = -1) := by
        have ha := Ha.out
        rw [List.take_of_length_le (by omega)] at ha
        exact colOf_miss ha
      go_wp2_with (first | ((with_reducible show wpList _ _ _ (⟨_, Op.box _ _, _, _, _, _⟩ :: _) _ _); refine Does.list (does_box hS rfl rfl (by rfl)) rfl ?_; clear hS; rintro _ wx ⟨bo, rfl, hS, _⟩; (simp only [Act.put, List.setIfInBounds_toArray, List.set_cons_zero, List.set_cons_succ])))
      go_ret
      exact ⟨ret_int H.out.symm, hS.mod0⟩

def passOf (k : Nat) : List AccessD := [(2, (k : Int), false), (2, (k : Int), true)]
def passF (n : Nat) : List AccessD := (List.range n).flatMap passOf
theorem passF_succ (k : Nat) : passF k ++ passOf k = passF (k + 1) := by unfold passF; rw [List.range_succ, List.flatMap_append]; simp
theorem passF_len (n : Nat) : (passF n).length = 2 * n := by
  induction n with
  | zero => rfl
  | succ n ih => rw [← passF_succ, List.length_append, ih]; show 2 * n + 2 = _; omega
theorem passOf_all (w : World) (k : Nat) (hk : k ≤ 256) : (rAccess.vec 2).has w [] [.int .i64 2, .int .i64 (k : Int), .bool false, .int .i64 2, .int .i64 (k : Int), .bool true] (passOf k) :=
  ⟨rfl, [], [], [_, _, _], _, rfl, rfl, rAccess_mk (by unfold I64; omega) (by unfold I64; omega), [], [], [_, _, _], _, rfl, rfl, rAccess_mk (by unfold I64; omega) (by unfold I64; omega), rfl, rfl⟩
set_option maxHeartbeats 1000000 in
theorem impl_isRegion2 (n : Int) (w : World) : Calls Tryd.prog 131 #[.int .i64 n] w fun e w' => e = .returned (.bool (inB n 0 2)) ∧ w = w' := by
  go_enter Tryd.func131, Tryd.ntmps131
  go_wp2_with (go_at_call 95; refine (impl_in _ _ _ _).mono ?_; rintro e w' ⟨rfl, rfl⟩)
  go_ret
  exact ⟨rfl, rfl⟩
set_option maxHeartbeats 2000000 in
theorem impl_PassTrace2 (w : World) (n : Nat) (hn : n ≤ 256) :
    Calls Tryd.prog 87 #[.int .i64 2, .int .i64 (n : Int)] w fun e w' => ∃ v, e = .returned v ∧ Fresh rAccess.rows w w' [v] (passF n) := by
  have h2 : inB 2 0 2 = true := by decide
  have h3 : inB (n : Int) 0 256 = true := inB_true (by omega)
  have hS : Sat w w [] := Sat.nil w
  go_enter Tryd.func87, Tryd.ntmps87
  go_wp2_with (first | (go_at_call 131; refine (impl_isRegion2 _ _).mono ?_; rintro e w' ⟨rfl, rfl⟩; (simp only [h2])) | (go_at_call 95; refine (impl_in _ _ _ _).mono ?_; rintro e w' ⟨rfl, rfl⟩; (simp only [h3])))
  replace hS := Sat.nilRow rAccess hS
  go_loopw [5, 16] (fun s i wr => ∃ (k : Nat) (B : Option Addr) (d : Nat), i = .int .i64 k ∧ s = .slice B (2 * k) d ∧ k ≤ n ∧ Sat w wr [.own rAccess.rows [.slice B (2 * k) d] (passF k)]) (fun _ i _ => n - (intOf i).toNat)
  case atStart => exact ⟨0, none, 0, rfl, rfl, Nat.zero_le _, hS⟩
  case round =>
    clear hS
    obtain ⟨k, B, d, rfl, rfl, hk, hS⟩ := hrel
    by_cases hlt : k < n
    · have hltI : (k : Int) < (n : Int) := by omega
      have H := Lib.hid (passF_succ k)
      go_wp2_with (first | ((with_reducible show wpList _ _ _ (⟨_, Op.call { callee := Callee.builtin Builtin.append, args := _, argTypes := _ }, _, _, _, _⟩ :: _) _ _); refine Does.list (f_append rAccess (hS.flat (passOf_all _ k (by omega))) rfl rfl rfl rfl rfl (by decide) (by omega)) rfl ?_; clear hS; rintro _ wx ⟨A2, c2, rfl, hS⟩; (simp only [List.set_cons_zero, List.set_cons_succ] at hS); (simp only [Act.put, List.setIfInBounds_toArray, List.set_cons_zero, List.set_cons_succ])) | ((with_reducible show wpList _ _ _ (⟨_, Op.buildSlice _ _ _, _, _, _, _⟩ :: _) _ _); refine Does.list (does_buildSlice (X := ?_) (cs := ?_) (E := ?_) hS rfl ?_ ?_) rfl ?_; rotate_left 3; (go_simp; rfl); rfl; clear hS; rintro _ wx ⟨bx, rfl, hS, _⟩; (simp only [Act.put, List.setIfInBounds_toArray, List.set_cons_zero, List.set_cons_succ])))
      go_roundw
      case rel => exact ⟨k + 1, A2, c2, by go_num, rfl, hlt, by rw [← H.out]; exact hS.sel [0] rfl (by decide)⟩
      case measure => simp [intOf]; omega
    · obtain rfl : k = n := by omega
      go_wp2_with (first | ((with_reducible show wpList _ _ _ (⟨_, Op.box _ _, _, _, _, _⟩ :: _) _ _); refine Does.list (does_box hS rfl rfl (by rfl)) rfl ?_; clear hS; rintro _ wx ⟨bo, rfl, hS, _⟩; (simp only [Act.put, List.setIfInBounds_toArray, List.set_cons_zero, List.set_cons_succ])))
      go_ret
      exact ⟨_, rfl, hS.result⟩
set_option maxHeartbeats 2000000 in
theorem spec_PassTrace2 (w : World) (n : Nat) (hn : n ≤ 256) :
    Calls Tryd.prog 90 #[.int .i64 2, .int .i64 (n : Int)] w fun e w' => ∃ v, e = .returned v ∧ Fresh rAccess.rows w w' [v] (passF n) := by
  have h2 : inB 2 0 2 = true := by decide
  have h3 : inB (n : Int) 0 256 = true := inB_true (by omega)
  have hS : Sat w w [] := Sat.nil w
  go_enter Tryd.func90, Tryd.ntmps90
  go_wp2_with (first | ((with_reducible show wpList _ _ _ (⟨_, Op.buildSlice _ _ _, _, _, _, _⟩ :: _) _ _); refine Does.list (does_buildSlice (X := ?_) (cs := ?_) (E := ?_) hS rfl ?_ ?_) rfl ?_; rotate_left 3; (go_simp; rfl); rfl; clear hS; rintro _ wx ⟨bx, rfl, hS, _⟩; (simp only [Act.put, List.setIfInBounds_toArray, List.set_cons_zero, List.set_cons_succ])))
  replace hS := (Sat.vec0 rAccess hS).lit (Nat.zero_le _)
  go_loopw [5, 6] (fun s i wr => ∃ (k : Nat) (B : Option Addr) (d : Nat), i = .int .i64 k ∧ s = .slice B (2 * k) d ∧ k ≤ n ∧ Sat w wr [.own rAccess.rows [.slice B (2 * k) d] (passF k)]) (fun _ i _ => n - (intOf i).toNat)
  case atStart => exact ⟨0, _, _, rfl, rfl, Nat.zero_le _, hS⟩
  case round =>
    clear hS
    obtain ⟨k, B, d, rfl, rfl, hk, hS⟩ := hrel
    by_cases hlt : k < n
    · have hltI : (k : Int) < (n : Int) := by omega
      have H := Lib.hid (passF_succ k)
      go_wp2_with (first | (go_at_call 82; (with_reducible show Calls _ _ #[Value.int IntKind.i64 2, _, _] _ _); refine (spec_in _ _ _ _).mono ?_; rintro e w' ⟨rfl, rfl⟩; (simp only [h2])) | (go_at_call 82; refine (spec_in _ _ _ _).mono ?_; rintro e w' ⟨rfl, rfl⟩; (simp only [h3])) | ((with_reducible show wpList _ _ _ (⟨_, Op.call { callee := Callee.builtin Builtin.append, args := _, argTypes := _ }, _, _, _, _⟩ :: _) _ _); refine Does.list (f_append rAccess (hS.flat (passOf_all _ k (by omega))) rfl rfl rfl rfl rfl (by decide) (by omega)) rfl ?_; clear hS; rintro _ wx ⟨A2, c2, rfl, hS⟩; (simp only [List.set_cons_zero, List.set_cons_succ] at hS); (simp only [Act.put, List.setIfInBounds_toArray, List.set_cons_zero, List.set_cons_succ])) | ((with_reducible show wpList _ _ _ (⟨_, Op.buildSlice _ _ _, _, _, _, _⟩ :: _) _ _); refine Does.list (does_buildSlice (X := ?_) (cs := ?_) (E := ?_) hS rfl ?_ ?_) rfl ?_; rotate_left 3; (go_simp; rfl); rfl; clear hS; rintro _ wx ⟨bx, rfl, hS, _⟩; (simp only [Act.put, List.setIfInBounds_toArray, List.set_cons_zero, List.set_cons_succ])))
      go_roundw
      case rel => exact ⟨k + 1, A2, c2, by go_num, rfl, hlt, by rw [← H.out]; exact hS.sel [0] rfl (by decide)⟩
      case measure => simp [intOf]; omega
    · obtain rfl : k = n := by omega
      go_wp2_with (first | (go_at_call 82; (with_reducible show Calls _ _ #[Value.int IntKind.i64 2, _, _] _ _); refine (spec_in _ _ _ _).mono ?_; rintro e w' ⟨rfl, rfl⟩; (simp only [h2])))
      go_ret
      exact ⟨_, rfl, hS.result⟩

/-! ### Columns that are there -/
def offS (ns : List ByteArray) (x : ByteArray) : Bool := !hasS ns x
def takenB (ns cols : List ByteArray) : Bool := namesOk cols && !cols.any (offS ns)
def cellOf (ns : List ByteArray) (r : List Int) (c : ByteArray) : Int := r.getD (colOf ns c).toNat 0
def takeRow (ns cols : List ByteArray) (r : List Int) : List Int := cols.map (cellOf ns r)
def takeRows (ns cols : List ByteArray) (rows : List (List Int)) : List (List Int) := rows.map (takeRow ns cols)
section
variable {ns cols : List ByteArray} {r : List Int} {rows : List (List Int)} {k : Nat} {c : ByteArray}
theorem takeRow_succ (h : k < cols.length) : takeRow ns (cols.take k) r ++ [cellOf ns r cols[k]] = takeRow ns (cols.take (k + 1)) r := by
  unfold takeRow; rw [List.take_succ_eq_append_getElem h, List.map_append]; rfl
theorem takeRows_succ (h : k < rows.length) : takeRows ns cols (rows.take k) ++ [takeRow ns cols rows[k]] = takeRows ns cols (rows.take (k + 1)) := by
  unfold takeRows; rw [List.take_succ_eq_append_getElem h, List.map_append]; rfl
theorem colOf_nat (h : hasS ns c = true) : ∃ j : Nat, colOf ns c = (j : Int) ∧ j < ns.length := by
  have h1 := colOf_has (xs := ns) (x := c)
  rw [h] at h1
  have h2 := of_decide_eq_true h1
  obtain ⟨_, h3⟩ := colOf_bd (xs := ns) (x := c)
  exact ⟨(colOf ns c).toNat, by omega, by omega⟩
theorem offS_of (h : cols.any (offS ns) = false) (hk : k < cols.length) : hasS ns cols[k] = true := by
  have := List.any_eq_false.1 h cols[k] (List.getElem_mem hk)
  simpa [offS] using this
theorem cellOf_get {j : Nat} (h1 : colOf ns c = (j : Int)) (h2 : j < r.length) : cellOf ns r c = r[j] := by
  unfold cellOf
  rw [h1, Int.toNat_natCast, List.getD_eq_getElem?_getD, List.getElem?_eq_getElem h2]; rfl
end
end Go.Proofs.YtldknaajnnohiaaDoor
