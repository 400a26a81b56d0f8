/- l1Column; the accesses of a pass; names that are there. -/
import Derived.Test.YtldknaajnnohiaaDoorStr
import Derived.Test.YtldknaajnnohiaaDoorSatT
import Derived.Test.YtldknaajnnohiaaDoorMark
import Derived.Test.YtldknaajnnohiaaDoorCol
namespace Go.Proofs.YtldknaajnnohiaaDoor
open Go.RowKit

set_option maxHeartbeats 1000000 in
theorem spec_l1Column (w : World) (F : List Nat) (v : Value) (xs : List ByteArray) (x : ByteArray) (hx : SliceHas Rep.str w F [v] xs) :
    Calls Tryd.prog 89 #[v, .string x] w fun e w' => e = .returned (.int .i64 (colOf xs x)) ∧ Mod [] w w' := by
  obtain ⟨A, c, rfl, hl, _⟩ := hx.form'
  have hS : Sat w w [.ro Rep.str.slice [.slice A xs.length c] xs] := (Sat.nil w).arg hx
  clear hx
  go_enter Tryd.func89, Tryd.ntmps89
  go_wp2_with fail
  go_loopw [5] (fun i wr => ∃ k : Nat, k ≤ xs.length ∧ i = .int .i64 k ∧ hasS (xs.take k) x = false ∧ Sat w wr [.ro Rep.str.slice [.slice A xs.length c] xs]) (fun i _ => xs.length - (intOf i).toNat)
  case atStart => exact ⟨0, Nat.zero_le _, rfl, rfl, hS⟩
  case round =>
    clear hS
    obtain ⟨k, hk, rfl, ha, hS⟩ := hrel
    have Ha := Lib.hid ha
    clear ha
    by_cases hlt : k < xs.length
    · obtain ⟨ad, rfl, hz, hS⟩ := hS.elStr A xs.length c (get_some hlt)
      by_cases heq : xs[k] = x
      · have H := Lib.hid (colOf_hit hlt Ha.out heq)
        have t1 := toList_t heq
        clear heq
        generalize xs[k] = y at hS t1 hz
        go_wp2_with (first | ((with_reducible show wpList _ _ _ (⟨_, Op.load _ _, _, _, _, _⟩ :: _) _ _); (first | refine Gives.list (f_load hS rfl rfl (by rfl)) rfl ?_ | refine Gives.list (f_loadS hS rfl rfl (by rfl)) rfl ?_ | refine Gives.list (f_loadAt hS rfl rfl) rfl ?_ | refine Gives.list (f_loadAtS hS rfl rfl (by rfl)) rfl ?_ | refine Gives.list (f_loadAtF hS rfl rfl (by rfl)) rfl ?_); (simp only [Act.put, List.setIfInBounds_toArray, List.set_cons_zero, List.set_cons_succ])))
        go_ret
        exact ⟨ret_int H.out.symm, hS.mod0⟩
      · have H := Lib.hid (hasS_succ_f hlt Ha.out heq)
        have t1 := toList_f heq
        clear heq
        generalize xs[k] = y at hS t1 hz
        go_wp2_with (first | ((with_reducible show wpList _ _ _ (⟨_, Op.load _ _, _, _, _, _⟩ :: _) _ _); (first | refine Gives.list (f_load hS rfl rfl (by rfl)) rfl ?_ | refine Gives.list (f_loadS hS rfl rfl (by rfl)) rfl ?_ | refine Gives.list (f_loadAt hS rfl rfl) rfl ?_ | refine Gives.list (f_loadAtS hS rfl rfl (by rfl)) rfl ?_ | refine Gives.list (f_loadAtF hS rfl rfl (by rfl)) rfl ?_); (simp only [Act.put, List.setIfInBounds_toArray, List.set_cons_zero, List.set_cons_succ])))
        go_roundw
        case rel => exact ⟨k + 1, hlt, by go_num, H.out, hS.sel [1] rfl (by decide)⟩
        case measure => simp [intOf]; omega
    · have H : Hid (colOf xs x = -1) := by
        have ha := Ha.out
        rw [List.take_of_length_le (by omega)] at ha
        exact colOf_miss ha
      go_wp2_with (first | ((with_reducible show wpList _ _ _ (⟨_, Op.box _ _, _, _, _, _⟩ :: _) _ _); refine Does.list (does_box hS rfl rfl (by rfl)) rfl ?_; clear hS; rintro _ wx ⟨bo, rfl, hS, _⟩; (simp only [Act.put, List.setIfInBounds_toArray, List.set_cons_zero, List.set_cons_succ])))
      go_ret
      exact ⟨ret_int H.out.symm, hS.mod0⟩

def passOf (k : Nat) : List AccessD := [(2, (k : Int), false), (2, (k : Int), true)]
def passF (n : Nat) : List AccessD := (List.range n).flatMap passOf
set_option maxHeartbeats 1000000 in
theorem impl_isRegion2 (n : Int) (w : World) : Calls Tryd.prog 131 #[.int .i64 n] w fun e w' => e = .returned (.bool (inB n 0 2)) ∧ w = w' := by
  go_enter Tryd.func131, Tryd.ntmps131
  go_wp2_with (go_at_call 95; refine (impl_in _ _ _ _).mono ?_; rintro e w' ⟨rfl, rfl⟩)
  go_ret
  exact ⟨rfl, rfl⟩
/-! ### Columns that are there -/
def offS (ns : List ByteArray) (x : ByteArray) : Bool := !hasS ns x
def takenB (ns cols : List ByteArray) : Bool := namesOk cols && !cols.any (offS ns)
def cellOf (ns : List ByteArray) (r : List Int) (c : ByteArray) : Int := r.getD (colOf ns c).toNat 0
def takeRow (ns cols : List ByteArray) (r : List Int) : List Int := cols.map (cellOf ns r)
def takeRows (ns cols : List ByteArray) (rows : List (List Int)) : List (List Int) := rows.map (takeRow ns cols)
section
variable {ns cols : List ByteArray} {r : List Int} {rows : List (List Int)} {k : Nat} {c : ByteArray}
theorem colOf_nat (h : hasS ns c = true) : ∃ j : Nat, colOf ns c = (j : Int) ∧ j < ns.length := by
  have h1 := colOf_has (xs := ns) (x := c)
  rw [h] at h1
  have h2 := of_decide_eq_true h1
  obtain ⟨_, h3⟩ := colOf_bd (xs := ns) (x := c)
  exact ⟨(colOf ns c).toNat, by omega, by omega⟩
end
end Go.Proofs.YtldknaajnnohiaaDoor
