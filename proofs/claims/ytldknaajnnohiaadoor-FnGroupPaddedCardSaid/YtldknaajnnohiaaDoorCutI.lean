/- Prefixes of slices: what one reads, and what one owns. No function of the program occurs here. -/
import Derived.Test.YtldknaajnnohiaaDoorFind
import Derived.Test.YtldknaajnnohiaaDoorNew
import Derived.Test.YtldknaajnnohiaaDoorPdv
import Derived.Test.YtldknaajnnohiaaDoorPSa
section
namespace Go.Proofs.YtldknaajnnohiaaDoor
open Go.RowKit

section
variable {α : Type} {e : Rep α} {w w0 : World} {Γ : List Fact}
end
end Go.Proofs.YtldknaajnnohiaaDoor
end

section
namespace Go.Proofs.YtldknaajnnohiaaDoor
open Go.RowKit

def cutM (size : Int) (n : Nat) : Nat := min size.toNat n
def cutF (p : PaddedD) (size : Int) : PaddedD × Bool :=
  if paddedOk p && inB size 0 256 then
    if (p.2.2.drop (cutM size p.2.1.length)).any id then (zeroP, false) else ((p.1, p.2.1.take (cutM size p.2.1.length), p.2.2.take (cutM size p.2.1.length)), true)
  else (zeroP, false)
section
variable {ns : List ByteArray} {rows : List (List Int)} {real : List Bool} {size : Int} {M : Nat}
end

theorem padded_lenC {ns : List ByteArray} {rows : List (List Int)} {real : List Bool} (h : paddedOk (ns, rows, real) = true) : rows.length ≤ 256 ∧ real.length = rows.length := by
  unfold paddedOk at h
  simp only [Bool.and_eq_true, decide_eq_true_eq] at h
  exact ⟨h.2.1, h.2.2.1⟩

/-! ### How many rows are real -/
theorem countP_succ {l : List Bool} {k : Nat} (h : k < l.length) : (l.take (k + 1)).countP id = (l.take k).countP id + (if l[k] then 1 else 0) := by
  rw [List.take_succ_eq_append_getElem h, List.countP_append]
  cases l[k] <;> rfl
set_option maxHeartbeats 1000000 in
theorem impl_reals (w : World) (A1 A2 A3 : Option Addr) (n1 n2 n3 c1 c2 c3 : Nat) (F : List Nat) (real : List Bool) (hx : SliceHas Rep.bool w F [.slice A3 n3 c3] real) :
    Calls Tryd.prog 92 #[.agg #[.slice A1 n1 c1, .slice A2 n2 c2, .slice A3 n3 c3]] w fun e w' => e = .returned (.int .i64 ((real.countP id : Nat) : Int)) ∧ Mod [] w w' := by
  obtain ⟨A', c', hv, hn, _⟩ := hx.form'
  simp only [Value.slice.injEq] at hv
  obtain ⟨rfl, rfl, rfl⟩ := hv
  have hn : real.length ≤ 9223372036854775807 := hn
  have hS : Sat w w [.ro Rep.bool.slice [.slice A3 real.length c3] real] := (Sat.nil w).arg hx
  clear hx
  go_enter Tryd.func92, Tryd.ntmps92
  go_wp2_with (first | ((with_reducible show wpList _ _ _ (⟨_, Op.box _ _, _, _, _, _⟩ :: _) _ _); refine Does.list (does_box hS rfl rfl (by rfl)) rfl ?_; clear hS; rintro _ wx ⟨bo, rfl, hS, _⟩; (simp only [Act.put, List.setIfInBounds_toArray, List.set_cons_zero, List.set_cons_succ])) | ((with_reducible show wpList _ _ _ (⟨_, Op.load _ _, _, _, _, _⟩ :: _) _ _); (first | refine Gives.list (f_load hS rfl rfl (by rfl)) rfl ?_ | refine Gives.list (f_loadS hS rfl rfl (by rfl)) rfl ?_ | refine Gives.list (f_loadAt hS rfl rfl) rfl ?_ | refine Gives.list (f_loadAtS hS rfl rfl (by rfl)) rfl ?_ | refine Gives.list (f_loadAtF hS rfl rfl (by rfl)) rfl ?_); (simp only [Act.put, List.setIfInBounds_toArray, List.set_cons_zero, List.set_cons_succ])))
  go_loopw [9, 3] (fun i s wr => ∃ k x : Nat, k ≤ real.length ∧ i = .int .i64 k ∧ s = .int .i64 x ∧ x ≤ k ∧ Hid ((real.take k).countP id = x) ∧ Sat w wr [.ro Rep.bool.slice [.slice A3 real.length c3] real]) (fun i _ _ => real.length - (intOf i).toNat)
  case atStart => exact ⟨0, 0, Nat.zero_le _, rfl, rfl, Nat.le_refl _, Lib.hid rfl, hS.sel [1] rfl (by decide)⟩
  case round =>
    clear hS
    obtain ⟨k, x, hk, rfl, rfl, hxk, hx, hS⟩ := hrel
    by_cases hlt : k < real.length
    · have hltI : (k : Int) < (real.length : Int) := by omega
      obtain ⟨ad3, rfl, hS⟩ := hS.elBool A3 real.length c3 (get_some hlt)
      have H := Lib.hid (countP_succ hlt)
      obtain ⟨b, hb⟩ : ∃ b, real[k] = b := ⟨_, rfl⟩
      rw [hb] at hS H
      clear hb
      have hw : IntKind.i64.wrap ((x : Int) + 1) = (x : Int) + 1 := IntWalk.i64_in _ (by omega)
      cases b
      all_goals
        go_wp2_with (first | ((with_reducible show wpList _ _ _ (⟨_, Op.load _ _, _, _, _, _⟩ :: _) _ _); (first | refine Gives.list (f_load hS rfl rfl (by rfl)) rfl ?_ | refine Gives.list (f_loadS hS rfl rfl (by rfl)) rfl ?_ | refine Gives.list (f_loadAt hS rfl rfl) rfl ?_ | refine Gives.list (f_loadAtS hS rfl rfl (by rfl)) rfl ?_ | refine Gives.list (f_loadAtF hS rfl rfl (by rfl)) rfl ?_); (simp only [Act.put, List.setIfInBounds_toArray, List.set_cons_zero, List.set_cons_succ])))
        go_roundw
        case rel =>
          first
          | exact ⟨k + 1, x + 1, hlt, by go_num, by go_num, by omega, Lib.hid (by rw [H.out, hx.out]; rfl), hS.sel [1] rfl (by decide)⟩
          | exact ⟨k + 1, x, hlt, by go_num, rfl, by omega, Lib.hid (by rw [H.out, hx.out]; rfl), hS.sel [1] rfl (by decide)⟩
        case measure => simp [intOf]; omega
    · obtain rfl : k = real.length := by omega
      have hx2 := hx.out
      rw [List.take_length] at hx2
      have Hx := Lib.hid hx2
      clear hx2 hx
      go_wp2_with (first | ((with_reducible show wpList _ _ _ (⟨_, Op.box _ _, _, _, _, _⟩ :: _) _ _); refine Does.list (does_box hS rfl rfl (by rfl)) rfl ?_; clear hS; rintro _ wx ⟨bo, rfl, hS, _⟩; (simp only [Act.put, List.setIfInBounds_toArray, List.set_cons_zero, List.set_cons_succ])))
      go_ret
      exact ⟨ret_int (by rw [Hx.out]), hS.mod0⟩

/-! ### The first rows -/
end Go.Proofs.YtldknaajnnohiaaDoor
end
