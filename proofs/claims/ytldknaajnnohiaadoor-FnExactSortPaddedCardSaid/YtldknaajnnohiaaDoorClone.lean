/- slices.Clone on data without blocks. -/
import Derived.Test.YtldknaajnnohiaaDoorFind
import Derived.Test.YtldknaajnnohiaaDoorTys
namespace Go.Proofs.YtldknaajnnohiaaDoor
open Go.RowKit

theorem eql_nil {P : Program} (w : World) (t e : TypeId) (a : Option Addr) (n c : Nat) (h : P.underlying t = some (.slice e)) : (binOp .eql t (.slice a n c) (.slice none 0 0)).run P w = .ok (.bool a.isNone) w := by
  simp only [binOp]
  simp [Op.equal, Op.maxDepth, Lib.run_equalIn_slice_nil w 9999 t e a n c 0 0 h]
set_option maxHeartbeats 1000000 in
theorem sl_Clone_int (w : World) (F : List Nat) (A : Option Addr) (n c : Nat) (xs : List Int) (hx : SliceHas Rep.int w F [.slice A n c] xs) (hl : xs.length ≤ 1000000) :
    Calls Tryd.prog 93 #[.slice A n c] w fun e w' => ∃ v', e = .returned v' ∧ Fresh Rep.int.rows w w' [v'] xs := by
  have hn := SliceHas.n hx
  have hS : Sat w w [.ro Rep.int.slice [.slice A n c] xs] := (Sat.nil w).arg hx
  cases A with
  | none =>
    have hxs : xs = [] := by
      obtain ⟨a', n', cap', ces, Fe, hv, h1, h2, h3, h4, h5⟩ := hx
      simp only [List.cons.injEq, Value.slice.injEq, and_true] at hv
      obtain ⟨rfl, rfl, rfl⟩ := hv
      rcases h5 with ⟨h0, _⟩ | ⟨ad, h, _⟩
      · exact List.eq_nil_of_length_eq_zero (by omega)
      · cases h
    have hE := fun wx => eql_nil (P := Tryd.prog) wx 43 3 none n c Tryd.underlying43
    go_enter Tryd.func93, Tryd.ntmps93
    go_wp2_with fail
    go_ret
    subst hxs
    exact ⟨_, rfl, (Sat.nilRow Rep.int (Sat.nil w)).result⟩
  | some ad =>
    have hE := fun wx => eql_nil (P := Tryd.prog) wx 43 3 (some ad) n c Tryd.underlying43
    go_enter Tryd.func93, Tryd.ntmps93
    go_wp2_with (first | ((with_reducible show wpList _ _ _ (⟨_, Op.buildSlice _ _ _, _, _, _, _⟩ :: _) _ _); refine Does.list (does_buildSlice (X := ?_) (cs := ?_) (E := ?_) hS rfl ?_ ?_) rfl ?_; rotate_left 3; (go_simp; rfl); rfl; clear hS; rintro _ wx ⟨bx, rfl, hS, _⟩; (simp only [Act.put, List.setIfInBounds_toArray, List.set_cons_zero, List.set_cons_succ])) | ((with_reducible show wpList _ _ _ (⟨_, Op.call { callee := Callee.builtin Builtin.append, args := _, argTypes := _ }, _, _, _, _⟩ :: _) _ _); (have hS2 := (Sat.vec0 Rep.int hS).lit (Nat.zero_le _)); refine Does.list (does_appendFlat 0 hS2 Rep.int (hS2.pull 1 rfl).readRo rfl rfl rfl rfl rfl rfl rfl (by decide) (by omega)) rfl ?_; clear hS hS2; rintro _ wx ⟨A2, c2, rfl, hS⟩; (simp only [List.set_cons_zero, List.set_cons_succ] at hS); (simp only [Act.put, List.setIfInBounds_toArray, List.set_cons_zero, List.set_cons_succ])))
    go_ret
    exact ⟨_, rfl, by simpa using hS.result⟩
end Go.Proofs.YtldknaajnnohiaaDoor
