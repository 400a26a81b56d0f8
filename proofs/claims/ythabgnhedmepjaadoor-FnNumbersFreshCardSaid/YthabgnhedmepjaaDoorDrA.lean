/- Draws: opening a code; numbers; alive. -/
import Derived.Test.YthabgnhedmepjaaDoorRdr
import Derived.Test.YthabgnhedmepjaaDoorNamI
namespace Go.Proofs.YthabgnhedmepjaaDoor
open Go.RowKit

section
variable {α : Type} {e : Rep α} {w0 w : World} {Γ : List Fact} {cs : List Value} {x : α} {i j : Nat}
theorem Sat.dupRo (h : Sat w0 w Γ) (i : Nat) (hi : Γ[i]? = some (.ro e cs x)) : Sat w0 w (.ro e cs x :: Γ) := by
  obtain ⟨R, O, ⟨O1, O2, rfl, ⟨rfl, F, hF, hR⟩, k2⟩, k3, k4, k5, k6⟩ := h.pull i hi
  have hS2 : Sat w0 w (.ro e cs x :: .ro e cs x :: Γ.eraseIdx i) :=
    ⟨R, O2, ⟨[], O2, rfl, ⟨rfl, F, hF, hR⟩, [], O2, rfl, ⟨rfl, F, hF, hR⟩, k2⟩, k3, k4, k5, k6⟩
  exact hS2.perm ((perm_erase i hi).symm.cons _)
theorem Sat.rdF (h : Sat w0 w Γ) (br : Nat) {A : Option Addr} {n c p : Nat} {code : List UInt8} [hb : BoxAt Γ br [.slice A n c, .int .i64 ((p : Nat) : Int)] i] [hr : RoIn Γ Rep.u8.slice [.slice A n c] code j] :
    Rd br A n c p w ∧ ∀ w' p', Rd br A n c p' w' → Mod [br] w w' →
      Sat w0 w' (Γ.set i (.box br [.slice A n c, .int .i64 p'])) ∧ ∀ {β : Type} (d : Rep β) (ds : List Value) (y : β), NewIn d w w' ds y → Sat w0 w' (.own d ds y :: Γ.set i (.box br [.slice A n c, .int .i64 p'])) :=
  h.rdUp hb.get hr.get
end
set_option maxHeartbeats 1000000 in
theorem spec_l20Open {w0 w : World} {Γ : List Fact} {A : Option Addr} {n c i : Nat} {code : List UInt8} (hS : Sat w0 w Γ) (hi : Γ[i]? = some (.ro Rep.u8.slice [.slice A n c] code)) :
    Calls Tryd.prog 33 #[.slice A n c] w fun e w' => ∃ br A' n' c' code', e = .returned (.pointer (some ⟨br, 0, none⟩)) ∧ Sat w0 w' (.box br [.slice A' n' c', .int .i64 ((0 : Nat) : Int)] :: .ro Rep.u8.slice [.slice A' n' c'] code' :: Γ) := by
  by_cases hn : 2000 < n
  · have hnI : (2000 : Int) < (n : Int) := by omega
    go_enter Tryd.func33, Tryd.ntmps33
    go_wp2_with (first | ((with_reducible show wpList _ _ _ ({ dst := _, op := Op.slice _ _ _ _ _, type := _, pos := _, after := _, guard := _ } :: _) _ _); refine Does.list (does_slice (e := Rep.u8) (l := 0) (h := 2000) i hS rfl rfl hi rfl rfl (by omega) (by omega) rfl) rfl ?_; clear hS; rintro _ _ ⟨A4, c4, rfl, rfl, hS⟩; (simp only [Act.put, List.setIfInBounds_toArray, List.set_cons_zero, List.set_cons_succ])) | ((with_reducible show wpList _ _ _ ({ dst := _, op := Op.box _ _, type := _, pos := _, after := _, guard := _ } :: _) _ _); refine Does.list (does_box hS rfl rfl (by rfl)) rfl ?_; clear hS; rintro _ wx ⟨bo, rfl, hS, _⟩; (simp only [Act.put, List.setIfInBounds_toArray, List.set_cons_zero, List.set_cons_succ])))
    go_ret
    trace_state
    first | exact ⟨_, _, _, _, _, rfl, hS⟩ | exact ⟨_, _, _, _, hS⟩ | exact ⟨_, rfl, _, _, _, _, hS⟩
  · have hnI : ¬ (2000 : Int) < (n : Int) := by omega
    replace hS := hS.dupRo i hi
    go_enter Tryd.func33, Tryd.ntmps33
    go_wp2_with (first | ((with_reducible show wpList _ _ _ ({ dst := _, op := Op.box _ _, type := _, pos := _, after := _, guard := _ } :: _) _ _); refine Does.list (does_box hS rfl rfl (by rfl)) rfl ?_; clear hS; rintro _ wx ⟨bo, rfl, hS, _⟩; (simp only [Act.put, List.setIfInBounds_toArray, List.set_cons_zero, List.set_cons_succ])))
    go_ret
    trace_state
    first | exact ⟨_, _, _, _, _, rfl, hS⟩ | exact ⟨_, _, _, _, hS⟩ | exact ⟨_, rfl, _, _, _, _, hS⟩
theorem nameOk_key : nameOk { data := #[107, 101, 121] } = true := by decide +kernel
set_option maxHeartbeats 1000000 in
theorem laws_alive (w : World) (hR : ResOk w) : Calls Tryd.prog 14 #[] w fun e w' => e = .returned (.bool true) ∧ Mod [] w w' := by
  go_enter Tryd.func14, Tryd.ntmps14
  go_wp2_with (go_at_call 39; refine (impl_NameValid _ (by decide) _ hR).mono ?_; rintro e w' ⟨rfl, hM⟩)
  go_ret
  exact ⟨ret_bool nameOk_key, hM⟩


















end Go.Proofs.YthabgnhedmepjaaDoor
