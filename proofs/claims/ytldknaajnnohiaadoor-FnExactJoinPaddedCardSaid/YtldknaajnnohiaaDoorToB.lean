/- Contracts of to.. for structs with slices. -/
import Derived.Test.YtldknaajnnohiaaDoorToA
import Derived.Test.YtldknaajnnohiaaDoorSatT
import Derived.Test.YtldknaajnnohiaaDoorFind
import Derived.Test.YtldknaajnnohiaaDoorTys
section
namespace Go.Proofs.YtldknaajnnohiaaDoor
open Go.RowKit
attribute [local go_sem] ext_cell













end Go.Proofs.YtldknaajnnohiaaDoor
end

section
namespace Go.Proofs.YtldknaajnnohiaaDoor
open Go.RowKit

set_option maxHeartbeats 2000000 in
set_option maxRecDepth 8000 in
theorem toPadded_any (w : World) (F : List Nat) (cs : List Value) (x : PaddedD) (hx : rPadded.has w F cs x) (hn : szPadded x ≤ 1048576) :
    Calls Tryd.prog 43 #[.agg cs.toArray] w fun e w' => ∃ cs', e = .returned (.agg cs'.toArray) ∧ Fresh rPadded w w' cs' x := by
  obtain ⟨A0, c0, F0, A1, c1, F1, A2, c2, F2, rfl, _, h0, h1, h2⟩ := rPadded_open hx
  obtain ⟨x0, x1, x2⟩ := x
  have hz : szL szStr x0 + szL (szL szZ) x1 + szL szZ x2 ≤ 1048576 := hn
  have hS : Sat w w [.ro Rep.str.slice [.slice A0 x0.length c0] x0, .ro Rep.int.slice.slice [.slice A1 x1.length c1] x1, .ro Rep.bool.slice [.slice A2 x2.length c2] x2] := (((Sat.nil w).arg h2).arg h1).arg h0
  clear hx h0 h1 h2 hn
  go_enter Tryd.func43, Tryd.ntmps43
  go_wp2_with (first | (go_at_call 105; obtain ⟨Fq, hFq⟩ := hS.has Rep.str.slice [.slice A0 x0.length c0]; refine (toStringS_any _ _ _ _ hFq (by omega)).mono ?_; rintro e w' ⟨v0, rfl, hN⟩; replace hS := hS.fresh hN; clear hN hFq; obtain ⟨B0, d0, rfl⟩ := hS.formW 0 rfl) | (go_at_call 106; obtain ⟨Fq, hFq⟩ := hS.has Rep.int.slice.slice [.slice A1 x1.length c1]; refine (toIntSS_any _ _ _ _ hFq (by omega)).mono ?_; rintro e w' ⟨v1, rfl, hN⟩; replace hS := hS.fresh hN; clear hN hFq; obtain ⟨B1, d1, rfl⟩ := hS.formW 0 rfl) | (go_at_call 107; obtain ⟨Fq, hFq⟩ := hS.has Rep.bool.slice [.slice A2 x2.length c2]; refine (toBoolS_any _ _ _ _ hFq (by omega)).mono ?_; rintro e w' ⟨v2, rfl, hN⟩; replace hS := hS.fresh hN; clear hN hFq; obtain ⟨B2, d2, rfl⟩ := hS.formW 0 rfl) | ((with_reducible show wpList _ _ _ (⟨_, Op.store _ _ _, _, _, _, _⟩ :: _) _ _); (first | refine Does.list (f_store (u := .int .i64 _) hS rfl rfl rfl (by rfl) (by rfl)) rfl ?_ | refine Does.list (f_store (u := .slice _ _ _) hS rfl rfl rfl (by rfl) (by rfl)) rfl ?_ | refine Does.list (f_store (u := .string _) hS rfl rfl rfl (by rfl) (by rfl)) rfl ?_ | refine Does.list (f_store (u := .bool _) hS rfl rfl rfl (by rfl) (by rfl)) rfl ?_); clear hS; rintro _ wx ⟨rfl, hS⟩; (simp only [List.set_cons_zero, List.set_cons_succ] at hS); (simp only [Act.put, List.setIfInBounds_toArray, List.set_cons_zero, List.set_cons_succ])) | ((with_reducible show wpList _ _ _ (⟨_, Op.box _ _, _, _, _, _⟩ :: _) _ _); refine Does.list (does_box hS rfl rfl (by rfl)) rfl ?_; clear hS; rintro _ wx ⟨bo, rfl, hS, _⟩; (simp only [Act.put, List.setIfInBounds_toArray, List.set_cons_zero, List.set_cons_succ])) | ((with_reducible show wpList _ _ _ (⟨_, Op.load _ _, _, _, _, _⟩ :: _) _ _); (first | refine Gives.list (f_load hS rfl rfl (by rfl)) rfl ?_ | refine Gives.list (f_loadS hS rfl rfl (by rfl)) rfl ?_ | refine Gives.list (f_loadAt hS rfl rfl) rfl ?_ | refine Gives.list (f_loadAtS hS rfl rfl (by rfl)) rfl ?_ | refine Gives.list (f_loadAtF hS rfl rfl (by rfl)) rfl ?_); (simp only [Act.put, List.setIfInBounds_toArray, List.set_cons_zero, List.set_cons_succ])) | ((with_reducible show wpList _ _ _ (⟨_, Op.store _ _ _, _, _, _, _⟩ :: _) _ _); (first | refine Does.list (f_store hS rfl rfl rfl (by rfl) (by rfl)) rfl ?_ | refine Does.list (f_storeS hS rfl rfl rfl (by rfl) (by rfl) (by rfl)) rfl ?_); clear hS; rintro _ wx ⟨rfl, hS⟩; (simp only [List.set_cons_zero, List.set_cons_succ] at hS); (simp only [Act.put, List.setIfInBounds_toArray, List.set_cons_zero, List.set_cons_succ])) | ((with_reducible show wpList _ _ _ (⟨_, Op.alloc _, _, _, _, _⟩ :: _) _ _); refine Does.list (does_alloc hS rfl (by rfl)) rfl ?_; clear hS; rintro _ wx ⟨ba, rfl, hS, _⟩; (simp only [Act.put, List.setIfInBounds_toArray, List.set_cons_zero, List.set_cons_succ])))
  (try simp only [Exit.inBlock, Exit.then])
  refine bodyPost_ret (hS.resultCell rfl rfl (by rfl)) rfl ?_
  exact ⟨_, rfl, (Sat.pair (Sat.sel (Γ' := [.own Rep.str.slice [.slice B0 x0.length d0] x0, .own (Rep.pair Rep.int.slice.slice Rep.bool.slice) [.slice B1 x1.length d1, .slice B2 x2.length d2] (x1, x2)]) [1, 0] (Sat.pair (Sat.sel (Γ' := [.own Rep.int.slice.slice [.slice B1 x1.length d1] x1, .own Rep.bool.slice [.slice B2 x2.length d2] x2, .own Rep.str.slice [.slice B0 x0.length d0] x0]) [1, 0, 2] hS rfl (by decide))) rfl (by decide))).result⟩
end Go.Proofs.YtldknaajnnohiaaDoor
end
