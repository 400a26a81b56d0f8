/- DrawStreamAt. -/
import Derived.Test.YtemkgmgdjbpljaaDoorDrA
import Derived.Test.YtemkgmgdjbpljaaDoorKey
namespace Go.Proofs.YtemkgmgdjbpljaaDoor
open Go.RowKit

set_option maxHeartbeats 1000000 in
theorem spec_DrawStreamAt (w : World) (F : List Nat) (v : Value) (code : List UInt8) (hx : SliceHas Rep.u8 w F [v] code) :
    Calls Tryd.prog 15 #[v] w fun e w' => ∃ k n a : Int, e = .returned (.tuple #[.int .i64 k, .int .i64 n, .int .i64 a]) ∧ (I64 k ∧ I64 n ∧ I64 a) ∧ Mod [] w w' := by
  obtain ⟨A, c, rfl, hl, _⟩ := hx.form'
  have hS : Sat w w [.ro Rep.u8.slice [.slice A code.length c] code] := (Sat.nil w).arg hx
  go_enter Tryd.func15, Tryd.ntmps15
  go_wp2_with (first | (go_at_call 21; refine (spec_l20Open hS (i := 0) rfl).mono ?_; clear hS; rintro e w' ⟨br, Ar, nr, cr, cd, rfl, hS⟩) | (go_at_call 22; obtain ⟨hrd, up⟩ := Sat.rdF hS br; refine (spec_pick _ br _ _ _ _ _ hrd (by omega) (by omega)).mono ?_; rintro e w' ⟨⟨x, rfl, hx0, hx1, hx2⟩, hrd2, hM⟩; replace hS := (up _ _ hrd2 hM).1; clear up hrd hrd2 hM; (simp only [List.set_cons_zero, List.set_cons_succ] at hS)) | (go_at_call 28; obtain ⟨hrd, up⟩ := Sat.rdF hS br; refine (spec_l20Key _ br _ _ _ _ hrd (by omega)).mono ?_; rintro e w' ⟨⟨k1, k2, rfl, hk, hk2⟩, ⟨p2, hp2, hrd2⟩, hM⟩; replace hS := (up _ _ hrd2 hM).1; clear up hrd hrd2 hM; (simp only [List.set_cons_zero, List.set_cons_succ] at hS)))
  refine bodyPost_ret (v := .tuple #[.int .i64 k1, .int .i64 k2, .int .i64 (x - 1)]) (by simp [results, Tryd.results15, go_sem]) rfl ?_
  exact ⟨_, _, _, rfl, by unfold I64; omega, hS.mod0⟩
end Go.Proofs.YtemkgmgdjbpljaaDoor
