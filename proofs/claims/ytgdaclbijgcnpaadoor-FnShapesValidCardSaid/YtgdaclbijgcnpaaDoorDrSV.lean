/- DrawShapesValid, DrawShapeText. -/
import Derived.Test.YtgdaclbijgcnpaaDoorDrSh
namespace Go.Proofs.YtgdaclbijgcnpaaDoor
open Go.RowKit

set_option maxHeartbeats 1000000 in
theorem spec_DrawShapesValid (w : World) (F : List Nat) (v : Value) (code : List UInt8) (hx : SliceHas Rep.u8 w F [v] code) :
    Calls Tryd.prog 20 #[v] w fun e w' => ∃ v xs, e = .returned v ∧ (xs.length ≤ 3 ∧ NamesSm xs) ∧ Fresh oShape.rows w w' [v] xs := by
  obtain ⟨A, c, rfl, hl, _⟩ := hx.form'
  have hS : Sat w w [.ro Rep.u8.slice [.slice A code.length c] code] := (Sat.nil w).arg hx
  clear hx
  go_enter Tryd.func20, Tryd.ntmps20
  go_wp2_with (first | (go_at_call 57; refine (spec_l20Open hS (i := 0) rfl).mono ?_; clear hS; rintro e w' ⟨br, Ar, nr, cr, cd, rfl, hS⟩) | (go_at_call 56; obtain ⟨hrd, up⟩ := Sat.rdF hS br; refine (spec_l20Shapes _ br _ _ _ _ _ (by decide) (by decide) hrd (by omega)).mono ?_; rintro e w' ⟨v, xs, rfl, ⟨hxl, hxs⟩, hN, ⟨p1, hp1, hrd2⟩, hM⟩; replace hS := (up _ _ hrd2 hM).2 _ _ _ hN; clear up hrd hrd2 hM hN))
  go_ret
  exact ⟨_, xs, rfl, ⟨hxl, hxs⟩, hS.result⟩
set_option maxHeartbeats 1000000 in
theorem spec_DrawShapeText (w : World) (F : List Nat) (v : Value) (code : List UInt8) (hx : SliceHas Rep.u8 w F [v] code) :
    Calls Tryd.prog 41 #[v] w fun e w' => ∃ v xs, e = .returned v ∧ (xs.length ≤ 3 ∧ NamesSm xs) ∧ Fresh oShape.rows w w' [v] xs := by
  obtain ⟨A, c, rfl, hl, _⟩ := hx.form'
  have hS : Sat w w [.ro Rep.u8.slice [.slice A code.length c] code] := (Sat.nil w).arg hx
  clear hx
  go_enter Tryd.func41, Tryd.ntmps41
  go_wp2_with (first | (go_at_call 57; refine (spec_l20Open hS (i := 0) rfl).mono ?_; clear hS; rintro e w' ⟨br, Ar, nr, cr, cd, rfl, hS⟩) | (go_at_call 56; obtain ⟨hrd, up⟩ := Sat.rdF hS br; refine (spec_l20Shapes _ br _ _ _ _ _ (by decide) (by decide) hrd (by omega)).mono ?_; rintro e w' ⟨v, xs, rfl, ⟨hxl, hxs⟩, hN, ⟨p1, hp1, hrd2⟩, hM⟩; replace hS := (up _ _ hrd2 hM).2 _ _ _ hN; clear up hrd hrd2 hM hN))
  go_ret
  exact ⟨_, xs, rfl, ⟨hxl, hxs⟩, hS.result⟩
end Go.Proofs.YtgdaclbijgcnpaaDoor
