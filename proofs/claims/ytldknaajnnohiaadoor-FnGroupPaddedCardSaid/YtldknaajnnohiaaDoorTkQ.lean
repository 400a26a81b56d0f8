/- ProjectRows: the program's contract; tables compared; what TakePadded's law wants. -/
import Derived.Test.YtldknaajnnohiaaDoorSho
import Derived.Test.YtldknaajnnohiaaDoorTkR
import Derived.Test.YtldknaajnnohiaaDoorTakL
import Derived.Test.YtldknaajnnohiaaDoorEqD
import Derived.Test.YtldknaajnnohiaaDoorSPl
namespace Go.Proofs.YtldknaajnnohiaaDoor
open Go.RowKit

/-- What ProjectRows returns. -/
def projF (t : TableD) (cols : List ByteArray) : TableD × Bool := if tableOk t && takenB t.1 cols then ((cols, takeRows t.1 cols t.2), true) else (zeroT, false)
set_option maxHeartbeats 2000000 in
theorem laws_sameTable (w : World) (A1 A2 B1 B2 : Option Addr) (a1 a2 b1 b2 : Nat) (F1 F2 G1 G2 : List Nat) (ns ms : List ByteArray) (rows ows : List (List Int)) (h1 : SliceHas Rep.str w F1 [.slice A1 ns.length a1] ns) (h2 : SliceHas Rep.int.slice w F2 [.slice A2 rows.length a2] rows) (k1 : SliceHas Rep.str w G1 [.slice B1 ms.length b1] ms) (k2 : SliceHas Rep.int.slice w G2 [.slice B2 ows.length b2] ows) :
    Calls Tryd.prog 34 #[.agg #[.slice A1 ns.length a1, .slice A2 rows.length a2], .agg #[.slice B1 ms.length b1, .slice B2 ows.length b2]] w fun e w' => e = .returned (.bool (eqB ns ms && eqB rows ows)) ∧ Mod [] w w' := by
  have hS : Sat w w [] := Sat.nil w
  obtain ⟨q1, e1⟩ : ∃ b, eqB ns ms = b := ⟨_, rfl⟩
  obtain ⟨q2, e2⟩ : ∃ b, eqB rows ows = b := ⟨_, rfl⟩
  have H1 := Lib.hid e1
  have H2 := Lib.hid e2
  rw [e1, e2]
  clear e1 e2
  go_enter Tryd.func34, Tryd.ntmps34
  cases q1 <;> cases q2
  all_goals
    go_wp2_with (first | (go_at_call 21; refine (laws_sameTexts _ _ _ _ _ _ _ (Rep.str.slice.mod0 h1 hS.mod0) (Rep.str.slice.mod0 k1 hS.mod0)).mono ?_; rintro e w' ⟨rfl, hM⟩; replace hS := hS.mod hM; clear hM; (simp only [H1.out])) | (go_at_call 75; refine (laws_sameRows _ _ _ _ _ _ _ (Rep.int.slice.slice.mod0 h2 hS.mod0) (Rep.int.slice.slice.mod0 k2 hS.mod0)).mono ?_; rintro e w' ⟨rfl, hM⟩; replace hS := hS.mod hM; clear hM; (simp only [H2.out])) | ((with_reducible show wpList _ _ _ (⟨_, Op.box _ _, _, _, _, _⟩ :: _) _ _); refine Does.list (does_box hS rfl rfl (by rfl)) rfl ?_; clear hS; rintro _ wx ⟨bo, rfl, hS, _⟩; (simp only [Act.put, sA, sZ, sS])) | ((with_reducible show wpList _ _ _ (⟨_, Op.load _ _, _, _, _, _⟩ :: _) _ _); (first | refine Gives.list (f_load hS rfl rfl (by rfl)) rfl ?_ | refine Gives.list (f_loadS hS rfl rfl (by rfl)) rfl ?_ | refine Gives.list (f_loadAt hS rfl rfl) rfl ?_ | refine Gives.list (f_loadAtS hS rfl rfl (by rfl)) rfl ?_ | refine Gives.list (f_loadAtF hS rfl rfl (by rfl)) rfl ?_); (simp only [Act.put, sA, sZ, sS])))
    go_ret
    exact ⟨rfl, hS.mod0⟩
/-! ### The plain law -/
section
variable {ns cols : List ByteArray} {rows : List (List Int)} {real : List Bool} {n : Nat} {b : Bool} {r : List Int}
theorem realRows_ok (h1 : paddedOk (ns, rows, real) = true) (h2 : real.countP id ≤ 16) : tableOk (ns, realRows rows real) = true := by
  have hz := padded_zip h1
  have hn := (paddedOk_all4 h1).1
  have hlen : (realRows rows real).length = real.countP id := by
    unfold realRows
    rw [List.length_map, ← List.countP_eq_length_filter]
    conv => rhs; rw [← List.map_snd_zip (l₁ := rows) (l₂ := real) (by have := (padded_lenC h1).2; omega)]
    rw [List.countP_map]; rfl
  unfold tableOk
  rw [hn, hlen, decide_eq_true h2]
  simp only [Bool.true_and, List.all_eq_true]
  intro r hr
  unfold realRows at hr
  obtain ⟨x, hx, rfl⟩ := List.mem_map.1 hr
  have hx2 := hz x (List.mem_filter.1 hx).1
  unfold rowOkZ padRow at hx2
  simp only [Bool.and_eq_true, decide_eq_true_eq, Bool.not_eq_true', List.any_eq_false] at hx2
  unfold fitRow
  simp only [Bool.and_eq_true, decide_eq_true_eq, Bool.not_eq_true', List.any_eq_false]
  refine ⟨hx2.1, fun y hy => ?_⟩
  have h5 := hx2.2 y hy
  unfold padBad at h5
  simp only [Bool.or_eq_true, not_or] at h5
  exact h5.1
end
end Go.Proofs.YtldknaajnnohiaaDoor
