/- CutPadded: the contracts as the law wants them; how many marks its result has. -/
import Derived.Test.YtldknaajnnohiaaDoorCutS
import Derived.Test.YtldknaajnnohiaaDoorPSa
namespace Go.Proofs.YtldknaajnnohiaaDoor
open Go.RowKit

theorem cutF_cases (p : PaddedD) (size : Int) : cutF p size = (zeroP, false) ∨ (paddedOk p = true ∧ inB size 0 256 = true ∧ cutF p size = ((p.1, p.2.1.take (cutM size p.2.1.length), p.2.2.take (cutM size p.2.1.length)), true)) := by
  unfold cutF
  split
  · rename_i h
    simp only [Bool.and_eq_true] at h
    split
    · exact .inl rfl
    · exact .inr ⟨h.1, h.2, rfl⟩
  · exact .inl rfl
theorem ct_cut (p : PaddedD) (size : Int) : ctvPadded (cutF p size).1 ≤ 3000 := by
  rcases cutF_cases p size with h | ⟨h1, -, h⟩
  · rw [h]; show ctvPadded zeroP ≤ _; rw [ctvP_zero]; omega
  · rw [h]
    obtain ⟨ns, rows, real⟩ := p
    obtain ⟨h2, h3⟩ := padded_rows6 h1
    obtain ⟨h4, h5⟩ := padded_lenC h1
    have := ctvP_le (ns := ns) (rows := rows.take (cutM size rows.length)) (real := real.take (cutM size rows.length)) (a := 6) (b := 256) (c := 6) h2 (by rw [List.length_take]; omega) (fun r hr => by rw [h3 r (List.mem_of_mem_take hr)]; exact h2) (by rw [List.length_take]; omega)
    exact Nat.le_trans this (by omega)
theorem spec_CutPaddedL (size : Int) (w : World) (cs : List Value) (F : List Nat) (p : PaddedD) (h : rPadded.has w F cs p) :
    Calls Tryd.prog 37 #[.agg cs.toArray, .int .i64 size] w fun e w' => ∃ cs, e = .returned (.tuple #[.agg cs.toArray, .bool (cutF p size).2]) ∧ Fresh rPadded w w' cs (cutF p size).1 := by
  obtain ⟨A0, c0, F0, A1, c1, F1, A2, c2, F2, rfl, -, h0, h1, h2⟩ := rPadded_open h
  obtain ⟨ns, rows, real⟩ := p
  exact spec_CutPadded' size w A0 A1 A2 c0 c1 c2 F0 F1 F2 ns rows real h0 h1 h2
theorem impl_CutPaddedL (size : Int) (w : World) (hR : ResOk w) (cs : List Value) (F : List Nat) (p : PaddedD) (h : rPadded.has w F cs p) :
    Calls Tryd.prog 36 #[.agg cs.toArray, .int .i64 size] w fun e w' => ∃ cs, e = .returned (.tuple #[.agg cs.toArray, .bool (cutF p size).2]) ∧ Fresh oPadded w w' cs (cutF p size).1 := by
  obtain ⟨A0, c0, F0, A1, c1, F1, A2, c2, F2, rfl, -, h0, h1, h2⟩ := rPadded_open h
  obtain ⟨ns, rows, real⟩ := p
  exact impl_CutPadded' size w hR A0 A1 A2 c0 c1 c2 F0 F1 F2 ns rows real h0 h1 h2
end Go.Proofs.YtldknaajnnohiaaDoor
