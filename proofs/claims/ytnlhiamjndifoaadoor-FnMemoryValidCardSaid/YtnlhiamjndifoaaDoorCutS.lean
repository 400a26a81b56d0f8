/- CutPadded: the reference's contract. -/
import Derived.Test.YtnlhiamjndifoaaDoorCutP
import Derived.Test.YtnlhiamjndifoaaDoorCopy
import Derived.Test.YtnlhiamjndifoaaDoorPSa
section
namespace Go.Proofs.YtnlhiamjndifoaaDoor
open Go.RowKit

theorem Sat.mkPaddedR {w0 w : World} {Γ : List Fact} {x0 : (List ByteArray)} {v0 : Value} {x1 : (List (List Int))} {v1 : Value} {x2 : (List Bool)} {v2 : Value} (h : Sat w0 w (.own Rep.bool.slice [v2] x2 :: .own (Rep.int.slice).slice [v1] x1 :: .own Rep.str.slice [v0] x0 :: Γ)) : Sat w0 w (.own rPadded [v0, v1, v2] (x0, x1, x2) :: Γ) := by
  replace h := Sat.swap h
  replace h := Sat.pair h
  replace h := Sat.swap h
  replace h := Sat.pair h
  exact h
theorem Sat.weakO {α : Type} {e e' : Rep α} [hs : Sub e e'] {w0 w : World} {Γ : List Fact} {cs : List Value} {x : α} (h : Sat w0 w (.own e cs x :: Γ)) : Sat w0 w (.own e' cs x :: Γ) := h.conv (fun _ k => hs.imp k)
/-- Prefixes of the two lists, and the names, are a padded table. -/
theorem Sat.cutPadded {w0 w : World} {Γ : List Fact} {A1 A2 A3 : Option Addr} {c1 c2 c3 n1 M m n : Nat} {ns : List ByteArray} {rows : List (List Int)} {real : List Bool} (h : Sat w0 w (.own Rep.bool.rows [.slice A3 m c3] real :: .own Rep.int.rows.rows [.slice A2 n c2] rows :: .own Rep.str.rows [.slice A1 n1 c1] ns :: Γ)) (hm : M ≤ m) (hn : M ≤ n) :
    Sat w0 w (.own rPadded [.slice A1 n1 c1, .slice A2 M c2, .slice A3 M c3] (ns, rows.take M, real.take M) :: Γ) := by
  have h1 := Sat.takeOwn (Sat.weakO (e' := Rep.bool.slice) h) hm
  have h2 := Sat.takeOwn (Sat.weakO (e' := Rep.int.slice.slice) (h1.pull 1 rfl)) hn
  have h3 := Sat.weakO (e' := Rep.str.slice) (h2.pull 2 rfl)
  exact Sat.mkPaddedR ((h3.pull 1 rfl).pull 2 rfl)
theorem any_drop_f {real : List Bool} {M : Nat} (h : ∀ (j : Nat) (hj : j < real.length), M ≤ j → real[j] = false) : (real.drop M).any id = false := by
  rw [List.any_eq_false]
  intro x hx
  obtain ⟨k, hk, rfl⟩ := List.mem_iff_getElem.1 hx
  rw [List.getElem_drop, h (M + k) (by rw [List.length_drop] at hk; omega) (by omega)]
  simp
theorem any_drop_t {real : List Bool} {M j : Nat} (hj : j < real.length) (hM : M ≤ j) (h : real[j] = true) : (real.drop M).any id = true := by
  rw [List.any_eq_true]
  refine ⟨real[j], ?_, h⟩
  rw [List.mem_iff_getElem]
  exact ⟨j - M, by rw [List.length_drop]; omega, by rw [List.getElem_drop]; congr 1; omega⟩






























































































end Go.Proofs.YtnlhiamjndifoaaDoor
end

section
namespace Go.Proofs.YtnlhiamjndifoaaDoor
open Go.RowKit

theorem cutF_cases (p : PaddedD) (size : Int) : cutF p size = (zeroP, false) ∨ (paddedOk p = true ∧ inB size 0 256 = true ∧ cutF p size = ((p.1, p.2.1.take (cutM size p.2.1.length), p.2.2.take (cutM size p.2.1.length)), true)) := by
  unfold cutF
  split
  · rename_i h
    simp only [Bool.and_eq_true] at h
    split
    · exact .inl rfl
    · exact .inr ⟨h.1, h.2, rfl⟩
  · exact .inl rfl
theorem ct_cut (p : PaddedD) (size : Int) : ctvPadded (cutF p size).1 ≤ 3000 := by
  rcases cutF_cases p size with h | ⟨h1, -, h⟩
  · rw [h]; show ctvPadded zeroP ≤ _; rw [ctvP_zero]; omega
  · rw [h]
    obtain ⟨ns, rows, real⟩ := p
    obtain ⟨h2, h3⟩ := padded_rows6 h1
    obtain ⟨h4, h5⟩ := padded_lenC h1
    have := ctvP_le (ns := ns) (rows := rows.take (cutM size rows.length)) (real := real.take (cutM size rows.length)) (a := 6) (b := 256) (c := 6) h2 (by rw [List.length_take]; omega) (fun r hr => by rw [h3 r (List.mem_of_mem_take hr)]; exact h2) (by rw [List.length_take]; omega)
    exact Nat.le_trans this (by omega)










end Go.Proofs.YtnlhiamjndifoaaDoor
end
