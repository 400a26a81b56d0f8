/- Padded tables: results, and how many columns they have. -/
import Derived.Test.YtldknaajnnohiaaDoorPdv
import Derived.Test.YtldknaajnnohiaaDoorSatT
import Derived.Test.YtldknaajnnohiaaDoorFind
import Derived.Test.YtldknaajnnohiaaDoorMkDefsT
section
namespace Go.Proofs.YtldknaajnnohiaaDoor
open Go.RowKit

def zeroP : PaddedD := ([], [], [])
theorem Sat.resultCellTmp {P : Program} {w0 w : World} {Γ : List Fact} {fn : Func} {tmps : Array Value} {u t : Tmp} {T : TypeId} {z : Value} {n b i : Nat} {cs : List Value} (hS : Sat w0 w Γ) (h : fn.results = #[.cell t T, .tmp u]) (ht : tmps.getD t undef = .pointer (some ⟨b, 0, none⟩))
    [hi : BoxAt Γ b cs i] [hT : Ty P T z n true] (hl : cs.length = n) : (results fn tmps).run P w = .ok (.tuple #[.agg cs.toArray, tmps.getD u undef]) w := by
  have hc := hS.boxCells hi.get
  have hv : (loadVar T ⟨b, 0, none⟩).run P w = .ok (.agg cs.toArray) w := by
    subst hl
    simp [loadVar, run_isAgg hT, run_sizeOf hT, run_loadCells_list w _ cs hc]
  have ht' : tmps[t]?.getD undef = .pointer (some ⟨b, 0, none⟩) := by simpa using ht
  simp [results, h, ht', asAddr, hv]
theorem Sat.zeroPadded {w0 w : World} {Γ : List Fact} (h : Sat w0 w Γ) : Sat w0 w (.own oPadded [.slice none 0 0, .slice none 0 0, .slice none 0 0] zeroP :: Γ) :=
  Sat.mkPadded (Sat.nilRow Rep.bool (Sat.nilRow Rep.int.rows (Sat.nilRow Rep.str h)))
theorem padded_rows6 {ns : List ByteArray} {rows : List (List Int)} {real : List Bool} (h : paddedOk (ns, rows, real) = true) : ns.length ≤ 6 ∧ ∀ r ∈ rows, r.length = ns.length := by
  unfold paddedOk at h
  simp only [Bool.and_eq_true] at h
  have hn := h.1
  have h3 := h.2.2.2
  rw [padRows_fit] at h3
  simp only [Bool.and_eq_true, List.all_eq_true] at h3
  unfold namesOk at hn
  simp only [Bool.and_eq_true] at hn
  have h5 := (inB_of hn.2.2).2
  refine ⟨by omega, fun r hr => ?_⟩
  have h4 := h3.1 r hr
  unfold fitRow at h4
  simp only [Bool.and_eq_true, decide_eq_true_eq] at h4
  exact h4.1
end Go.Proofs.YtldknaajnnohiaaDoor
end

section
namespace Go.Proofs.YtldknaajnnohiaaDoor
open Go.RowKit

end Go.Proofs.YtldknaajnnohiaaDoor
end
