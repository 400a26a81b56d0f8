/- A result that lies in a variable. No function of the program occurs here. -/
import Derived.Test.YthabgnhedmepjaaDoorFind
namespace Go.Proofs.YthabgnhedmepjaaDoor
open Go.RowKit
theorem Sat.resultCell {P : Program} {w0 w : World} {Γ : List Fact} {fn : Func} {tmps : Array Value} {t : Tmp} {T : TypeId} {z : Value} {n b i : Nat} {cs : List Value} (hS : Sat w0 w Γ) (h : fn.results = #[.cell t T]) (ht : tmps.getD t undef = .pointer (some ⟨b, 0, none⟩))
    [hi : BoxAt Γ b cs i] [hT : Ty P T z n true] (hl : cs.length = n) : (results fn tmps).run P w = .ok (.agg cs.toArray) w := by
  have hc := hS.boxCells hi.get
  have hv : (loadVar T ⟨b, 0, none⟩).run P w = .ok (.agg cs.toArray) w := by
    subst hl
    simp [loadVar, run_isAgg hT, run_sizeOf hT, run_loadCells_list w _ cs hc]
  have ht' : tmps[t]?.getD undef = .pointer (some ⟨b, 0, none⟩) := by simpa using ht
  simp [results, h, ht', asAddr, hv]
end Go.Proofs.YthabgnhedmepjaaDoor
