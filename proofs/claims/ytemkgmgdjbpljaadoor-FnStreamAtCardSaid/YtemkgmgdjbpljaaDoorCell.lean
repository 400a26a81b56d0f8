/- What lies at an address, as a datum (a captured variable, a package-level variable). No function of the program occurs here. -/
import Derived.Test.YtemkgmgdjbpljaaDoorFind
namespace Go.Proofs.YtemkgmgdjbpljaaDoor
open Go.RowKit

/-- What lies at an address, as a datum. -/
def Rep.cellR (ad : Addr) : Rep (List Value) where
  size := 0
  has w F cs x := cs = [] ∧ F = [ad.block] ∧ ad.block < w.heap.size ∧ CellsAt w ad x
  len h := by rw [h.1]; rfl
  keep := by
    rintro w w' F cs x ⟨h1, rfl, h3, h4⟩ hk
    have hb : w'.heap[ad.block]? = w.heap[ad.block]? := hk _ (by simp)
    refine ⟨h1, rfl, ?_, h4.keep hb⟩
    rw [Array.getElem?_eq_getElem h3] at hb
    exact (Array.getElem?_eq_some_iff.1 hb).1
  lt h := by
    obtain ⟨_, rfl, h3, _⟩ := h
    simpa using h3
  one h := by rw [h.1]; simp
theorem Sat.argAt {w0 w : World} {Γ : List Fact} {F : List Nat} {ad : Addr} {cs : List Value} (h : Sat w0 w Γ) (hx : (Rep.cellR ad).has w0 F [] cs) : Sat w0 w (.at ad cs :: Γ) := by
  obtain ⟨R, O, ⟨O1, O2, rfl, ⟨rfl, F', ⟨_, rfl, _, hc⟩, hR⟩, k2⟩, h2, h3, h4, h5⟩ := h.arg hx
  exact ⟨R, _, ⟨[], O2, rfl, ⟨rfl, hR _ (by simp), hc⟩, k2⟩, h2, h3, h4, h5⟩
theorem Sat.boxR {w0 w : World} {Γ : List Fact} {b i : Nat} {cs : List Value} (h : Sat w0 w Γ) (hi : Γ[i]? = some (.box b cs)) : (Rep.cellR ⟨b, 0, none⟩).has w [b] [] cs := by
  have h1 := h.pull i hi
  refine ⟨rfl, rfl, ?_, fun j u hu => ?_⟩
  · obtain ⟨R, O, ⟨O1, O2, rfl, ⟨rfl, t, k1⟩, k2⟩, _⟩ := h1
    exact (Array.getElem?_eq_some_iff.1 k1).1
  · have := h1.cellAt hu
    rw [show Addr.add ⟨b, 0, none⟩ j = ⟨b, j, none⟩ by by_cases hj : j = 0 <;> simp [Addr.add, hj]]
    exact this

theorem cellR_of {w : World} {b o : Nat} {u : Value} (h : w.cell? ⟨b, o, none⟩ = some u) : (Rep.cellR ⟨b, o, none⟩).has w [b] [] [u] := by
  refine ⟨rfl, rfl, World.block_lt_of_cell? _ _ h, fun j v hv => ?_⟩
  match j, hv with
  | 0, hv =>
    simp only [List.getElem?_cons_zero, Option.some.injEq] at hv
    subst hv
    simpa [Addr.add] using h
  | j + 1, hv => simp at hv
end Go.Proofs.YtemkgmgdjbpljaaDoor
