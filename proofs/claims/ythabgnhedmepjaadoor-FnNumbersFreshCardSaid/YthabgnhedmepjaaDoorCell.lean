/- What lies at an address, as a datum (a captured variable, a package-level variable). No function of the program occurs here. -/
import Derived.Test.YthabgnhedmepjaaDoorFind
namespace Go.Proofs.YthabgnhedmepjaaDoor
open Go.RowKit

/-- What lies at an address, as a datum. -/
def Rep.cellR (ad : Addr) : Rep (List Value) where
  size := 0
  has w F cs x := cs = [] ∧ F = [ad.block] ∧ ad.block < w.heap.size ∧ CellsAt w ad x
  len h := by rw [h.1]; rfl
  keep := by
    rintro w w' F cs x ⟨h1, rfl, h3, h4⟩ hk
    have hb : w'.heap[ad.block]? = w.heap[ad.block]? := hk _ (by simp)
    refine ⟨h1, rfl, ?_, h4.keep hb⟩
    rw [Array.getElem?_eq_getElem h3] at hb
    exact (Array.getElem?_eq_some_iff.1 hb).1
  lt h := by
    obtain ⟨_, rfl, h3, _⟩ := h
    simpa using h3
  one h := by rw [h.1]; simp
theorem Sat.argAt {w0 w : World} {Γ : List Fact} {F : List Nat} {ad : Addr} {cs : List Value} (h : Sat w0 w Γ) (hx : (Rep.cellR ad).has w0 F [] cs) : Sat w0 w (.at ad cs :: Γ) := by
  obtain ⟨R, O, ⟨O1, O2, rfl, ⟨rfl, F', ⟨_, rfl, _, hc⟩, hR⟩, k2⟩, h2, h3, h4, h5⟩ := h.arg hx
  exact ⟨R, _, ⟨[], O2, rfl, ⟨rfl, hR _ (by simp), hc⟩, k2⟩, h2, h3, h4, h5⟩
theorem Sat.boxR {w0 w : World} {Γ : List Fact} {b i : Nat} {cs : List Value} (h : Sat w0 w Γ) (hi : Γ[i]? = some (.box b cs)) : (Rep.cellR ⟨b, 0, none⟩).has w [b] [] cs := by
  have h1 := h.pull i hi
  refine ⟨rfl, rfl, ?_, fun j u hu => ?_⟩
  · obtain ⟨R, O, ⟨O1, O2, rfl, ⟨rfl, t, k1⟩, k2⟩, _⟩ := h1
    exact (Array.getElem?_eq_some_iff.1 k1).1
  · have := h1.cellAt hu
    rw [show Addr.add ⟨b, 0, none⟩ j = ⟨b, j, none⟩ by by_cases hj : j = 0 <;> simp [Addr.add, hj]]
    exact this

theorem cellR_of {w : World} {b o : Nat} {u : Value} (h : w.cell? ⟨b, o, none⟩ = some u) : (Rep.cellR ⟨b, o, none⟩).has w [b] [] [u] := by
  refine ⟨rfl, rfl, World.block_lt_of_cell? _ _ h, fun j v hv => ?_⟩
  match j, hv with
  | 0, hv =>
    simp only [List.getElem?_cons_zero, Option.some.injEq] at hv
    subst hv
    simpa [Addr.add] using h
  | j + 1, hv => simp at hv
section
variable {P : Program} {o : Oper} {a : Act} {w0 w : World} {Γ : List Fact} {α : Type}
theorem f_slice {T E : TypeId} {z : Value} {ag : Bool} {x : Operand} {lo hi : Option Operand} {A : Option Addr} {n c sz i : Nat} {xs : List α} (e : Rep α) (l h : Nat) (hS : Sat w0 w Γ) (ho : o.op = .slice T x lo hi none) (hx : a.eval x = .slice A n c) [hi' : RoIn Γ e.slice [.slice A n c] xs i]
    (hlo : BoundIs a lo 0 l) (hhi : BoundIs a hi n h) (h1 : l ≤ h) (h2 : h ≤ n) [hT : SlTy P T E] [hE : Ty P E z sz ag] (hsz : sz = e.size) :
    Does P o a w (fun v w' => ∃ A' c', v = .slice A' (h - l) c' ∧ w' = w ∧ Sat w0 w (.ro e.slice [.slice A' (h - l) c'] ((xs.take h).drop l) :: Γ)) := does_slice i hS ho hx hi'.get hlo hhi h1 h2 hsz
theorem ints_cells {w : World} : ∀ {xs : List Int} {F ces}, Rep.int.all w F ces xs → ces = xs.map (Value.int .i64)
  | [], _, _, h => h.2
  | _ :: _, _, _, ⟨_, _, _, _, _, e, ⟨_, e2, _⟩, h⟩ => by rw [e, e2, ints_cells h]; rfl
/-- All cells of a slice of ints that is not empty. -/
theorem Sat.cellsInt {A : Option Addr} {n c : Nat} {x : Int} {xs : List Int} (h : Sat w0 w Γ) (i : Nat) (hi : Γ[i]? = some (.ro Rep.int.slice [.slice A n c] (x :: xs))) :
    ∃ ad, A = some ad ∧ Sat w0 w (.at ad ((x :: xs).map (Value.int .i64)) :: Γ) := by
  obtain ⟨R, O, ⟨O1, O2, rfl, ⟨rfl, F, hF, hR⟩, k2⟩, k3, k4, k5, k6⟩ := h.pull i hi
  obtain ⟨a', n', cap', ces, F', hv, h1, h2, h3, h4, h5⟩ := id hF
  simp only [List.cons.injEq, Value.slice.injEq, and_true] at hv
  obtain ⟨rfl, rfl, rfl⟩ := hv
  rcases h5 with ⟨h0, _⟩ | ⟨ad, rfl, rfl, hb, hc⟩
  · rw [h0] at h1; cases h1
  rw [ints_cells h4] at hc
  refine ⟨ad, rfl, ?_⟩
  have hS2 : Sat w0 w (.at ad ((x :: xs).map (Value.int .i64)) :: .ro Rep.int.slice [.slice (some ad) n c] (x :: xs) :: Γ.eraseIdx i) :=
    ⟨R, O2, ⟨[], O2, rfl, ⟨rfl, hR _ (by simp), hc⟩, [], O2, rfl, ⟨rfl, _, hF, hR⟩, k2⟩, k3, k4, k5, k6⟩
  exact hS2.perm ((perm_erase i hi).symm.cons _)
end
end Go.Proofs.YthabgnhedmepjaaDoor
