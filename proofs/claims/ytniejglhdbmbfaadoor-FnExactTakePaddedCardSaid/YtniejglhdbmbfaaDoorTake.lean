/- Prefixes of slices: what one reads, and what one owns. No function of the program occurs here. -/
import Derived.Test.YtniejglhdbmbfaaDoorFind
namespace Go.Proofs.YtniejglhdbmbfaaDoor
open Go.RowKit

section
variable {α : Type} {e : Rep α} {w w0 : World} {Γ : List Fact}
theorem cutAt_zero (A : Option Addr) (c s : Nat) : cutAt A 0 c s = A := by
  unfold cutAt
  split
  · rfl
  · cases A with
    | none => rfl
    | some ad => simp [Addr.add]
theorem SliceHas.prefix {F : List Nat} {A : Option Addr} {n c h : Nat} {xs : List α} (hx : SliceHas e w F [.slice A n c] xs) (h2 : h ≤ n) :
    ∃ F', SliceHas e w F' [.slice A h c] (xs.take h) ∧ F'.Sublist F := by
  have hn := SliceHas.n hx
  obtain ⟨a', n', cap', ces, Fe, hv, k1, k2, k3, k4, k5⟩ := hx
  simp only [List.cons.injEq, Value.slice.injEq, and_true] at hv
  obtain ⟨rfl, rfl, rfl⟩ := hv
  have hlen : (xs.take h).length = h := by simp; omega
  by_cases h0 : h = 0
  · subst h0
    exact ⟨[], ⟨_, _, _, [], [], rfl, hlen, by omega, by omega, by simp; exact ⟨rfl, rfl⟩, .inl ⟨rfl, rfl⟩⟩, by simp⟩
  · rcases k5 with ⟨hz, _⟩ | ⟨ad, rfl, rfl, hb, hc⟩
    · omega
    have hsplit : xs = xs.take h ++ xs.drop h := (List.take_append_drop h xs).symm
    rw [hsplit] at k4
    obtain ⟨F1, F2, c1, c2, rfl, rfl, a1, a2⟩ := Rep.all_split k4
    refine ⟨ad.block :: F1, ⟨_, _, _, c1, F1, rfl, hlen, by omega, by omega, a1, .inr ⟨ad, rfl, rfl, hb, ?_⟩⟩, (List.sublist_append_left F1 F2).cons_cons _⟩
    intro j u hu
    refine hc _ u ?_
    have hj : j < c1.length := (List.getElem?_eq_some_iff.1 hu).1
    rw [List.getElem?_append_left hj]
    exact hu
theorem SliceHas.capLe {F : List Nat} {A : Option Addr} {n c : Nat} {xs : List α} (hx : SliceHas e w F [.slice A n c] xs) : n ≤ c := by
  obtain ⟨a', n', cap', ces, Fe, hv, k1, k2, k3, k4, k5⟩ := hx
  simp only [List.cons.injEq, Value.slice.injEq, and_true] at hv
  omega
theorem Sat.takeRo {A : Option Addr} {n c h : Nat} {xs : List α} (hS : Sat w0 w Γ) (i : Nat) (hi : Γ[i]? = some (.ro e.slice [.slice A n c] xs)) (h2 : h ≤ n) :
    Sat w0 w (.ro e.slice [.slice A h c] (xs.take h) :: Γ) := by
  have := hS.cutRo i hi (Nat.zero_le h) h2
  simpa [cutAt_zero] using this
/-- A prefix of one's own slice; the rest is given up. -/
theorem Sat.takeOwn {A : Option Addr} {n c h : Nat} {xs : List α} (hS : Sat w0 w (.own e.slice [.slice A n c] xs :: Γ)) (h2 : h ≤ n) :
    Sat w0 w (.own e.slice [.slice A h c] (xs.take h) :: Γ) := by
  obtain ⟨R, O, ⟨O1, O2, rfl, k1, k2⟩, k3, k4, k5, k6⟩ := hS
  obtain ⟨F', hF', hs⟩ := SliceHas.prefix k1 h2
  have hsub : (F' ++ O2).Sublist (O1 ++ O2) := hs.append (List.Sublist.refl _)
  exact ⟨R, F' ++ O2, ⟨F', O2, rfl, hF', k2⟩, ⟨k3.1.sublist hsub, fun g hg => k3.2 g (hsub.subset hg)⟩, fun g hg => k4 g (hsub.subset hg), k5, k6⟩
theorem pure_take {P : Program} {o : Oper} {a : Act} {T E : TypeId} {z : Value} {ag : Bool} {A : Option Addr} {n c h sz : Nat} {x : Operand} {hi : Option Operand} (ho : o.op = .slice T x none hi none) (hx : a.eval x = .slice A n c) (hhi : BoundIs a hi n h) (h2 : h ≤ n) (hc : n ≤ c) [hT : SlTy P T E] [hE : Ty P E z sz ag] (w : World) :
    (execOp a.eval o).run P w = .ok (.value (.slice A h c)) w := by
  have hr := run_cut (w := w) (A := A) (a := a) hT hE (lo := none) (show BoundIs a none 0 0 from rfl) hhi (Nat.zero_le _) h2 hc
  rw [cutAt_zero, Nat.sub_zero, Nat.sub_zero] at hr
  unfold execOp
  simp only [ho, hx, Sem.run_bind, Option.map_none] at hr ⊢
  simp only [hr, Result.andThen_ok]
  rfl
end
end Go.Proofs.YtniejglhdbmbfaaDoor
