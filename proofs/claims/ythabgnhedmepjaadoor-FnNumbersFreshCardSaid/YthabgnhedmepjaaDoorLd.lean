/- Loads of a struct that lies within a struct. No function of the program occurs here. -/
import Derived.Test.YthabgnhedmepjaaDoorCell
namespace Go.Proofs.YthabgnhedmepjaaDoor
open Go.RowKit

section
variable {P : Program} {o : Oper} {a : Act} {w w0 : World} {Γ : List Fact}
theorem sub_get {cs us : List Value} {off n j : Nat} {u : Value} (hu : (cs.drop off).take n = us) (hj : us[j]? = some u) : cs[off + j]? = some u := by
  subst hu
  have hl : j < n := by
    obtain ⟨h, _⟩ := List.getElem?_eq_some_iff.1 hj
    have := List.length_take_le n (cs.drop off)
    omega
  rw [List.getElem?_take_of_lt hl, List.getElem?_drop] at hj
  exact hj
theorem f_loadSub {T : TypeId} {z : Value} {p : Operand} {b off n i : Nat} {cs us : List Value} (hS : Sat w0 w Γ) (ho : o.op = .load T p) (hp : a.eval p = .pointer (some ⟨b, off, none⟩)) [hi : BoxAt Γ b cs i] [hT : Ty P T z n true] (hu : (cs.drop off).take n = us) (hl : us.length = n) :
    Gives P o a w (.agg us.toArray) := by
  have hc : CellsAt w ⟨b, off, none⟩ us := fun j u hj => by
    have h := hS.boxCells hi.get (off + j) u (sub_get hu hj)
    rw [Addr.add_lit, Nat.zero_add] at h
    rw [Addr.add_lit]
    exact h
  unfold Gives execOp
  simp [ho, hp, run_loadS hT hl hc]
theorem f_loadAtSub {T : TypeId} {z : Value} {p : Operand} {ad : Addr} {j n i : Nat} {cs us : List Value} (hS : Sat w0 w Γ) (ho : o.op = .load T p) (hp : a.eval p = .pointer (some ⟨ad.block, ad.off + (j + 1), none⟩)) [hi : CellsIn Γ ad cs i] [hT : Ty P T z n true] (hu : (cs.drop (j + 1)).take n = us) (hl : us.length = n) :
    Gives P o a w (.agg us.toArray) := by
  have hc : CellsAt w ⟨ad.block, ad.off + (j + 1), none⟩ us := fun j' u hj => by
    have h := CellsAt.nth (hS.atCells hi.get) (j + j') (u := u) (by rw [show j + j' + 1 = j + 1 + j' by omega]; exact sub_get hu hj)
    rw [Addr.add_lit, show ad.off + (j + 1) + j' = ad.off + (j + j' + 1) by omega]
    exact h
  unfold Gives execOp
  simp [ho, hp, run_loadS hT hl hc]
theorem f_storeSub {T : TypeId} {z : Value} {p x : Operand} {b off n i : Nat} {cs : List Value} {us : Array Value} (hS : Sat w0 w Γ) (ho : o.op = .store T p x) (hp : a.eval p = .pointer (some ⟨b, off, none⟩)) (hx : a.eval x = .agg us) [hi : BoxAt Γ b cs i] [hT : Ty P T z n true] (h1' : us.toList.all (·.oneCell') = true) (hn : us.size = n) (hl : off + n ≤ cs.length) :
    Does P o a w (fun v w' => v = undef ∧ Sat w0 w' (Γ.set i (.box b (cs.take off ++ us.toList ++ cs.drop (off + us.toList.length))))) := by
  have h1 : ∀ u ∈ us.toList, u.oneCell' = true := List.all_eq_true.1 h1'
  have hp' := hS.pull i hi.get
  have hr := run_storeN (w := w) (g := b) (o := off) (v := .agg us) hT hn h1 (by intro j hj; rw [hp'.cellAt (List.getElem?_eq_getElem (by omega))]; rfl) (fun j => hp'.frozenAt j)
  have hs := setCells_box us.toList off w b cs hp' (by simp; omega)
  refine ⟨undef, _, ⟨rfl, hs.perm (perm_set i hi.get)⟩, .inr ⟨?_, rfl⟩⟩
  unfold execOp
  simp only [ho, hp, hx, Sem.run_bind, hr, Result.andThen_ok]
  rfl
end
end Go.Proofs.YthabgnhedmepjaaDoor
