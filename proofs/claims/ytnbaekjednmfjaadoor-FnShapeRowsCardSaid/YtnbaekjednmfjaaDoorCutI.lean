/- Prefixes of slices: what one reads, and what one owns. No function of the program occurs here. -/
import Derived.Test.YtnbaekjednmfjaaDoorFind
import Derived.Test.YtnbaekjednmfjaaDoorNew
import Derived.Test.YtnbaekjednmfjaaDoorPdv
import Derived.Test.YtnbaekjednmfjaaDoorPSa
section
namespace Go.Proofs.YtnbaekjednmfjaaDoor
open Go.RowKit

section
variable {α : Type} {e : Rep α} {w w0 : World} {Γ : List Fact}
theorem cutAt_zero (A : Option Addr) (c s : Nat) : cutAt A 0 c s = A := by
  unfold cutAt
  split
  · rfl
  · cases A with
    | none => rfl
    | some ad => simp [Addr.add]
theorem SliceHas.prefix {F : List Nat} {A : Option Addr} {n c h : Nat} {xs : List α} (hx : SliceHas e w F [.slice A n c] xs) (h2 : h ≤ n) :
    ∃ F', SliceHas e w F' [.slice A h c] (xs.take h) ∧ F'.Sublist F := by
  have hn := SliceHas.n hx
  obtain ⟨a', n', cap', ces, Fe, hv, k1, k2, k3, k4, k5⟩ := hx
  simp only [List.cons.injEq, Value.slice.injEq, and_true] at hv
  obtain ⟨rfl, rfl, rfl⟩ := hv
  have hlen : (xs.take h).length = h := by simp; omega
  by_cases h0 : h = 0
  · subst h0
    exact ⟨[], ⟨_, _, _, [], [], rfl, hlen, by omega, by omega, by simp; exact ⟨rfl, rfl⟩, .inl ⟨rfl, rfl⟩⟩, by simp⟩
  · rcases k5 with ⟨hz, _⟩ | ⟨ad, rfl, rfl, hb, hc⟩
    · omega
    have hsplit : xs = xs.take h ++ xs.drop h := (List.take_append_drop h xs).symm
    rw [hsplit] at k4
    obtain ⟨F1, F2, c1, c2, rfl, rfl, a1, a2⟩ := Rep.all_split k4
    refine ⟨ad.block :: F1, ⟨_, _, _, c1, F1, rfl, hlen, by omega, by omega, a1, .inr ⟨ad, rfl, rfl, hb, ?_⟩⟩, (List.sublist_append_left F1 F2).cons_cons _⟩
    intro j u hu
    refine hc _ u ?_
    have hj : j < c1.length := (List.getElem?_eq_some_iff.1 hu).1
    rw [List.getElem?_append_left hj]
    exact hu
theorem SliceHas.capLe {F : List Nat} {A : Option Addr} {n c : Nat} {xs : List α} (hx : SliceHas e w F [.slice A n c] xs) : n ≤ c := by
  obtain ⟨a', n', cap', ces, Fe, hv, k1, k2, k3, k4, k5⟩ := hx
  simp only [List.cons.injEq, Value.slice.injEq, and_true] at hv
  omega
theorem Sat.takeRo {A : Option Addr} {n c h : Nat} {xs : List α} (hS : Sat w0 w Γ) (i : Nat) (hi : Γ[i]? = some (.ro e.slice [.slice A n c] xs)) (h2 : h ≤ n) :
    Sat w0 w (.ro e.slice [.slice A h c] (xs.take h) :: Γ) := by
  have := hS.cutRo i hi (Nat.zero_le h) h2
  simpa [cutAt_zero] using this
/-- A prefix of one's own slice; the rest is given up. -/
theorem Sat.takeOwn {A : Option Addr} {n c h : Nat} {xs : List α} (hS : Sat w0 w (.own e.slice [.slice A n c] xs :: Γ)) (h2 : h ≤ n) :
    Sat w0 w (.own e.slice [.slice A h c] (xs.take h) :: Γ) := by
  obtain ⟨R, O, ⟨O1, O2, rfl, k1, k2⟩, k3, k4, k5, k6⟩ := hS
  obtain ⟨F', hF', hs⟩ := SliceHas.prefix k1 h2
  have hsub : (F' ++ O2).Sublist (O1 ++ O2) := hs.append (List.Sublist.refl _)
  exact ⟨R, F' ++ O2, ⟨F', O2, rfl, hF', k2⟩, ⟨k3.1.sublist hsub, fun g hg => k3.2 g (hsub.subset hg)⟩, fun g hg => k4 g (hsub.subset hg), k5, k6⟩
theorem pure_take {P : Program} {o : Oper} {a : Act} {T E : TypeId} {z : Value} {ag : Bool} {A : Option Addr} {n c h sz : Nat} {x : Operand} {hi : Option Operand} (ho : o.op = .slice T x none hi none) (hx : a.eval x = .slice A n c) (hhi : BoundIs a hi n h) (h2 : h ≤ n) (hc : n ≤ c) [hT : SlTy P T E] [hE : Ty P E z sz ag] (w : World) :
    (execOp a.eval o).run P w = .ok (.value (.slice A h c)) w := by
  have hr := run_cut (w := w) (A := A) (a := a) hT hE (lo := none) (show BoundIs a none 0 0 from rfl) hhi (Nat.zero_le _) h2 hc
  rw [cutAt_zero, Nat.sub_zero, Nat.sub_zero] at hr
  unfold execOp
  simp only [ho, hx, Sem.run_bind, Option.map_none] at hr ⊢
  simp only [hr, Result.andThen_ok]
  rfl
end
end Go.Proofs.YtnbaekjednmfjaaDoor
end

section
namespace Go.Proofs.YtnbaekjednmfjaaDoor
open Go.RowKit

def cutM (size : Int) (n : Nat) : Nat := min size.toNat n
def cutF (p : PaddedD) (size : Int) : PaddedD × Bool :=
  if paddedOk p && inB size 0 256 then
    if (p.2.2.drop (cutM size p.2.1.length)).any id then (zeroP, false) else ((p.1, p.2.1.take (cutM size p.2.1.length), p.2.2.take (cutM size p.2.1.length)), true)
  else (zeroP, false)
section
variable {ns : List ByteArray} {rows : List (List Int)} {real : List Bool} {size : Int} {M : Nat}
theorem cutF_p {p : PaddedD} (h : paddedOk p = false) : cutF p size = (zeroP, false) := by unfold cutF; rw [h]; rfl
theorem cutF_i {p : PaddedD} (h : inB size 0 256 = false) : cutF p size = (zeroP, false) := by unfold cutF; rw [h]; cases paddedOk p <;> rfl
theorem cutF_any (h1 : paddedOk (ns, rows, real) = true) (h2 : inB size 0 256 = true) (hM : cutM size rows.length = M) (h3 : (real.drop M).any id = true) : cutF (ns, rows, real) size = (zeroP, false) := by
  unfold cutF; rw [h1, h2]; dsimp only; rw [hM, h3]; rfl
theorem cutF_ok (h1 : paddedOk (ns, rows, real) = true) (h2 : inB size 0 256 = true) (hM : cutM size rows.length = M) (h3 : (real.drop M).any id = false) : cutF (ns, rows, real) size = ((ns, rows.take M, real.take M), true) := by
  unfold cutF; rw [h1, h2]; dsimp only; rw [hM, h3]; rfl
theorem countP_drop (l : List Bool) (M : Nat) : (l.drop M).any id = true ↔ (l.take M).countP id < l.countP id := by
  have h : l.countP id = (l.take M).countP id + (l.drop M).countP id := by rw [← List.countP_append, List.take_append_drop]
  rw [h]
  have h2 : (l.drop M).any id = true ↔ 0 < (l.drop M).countP id := by
    rw [List.countP_pos_iff, List.any_eq_true]
  rw [h2]
  omega
end

theorem padded_smallC {ns : List ByteArray} {rows : List (List Int)} {real : List Bool} (h : paddedOk (ns, rows, real) = true) (hn : ns.length ≤ 1048576) : PSmall (ns, rows, real) := by
  unfold paddedOk at h
  simp only [Bool.and_eq_true, decide_eq_true_eq] at h
  obtain ⟨-, h2, h4, h3⟩ := h
  rw [padRows_fit] at h3
  simp only [Bool.and_eq_true, List.all_eq_true] at h3
  refine ⟨hn, ⟨by dsimp only; omega, fun r hr => ?_⟩, by dsimp only; omega⟩
  have h4 := h3.1 r hr
  unfold fitRow at h4
  simp only [Bool.and_eq_true, decide_eq_true_eq] at h4
  have := h4.1
  omega

theorem padded_lenC {ns : List ByteArray} {rows : List (List Int)} {real : List Bool} (h : paddedOk (ns, rows, real) = true) : rows.length ≤ 256 ∧ real.length = rows.length := by
  unfold paddedOk at h
  simp only [Bool.and_eq_true, decide_eq_true_eq] at h
  exact ⟨h.2.1, h.2.2.1⟩

/-! ### How many rows are real -/
theorem countP_succ {l : List Bool} {k : Nat} (h : k < l.length) : (l.take (k + 1)).countP id = (l.take k).countP id + (if l[k] then 1 else 0) := by
  rw [List.take_succ_eq_append_getElem h, List.countP_append]
  cases l[k] <;> rfl
















































































end Go.Proofs.YtnbaekjednmfjaaDoor
end
