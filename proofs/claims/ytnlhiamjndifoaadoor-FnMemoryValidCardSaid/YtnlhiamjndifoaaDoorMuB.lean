/- Blocks in a list of one's own: loads and stores of their fields. No function of the program occurs here. -/
import Derived.Test.YtnlhiamjndifoaaDoorSatT
import Derived.Test.YtnlhiamjndifoaaDoorShareO
namespace Go.Proofs.YtnlhiamjndifoaaDoor
open Go.RowKit

section
variable {α : Type} {e : Rep α} {w w0 : World} {Γ : List Fact}
theorem Sat.rowCellN {g off n c k j : Nat} {xs : List α} {x : α} (hS : Sat w0 w Γ) (i : Nat) (hi : Γ[i]? = some (.own e.rows [.slice (some ⟨g, off, none⟩) n c] xs)) (hx : xs[k]? = some x) (hj : j < e.size) :
    ∃ ck F u, e.has w F ck x ∧ ck[j]? = some u ∧ w.cell? ⟨g, off + (k * e.size + j), none⟩ = some u := by
  obtain ⟨R, O, ⟨O1, O2, rfl, k1, _⟩, hG, _⟩ := hS.pull i hi
  obtain ⟨hkl, hxk⟩ := List.getElem?_eq_some_iff.1 hx
  rcases k1 with ⟨hv, hxs, hF⟩ | ⟨g', off', cap, cur, t, ces, F', hv, rfl, hh, hle, hcm, hsz, hce, htk⟩
  · subst hxs; simp at hkl
  · simp only [List.cons.injEq, Value.slice.injEq, Option.some.injEq, Addr.mk.injEq, and_true] at hv
    obtain ⟨⟨rfl, rfl⟩, rfl, rfl⟩ := hv
    obtain ⟨Fa, Fk, Fb, ca, ck, cb, rfl, rfl, hl, _, hh2, _⟩ := Rep.all_get hce (k := k) hkl
    have hc := RowHas.cells hh htk
    have hlen := e.len hh2
    have hcj : ck[j]? = some (ck[j]'(by omega)) := List.getElem?_eq_getElem (by omega)
    refine ⟨ck, Fk, _, hxk ▸ hh2, hcj, ?_⟩
    have h1 := hc (k * e.size + j) (ck[j]'(by omega)) (by
      rw [List.append_assoc, List.getElem?_append_right (by omega), hl, Nat.add_sub_cancel_left, List.getElem?_append_left (by omega)]
      exact hcj)
    rw [Addr.add_lit] at h1
    exact h1
end
theorem oBlock_ck {w : World} {F : List Nat} {ck : List Value} {x : BlockD} (h : oBlock.has w F ck x) : ck = [.int .i64 x.1, .int .i64 x.2.1, .int .i64 x.2.2] := by
  obtain ⟨F1, F2, c1, c2, rfl, rfl, ⟨_, rfl, _⟩, F3, F4, c3, c4, rfl, rfl, ⟨_, rfl, _⟩, ⟨_, rfl, _⟩⟩ := h
  rfl
theorem oBlock_mk {w : World} {F : List Nat} {ck : List Value} {x y : BlockD} (h : oBlock.has w F ck x) (h1 : I64 y.1) (h2 : I64 y.2.1) (h3 : I64 y.2.2) : oBlock.has w F [.int .i64 y.1, .int .i64 y.2.1, .int .i64 y.2.2] y := by
  obtain ⟨F1, F2, c1, c2, rfl, rfl, ⟨rfl, rfl, _⟩, F3, F4, c3, c4, rfl, rfl, ⟨rfl, rfl, _⟩, ⟨rfl, rfl, _⟩⟩ := h
  exact ⟨[], [], [_], [_, _], rfl, rfl, ⟨rfl, rfl, h1⟩, [], [], [_], [_], rfl, rfl, ⟨rfl, rfl, h2⟩, ⟨rfl, rfl, h3⟩⟩
theorem oBlock_leaf {w : World} {F : List Nat} {ck : List Value} {b0 b1 b2 z : Int} (h : oBlock.has w F ck (b0, b1, b2)) (hz : -100000 ≤ z ∧ z ≤ 100000) (h0 : -100000 ≤ b0 ∧ b0 ≤ 100000) (h1 : -100000 ≤ b1 ∧ b1 ≤ 100000) : oBlock.has w F (ck.set 2 (.int .i64 z)) (b0, b1, z) := by
  rw [oBlock_ck h]
  exact oBlock_mk (y := (b0, b1, z)) h (by unfold I64; dsimp only; omega) (by unfold I64; dsimp only; omega) (by unfold I64; dsimp only; omega)
theorem oBlock_val {w : World} {F : List Nat} {ck : List Value} {b0 b1 b2 z : Int} (h : oBlock.has w F ck (b0, b1, b2)) (hz : -100000 ≤ z ∧ z ≤ 100000) (h0 : -100000 ≤ b0 ∧ b0 ≤ 100000) (h2 : -100000 ≤ b2 ∧ b2 ≤ 100000) : oBlock.has w F (ck.set 1 (.int .i64 z)) (b0, z, b2) := by
  rw [oBlock_ck h]
  exact oBlock_mk (y := (b0, z, b2)) h (by unfold I64; dsimp only; omega) (by unfold I64; dsimp only; omega) (by unfold I64; dsimp only; omega)
section
variable {P : Program} {o : Oper} {a : Act} {w w0 : World} {Γ : List Fact}
theorem f_loadBlk {T : TypeId} {z : Value} {p : Operand} {g off n c k i : Nat} (j qa : Nat) {xs : List BlockD} {x : BlockD} {u : Value} (hS : Sat w0 w Γ) (ho : o.op = .load T p) (hp : a.eval p = .pointer (some ⟨g, qa, none⟩)) [hi : OwnIn Γ oBlock.rows [.slice (some ⟨g, off, none⟩) n c] xs i] [hT : Ty P T z 1 false] (hx : xs[k]? = some x) (hqa : qa = off + (k * 3 + j)) (hj : j < 3) (hu : [Value.int .i64 x.1, .int .i64 x.2.1, .int .i64 x.2.2][j]? = some u) : Gives P o a w u := by
  obtain ⟨ck, F, v, h1, h2, h3⟩ := hS.rowCellN i hi.get hx (show j < oBlock.size from hj)
  rw [oBlock_ck h1, hu] at h2
  cases h2
  subst hqa
  have h4 : w.cell? ⟨g, off + (k * 3 + j), none⟩ = some u := h3
  unfold Gives execOp
  simp [ho, hp, run_load1 hT h4]
theorem f_loadBlkS {T : TypeId} {z : Value} {p : Operand} {g off n c k i : Nat} (qa : Nat) {xs : List BlockD} {x : BlockD} (hS : Sat w0 w Γ) (ho : o.op = .load T p) (hp : a.eval p = .pointer (some ⟨g, qa, none⟩)) [hi : OwnIn Γ oBlock.rows [.slice (some ⟨g, off, none⟩) n c] xs i] [hT : Ty P T z 3 true] (hx : xs[k]? = some x) (hqa : qa = off + k * 3) : Gives P o a w (.agg #[.int .i64 x.1, .int .i64 x.2.1, .int .i64 x.2.2]) := by
  subst hqa
  have hc : ∀ (j : Nat) u, [Value.int .i64 x.1, .int .i64 x.2.1, .int .i64 x.2.2][j]? = some u → w.cell? ((⟨g, off + k * 3, none⟩ : Addr).add j) = some u := by
    intro j u hu
    have hj : j < 3 := by
      rcases Nat.lt_or_ge j 3 with h | h
      · exact h
      · rw [List.getElem?_eq_none h] at hu; cases hu
    obtain ⟨ck, F, v, h1, h2, h3⟩ := hS.rowCellN i hi.get hx (show j < oBlock.size from hj)
    rw [oBlock_ck h1, hu] at h2
    cases h2
    rw [Addr.add_lit, Nat.add_assoc]
    exact h3
  unfold Gives execOp
  simp [ho, hp, run_loadS hT (us := [.int .i64 x.1, .int .i64 x.2.1, .int .i64 x.2.2]) rfl hc]
end
end Go.Proofs.YtnlhiamjndifoaaDoor
