/- A struct of two cells, stored into an element of a row of cells. No function of the program occurs here. -/
import Derived.Test.YtnbaekjednmfjaaDoorShareO
namespace Go.Proofs.YtnbaekjednmfjaaDoor
open Go.RowKit

section
variable {P : Program} {o : Oper} {a : Act} {w w0 : World} {Γ : List Fact} {α : Type} {e : Rep α}
/-- One cell of an element is written. -/
theorem Sat.rowSet {g off n c k j : Nat} {xs : List α} {u : Value} (y : α) (i : Nat) (hS : Sat w0 w Γ)
    (hi : Γ[i]? = some (.own e.rows [.slice (some ⟨g, off, none⟩) n c] xs)) (hj : j < e.size) {x0 : α} (hx0 : xs[k]? = some x0)
    (upd : ∀ (w : World) (F : List Nat) (ck : List Value), e.has w F ck x0 → e.has w F (ck.set j u) y) :
    Sat w0 (w.setCell ⟨g, off + (k * e.size + j), none⟩ u) (Γ.set i (.own e.rows [.slice (some ⟨g, off, none⟩) n c] (xs.set k y))) ∧ (w.cell? ⟨g, off + (k * e.size + j), none⟩).isSome = true ∧ ∀ j, w.frozen? ⟨g, j, none⟩ = false := by
  obtain ⟨q, hq⟩ : ∃ q, q = k * e.size + j := ⟨_, rfl⟩
  rw [← hq]
  obtain ⟨R, O, hO, hG, hR, hRl, hfin⟩ := Sat.opened (Γ1 := [.own e.rows [.slice (some ⟨g, off, none⟩) n c] xs]) (hS.pull i hi)
  obtain ⟨O1, O2, rfl, k1, rfl⟩ := hO
  have hnn := RowHas.n k1
  obtain ⟨hkl, hxk⟩ := List.getElem?_eq_some_iff.1 hx0
  rcases k1 with ⟨hv, hxs, hF⟩ | ⟨g', off', cap, cur, t, ces, F', hv, rfl, hh, hle, hcm, hsz, hce, htk⟩
  · subst hxs; simp at hkl
  simp only [List.cons.injEq, Value.slice.injEq, Option.some.injEq, Addr.mk.injEq, and_true] at hv
  obtain ⟨⟨rfl, rfl⟩, rfl, rfl⟩ := hv
  obtain ⟨Fa, Fk, Fb, ca, ck, cb, rfl, rfl, hl, ha, hh2, hb⟩ := Rep.all_get hce (k := k) hkl
  rw [hxk] at hh2
  have hlen := e.len hh2
  have hcl : (ca ++ ck ++ cb).length = xs.length * e.size := Rep.all_len hce
  have hcl2 : (ca ++ ck ++ cb).length = ca.length + ck.length + cb.length := by simp [List.length_append, Nat.add_assoc]
  have hmul : xs.length * e.size ≤ c * e.size := Nat.mul_le_mul_right _ hle
  have hql : q < (ca ++ ck ++ cb).length := by omega
  have hcur : off + q < cur.size := by omega
  have hcell : (w.cell? ⟨g, off + q, none⟩).isSome = true := by
    rw [cell_of_row _ _ _ cur t (0, 0) hh, Array.getElem?_eq_getElem hcur]; rfl
  have hfr : ∀ j, w.frozen? ⟨g, j, none⟩ = false := fun j => hG.left.frozen (a := ⟨g, j, none⟩) (by simp)
  have hnd := List.nodup_cons.1 hG.left.1
  have hsame : ∀ g', g' ≠ g → (w.setCell ⟨g, off + q, none⟩ u).heap[g']? = w.heap[g']? := fun g' hg' => Below.heap_setCell _ _ _ _ hg'
  have hs1 : ∀ g' ∈ Fa ++ Fk ++ Fb, (w.setCell ⟨g, off + q, none⟩ u).heap[g']? = w.heap[g']? := fun g' hg' => hsame g' (by rintro rfl; exact hnd.1 hg')
  have hblk : (w.setCell ⟨g, off + q, none⟩ u).heap[g]? = some (.cells (cur.setIfInBounds (off + q) u) t (0, 0)) := by
    rw [World.setCell]; simp only [Array.getElem?_modify, if_true, hh]; rfl
  have hrow : RowHas e (w.setCell ⟨g, off + q, none⟩ u) (g :: (Fa ++ Fk ++ Fb)) [.slice (some ⟨g, off, none⟩) xs.length c] (xs.set k y) := by
    refine .inr ⟨g, off, c, _, t, ca ++ ck.set j u ++ cb, Fa ++ Fk ++ Fb, by rw [List.length_set], rfl, hblk, by rw [List.length_set]; exact hle, hcm, by rw [Array.size_setIfInBounds]; exact hsz, ?_, ?_⟩
    · have hxs : xs.set k y = xs.take k ++ y :: xs.drop (k + 1) := by rw [List.set_eq_take_append_cons_drop, if_pos hkl]
      rw [hxs, List.append_assoc, List.append_assoc]
      exact Rep.all_append (Rep.all_keep ha (fun g hg => hs1 g (by simp [hg]))) ⟨Fk, Fb, ck.set j u, cb, rfl, rfl, upd _ _ _ (e.keep hh2 (fun g hg => hs1 g (by simp [hg]))), Rep.all_keep hb (fun g hg => hs1 g (by simp [hg]))⟩
    · have e1 : (cur.setIfInBounds (off + q) u).toList = cur.toList.set (off + q) u := by simp
      have e2 : ca ++ ck.set j u ++ cb = (ca ++ ck ++ cb).set q u := by
        rw [List.append_assoc, List.append_assoc, List.set_append_right _ _ (by omega), List.set_append_left _ _ (by omega)]
        congr 3
        omega
      rw [e1, e2, List.length_set, List.drop_set, if_neg (by omega), Nat.add_sub_cancel_left, List.take_set, htk]
  refine ⟨Sat.perm (hfin _ [.own e.rows [.slice (some ⟨g, off, none⟩) xs.length c] (xs.set k y)] (g :: (Fa ++ Fk ++ Fb)) ⟨_, [], by simp, hrow, rfl⟩ (hG.left.setCell _ _) (fun g' hg' => .inl (by simpa using hg')) ?_) (perm_set i hi), hcell, hfr⟩
  exact (Mod.refl _ _).setCell (by simp) u
theorem does_storeRaw2 {T : TypeId} {z : Value} {p x : Operand} {g off n c k j qa m : Nat} {css : List (List Value)} {u0 u1 : Value} (i : Nat) (hS : Sat w0 w Γ) (ho : o.op = .store T p x) (hp : a.eval p = .pointer (some ⟨g, qa, none⟩)) (hx : a.eval x = .agg #[u0, u1])
    (hi : Γ[i]? = some (.own (Rep.raw m).rows [.slice (some ⟨g, off, none⟩) n c] css)) [hT : Ty P T z 2 true] (h0 : u0.oneCell' = true) (h1 : u1.oneCell' = true) (hqa : qa = off + (k * m + j)) (hj : j + 1 < m) {x0 : List Value} (hx0 : css[k]? = some x0) :
    Does P o a w (fun v w' => v = undef ∧ Sat w0 w' (Γ.set i (.own (Rep.raw m).rows [.slice (some ⟨g, off, none⟩) n c] (css.set k ((x0.set j u0).set (j + 1) u1))))) := by
  have hil : i < Γ.length := (List.getElem?_eq_some_iff.1 hi).1
  have hkl : k < css.length := (List.getElem?_eq_some_iff.1 hx0).1
  obtain ⟨s1, c1, f1⟩ := hS.rowSet (e := Rep.raw m) (j := j) (u := u0) (x0.set j u0) i hi (show j < m by omega) hx0 (fun w F ck h => raw_upd h0 h)
  obtain ⟨_, c2, _⟩ := hS.rowSet (e := Rep.raw m) (j := j + 1) (u := u1) (x0.set (j + 1) u1) i hi (show j + 1 < m by omega) hx0 (fun w F ck h => raw_upd h1 h)
  have hi2 : (Γ.set i (.own (Rep.raw m).rows [.slice (some ⟨g, off, none⟩) n c] (css.set k (x0.set j u0))))[i]? = some (.own (Rep.raw m).rows [.slice (some ⟨g, off, none⟩) n c] (css.set k (x0.set j u0))) := by
    rw [List.getElem?_set, if_pos rfl, if_pos hil]
  have hx2 : (css.set k (x0.set j u0))[k]? = some (x0.set j u0) := by rw [List.getElem?_set, if_pos rfl, if_pos hkl]
  obtain ⟨s2, _, _⟩ := s1.rowSet (e := Rep.raw m) (j := j + 1) (u := u1) ((x0.set j u0).set (j + 1) u1) i hi2 (show j + 1 < m by omega) hx2 (fun w F ck h => raw_upd h1 h)
  rw [List.set_set, List.set_set] at s2
  have hqa' : qa = off + (k * (Rep.raw m).size + j) := hqa
  have e1 : qa + 1 = off + (k * (Rep.raw m).size + (j + 1)) := by omega
  have e0 : (Value.agg #[u0, u1]).cells = #[u0, u1] := by
    have k0 := oneCell_cells h0
    have k1 := oneCell_cells h1
    simp [Value.cells] at k0 k1 ⊢
  rw [← hqa'] at s2 c1
  rw [← e1] at s2 c2
  have hr := run_storeN (w := w) (g := g) (o := qa) (v := .agg #[u0, u1]) hT (by rw [e0]; rfl) (by rw [e0]; intro u hu; simp at hu; rcases hu with rfl | rfl <;> assumption) (fun j hj => by
    rcases (show j = 0 ∨ j = 1 by omega) with rfl | rfl
    · exact c1
    · exact c2) f1
  rw [e0] at hr
  refine ⟨undef, _, ⟨rfl, s2⟩, .inr ⟨?_, rfl⟩⟩
  unfold execOp
  simp only [ho, hp, hx, Sem.run_bind, hr, Result.andThen_ok]
  rfl
end
end Go.Proofs.YtnbaekjednmfjaaDoor
