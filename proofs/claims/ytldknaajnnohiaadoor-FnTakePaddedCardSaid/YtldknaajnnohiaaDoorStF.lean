/- A store into a cell of an element of a row of one's own. No function of the program occurs here. -/
import Derived.Test.YtldknaajnnohiaaDoorFind
namespace Go.Proofs.YtldknaajnnohiaaDoor
open Go.RowKit

section
variable {P : Program} {o : Oper} {a : Act} {w w0 : World} {Γ : List Fact} {α : Type} {e : Rep α}
theorem does_storeField {T : TypeId} {z : Value} {p x : Operand} {g off n c k j qa : Nat} {xs : List α} {u : Value} (y : α) (i : Nat) (hS : Sat w0 w Γ) (ho : o.op = .store T p x) (hp : a.eval p = .pointer (some ⟨g, qa, none⟩)) (hx : a.eval x = u)
    (hi : Γ[i]? = some (.own e.rows [.slice (some ⟨g, off, none⟩) n c] xs)) [hT : Ty P T z 1 false] (hu : u.oneCell' = true) (hqa : qa = off + (k * e.size + j)) (hj : j < e.size) {x0 : α} (hx0 : xs[k]? = some x0)
    (upd : ∀ (w : World) (F : List Nat) (ck : List Value), e.has w F ck x0 → e.has w F (ck.set j u) y) :
    Does P o a w (fun v w' => v = undef ∧ Sat w0 w' (Γ.set i (.own e.rows [.slice (some ⟨g, off, none⟩) n c] (xs.set k y)))) := by
  obtain ⟨q, hq⟩ : ∃ q, q = k * e.size + j := ⟨_, rfl⟩
  rw [← hq] at hqa
  subst hqa
  have hc := oneCell_cells hu
  obtain ⟨R, O, hO, hG, hR, hRl, hfin⟩ := Sat.opened (Γ1 := [.own e.rows [.slice (some ⟨g, off, none⟩) n c] xs]) (hS.pull i hi)
  obtain ⟨O1, O2, rfl, k1, rfl⟩ := hO
  have hnn := RowHas.n k1
  obtain ⟨hkl, hxk⟩ := List.getElem?_eq_some_iff.1 hx0
  rcases k1 with ⟨hv, hxs, hF⟩ | ⟨g', off', cap, cur, t, ces, F', hv, rfl, hh, hle, hcm, hsz, hce, htk⟩
  · subst hxs; simp at hkl
  simp only [List.cons.injEq, Value.slice.injEq, Option.some.injEq, Addr.mk.injEq, and_true] at hv
  obtain ⟨⟨rfl, rfl⟩, rfl, rfl⟩ := hv
  obtain ⟨Fa, Fk, Fb, ca, ck, cb, rfl, rfl, hl, ha, hh2, hb⟩ := Rep.all_get hce (k := k) hkl
  rw [hxk] at hh2
  have hlen := e.len hh2
  have hcl : (ca ++ ck ++ cb).length = xs.length * e.size := Rep.all_len hce
  have hcl2 : (ca ++ ck ++ cb).length = ca.length + ck.length + cb.length := by simp [List.length_append, Nat.add_assoc]
  have hmul : xs.length * e.size ≤ c * e.size := Nat.mul_le_mul_right _ hle
  have hql : q < (ca ++ ck ++ cb).length := by omega
  have hcur : off + q < cur.size := by omega
  have hcell : (w.cell? ⟨g, off + q, none⟩).isSome = true := by
    rw [cell_of_row _ _ _ cur t (0, 0) hh, Array.getElem?_eq_getElem hcur]; rfl
  have hfr : ∀ j, w.frozen? ⟨g, j, none⟩ = false := fun j => hG.left.frozen (a := ⟨g, j, none⟩) (by simp)
  have hr := run_storeN (w := w) (g := g) (o := off + q) (v := u) hT (by rw [hc]; rfl) (by rw [hc]; simpa using hu) (fun j hj => (by obtain rfl : j = 0 := (by omega); exact hcell)) hfr
  rw [hc] at hr
  have hnd := List.nodup_cons.1 hG.left.1
  have hsame : ∀ g', g' ≠ g → (w.setCell ⟨g, off + q, none⟩ u).heap[g']? = w.heap[g']? := fun g' hg' => Below.heap_setCell _ _ _ _ hg'
  have hs1 : ∀ g' ∈ Fa ++ Fk ++ Fb, (w.setCell ⟨g, off + q, none⟩ u).heap[g']? = w.heap[g']? := fun g' hg' => hsame g' (by rintro rfl; exact hnd.1 hg')
  have hblk : (w.setCell ⟨g, off + q, none⟩ u).heap[g]? = some (.cells (cur.setIfInBounds (off + q) u) t (0, 0)) := by
    rw [World.setCell]; simp only [Array.getElem?_modify, if_true, hh]; rfl
  have hrow : RowHas e (w.setCell ⟨g, off + q, none⟩ u) (g :: (Fa ++ Fk ++ Fb)) [.slice (some ⟨g, off, none⟩) xs.length c] (xs.set k y) := by
    refine .inr ⟨g, off, c, _, t, ca ++ ck.set j u ++ cb, Fa ++ Fk ++ Fb, by rw [List.length_set], rfl, hblk, by rw [List.length_set]; exact hle, hcm, by rw [Array.size_setIfInBounds]; exact hsz, ?_, ?_⟩
    · have hxs : xs.set k y = xs.take k ++ y :: xs.drop (k + 1) := by rw [List.set_eq_take_append_cons_drop, if_pos hkl]
      rw [hxs, List.append_assoc, List.append_assoc]
      exact Rep.all_append (Rep.all_keep ha (fun g hg => hs1 g (by simp [hg]))) ⟨Fk, Fb, ck.set j u, cb, rfl, rfl, upd _ _ _ (e.keep hh2 (fun g hg => hs1 g (by simp [hg]))), Rep.all_keep hb (fun g hg => hs1 g (by simp [hg]))⟩
    · have e1 : (cur.setIfInBounds (off + q) u).toList = cur.toList.set (off + q) u := by simp
      have e2 : ca ++ ck.set j u ++ cb = (ca ++ ck ++ cb).set q u := by
        rw [List.append_assoc, List.append_assoc, List.set_append_right _ _ (by omega), List.set_append_left _ _ (by omega)]
        congr 3
        omega
      rw [e1, e2, List.length_set, List.drop_set, if_neg (by omega), Nat.add_sub_cancel_left, List.take_set, htk]
  refine ⟨undef, w.setCell ⟨g, off + q, none⟩ u, ⟨rfl, Sat.perm (hfin _ [.own e.rows [.slice (some ⟨g, off, none⟩) xs.length c] (xs.set k y)] (g :: (Fa ++ Fk ++ Fb)) ⟨_, [], by simp, hrow, rfl⟩ (hG.left.setCell _ _) (fun g' hg' => .inl (by simpa using hg')) ?_) (perm_set i hi)⟩, .inr ⟨?_, rfl⟩⟩
  · exact (Mod.refl _ _).setCell (by simp) u
  · unfold execOp
    simp only [ho, hp, hx, Sem.run_bind, hr, Result.andThen_ok]
    rfl
end
theorem Sat.dupRo {α : Type} {e : Rep α} {w0 w : World} {Γ : List Fact} {cs : List Value} {x : α} (h : Sat w0 w Γ) (i : Nat) (hi : Γ[i]? = some (.ro e cs x)) : Sat w0 w (.ro e cs x :: Γ) := by
  obtain ⟨R, O, ⟨O1, O2, rfl, ⟨rfl, F, hF, hR⟩, k2⟩, k3, k4, k5, k6⟩ := h.pull i hi
  have hS2 : Sat w0 w (.ro e cs x :: .ro e cs x :: Γ.eraseIdx i) :=
    ⟨R, O2, ⟨[], O2, rfl, ⟨rfl, F, hF, hR⟩, [], O2, rfl, ⟨rfl, F, hF, hR⟩, k2⟩, k3, k4, k5, k6⟩
  exact hS2.perm ((perm_erase i hi).symm.cons _)
end Go.Proofs.YtldknaajnnohiaaDoor
