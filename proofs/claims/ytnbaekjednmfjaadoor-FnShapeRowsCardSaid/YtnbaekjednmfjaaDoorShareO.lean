/- A store into a cell of an element of a row of one's own. No function of the program occurs here. -/
import Derived.Test.YtnbaekjednmfjaaDoorFind
section
namespace Go.Proofs.YtnbaekjednmfjaaDoor
open Go.RowKit

section
variable {P : Program} {o : Oper} {a : Act} {w w0 : World} {Γ : List Fact} {α : Type} {e : Rep α}
theorem does_storeField {T : TypeId} {z : Value} {p x : Operand} {g off n c k j qa : Nat} {xs : List α} {u : Value} (y : α) (i : Nat) (hS : Sat w0 w Γ) (ho : o.op = .store T p x) (hp : a.eval p = .pointer (some ⟨g, qa, none⟩)) (hx : a.eval x = u)
    (hi : Γ[i]? = some (.own e.rows [.slice (some ⟨g, off, none⟩) n c] xs)) [hT : Ty P T z 1 false] (hu : u.oneCell' = true) (hqa : qa = off + (k * e.size + j)) (hj : j < e.size) {x0 : α} (hx0 : xs[k]? = some x0)
    (upd : ∀ (w : World) (F : List Nat) (ck : List Value), e.has w F ck x0 → e.has w F (ck.set j u) y) :
    Does P o a w (fun v w' => v = undef ∧ Sat w0 w' (Γ.set i (.own e.rows [.slice (some ⟨g, off, none⟩) n c] (xs.set k y)))) := by
  obtain ⟨q, hq⟩ : ∃ q, q = k * e.size + j := ⟨_, rfl⟩
  rw [← hq] at hqa
  subst hqa
  have hc := oneCell_cells hu
  obtain ⟨R, O, hO, hG, hR, hRl, hfin⟩ := Sat.opened (Γ1 := [.own e.rows [.slice (some ⟨g, off, none⟩) n c] xs]) (hS.pull i hi)
  obtain ⟨O1, O2, rfl, k1, rfl⟩ := hO
  have hnn := RowHas.n k1
  obtain ⟨hkl, hxk⟩ := List.getElem?_eq_some_iff.1 hx0
  rcases k1 with ⟨hv, hxs, hF⟩ | ⟨g', off', cap, cur, t, ces, F', hv, rfl, hh, hle, hcm, hsz, hce, htk⟩
  · subst hxs; simp at hkl
  simp only [List.cons.injEq, Value.slice.injEq, Option.some.injEq, Addr.mk.injEq, and_true] at hv
  obtain ⟨⟨rfl, rfl⟩, rfl, rfl⟩ := hv
  obtain ⟨Fa, Fk, Fb, ca, ck, cb, rfl, rfl, hl, ha, hh2, hb⟩ := Rep.all_get hce (k := k) hkl
  rw [hxk] at hh2
  have hlen := e.len hh2
  have hcl : (ca ++ ck ++ cb).length = xs.length * e.size := Rep.all_len hce
  have hcl2 : (ca ++ ck ++ cb).length = ca.length + ck.length + cb.length := by simp [List.length_append, Nat.add_assoc]
  have hmul : xs.length * e.size ≤ c * e.size := Nat.mul_le_mul_right _ hle
  have hql : q < (ca ++ ck ++ cb).length := by omega
  have hcur : off + q < cur.size := by omega
  have hcell : (w.cell? ⟨g, off + q, none⟩).isSome = true := by
    rw [cell_of_row _ _ _ cur t (0, 0) hh, Array.getElem?_eq_getElem hcur]; rfl
  have hfr : ∀ j, w.frozen? ⟨g, j, none⟩ = false := fun j => hG.left.frozen (a := ⟨g, j, none⟩) (by simp)
  have hr := run_storeN (w := w) (g := g) (o := off + q) (v := u) hT (by rw [hc]; rfl) (by rw [hc]; simpa using hu) (fun j hj => (by obtain rfl : j = 0 := (by omega); exact hcell)) hfr
  rw [hc] at hr
  have hnd := List.nodup_cons.1 hG.left.1
  have hsame : ∀ g', g' ≠ g → (w.setCell ⟨g, off + q, none⟩ u).heap[g']? = w.heap[g']? := fun g' hg' => Below.heap_setCell _ _ _ _ hg'
  have hs1 : ∀ g' ∈ Fa ++ Fk ++ Fb, (w.setCell ⟨g, off + q, none⟩ u).heap[g']? = w.heap[g']? := fun g' hg' => hsame g' (by rintro rfl; exact hnd.1 hg')
  have hblk : (w.setCell ⟨g, off + q, none⟩ u).heap[g]? = some (.cells (cur.setIfInBounds (off + q) u) t (0, 0)) := by
    rw [World.setCell]; simp only [Array.getElem?_modify, if_true, hh]; rfl
  have hrow : RowHas e (w.setCell ⟨g, off + q, none⟩ u) (g :: (Fa ++ Fk ++ Fb)) [.slice (some ⟨g, off, none⟩) xs.length c] (xs.set k y) := by
    refine .inr ⟨g, off, c, _, t, ca ++ ck.set j u ++ cb, Fa ++ Fk ++ Fb, by rw [List.length_set], rfl, hblk, by rw [List.length_set]; exact hle, hcm, by rw [Array.size_setIfInBounds]; exact hsz, ?_, ?_⟩
    · have hxs : xs.set k y = xs.take k ++ y :: xs.drop (k + 1) := by rw [List.set_eq_take_append_cons_drop, if_pos hkl]
      rw [hxs, List.append_assoc, List.append_assoc]
      exact Rep.all_append (Rep.all_keep ha (fun g hg => hs1 g (by simp [hg]))) ⟨Fk, Fb, ck.set j u, cb, rfl, rfl, upd _ _ _ (e.keep hh2 (fun g hg => hs1 g (by simp [hg]))), Rep.all_keep hb (fun g hg => hs1 g (by simp [hg]))⟩
    · have e1 : (cur.setIfInBounds (off + q) u).toList = cur.toList.set (off + q) u := by simp
      have e2 : ca ++ ck.set j u ++ cb = (ca ++ ck ++ cb).set q u := by
        rw [List.append_assoc, List.append_assoc, List.set_append_right _ _ (by omega), List.set_append_left _ _ (by omega)]
        congr 3
        omega
      rw [e1, e2, List.length_set, List.drop_set, if_neg (by omega), Nat.add_sub_cancel_left, List.take_set, htk]
  refine ⟨undef, w.setCell ⟨g, off + q, none⟩ u, ⟨rfl, Sat.perm (hfin _ [.own e.rows [.slice (some ⟨g, off, none⟩) xs.length c] (xs.set k y)] (g :: (Fa ++ Fk ++ Fb)) ⟨_, [], by simp, hrow, rfl⟩ (hG.left.setCell _ _) (fun g' hg' => .inl (by simpa using hg')) ?_) (perm_set i hi)⟩, .inr ⟨?_, rfl⟩⟩
  · exact (Mod.refl _ _).setCell (by simp) u
  · unfold execOp
    simp only [ho, hp, hx, Sem.run_bind, hr, Result.andThen_ok]
    rfl
end
theorem Sat.dupRo {α : Type} {e : Rep α} {w0 w : World} {Γ : List Fact} {cs : List Value} {x : α} (h : Sat w0 w Γ) (i : Nat) (hi : Γ[i]? = some (.ro e cs x)) : Sat w0 w (.ro e cs x :: Γ) := by
  obtain ⟨R, O, ⟨O1, O2, rfl, ⟨rfl, F, hF, hR⟩, k2⟩, k3, k4, k5, k6⟩ := h.pull i hi
  have hS2 : Sat w0 w (.ro e cs x :: .ro e cs x :: Γ.eraseIdx i) :=
    ⟨R, O2, ⟨[], O2, rfl, ⟨rfl, F, hF, hR⟩, [], O2, rfl, ⟨rfl, F, hF, hR⟩, k2⟩, k3, k4, k5, k6⟩
  exact hS2.perm ((perm_erase i hi).symm.cons _)
end Go.Proofs.YtnbaekjednmfjaaDoor
end

section
namespace Go.Proofs.YtnbaekjednmfjaaDoor
open Go.RowKit

/-- Cells as they are. -/
def Rep.raw (n : Nat) : Rep (List Value) where
  size := n
  has _ F cs x := F = [] ∧ cs = x ∧ x.length = n ∧ ∀ u ∈ x, u.oneCell' = true
  len h := by rw [h.2.1]; exact h.2.2.1
  keep h _ := h
  lt h := by rw [h.1]; simp
  one h := by rw [h.2.1]; exact h.2.2.2
instance (n : Nat) : Flat (Rep.raw n) (Rep.raw n) := ⟨fun h _ => ⟨rfl, h.2⟩⟩
theorem Rep.raw_mk {n : Nat} {w : World} {cs : List Value} (h : cs.length = n) (h1 : ∀ u ∈ cs, u.oneCell' = true) : (Rep.raw n).has w [] cs cs := ⟨rfl, rfl, h, h1⟩

section
variable {α : Type} (e : Rep α)
def lnkAll (w : World) : List Nat → List (List Value) → List α → Prop
  | F, [], [] => F = []
  | F, c :: cs, x :: xs => ∃ F1 F2, F = F1 ++ F2 ∧ e.has w F1 c x ∧ lnkAll w F2 cs xs
  | _, _, _ => False
variable {e} {w w' w0 : World} {Γ : List Fact}
theorem lnkAll_keep : ∀ {css : List (List Value)} {xs : List α} {F}, lnkAll e w F css xs → (∀ g ∈ F, w'.heap[g]? = w.heap[g]?) → lnkAll e w' F css xs
  | [], [], _, h, _ => h
  | [], _ :: _, _, h, _ => h
  | _ :: _, [], _, h, _ => h
  | c :: cs, x :: xs, _, ⟨F1, F2, e1, h1, h2⟩, hk => by
    subst e1
    exact ⟨F1, F2, rfl, e.keep h1 (fun g hg => hk g (by simp [hg])), lnkAll_keep h2 (fun g hg => hk g (by simp [hg]))⟩
theorem lnkAll_lt : ∀ {css : List (List Value)} {xs : List α} {F}, lnkAll e w F css xs → ∀ g ∈ F, g < w.heap.size
  | [], [], _, h, g, hg => by rw [show _ = [] from h] at hg; cases hg
  | [], _ :: _, _, h, _, _ => h.elim
  | _ :: _, [], _, h, _, _ => h.elim
  | c :: cs, x :: xs, _, ⟨F1, F2, e1, h1, h2⟩, g, hg => by
    subst e1
    rcases List.mem_append.1 hg with h | h
    · exact e.lt h1 g h
    · exact lnkAll_lt h2 g h
theorem lnkAll_len : ∀ {css : List (List Value)} {xs : List α} {F}, lnkAll e w F css xs → css.length = xs.length
  | [], [], _, _ => rfl
  | [], _ :: _, _, h => h.elim
  | _ :: _, [], _, h => h.elim
  | c :: cs, x :: xs, _, ⟨F1, F2, e1, h1, h2⟩ => by rw [List.length_cons, List.length_cons, lnkAll_len h2]
theorem lnkAll_of : ∀ {xs : List α} {F ces}, e.all w F ces xs → ∃ css, (Rep.raw e.size).all w [] ces css ∧ lnkAll e w F css xs
  | [], _, _, h => ⟨[], ⟨rfl, h.2⟩, h.1⟩
  | x :: xs, _, _, ⟨F1, F2, c1, c2, e1, e2, h1, h2⟩ => by
    obtain ⟨css, k1, k2⟩ := lnkAll_of h2
    exact ⟨c1 :: css, ⟨[], [], c1, c2, rfl, e2, ⟨rfl, rfl, e.len h1, e.one h1⟩, k1⟩, F1, F2, e1, h1, k2⟩
theorem all_of_lnk : ∀ {css : List (List Value)} {xs : List α} {F G ces}, (Rep.raw e.size).all w G ces css → lnkAll e w F css xs → G = [] ∧ e.all w F ces xs
  | [], [], _, _, _, h, k => ⟨h.1, k, h.2⟩
  | [], _ :: _, _, _, _, _, k => k.elim
  | _ :: _, [], _, _, _, _, k => k.elim
  | c :: css, x :: xs, _, _, _, ⟨G1, G2, c1, c2, e1, e2, ⟨g1, e3, _⟩, h2⟩, ⟨F1, F2, e4, k1, k2⟩ => by
    obtain ⟨g2, k3⟩ := all_of_lnk h2 k2
    subst g1 g2 e3
    exact ⟨e1, F1, F2, c1, c2, e4, e2, k1, k3⟩
theorem lnkAll_append : ∀ {css : List (List Value)} {xs : List α} {F G c x}, lnkAll e w F css xs → e.has w G c x → lnkAll e w (F ++ G) (css ++ [c]) (xs ++ [x])
  | [], [], _, G, c, x, h, k => by
    rw [show _ = [] from h]
    exact ⟨G, [], by simp, k, rfl⟩
  | [], _ :: _, _, _, _, _, h, _ => h.elim
  | _ :: _, [], _, _, _, _, h, _ => h.elim
  | _ :: css, _ :: xs, _, G, c, x, ⟨F1, F2, e1, h1, h2⟩, k => by
    subst e1
    exact ⟨F1, F2 ++ G, by simp, h1, lnkAll_append h2 k⟩
theorem lnkAll_get : ∀ {css : List (List Value)} {xs : List α} {F} {k : Nat} {c x}, lnkAll e w F css xs → css[k]? = some c → xs[k]? = some x → ∃ G, (∀ g ∈ G, g ∈ F) ∧ e.has w G c x
  | [], _, _, _, _, _, _, h1, _ => by cases h1
  | _ :: _, [], _, _, _, _, _, _, h2 => by cases h2
  | d :: css, y :: xs, _, 0, c, x, ⟨F1, F2, e1, h1, h2⟩, k1, k2 => by
    subst e1
    simp only [List.getElem?_cons_zero, Option.some.injEq] at k1 k2
    subst k1 k2
    exact ⟨F1, fun g hg => by simp [hg], h1⟩
  | d :: css, y :: xs, _, k + 1, c, x, ⟨F1, F2, e1, h1, h2⟩, k1, k2 => by
    subst e1
    obtain ⟨G, hG, h⟩ := lnkAll_get h2 (by simpa using k1) (by simpa using k2)
    exact ⟨G, fun g hg => by simp [hG g hg], h⟩
theorem lnkAll_set : ∀ {css : List (List Value)} {xs : List α} {F G} (k : Nat) {c x}, lnkAll e w F css xs → e.has w G c x → ∃ H, (∀ g ∈ H, g ∈ F ∨ g ∈ G) ∧ lnkAll e w H (css.set k c) (xs.set k x)
  | [], [], _, _, _, _, _, h, _ => ⟨_, fun g hg => .inl hg, h⟩
  | [], _ :: _, _, _, _, _, _, h, _ => h.elim
  | _ :: _, [], _, _, _, _, _, h, _ => h.elim
  | d :: css, y :: xs, _, G, 0, c, x, ⟨F1, F2, e1, h1, h2⟩, k => by
    subst e1
    exact ⟨G ++ F2, fun g hg => by rcases List.mem_append.1 hg with h | h <;> simp [h], G, F2, rfl, k, h2⟩
  | d :: css, y :: xs, _, G, k' + 1, c, x, ⟨F1, F2, e1, h1, h2⟩, k => by
    subst e1
    obtain ⟨H, hH, h⟩ := lnkAll_set k' h2 k
    refine ⟨F1 ++ H, fun g hg => ?_, F1, H, rfl, h1, h⟩
    rcases List.mem_append.1 hg with h | h
    · exact .inl (by simp [h])
    · rcases hH g h with h | h
      · exact .inl (by simp [h])
      · exact .inr h

/-- What the cells css are: the data xs, one for one. -/
def Rep.lnk (e : Rep α) : Rep (List (List Value) × List α) where
  size := 0
  has w F cs p := cs = [] ∧ lnkAll e w F p.1 p.2
  len h := by rw [h.1]; rfl
  keep h hk := ⟨h.1, lnkAll_keep h.2 hk⟩
  lt h := lnkAll_lt h.2
  one h := by rw [h.1]; simp

theorem Sat.share {A : Option Addr} {n c : Nat} {xs : List α} (h : Sat w0 w (.ro e.slice [.slice A n c] xs :: Γ)) : ∃ css, css.length = xs.length ∧ Sat w0 w (.ro (Rep.raw e.size).slice [.slice A n c] css :: .ro (Rep.lnk e) [] (css, xs) :: Γ) := by
  obtain ⟨R, O, ⟨O1, O2, rfl, ⟨rfl, F, ⟨a', n', c', ces, F', hv, h1, h2, h3, h4, h5⟩, hR⟩, k⟩, h6, h7, h8, h9⟩ := h
  simp only [List.cons.injEq, Value.slice.injEq, and_true] at hv
  obtain ⟨rfl, rfl, rfl⟩ := hv
  obtain ⟨css, k1, k2⟩ := lnkAll_of h4
  have hl := lnkAll_len k2
  rcases h5 with ⟨rfl, rfl⟩ | ⟨ad, rfl, rfl, hb, hc⟩
  · have hx : xs = [] := List.eq_nil_of_length_eq_zero h1
    subst hx
    have hF := h4.1
    subst hF
    exact ⟨css, hl, R, O2, ⟨[], O2, rfl, ⟨rfl, [], ⟨A, 0, c, ces, [], rfl, by rw [hl]; rfl, h2, h3, k1, .inl ⟨rfl, rfl⟩⟩, by simp⟩, [], O2, rfl, ⟨rfl, [], ⟨rfl, k2⟩, by simp⟩, k⟩, h6, h7, h8, h9⟩
  · exact ⟨css, hl, R, O2, ⟨[], O2, rfl, ⟨rfl, [ad.block], ⟨_, n, c, ces, [], rfl, by rw [hl]; exact h1, h2, h3, k1, .inr ⟨ad, rfl, rfl, hb, hc⟩⟩, fun g hg => hR g (by rw [List.mem_singleton.1 hg]; simp)⟩, [], O2, rfl, ⟨rfl, F', ⟨rfl, k2⟩, fun g hg => hR g (by simp [hg])⟩, k⟩, h6, h7, h8, h9⟩
theorem Sat.unshare {v : Value} {css : List (List Value)} {xs : List α} (h : Sat w0 w (.ro (Rep.raw e.size).slice [v] css :: .ro (Rep.lnk e) [] (css, xs) :: Γ)) : Sat w0 w (.ro e.slice [v] xs :: Γ) := by
  obtain ⟨R, O, ⟨O1, O2, rfl, ⟨rfl, F, ⟨a', n', c', ces, F', hv, h1, h2, h3, h4, h5⟩, hR⟩, O3, O4, rfl, ⟨rfl, G, ⟨_, hG⟩, hR2⟩, k⟩, h6, h7, h8, h9⟩ := h
  obtain ⟨rfl, k3⟩ := all_of_lnk h4 hG
  have hl := lnkAll_len hG
  rcases h5 with ⟨rfl, rfl⟩ | ⟨ad, rfl, rfl, hb, hc⟩
  · have hx : xs = [] := List.eq_nil_of_length_eq_zero (by rw [← hl]; exact h1)
    subst hx
    have hF := k3.1
    subst hF
    exact ⟨R, O4, ⟨[], O4, rfl, ⟨rfl, [], ⟨a', 0, c', ces, [], hv, rfl, h2, h3, k3, .inl ⟨rfl, rfl⟩⟩, by simp⟩, k⟩, h6, h7, h8, h9⟩
  · refine ⟨R, O4, ⟨[], O4, rfl, ⟨rfl, ad.block :: G, ⟨_, n', c', ces, G, hv, by rw [← hl]; exact h1, h2, h3, k3, .inr ⟨ad, rfl, rfl, hb, hc⟩⟩, fun g hg => ?_⟩, k⟩, h6, h7, h8, h9⟩
    rcases List.mem_cons.1 hg with rfl | h
    · exact hR _ (by simp)
    · exact hR2 g h
theorem Sat.lnkApp {css : List (List Value)} {xs : List α} {c : List Value} {x : α} (h : Sat w0 w (.ro e c x :: .ro (Rep.lnk e) [] (css, xs) :: Γ)) : Sat w0 w (.ro (Rep.lnk e) [] (css ++ [c], xs ++ [x]) :: Γ) := by
  obtain ⟨R, O, ⟨O1, O2, rfl, ⟨rfl, F, hF, hR⟩, O3, O4, rfl, ⟨rfl, G, ⟨_, hG⟩, hR2⟩, k⟩, h6⟩ := h
  refine ⟨R, O4, ⟨[], O4, rfl, ⟨rfl, G ++ F, ⟨rfl, lnkAll_append hG hF⟩, fun g hg => ?_⟩, k⟩, h6⟩
  rcases List.mem_append.1 hg with h | h
  · exact hR2 g h
  · exact hR g h
theorem Sat.lnkGet {css : List (List Value)} {xs : List α} {c : List Value} {x : α} {k : Nat} (h : Sat w0 w (.ro (Rep.lnk e) [] (css, xs) :: Γ)) (h1 : css[k]? = some c) (h2 : xs[k]? = some x) : Sat w0 w (.ro e c x :: .ro (Rep.lnk e) [] (css, xs) :: Γ) := by
  obtain ⟨R, O, ⟨O3, O4, rfl, ⟨rfl, G, ⟨_, hG⟩, hR2⟩, k⟩, h6⟩ := h
  obtain ⟨H, hH, hh⟩ := lnkAll_get hG h1 h2
  exact ⟨R, O4, ⟨[], O4, rfl, ⟨rfl, H, hh, fun g hg => hR2 g (hH g hg)⟩, [], O4, rfl, ⟨rfl, G, ⟨rfl, hG⟩, hR2⟩, k⟩, h6⟩
theorem Sat.lnkSet {css : List (List Value)} {xs : List α} {c : List Value} {x : α} (k : Nat) (h : Sat w0 w (.ro e c x :: .ro (Rep.lnk e) [] (css, xs) :: Γ)) : Sat w0 w (.ro (Rep.lnk e) [] (css.set k c, xs.set k x) :: Γ) := by
  obtain ⟨R, O, ⟨O1, O2, rfl, ⟨rfl, F, hF, hR⟩, O3, O4, rfl, ⟨rfl, G, ⟨_, hG⟩, hR2⟩, k'⟩, h6⟩ := h
  obtain ⟨H, hH, hh⟩ := lnkAll_set k hG hF
  exact ⟨R, O4, ⟨[], O4, rfl, ⟨rfl, H, ⟨rfl, hh⟩, fun g hg => by rcases hH g hg with h | h; exact hR2 g h; exact hR g h⟩, k'⟩, h6⟩
theorem Sat.rawOwn (h : Sat w0 w Γ) (n : Nat) (cs : List Value) (h1 : cs.length = n) (h2 : ∀ u ∈ cs, u.oneCell' = true) : Sat w0 w (.own (Rep.raw n) cs cs :: Γ) := h.flat (Rep.raw_mk h1 h2)
/-- More that is read, where nothing is owned. -/
theorem Sat.roMore {cs : List Value} {x : α} (h : Sat w0 w Γ) (hx : ∃ F, e.has w F cs x) (hΓ : ∀ R O, holdAll w R Γ O → O = []) : Sat w0 w (.ro e cs x :: Γ) := by
  obtain ⟨R, O, h1, h2, h3, h4, h5⟩ := h
  obtain ⟨F, hF⟩ := hx
  have hO := hΓ R O h1
  subst hO
  have grow : ∀ {Γ : List Fact} {O}, holdAll w R Γ O → holdAll w (R ++ F) Γ O := by
    intro Γ
    induction Γ with
    | nil => intro O h; exact h
    | cons f Γ ih =>
      rintro O ⟨O1, O2, rfl, h1, h2⟩
      refine ⟨O1, O2, rfl, ?_, ih h2⟩
      cases f with
      | own e cs x => exact h1
      | ro e cs x => obtain ⟨rfl, F, k1, k2⟩ := h1; exact ⟨rfl, F, k1, fun g hg => by simp [k2 g hg]⟩
      | box b cs => exact h1
      | «at» ad cs => obtain ⟨rfl, k1, k2⟩ := h1; exact ⟨rfl, by simp [k1], k2⟩
      | set r ks => exact h1
  refine ⟨R ++ F, [], ⟨[], [], rfl, ⟨rfl, F, hF, fun g hg => by simp [hg]⟩, grow h1⟩, h2, by simp, fun g hg => ?_, h5⟩
  rcases List.mem_append.1 hg with h | h
  · exact h4 g h
  · exact e.lt hF g h
theorem Sat.rawBox {b : Nat} {cs : List Value} (h : Sat w0 w (.box b cs :: Γ)) (n : Nat) (h1 : cs.length = n) (h2 : cs.all (·.oneCell') = true) : Sat w0 w (.own ((Rep.raw n).vec 1) cs [cs] :: .box b cs :: Γ) :=
  Sat.vec1 (h.rawOwn n cs h1 (List.all_eq_true.1 h2))
theorem Sat.roRaw {n : Nat} {ck c : List Value} (h : Sat w0 w (.ro (Rep.raw n) ck c :: Γ)) : ck = c ∧ Sat w0 w Γ := by
  obtain ⟨F, hF⟩ := h.readRo
  exact ⟨hF.2.1, h.drop⟩
theorem Sat.unshareAt {v : Value} {css : List (List Value)} {xs : List α} (i : Nat) (h : Sat w0 w (.ro (Rep.raw e.size).slice [v] css :: Γ)) (hi : Γ[i]? = some (.ro (Rep.lnk e) [] (css, xs))) : Sat w0 w (.ro e.slice [v] xs :: Γ) := by
  have h1 := h.dupRo (i + 1) (by simpa using hi)
  have h2 := Sat.unshare (Sat.swap h1)
  exact h2
theorem Sat.roMap {β : Type} {b : Rep β} {cs ds : List Value} {x : α} {y : β} (h : Sat w0 w (.ro e cs x :: Γ)) (hc : ∀ w F, e.has w F cs x → b.has w F ds y) : Sat w0 w (.ro b ds y :: Γ) := by
  obtain ⟨R, O, ⟨O1, O2, rfl, ⟨rfl, F, hF, hR⟩, k⟩, h6⟩ := h
  exact ⟨R, O2, ⟨[], O2, rfl, ⟨rfl, F, hc w F hF, hR⟩, k⟩, h6⟩
theorem raw_upd {n j : Nat} {u : Value} {c0 : List Value} (hu : u.oneCell' = true) {w : World} {F : List Nat} {ck : List Value} (h : (Rep.raw n).has w F ck c0) : (Rep.raw n).has w F (ck.set j u) (c0.set j u) := by
  obtain ⟨rfl, rfl, h1, h2⟩ := h
  refine ⟨rfl, rfl, by rw [List.length_set]; exact h1, fun v hv => ?_⟩
  rcases List.mem_or_eq_of_mem_set hv with h | rfl
  · exact h2 v h
  · exact hu
end
end Go.Proofs.YtnbaekjednmfjaaDoor
end

section
namespace Go.Proofs.YtnbaekjednmfjaaDoor
open Go.RowKit

section
variable {α : Type} {e : Rep α} {w w0 : World} {Γ : List Fact}
theorem Sat.shareOwn {v : Value} {xs : List α} (h : Sat w0 w (.own e.rows [v] xs :: Γ)) : ∃ css, css.length = xs.length ∧ Sat w0 w (.own (Rep.raw e.size).rows [v] css :: .own (Rep.lnk e) [] (css, xs) :: Γ) := by
  obtain ⟨R, O, ⟨O1, O2, rfl, h1, h2⟩, h3⟩ := h
  rcases h1 with ⟨hv, rfl, rfl⟩ | ⟨g, off, cap, cur, t, ces, F', hv, rfl, hh, hle, hcm, hsz, hce, htk⟩
  · exact ⟨[], rfl, R, _, ⟨[], O2, rfl, .inl ⟨hv, rfl, rfl⟩, [], O2, rfl, ⟨rfl, rfl⟩, h2⟩, h3⟩
  · obtain ⟨css, k1, k2⟩ := lnkAll_of hce
    have hl := lnkAll_len k2
    exact ⟨css, hl, R, _, ⟨[g], F' ++ O2, rfl, .inr ⟨g, off, cap, cur, t, ces, [], by rw [hl]; exact hv, rfl, hh, by rw [hl]; exact hle, hcm, hsz, k1, htk⟩, F', O2, rfl, ⟨rfl, k2⟩, h2⟩, h3⟩
theorem Sat.unshareOwn {v : Value} {css : List (List Value)} {xs : List α} (h : Sat w0 w (.own (Rep.raw e.size).rows [v] css :: .own (Rep.lnk e) [] (css, xs) :: Γ)) : Sat w0 w (.own e.rows [v] xs :: Γ) := by
  obtain ⟨R, O, ⟨O1, O', rfl, h1, O2, O3, rfl, ⟨_, hG⟩, h2⟩, h3⟩ := h
  have hl := lnkAll_len hG
  rcases h1 with ⟨hv, rfl, rfl⟩ | ⟨g, off, cap, cur, t, ces, F', hv, rfl, hh, hle, hcm, hsz, hce, htk⟩
  · have hx : xs = [] := List.eq_nil_of_length_eq_zero hl.symm
    subst hx
    have hO : O2 = [] := hG
    subst hO
    exact ⟨R, _, ⟨[], O3, rfl, .inl ⟨hv, rfl, rfl⟩, h2⟩, h3⟩
  · obtain ⟨rfl, k3⟩ := all_of_lnk hce hG
    exact ⟨R, _, ⟨g :: O2, O3, rfl, .inr ⟨g, off, cap, cur, t, ces, O2, by rw [← hl]; exact hv, rfl, hh, by rw [← hl]; exact hle, hcm, hsz, k3, htk⟩, h2⟩, h3⟩
theorem Sat.lnkAppOwn {css : List (List Value)} {xs : List α} {c : List Value} {x : α} (h : Sat w0 w (.own e c x :: .own (Rep.lnk e) [] (css, xs) :: Γ)) : Sat w0 w (.own (Rep.lnk e) [] (css ++ [c], xs ++ [x]) :: Γ) := by
  obtain ⟨R, O, ⟨O2, O', rfl, ⟨_, hG⟩, O1, O3, rfl, hF, h2⟩, h3⟩ := Sat.swap h
  refine ⟨R, _, ⟨O2 ++ O1, O3, (List.append_assoc _ _ _).symm, ⟨rfl, lnkAll_append hG hF⟩, h2⟩, h3⟩
theorem raw_all_take {m : Nat} : ∀ {css : List (List Value)} {F ces} (k : Nat), (Rep.raw m).all w F ces css → (Rep.raw m).all w [] (ces.take (k * m)) (css.take k)
  | [], F, ces, k, h => by rw [h.2]; simp; exact ⟨rfl, rfl⟩
  | c :: css, F, ces, 0, _ => by simp; exact ⟨rfl, rfl⟩
  | c :: css, F, ces, k + 1, ⟨F1, F2, c1, c2, e1, e2, ⟨g1, e3, hl, ho⟩, h2⟩ => by
    subst e1 e2 e3
    have hk := raw_all_take k h2
    refine ⟨[], [], c1, c2.take (k * m), rfl, ?_, ⟨rfl, rfl, hl, ho⟩, hk⟩
    rw [List.take_append, List.take_of_length_le (by rw [hl, Nat.add_mul]; omega), hl]
    congr 2
    rw [Nat.add_mul]; omega
theorem Sat.ownMap {β : Type} {b : Rep β} {cs ds : List Value} {x : α} {y : β} (h : Sat w0 w (.own e cs x :: Γ)) (hc : ∀ w F, e.has w F cs x → b.has w F ds y) : Sat w0 w (.own b ds y :: Γ) := by
  obtain ⟨R, O, ⟨O1, O2, rfl, h1, h2⟩, h3⟩ := h
  exact ⟨R, _, ⟨O1, O2, rfl, hc _ _ h1, h2⟩, h3⟩
theorem Sat.cutRaw {m b off n c : Nat} {css : List (List Value)} (k : Nat) (hk : k ≤ n) (h : Sat w0 w (.own (Rep.raw m).rows [.slice (some ⟨b, off, none⟩) n c] css :: Γ)) : Sat w0 w (.own (Rep.raw m).rows [.slice (some ⟨b, off, none⟩) k c] (css.take k) :: Γ) := by
  refine Sat.ownMap h fun w F hF => ?_
  have hn := RowHas.n hF
  rcases hF with ⟨hv, _⟩ | ⟨g, off', cap, cur, t, ces, F', hv, rfl, hh, hle, hcm, hsz, hce, htk⟩
  · simp at hv
  simp only [List.cons.injEq, Value.slice.injEq, Option.some.injEq, Addr.mk.injEq, and_true] at hv
  obtain ⟨⟨rfl, rfl⟩, _, rfl⟩ := hv
  have hF' : F' = [] := by
    have h1 : ∀ {css : List (List Value)} {F ces}, (Rep.raw m).all w F ces css → F = [] := by
      intro css
      induction css with
      | nil => intro F ces h; exact h.1
      | cons c css ih => rintro F ces ⟨F1, F2, c1, c2, rfl, rfl, ⟨rfl, _⟩, h2⟩; exact ih h2
    exact h1 hce
  subst hF'
  have hl : (css.take k).length = k := by rw [List.length_take]; omega
  refine .inr ⟨b, off, c, cur, t, ces.take (k * m), [], by rw [hl], rfl, hh, by rw [hl]; omega, hcm, hsz, raw_all_take k hce, ?_⟩
  have h := congrArg (List.take (k * m)) htk
  rw [List.take_take] at h
  rw [List.length_take]
  exact h
theorem Sat.boxRaw2 {b m : Nat} {c0 c1 : List Value} (h : Sat w0 w (.box b (c0 ++ c1) :: Γ)) (h0 : c0.length = m) (h1 : c1.length = m) (k0 : ∀ u ∈ c0, u.oneCell' = true) (k1 : ∀ u ∈ c1, u.oneCell' = true) : Sat w0 w (.own (Rep.raw m).rows [.slice (some ⟨b, 0, none⟩) 2 2] [c0, c1] :: Γ) := by
  obtain ⟨R, O, ⟨O1, O2, rfl, ⟨rfl, t, hb⟩, h2⟩, h3⟩ := h
  exact ⟨R, _, ⟨[b], O2, rfl, RowHas.whole hb (by rw [List.toList_toArray]; exact ⟨[], [], c0, c1, rfl, rfl, Rep.raw_mk h0 k0, [], [], c1, [], rfl, by simp, Rep.raw_mk h1 k1, rfl, rfl⟩) rfl (by unfold maxLen; decide), h2⟩, h3⟩
end
section
variable {P : Program} {o : Oper} {a : Act} {w w0 : World} {Γ : List Fact}
theorem f_loadRaw {T : TypeId} {z : Value} {p : Operand} {g off n c k i : Nat} {css : List (List Value)} {u : Value} (hS : Sat w0 w Γ) (ho : o.op = .load T p) (hp : a.eval p = .pointer (some ⟨g, off + k, none⟩)) [hi : OwnIn Γ (Rep.raw 1).rows [.slice (some ⟨g, off, none⟩) n c] css i] [hT : Ty P T z 1 false] (hx : css[k]? = some [u]) : Gives P o a w u := by
  obtain ⟨⟨u', Fu, hc, -, hu, -⟩, -⟩ := hS.rowCell i hi.get rfl hx
  simp only [List.cons.injEq, and_true] at hu
  subst hu
  unfold Gives execOp
  simp [ho, hp, run_load1 hT hc]
theorem f_loadBoolRow {T : TypeId} {z : Value} {p : Operand} {g off n c k i : Nat} {xs : List Bool} {x : Bool} (hS : Sat w0 w Γ) (ho : o.op = .load T p) (hp : a.eval p = .pointer (some ⟨g, off + k, none⟩)) [hi : OwnIn Γ Rep.bool.rows [.slice (some ⟨g, off, none⟩) n c] xs i] [hT : Ty P T z 1 false] (hx : xs[k]? = some x) : Gives P o a w (.bool x) := by
  obtain ⟨⟨u, Fu, hc, -, hu⟩, -⟩ := hS.rowCell i hi.get rfl hx
  simp only [List.cons.injEq, and_true] at hu
  subst hu
  unfold Gives execOp
  simp [ho, hp, run_load1 hT hc]
theorem f_loadStrRow {T : TypeId} {z : Value} {p : Operand} {g off n c k i : Nat} {xs : List ByteArray} {x : ByteArray} (hS : Sat w0 w Γ) (ho : o.op = .load T p) (hp : a.eval p = .pointer (some ⟨g, off + k, none⟩)) [hi : OwnIn Γ Rep.str.rows [.slice (some ⟨g, off, none⟩) n c] xs i] [hT : Ty P T z 1 false] (hx : xs[k]? = some x) : Gives P o a w (.string x) := by
  obtain ⟨⟨u, Fu, hc, -, hu, -⟩, -⟩ := hS.rowCell i hi.get rfl hx
  simp only [List.cons.injEq, and_true] at hu
  subst hu
  unfold Gives execOp
  simp [ho, hp, run_load1 hT hc]
end
section
variable {w w0 x : World} {Γ : List Fact}
/-- What stays when the block of one variable changes. -/
theorem Sat.modB {b i : Nat} {us : List Value} (h : Sat w0 w Γ) [hb : BoxAt Γ b us i] (hx : Mod [b] w x) : Sat w0 x (Γ.eraseIdx i) := by
  obtain ⟨R, O, ⟨O1, O2, rfl, ⟨rfl, t, hbb⟩, k2⟩, h2, h3, h4, h5⟩ := h.pull i hb.get
  have hbl : b < w.heap.size := (Array.getElem?_eq_some_iff.1 hbb).1
  have hO : ∀ g ∈ O2, x.heap[g]? = w.heap[g]? := fun g hg => hx.block g (h2.right.lt g hg) (by
    intro hgb
    rw [List.mem_singleton.1 hgb] at hg
    exact h2.apart b (by simp) hg)
  have hR : ∀ g ∈ R, x.heap[g]? = w.heap[g]? := fun g hg => hx.block g (h4 g hg) (by
    intro hgb
    rw [List.mem_singleton.1 hgb] at hg
    exact (h3 b (by simp)).1 hg)
  refine ⟨R, O2, holdAll_keep k2 hO hR, ⟨h2.right.1, fun g hg => ?_⟩, fun g hg => h3 g (by simp [hg]), fun g hg => Nat.lt_of_lt_of_le (h4 g hg) hx.size, (Mod.seqD h5 hx (fun g hg => by rw [List.mem_singleton.1 hg]; exact (h3 b (by simp)).2))⟩
  obtain ⟨o, ho, hp⟩ := h2.right.2 g hg
  exact ⟨o, (hO g hg).trans ho, hp⟩
end
end Go.Proofs.YtnbaekjednmfjaaDoor
end

section
namespace Go.Proofs.YtnbaekjednmfjaaDoor
open Go.RowKit

theorem snocG {α : Type} {l : List α} {k : Nat} {b : α} (h : l.length = k) : (l ++ [b])[k]? = some b := by subst h; simp
section
variable {α : Type} {e : Rep α} {w w0 : World} {Γ : List Fact}
theorem lnkAll_snoc : ∀ {css : List (List Value)} {xs : List α} {F c x}, css.length = xs.length → lnkAll e w F (css ++ [c]) (xs ++ [x]) → ∃ F1 F2, F = F1 ++ F2 ∧ lnkAll e w F1 css xs ∧ e.has w F2 c x
  | [], [], F, c, x, _, ⟨F1, F2, e1, h1, h2⟩ => ⟨[], F1, by subst e1; rw [show F2 = [] from h2]; simp, rfl, h1⟩
  | [], _ :: _, _, _, _, h, _ => by simp at h
  | _ :: _, [], _, _, _, h, _ => by simp at h
  | d :: css, y :: xs, F, c, x, hl, ⟨F1, F2, e1, h1, h2⟩ => by
    obtain ⟨G1, G2, e2, k1, k2⟩ := lnkAll_snoc (by simpa using hl) h2
    subst e1 e2
    exact ⟨F1 ++ G1, G2, (List.append_assoc _ _ _).symm, ⟨F1, G1, rfl, h1, k1⟩, k2⟩
theorem Sat.lnkOutOwn {css : List (List Value)} {xs : List α} {c : List Value} {x : α} (hl : css.length = xs.length) (h : Sat w0 w (.own (Rep.lnk e) [] (css ++ [c], xs ++ [x]) :: Γ)) : Sat w0 w (.own e c x :: .own (Rep.lnk e) [] (css, xs) :: Γ) := by
  refine Sat.swap ?_
  obtain ⟨R, O, ⟨O1, O3, rfl, ⟨_, hG⟩, h2⟩, h3⟩ := h
  obtain ⟨F1, F2, rfl, k1, k2⟩ := lnkAll_snoc hl hG
  exact ⟨R, _, ⟨F1, F2 ++ O3, List.append_assoc _ _ _, ⟨rfl, k1⟩, F2, O3, rfl, k2, h2⟩, h3⟩
/-- The last element, taken out. -/
theorem Sat.openLast {v : Value} {xs : List α} {x : α} (h : Sat w0 w (.own e.rows [v] (xs ++ [x]) :: Γ)) : ∃ css c, css.length = xs.length ∧ Sat w0 w (.own e c x :: .own (Rep.raw e.size).rows [v] (css ++ [c]) :: .own (Rep.lnk e) [] (css, xs) :: Γ) := by
  obtain ⟨ds, hl, h1⟩ := Sat.shareOwn h
  rw [List.length_append, List.length_singleton] at hl
  rcases List.eq_nil_or_concat ds with rfl | ⟨css, c, rfl⟩
  · simp at hl
  · rw [List.concat_eq_append] at h1 hl
    have hl2 : css.length = xs.length := by simpa using hl
    refine ⟨css, c, hl2, ?_⟩
    have h2 := Sat.lnkOutOwn hl2 (Sat.swap h1)
    exact h2.perm ((List.Perm.swap _ _ _).cons _)
theorem Sat.rowForm {cs : List Value} {xs : List α} (h : Sat w0 w (.own e.rows cs xs :: Γ)) : ∃ A c, cs = [.slice A xs.length c] := by
  obtain ⟨R, O, ⟨O1, O2, rfl, h1, h2⟩, h3⟩ := id h
  have hl := e.rows.len h1
  obtain ⟨v, rfl⟩ := List.length_eq_one_iff.1 hl
  obtain ⟨A, c, rfl⟩ := RowHas.form h1
  exact ⟨A, c, rfl⟩
/-! ### One element taken out -/
def Rep.lnkH (e : Rep α) : Rep (List (List Value) × List α × Nat) where
  size := 0
  has w F cs p := cs = [] ∧ ∃ Fa Fb, F = Fa ++ Fb ∧ lnkAll e w Fa (p.1.take p.2.2) (p.2.1.take p.2.2) ∧ lnkAll e w Fb (p.1.drop (p.2.2 + 1)) (p.2.1.drop (p.2.2 + 1))
  len h := by rw [h.1]; rfl
  keep h hk := by
    obtain ⟨h0, Fa, Fb, rfl, h1, h2⟩ := h
    exact ⟨h0, Fa, Fb, rfl, lnkAll_keep h1 (fun g hg => hk g (by simp [hg])), lnkAll_keep h2 (fun g hg => hk g (by simp [hg]))⟩
  lt h := by
    obtain ⟨h0, Fa, Fb, rfl, h1, h2⟩ := h
    intro g hg
    rcases List.mem_append.1 hg with h | h
    · exact lnkAll_lt h1 g h
    · exact lnkAll_lt h2 g h
  one h := by rw [h.1]; simp
theorem lnkAll_open : ∀ {k : Nat} {css : List (List Value)} {xs : List α} {F c x}, css[k]? = some c → xs[k]? = some x → lnkAll e w F css xs → ∃ Fa Fk Fb, F = Fa ++ (Fk ++ Fb) ∧ lnkAll e w Fa (css.take k) (xs.take k) ∧ e.has w Fk c x ∧ lnkAll e w Fb (css.drop (k + 1)) (xs.drop (k + 1))
  | _, [], _, _, _, _, hc, _, _ => by simp at hc
  | _, _ :: _, [], _, _, _, _, hx, _ => by simp at hx
  | 0, d :: css, y :: xs, F, c, x, hc, hx, ⟨F1, F2, e1, h1, h2⟩ => by
    simp only [List.getElem?_cons_zero, Option.some.injEq] at hc hx
    subst hc hx e1
    exact ⟨[], F1, F2, rfl, rfl, h1, h2⟩
  | k + 1, d :: css, y :: xs, F, c, x, hc, hx, ⟨F1, F2, e1, h1, h2⟩ => by
    obtain ⟨Fa, Fk, Fb, e2, k1, k2, k3⟩ := lnkAll_open (by simpa using hc) (by simpa using hx) h2
    subst e1 e2
    exact ⟨F1 ++ Fa, Fk, Fb, (List.append_assoc _ _ _).symm, ⟨F1, Fa, rfl, h1, k1⟩, k2, k3⟩
theorem lnkAll_join : ∀ {css ds : List (List Value)} {xs ys : List α} {F G}, lnkAll e w F css xs → lnkAll e w G ds ys → lnkAll e w (F ++ G) (css ++ ds) (xs ++ ys)
  | [], _, [], _, F, G, h1, h2 => by rw [show F = [] from h1]; exact h2
  | [], _, _ :: _, _, _, _, h1, _ => h1.elim
  | _ :: _, _, [], _, _, _, h1, _ => h1.elim
  | d :: css, ds, y :: xs, ys, F, G, ⟨F1, F2, e1, h1, h2⟩, k => by
    subst e1
    exact ⟨F1, F2 ++ G, List.append_assoc _ _ _, h1, lnkAll_join h2 k⟩
/-- One element, taken out. -/
theorem Sat.openAt {v : Value} {xs : List α} {x : α} (k : Nat) (hx : xs[k]? = some x) (h : Sat w0 w (.own e.rows [v] xs :: Γ)) : ∃ css c, css.length = xs.length ∧ css[k]? = some c ∧ Sat w0 w (.own e c x :: .own (Rep.raw e.size).rows [v] css :: .own (Rep.lnkH e) [] (css, xs, k) :: Γ) := by
  obtain ⟨css, hl, h1⟩ := Sat.shareOwn h
  have hk : k < css.length := by rw [hl]; exact (List.getElem?_eq_some_iff.1 hx).1
  have hc : css[k]? = some css[k] := List.getElem?_eq_getElem hk
  refine ⟨css, css[k], hl, hc, ?_⟩
  obtain ⟨R, O, ⟨O2, O', rfl, ⟨_, hG⟩, O1, O3, rfl, hF, h2⟩, h3⟩ := Sat.swap h1
  obtain ⟨Fa, Fk, Fb, rfl, k1, k2, k3⟩ := lnkAll_open hc hx hG
  have hS : Sat w0 w (.own (Rep.lnkH e) [] (css, xs, k) :: .own e css[k] x :: .own (Rep.raw e.size).rows [v] css :: Γ) := by
    have hp : (Fa ++ (Fk ++ Fb) ++ (O1 ++ O3)).Perm ((Fa ++ Fb) ++ (Fk ++ (O1 ++ O3))) := by
      rw [List.append_assoc, List.append_assoc, List.append_assoc]
      refine List.Perm.append_left Fa ?_
      rw [← List.append_assoc, ← List.append_assoc Fb]
      exact List.Perm.append_right _ List.perm_append_comm
    obtain ⟨hg1, hg2, hg3, hg4⟩ := h3
    exact ⟨R, _, ⟨Fa ++ Fb, _, rfl, ⟨rfl, Fa, Fb, rfl, k1, k3⟩, Fk, _, rfl, k2, O1, O3, rfl, hF, h2⟩, hg1.perm hp, fun g hg => hg2 g (hp.mem_iff.2 hg), hg3, hg4⟩
  exact hS.perm ((List.Perm.swap _ _ _).trans ((List.Perm.swap _ _ _).cons _))
/-- And put back. -/
theorem Sat.closeAt {v : Value} {css : List (List Value)} {xs : List α} {c : List Value} {y : α} {k : Nat} (hk : k < css.length) (hl : css.length = xs.length) (h : Sat w0 w (.own e c y :: .own (Rep.raw e.size).rows [v] (css.set k c) :: .own (Rep.lnkH e) [] (css, xs, k) :: Γ)) : Sat w0 w (.own e.rows [v] (xs.set k y) :: Γ) := by
  have h1 : Sat w0 w (.own (Rep.lnkH e) [] (css, xs, k) :: .own e c y :: .own (Rep.raw e.size).rows [v] (css.set k c) :: Γ) := h.perm (((List.Perm.swap _ _ _).cons _).trans (List.Perm.swap _ _ _))
  obtain ⟨R, O, ⟨Oh, _, rfl, ⟨_, Fa, Fb, rfl, k1, k3⟩, Fk, _, rfl, k2, O1, O3, rfl, hF, h2⟩, hg1, hg2, hg3, hg4⟩ := h1
  have e1 : css.set k c = css.take k ++ c :: css.drop (k + 1) := by rw [List.set_eq_take_append_cons_drop, if_pos hk]
  have e2 : xs.set k y = xs.take k ++ y :: xs.drop (k + 1) := by rw [List.set_eq_take_append_cons_drop, if_pos (by omega)]
  have hG : lnkAll e w (Fa ++ (Fk ++ Fb)) (css.set k c) (xs.set k y) := by
    rw [e1, e2]
    exact lnkAll_join k1 ⟨Fk, Fb, rfl, k2, k3⟩
  have hp : (Fa ++ Fb ++ (Fk ++ (O1 ++ O3))).Perm ((Fa ++ (Fk ++ Fb)) ++ (O1 ++ O3)) := by
    rw [List.append_assoc, List.append_assoc, List.append_assoc]
    refine List.Perm.append_left Fa ?_
    rw [← List.append_assoc, ← List.append_assoc Fk]
    exact List.Perm.append_right _ List.perm_append_comm
  exact Sat.unshareOwn (Sat.swap ⟨R, _, ⟨_, _, rfl, ⟨rfl, hG⟩, O1, O3, rfl, hF, h2⟩, hg1.perm hp, fun g hg => hg2 g (hp.mem_iff.2 hg), hg3, hg4⟩)
theorem Sat.closeSame {v : Value} {css : List (List Value)} {xs : List α} {c : List Value} {y : α} {k : Nat} (hc : css[k]? = some c) (hl : css.length = xs.length) (h : Sat w0 w (.own e c y :: .own (Rep.raw e.size).rows [v] css :: .own (Rep.lnkH e) [] (css, xs, k) :: Γ)) : Sat w0 w (.own e.rows [v] (xs.set k y) :: Γ) := by
  obtain ⟨hk, hck⟩ := List.getElem?_eq_some_iff.1 hc
  have e1 : css.set k c = css := by rw [← hck]; exact List.set_getElem_self hk
  exact Sat.closeAt hk hl (by rw [e1]; exact h)
end
end Go.Proofs.YtnbaekjednmfjaaDoor
end
