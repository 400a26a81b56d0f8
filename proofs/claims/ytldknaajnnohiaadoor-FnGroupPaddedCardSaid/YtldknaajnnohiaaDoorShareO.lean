/- A store into a cell of an element of a row of one's own. No function of the program occurs here. -/
import Derived.Test.YtldknaajnnohiaaDoorFind
section
namespace Go.Proofs.YtldknaajnnohiaaDoor
open Go.RowKit

section
variable {P : Program} {o : Oper} {a : Act} {w w0 : World} {Γ : List Fact} {α : Type} {e : Rep α}
end
theorem Sat.dupRo {α : Type} {e : Rep α} {w0 w : World} {Γ : List Fact} {cs : List Value} {x : α} (h : Sat w0 w Γ) (i : Nat) (hi : Γ[i]? = some (.ro e cs x)) : Sat w0 w (.ro e cs x :: Γ) := by
  obtain ⟨R, O, ⟨O1, O2, rfl, ⟨rfl, F, hF, hR⟩, k2⟩, k3, k4, k5, k6⟩ := h.pull i hi
  have hS2 : Sat w0 w (.ro e cs x :: .ro e cs x :: Γ.eraseIdx i) :=
    ⟨R, O2, ⟨[], O2, rfl, ⟨rfl, F, hF, hR⟩, [], O2, rfl, ⟨rfl, F, hF, hR⟩, k2⟩, k3, k4, k5, k6⟩
  exact hS2.perm ((perm_erase i hi).symm.cons _)
end Go.Proofs.YtldknaajnnohiaaDoor
end

section
namespace Go.Proofs.YtldknaajnnohiaaDoor
open Go.RowKit

/-- Cells as they are. -/
def Rep.raw (n : Nat) : Rep (List Value) where
  size := n
  has _ F cs x := F = [] ∧ cs = x ∧ x.length = n ∧ ∀ u ∈ x, u.oneCell' = true
  len h := by rw [h.2.1]; exact h.2.2.1
  keep h _ := h
  lt h := by rw [h.1]; simp
  one h := by rw [h.2.1]; exact h.2.2.2
instance (n : Nat) : Flat (Rep.raw n) (Rep.raw n) := ⟨fun h _ => ⟨rfl, h.2⟩⟩
theorem Rep.raw_mk {n : Nat} {w : World} {cs : List Value} (h : cs.length = n) (h1 : ∀ u ∈ cs, u.oneCell' = true) : (Rep.raw n).has w [] cs cs := ⟨rfl, rfl, h, h1⟩

section
variable {α : Type} (e : Rep α)
def lnkAll (w : World) : List Nat → List (List Value) → List α → Prop
  | F, [], [] => F = []
  | F, c :: cs, x :: xs => ∃ F1 F2, F = F1 ++ F2 ∧ e.has w F1 c x ∧ lnkAll w F2 cs xs
  | _, _, _ => False
variable {e} {w w' w0 : World} {Γ : List Fact}
theorem lnkAll_keep : ∀ {css : List (List Value)} {xs : List α} {F}, lnkAll e w F css xs → (∀ g ∈ F, w'.heap[g]? = w.heap[g]?) → lnkAll e w' F css xs
  | [], [], _, h, _ => h
  | [], _ :: _, _, h, _ => h
  | _ :: _, [], _, h, _ => h
  | c :: cs, x :: xs, _, ⟨F1, F2, e1, h1, h2⟩, hk => by
    subst e1
    exact ⟨F1, F2, rfl, e.keep h1 (fun g hg => hk g (by simp [hg])), lnkAll_keep h2 (fun g hg => hk g (by simp [hg]))⟩
theorem lnkAll_lt : ∀ {css : List (List Value)} {xs : List α} {F}, lnkAll e w F css xs → ∀ g ∈ F, g < w.heap.size
  | [], [], _, h, g, hg => by rw [show _ = [] from h] at hg; cases hg
  | [], _ :: _, _, h, _, _ => h.elim
  | _ :: _, [], _, h, _, _ => h.elim
  | c :: cs, x :: xs, _, ⟨F1, F2, e1, h1, h2⟩, g, hg => by
    subst e1
    rcases List.mem_append.1 hg with h | h
    · exact e.lt h1 g h
    · exact lnkAll_lt h2 g h
theorem lnkAll_len : ∀ {css : List (List Value)} {xs : List α} {F}, lnkAll e w F css xs → css.length = xs.length
  | [], [], _, _ => rfl
  | [], _ :: _, _, h => h.elim
  | _ :: _, [], _, h => h.elim
  | c :: cs, x :: xs, _, ⟨F1, F2, e1, h1, h2⟩ => by rw [List.length_cons, List.length_cons, lnkAll_len h2]
theorem lnkAll_of : ∀ {xs : List α} {F ces}, e.all w F ces xs → ∃ css, (Rep.raw e.size).all w [] ces css ∧ lnkAll e w F css xs
  | [], _, _, h => ⟨[], ⟨rfl, h.2⟩, h.1⟩
  | x :: xs, _, _, ⟨F1, F2, c1, c2, e1, e2, h1, h2⟩ => by
    obtain ⟨css, k1, k2⟩ := lnkAll_of h2
    exact ⟨c1 :: css, ⟨[], [], c1, c2, rfl, e2, ⟨rfl, rfl, e.len h1, e.one h1⟩, k1⟩, F1, F2, e1, h1, k2⟩
theorem all_of_lnk : ∀ {css : List (List Value)} {xs : List α} {F G ces}, (Rep.raw e.size).all w G ces css → lnkAll e w F css xs → G = [] ∧ e.all w F ces xs
  | [], [], _, _, _, h, k => ⟨h.1, k, h.2⟩
  | [], _ :: _, _, _, _, _, k => k.elim
  | _ :: _, [], _, _, _, _, k => k.elim
  | c :: css, x :: xs, _, _, _, ⟨G1, G2, c1, c2, e1, e2, ⟨g1, e3, _⟩, h2⟩, ⟨F1, F2, e4, k1, k2⟩ => by
    obtain ⟨g2, k3⟩ := all_of_lnk h2 k2
    subst g1 g2 e3
    exact ⟨e1, F1, F2, c1, c2, e4, e2, k1, k3⟩
theorem lnkAll_append : ∀ {css : List (List Value)} {xs : List α} {F G c x}, lnkAll e w F css xs → e.has w G c x → lnkAll e w (F ++ G) (css ++ [c]) (xs ++ [x])
  | [], [], _, G, c, x, h, k => by
    rw [show _ = [] from h]
    exact ⟨G, [], by simp, k, rfl⟩
  | [], _ :: _, _, _, _, _, h, _ => h.elim
  | _ :: _, [], _, _, _, _, h, _ => h.elim
  | _ :: css, _ :: xs, _, G, c, x, ⟨F1, F2, e1, h1, h2⟩, k => by
    subst e1
    exact ⟨F1, F2 ++ G, by simp, h1, lnkAll_append h2 k⟩
theorem lnkAll_get : ∀ {css : List (List Value)} {xs : List α} {F} {k : Nat} {c x}, lnkAll e w F css xs → css[k]? = some c → xs[k]? = some x → ∃ G, (∀ g ∈ G, g ∈ F) ∧ e.has w G c x
  | [], _, _, _, _, _, _, h1, _ => by cases h1
  | _ :: _, [], _, _, _, _, _, _, h2 => by cases h2
  | d :: css, y :: xs, _, 0, c, x, ⟨F1, F2, e1, h1, h2⟩, k1, k2 => by
    subst e1
    simp only [List.getElem?_cons_zero, Option.some.injEq] at k1 k2
    subst k1 k2
    exact ⟨F1, fun g hg => by simp [hg], h1⟩
  | d :: css, y :: xs, _, k + 1, c, x, ⟨F1, F2, e1, h1, h2⟩, k1, k2 => by
    subst e1
    obtain ⟨G, hG, h⟩ := lnkAll_get h2 (by simpa using k1) (by simpa using k2)
    exact ⟨G, fun g hg => by simp [hG g hg], h⟩
/-- What the cells css are: the data xs, one for one. -/
def Rep.lnk (e : Rep α) : Rep (List (List Value) × List α) where
  size := 0
  has w F cs p := cs = [] ∧ lnkAll e w F p.1 p.2
  len h := by rw [h.1]; rfl
  keep h hk := ⟨h.1, lnkAll_keep h.2 hk⟩
  lt h := lnkAll_lt h.2
  one h := by rw [h.1]; simp

theorem Sat.rawOwn (h : Sat w0 w Γ) (n : Nat) (cs : List Value) (h1 : cs.length = n) (h2 : ∀ u ∈ cs, u.oneCell' = true) : Sat w0 w (.own (Rep.raw n) cs cs :: Γ) := h.flat (Rep.raw_mk h1 h2)
theorem Sat.rawBox {b : Nat} {cs : List Value} (h : Sat w0 w (.box b cs :: Γ)) (n : Nat) (h1 : cs.length = n) (h2 : cs.all (·.oneCell') = true) : Sat w0 w (.own ((Rep.raw n).vec 1) cs [cs] :: .box b cs :: Γ) :=
  Sat.vec1 (h.rawOwn n cs h1 (List.all_eq_true.1 h2))
end
end Go.Proofs.YtldknaajnnohiaaDoor
end

section
namespace Go.Proofs.YtldknaajnnohiaaDoor
open Go.RowKit

section
variable {α : Type} {e : Rep α} {w w0 : World} {Γ : List Fact}
theorem Sat.shareOwn {v : Value} {xs : List α} (h : Sat w0 w (.own e.rows [v] xs :: Γ)) : ∃ css, css.length = xs.length ∧ Sat w0 w (.own (Rep.raw e.size).rows [v] css :: .own (Rep.lnk e) [] (css, xs) :: Γ) := by
  obtain ⟨R, O, ⟨O1, O2, rfl, h1, h2⟩, h3⟩ := h
  rcases h1 with ⟨hv, rfl, rfl⟩ | ⟨g, off, cap, cur, t, ces, F', hv, rfl, hh, hle, hcm, hsz, hce, htk⟩
  · exact ⟨[], rfl, R, _, ⟨[], O2, rfl, .inl ⟨hv, rfl, rfl⟩, [], O2, rfl, ⟨rfl, rfl⟩, h2⟩, h3⟩
  · obtain ⟨css, k1, k2⟩ := lnkAll_of hce
    have hl := lnkAll_len k2
    exact ⟨css, hl, R, _, ⟨[g], F' ++ O2, rfl, .inr ⟨g, off, cap, cur, t, ces, [], by rw [hl]; exact hv, rfl, hh, by rw [hl]; exact hle, hcm, hsz, k1, htk⟩, F', O2, rfl, ⟨rfl, k2⟩, h2⟩, h3⟩
theorem Sat.unshareOwn {v : Value} {css : List (List Value)} {xs : List α} (h : Sat w0 w (.own (Rep.raw e.size).rows [v] css :: .own (Rep.lnk e) [] (css, xs) :: Γ)) : Sat w0 w (.own e.rows [v] xs :: Γ) := by
  obtain ⟨R, O, ⟨O1, O', rfl, h1, O2, O3, rfl, ⟨_, hG⟩, h2⟩, h3⟩ := h
  have hl := lnkAll_len hG
  rcases h1 with ⟨hv, rfl, rfl⟩ | ⟨g, off, cap, cur, t, ces, F', hv, rfl, hh, hle, hcm, hsz, hce, htk⟩
  · have hx : xs = [] := List.eq_nil_of_length_eq_zero hl.symm
    subst hx
    have hO : O2 = [] := hG
    subst hO
    exact ⟨R, _, ⟨[], O3, rfl, .inl ⟨hv, rfl, rfl⟩, h2⟩, h3⟩
  · obtain ⟨rfl, k3⟩ := all_of_lnk hce hG
    exact ⟨R, _, ⟨g :: O2, O3, rfl, .inr ⟨g, off, cap, cur, t, ces, O2, by rw [← hl]; exact hv, rfl, hh, by rw [← hl]; exact hle, hcm, hsz, k3, htk⟩, h2⟩, h3⟩
theorem Sat.lnkAppOwn {css : List (List Value)} {xs : List α} {c : List Value} {x : α} (h : Sat w0 w (.own e c x :: .own (Rep.lnk e) [] (css, xs) :: Γ)) : Sat w0 w (.own (Rep.lnk e) [] (css ++ [c], xs ++ [x]) :: Γ) := by
  obtain ⟨R, O, ⟨O2, O', rfl, ⟨_, hG⟩, O1, O3, rfl, hF, h2⟩, h3⟩ := Sat.swap h
  refine ⟨R, _, ⟨O2 ++ O1, O3, (List.append_assoc _ _ _).symm, ⟨rfl, lnkAll_append hG hF⟩, h2⟩, h3⟩
end
section
variable {P : Program} {o : Oper} {a : Act} {w w0 : World} {Γ : List Fact}
theorem f_loadRaw {T : TypeId} {z : Value} {p : Operand} {g off n c k i : Nat} {css : List (List Value)} {u : Value} (hS : Sat w0 w Γ) (ho : o.op = .load T p) (hp : a.eval p = .pointer (some ⟨g, off + k, none⟩)) [hi : OwnIn Γ (Rep.raw 1).rows [.slice (some ⟨g, off, none⟩) n c] css i] [hT : Ty P T z 1 false] (hx : css[k]? = some [u]) : Gives P o a w u := by
  obtain ⟨⟨u', Fu, hc, -, hu, -⟩, -⟩ := hS.rowCell i hi.get rfl hx
  simp only [List.cons.injEq, and_true] at hu
  subst hu
  unfold Gives execOp
  simp [ho, hp, run_load1 hT hc]
theorem f_loadBoolRow {T : TypeId} {z : Value} {p : Operand} {g off n c k i : Nat} {xs : List Bool} {x : Bool} (hS : Sat w0 w Γ) (ho : o.op = .load T p) (hp : a.eval p = .pointer (some ⟨g, off + k, none⟩)) [hi : OwnIn Γ Rep.bool.rows [.slice (some ⟨g, off, none⟩) n c] xs i] [hT : Ty P T z 1 false] (hx : xs[k]? = some x) : Gives P o a w (.bool x) := by
  obtain ⟨⟨u, Fu, hc, -, hu⟩, -⟩ := hS.rowCell i hi.get rfl hx
  simp only [List.cons.injEq, and_true] at hu
  subst hu
  unfold Gives execOp
  simp [ho, hp, run_load1 hT hc]
theorem f_loadStrRow {T : TypeId} {z : Value} {p : Operand} {g off n c k i : Nat} {xs : List ByteArray} {x : ByteArray} (hS : Sat w0 w Γ) (ho : o.op = .load T p) (hp : a.eval p = .pointer (some ⟨g, off + k, none⟩)) [hi : OwnIn Γ Rep.str.rows [.slice (some ⟨g, off, none⟩) n c] xs i] [hT : Ty P T z 1 false] (hx : xs[k]? = some x) : Gives P o a w (.string x) := by
  obtain ⟨⟨u, Fu, hc, -, hu, -⟩, -⟩ := hS.rowCell i hi.get rfl hx
  simp only [List.cons.injEq, and_true] at hu
  subst hu
  unfold Gives execOp
  simp [ho, hp, run_load1 hT hc]
end
section
variable {w w0 x : World} {Γ : List Fact}
end
end Go.Proofs.YtldknaajnnohiaaDoor
end

section
namespace Go.Proofs.YtldknaajnnohiaaDoor
open Go.RowKit

theorem snocG {α : Type} {l : List α} {k : Nat} {b : α} (h : l.length = k) : (l ++ [b])[k]? = some b := by subst h; simp
section
variable {α : Type} {e : Rep α} {w w0 : World} {Γ : List Fact}
theorem lnkAll_snoc : ∀ {css : List (List Value)} {xs : List α} {F c x}, css.length = xs.length → lnkAll e w F (css ++ [c]) (xs ++ [x]) → ∃ F1 F2, F = F1 ++ F2 ∧ lnkAll e w F1 css xs ∧ e.has w F2 c x
  | [], [], F, c, x, _, ⟨F1, F2, e1, h1, h2⟩ => ⟨[], F1, by subst e1; rw [show F2 = [] from h2]; simp, rfl, h1⟩
  | [], _ :: _, _, _, _, h, _ => by simp at h
  | _ :: _, [], _, _, _, h, _ => by simp at h
  | d :: css, y :: xs, F, c, x, hl, ⟨F1, F2, e1, h1, h2⟩ => by
    obtain ⟨G1, G2, e2, k1, k2⟩ := lnkAll_snoc (by simpa using hl) h2
    subst e1 e2
    exact ⟨F1 ++ G1, G2, (List.append_assoc _ _ _).symm, ⟨F1, G1, rfl, h1, k1⟩, k2⟩
theorem Sat.lnkOutOwn {css : List (List Value)} {xs : List α} {c : List Value} {x : α} (hl : css.length = xs.length) (h : Sat w0 w (.own (Rep.lnk e) [] (css ++ [c], xs ++ [x]) :: Γ)) : Sat w0 w (.own e c x :: .own (Rep.lnk e) [] (css, xs) :: Γ) := by
  refine Sat.swap ?_
  obtain ⟨R, O, ⟨O1, O3, rfl, ⟨_, hG⟩, h2⟩, h3⟩ := h
  obtain ⟨F1, F2, rfl, k1, k2⟩ := lnkAll_snoc hl hG
  exact ⟨R, _, ⟨F1, F2 ++ O3, List.append_assoc _ _ _, ⟨rfl, k1⟩, F2, O3, rfl, k2, h2⟩, h3⟩
/-- The last element, taken out. -/
theorem Sat.openLast {v : Value} {xs : List α} {x : α} (h : Sat w0 w (.own e.rows [v] (xs ++ [x]) :: Γ)) : ∃ css c, css.length = xs.length ∧ Sat w0 w (.own e c x :: .own (Rep.raw e.size).rows [v] (css ++ [c]) :: .own (Rep.lnk e) [] (css, xs) :: Γ) := by
  obtain ⟨ds, hl, h1⟩ := Sat.shareOwn h
  rw [List.length_append, List.length_singleton] at hl
  rcases List.eq_nil_or_concat ds with rfl | ⟨css, c, rfl⟩
  · simp at hl
  · rw [List.concat_eq_append] at h1 hl
    have hl2 : css.length = xs.length := by simpa using hl
    refine ⟨css, c, hl2, ?_⟩
    have h2 := Sat.lnkOutOwn hl2 (Sat.swap h1)
    exact h2.perm ((List.Perm.swap _ _ _).cons _)
theorem Sat.rowForm {cs : List Value} {xs : List α} (h : Sat w0 w (.own e.rows cs xs :: Γ)) : ∃ A c, cs = [.slice A xs.length c] := by
  obtain ⟨R, O, ⟨O1, O2, rfl, h1, h2⟩, h3⟩ := id h
  have hl := e.rows.len h1
  obtain ⟨v, rfl⟩ := List.length_eq_one_iff.1 hl
  obtain ⟨A, c, rfl⟩ := RowHas.form h1
  exact ⟨A, c, rfl⟩
/-! ### One element taken out -/
def Rep.lnkH (e : Rep α) : Rep (List (List Value) × List α × Nat) where
  size := 0
  has w F cs p := cs = [] ∧ ∃ Fa Fb, F = Fa ++ Fb ∧ lnkAll e w Fa (p.1.take p.2.2) (p.2.1.take p.2.2) ∧ lnkAll e w Fb (p.1.drop (p.2.2 + 1)) (p.2.1.drop (p.2.2 + 1))
  len h := by rw [h.1]; rfl
  keep h hk := by
    obtain ⟨h0, Fa, Fb, rfl, h1, h2⟩ := h
    exact ⟨h0, Fa, Fb, rfl, lnkAll_keep h1 (fun g hg => hk g (by simp [hg])), lnkAll_keep h2 (fun g hg => hk g (by simp [hg]))⟩
  lt h := by
    obtain ⟨h0, Fa, Fb, rfl, h1, h2⟩ := h
    intro g hg
    rcases List.mem_append.1 hg with h | h
    · exact lnkAll_lt h1 g h
    · exact lnkAll_lt h2 g h
  one h := by rw [h.1]; simp
theorem lnkAll_open : ∀ {k : Nat} {css : List (List Value)} {xs : List α} {F c x}, css[k]? = some c → xs[k]? = some x → lnkAll e w F css xs → ∃ Fa Fk Fb, F = Fa ++ (Fk ++ Fb) ∧ lnkAll e w Fa (css.take k) (xs.take k) ∧ e.has w Fk c x ∧ lnkAll e w Fb (css.drop (k + 1)) (xs.drop (k + 1))
  | _, [], _, _, _, _, hc, _, _ => by simp at hc
  | _, _ :: _, [], _, _, _, _, hx, _ => by simp at hx
  | 0, d :: css, y :: xs, F, c, x, hc, hx, ⟨F1, F2, e1, h1, h2⟩ => by
    simp only [List.getElem?_cons_zero, Option.some.injEq] at hc hx
    subst hc hx e1
    exact ⟨[], F1, F2, rfl, rfl, h1, h2⟩
  | k + 1, d :: css, y :: xs, F, c, x, hc, hx, ⟨F1, F2, e1, h1, h2⟩ => by
    obtain ⟨Fa, Fk, Fb, e2, k1, k2, k3⟩ := lnkAll_open (by simpa using hc) (by simpa using hx) h2
    subst e1 e2
    exact ⟨F1 ++ Fa, Fk, Fb, (List.append_assoc _ _ _).symm, ⟨F1, Fa, rfl, h1, k1⟩, k2, k3⟩
theorem lnkAll_join : ∀ {css ds : List (List Value)} {xs ys : List α} {F G}, lnkAll e w F css xs → lnkAll e w G ds ys → lnkAll e w (F ++ G) (css ++ ds) (xs ++ ys)
  | [], _, [], _, F, G, h1, h2 => by rw [show F = [] from h1]; exact h2
  | [], _, _ :: _, _, _, _, h1, _ => h1.elim
  | _ :: _, _, [], _, _, _, h1, _ => h1.elim
  | d :: css, ds, y :: xs, ys, F, G, ⟨F1, F2, e1, h1, h2⟩, k => by
    subst e1
    exact ⟨F1, F2 ++ G, List.append_assoc _ _ _, h1, lnkAll_join h2 k⟩
/-- One element, taken out. -/
theorem Sat.openAt {v : Value} {xs : List α} {x : α} (k : Nat) (hx : xs[k]? = some x) (h : Sat w0 w (.own e.rows [v] xs :: Γ)) : ∃ css c, css.length = xs.length ∧ css[k]? = some c ∧ Sat w0 w (.own e c x :: .own (Rep.raw e.size).rows [v] css :: .own (Rep.lnkH e) [] (css, xs, k) :: Γ) := by
  obtain ⟨css, hl, h1⟩ := Sat.shareOwn h
  have hk : k < css.length := by rw [hl]; exact (List.getElem?_eq_some_iff.1 hx).1
  have hc : css[k]? = some css[k] := List.getElem?_eq_getElem hk
  refine ⟨css, css[k], hl, hc, ?_⟩
  obtain ⟨R, O, ⟨O2, O', rfl, ⟨_, hG⟩, O1, O3, rfl, hF, h2⟩, h3⟩ := Sat.swap h1
  obtain ⟨Fa, Fk, Fb, rfl, k1, k2, k3⟩ := lnkAll_open hc hx hG
  have hS : Sat w0 w (.own (Rep.lnkH e) [] (css, xs, k) :: .own e css[k] x :: .own (Rep.raw e.size).rows [v] css :: Γ) := by
    have hp : (Fa ++ (Fk ++ Fb) ++ (O1 ++ O3)).Perm ((Fa ++ Fb) ++ (Fk ++ (O1 ++ O3))) := by
      rw [List.append_assoc, List.append_assoc, List.append_assoc]
      refine List.Perm.append_left Fa ?_
      rw [← List.append_assoc, ← List.append_assoc Fb]
      exact List.Perm.append_right _ List.perm_append_comm
    obtain ⟨hg1, hg2, hg3, hg4⟩ := h3
    exact ⟨R, _, ⟨Fa ++ Fb, _, rfl, ⟨rfl, Fa, Fb, rfl, k1, k3⟩, Fk, _, rfl, k2, O1, O3, rfl, hF, h2⟩, hg1.perm hp, fun g hg => hg2 g (hp.mem_iff.2 hg), hg3, hg4⟩
  exact hS.perm ((List.Perm.swap _ _ _).trans ((List.Perm.swap _ _ _).cons _))
/-- And put back. -/
theorem Sat.closeAt {v : Value} {css : List (List Value)} {xs : List α} {c : List Value} {y : α} {k : Nat} (hk : k < css.length) (hl : css.length = xs.length) (h : Sat w0 w (.own e c y :: .own (Rep.raw e.size).rows [v] (css.set k c) :: .own (Rep.lnkH e) [] (css, xs, k) :: Γ)) : Sat w0 w (.own e.rows [v] (xs.set k y) :: Γ) := by
  have h1 : Sat w0 w (.own (Rep.lnkH e) [] (css, xs, k) :: .own e c y :: .own (Rep.raw e.size).rows [v] (css.set k c) :: Γ) := h.perm (((List.Perm.swap _ _ _).cons _).trans (List.Perm.swap _ _ _))
  obtain ⟨R, O, ⟨Oh, _, rfl, ⟨_, Fa, Fb, rfl, k1, k3⟩, Fk, _, rfl, k2, O1, O3, rfl, hF, h2⟩, hg1, hg2, hg3, hg4⟩ := h1
  have e1 : css.set k c = css.take k ++ c :: css.drop (k + 1) := by rw [List.set_eq_take_append_cons_drop, if_pos hk]
  have e2 : xs.set k y = xs.take k ++ y :: xs.drop (k + 1) := by rw [List.set_eq_take_append_cons_drop, if_pos (by omega)]
  have hG : lnkAll e w (Fa ++ (Fk ++ Fb)) (css.set k c) (xs.set k y) := by
    rw [e1, e2]
    exact lnkAll_join k1 ⟨Fk, Fb, rfl, k2, k3⟩
  have hp : (Fa ++ Fb ++ (Fk ++ (O1 ++ O3))).Perm ((Fa ++ (Fk ++ Fb)) ++ (O1 ++ O3)) := by
    rw [List.append_assoc, List.append_assoc, List.append_assoc]
    refine List.Perm.append_left Fa ?_
    rw [← List.append_assoc, ← List.append_assoc Fk]
    exact List.Perm.append_right _ List.perm_append_comm
  exact Sat.unshareOwn (Sat.swap ⟨R, _, ⟨_, _, rfl, ⟨rfl, hG⟩, O1, O3, rfl, hF, h2⟩, hg1.perm hp, fun g hg => hg2 g (hp.mem_iff.2 hg), hg3, hg4⟩)
theorem Sat.closeSame {v : Value} {css : List (List Value)} {xs : List α} {c : List Value} {y : α} {k : Nat} (hc : css[k]? = some c) (hl : css.length = xs.length) (h : Sat w0 w (.own e c y :: .own (Rep.raw e.size).rows [v] css :: .own (Rep.lnkH e) [] (css, xs, k) :: Γ)) : Sat w0 w (.own e.rows [v] (xs.set k y) :: Γ) := by
  obtain ⟨hk, hck⟩ := List.getElem?_eq_some_iff.1 hc
  have e1 : css.set k c = css := by rw [← hck]; exact List.set_getElem_self hk
  exact Sat.closeAt hk hl (by rw [e1]; exact h)
end
end Go.Proofs.YtldknaajnnohiaaDoor
end
