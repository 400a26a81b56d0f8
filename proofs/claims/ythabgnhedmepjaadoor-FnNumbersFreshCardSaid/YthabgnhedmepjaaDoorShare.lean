/- Lists whose elements share what lies behind them: cells as they are (raw), and what these cells are (lnk). No function of the program occurs here. -/
import Derived.Test.YthabgnhedmepjaaDoorStF
import Derived.Test.YthabgnhedmepjaaDoorDrA
namespace Go.Proofs.YthabgnhedmepjaaDoor
open Go.RowKit

/-- Cells as they are. -/
def Rep.raw (n : Nat) : Rep (List Value) where
  size := n
  has _ F cs x := F = [] ∧ cs = x ∧ x.length = n ∧ ∀ u ∈ x, u.oneCell' = true
  len h := by rw [h.2.1]; exact h.2.2.1
  keep h _ := h
  lt h := by rw [h.1]; simp
  one h := by rw [h.2.1]; exact h.2.2.2
instance (n : Nat) : Flat (Rep.raw n) (Rep.raw n) := ⟨fun h _ => ⟨rfl, h.2⟩⟩
theorem Rep.raw_mk {n : Nat} {w : World} {cs : List Value} (h : cs.length = n) (h1 : ∀ u ∈ cs, u.oneCell' = true) : (Rep.raw n).has w [] cs cs := ⟨rfl, rfl, h, h1⟩

section
variable {α : Type} (e : Rep α)
def lnkAll (w : World) : List Nat → List (List Value) → List α → Prop
  | F, [], [] => F = []
  | F, c :: cs, x :: xs => ∃ F1 F2, F = F1 ++ F2 ∧ e.has w F1 c x ∧ lnkAll w F2 cs xs
  | _, _, _ => False
variable {e} {w w' w0 : World} {Γ : List Fact}
theorem lnkAll_keep : ∀ {css : List (List Value)} {xs : List α} {F}, lnkAll e w F css xs → (∀ g ∈ F, w'.heap[g]? = w.heap[g]?) → lnkAll e w' F css xs
  | [], [], _, h, _ => h
  | [], _ :: _, _, h, _ => h
  | _ :: _, [], _, h, _ => h
  | c :: cs, x :: xs, _, ⟨F1, F2, e1, h1, h2⟩, hk => by
    subst e1
    exact ⟨F1, F2, rfl, e.keep h1 (fun g hg => hk g (by simp [hg])), lnkAll_keep h2 (fun g hg => hk g (by simp [hg]))⟩
theorem lnkAll_lt : ∀ {css : List (List Value)} {xs : List α} {F}, lnkAll e w F css xs → ∀ g ∈ F, g < w.heap.size
  | [], [], _, h, g, hg => by rw [show _ = [] from h] at hg; cases hg
  | [], _ :: _, _, h, _, _ => h.elim
  | _ :: _, [], _, h, _, _ => h.elim
  | c :: cs, x :: xs, _, ⟨F1, F2, e1, h1, h2⟩, g, hg => by
    subst e1
    rcases List.mem_append.1 hg with h | h
    · exact e.lt h1 g h
    · exact lnkAll_lt h2 g h
theorem lnkAll_len : ∀ {css : List (List Value)} {xs : List α} {F}, lnkAll e w F css xs → css.length = xs.length
  | [], [], _, _ => rfl
  | [], _ :: _, _, h => h.elim
  | _ :: _, [], _, h => h.elim
  | c :: cs, x :: xs, _, ⟨F1, F2, e1, h1, h2⟩ => by rw [List.length_cons, List.length_cons, lnkAll_len h2]
theorem lnkAll_of : ∀ {xs : List α} {F ces}, e.all w F ces xs → ∃ css, (Rep.raw e.size).all w [] ces css ∧ lnkAll e w F css xs
  | [], _, _, h => ⟨[], ⟨rfl, h.2⟩, h.1⟩
  | x :: xs, _, _, ⟨F1, F2, c1, c2, e1, e2, h1, h2⟩ => by
    obtain ⟨css, k1, k2⟩ := lnkAll_of h2
    exact ⟨c1 :: css, ⟨[], [], c1, c2, rfl, e2, ⟨rfl, rfl, e.len h1, e.one h1⟩, k1⟩, F1, F2, e1, h1, k2⟩
theorem all_of_lnk : ∀ {css : List (List Value)} {xs : List α} {F G ces}, (Rep.raw e.size).all w G ces css → lnkAll e w F css xs → G = [] ∧ e.all w F ces xs
  | [], [], _, _, _, h, k => ⟨h.1, k, h.2⟩
  | [], _ :: _, _, _, _, _, k => k.elim
  | _ :: _, [], _, _, _, _, k => k.elim
  | c :: css, x :: xs, _, _, _, ⟨G1, G2, c1, c2, e1, e2, ⟨g1, e3, _⟩, h2⟩, ⟨F1, F2, e4, k1, k2⟩ => by
    obtain ⟨g2, k3⟩ := all_of_lnk h2 k2
    subst g1 g2 e3
    exact ⟨e1, F1, F2, c1, c2, e4, e2, k1, k3⟩
theorem lnkAll_append : ∀ {css : List (List Value)} {xs : List α} {F G c x}, lnkAll e w F css xs → e.has w G c x → lnkAll e w (F ++ G) (css ++ [c]) (xs ++ [x])
  | [], [], _, G, c, x, h, k => by
    rw [show _ = [] from h]
    exact ⟨G, [], by simp, k, rfl⟩
  | [], _ :: _, _, _, _, _, h, _ => h.elim
  | _ :: _, [], _, _, _, _, h, _ => h.elim
  | _ :: css, _ :: xs, _, G, c, x, ⟨F1, F2, e1, h1, h2⟩, k => by
    subst e1
    exact ⟨F1, F2 ++ G, by simp, h1, lnkAll_append h2 k⟩
theorem lnkAll_get : ∀ {css : List (List Value)} {xs : List α} {F} {k : Nat} {c x}, lnkAll e w F css xs → css[k]? = some c → xs[k]? = some x → ∃ G, (∀ g ∈ G, g ∈ F) ∧ e.has w G c x
  | [], _, _, _, _, _, _, h1, _ => by cases h1
  | _ :: _, [], _, _, _, _, _, _, h2 => by cases h2
  | d :: css, y :: xs, _, 0, c, x, ⟨F1, F2, e1, h1, h2⟩, k1, k2 => by
    subst e1
    simp only [List.getElem?_cons_zero, Option.some.injEq] at k1 k2
    subst k1 k2
    exact ⟨F1, fun g hg => by simp [hg], h1⟩
  | d :: css, y :: xs, _, k + 1, c, x, ⟨F1, F2, e1, h1, h2⟩, k1, k2 => by
    subst e1
    obtain ⟨G, hG, h⟩ := lnkAll_get h2 (by simpa using k1) (by simpa using k2)
    exact ⟨G, fun g hg => by simp [hG g hg], h⟩
theorem lnkAll_set : ∀ {css : List (List Value)} {xs : List α} {F G} (k : Nat) {c x}, lnkAll e w F css xs → e.has w G c x → ∃ H, (∀ g ∈ H, g ∈ F ∨ g ∈ G) ∧ lnkAll e w H (css.set k c) (xs.set k x)
  | [], [], _, _, _, _, _, h, _ => ⟨_, fun g hg => .inl hg, h⟩
  | [], _ :: _, _, _, _, _, _, h, _ => h.elim
  | _ :: _, [], _, _, _, _, _, h, _ => h.elim
  | d :: css, y :: xs, _, G, 0, c, x, ⟨F1, F2, e1, h1, h2⟩, k => by
    subst e1
    exact ⟨G ++ F2, fun g hg => by rcases List.mem_append.1 hg with h | h <;> simp [h], G, F2, rfl, k, h2⟩
  | d :: css, y :: xs, _, G, k' + 1, c, x, ⟨F1, F2, e1, h1, h2⟩, k => by
    subst e1
    obtain ⟨H, hH, h⟩ := lnkAll_set k' h2 k
    refine ⟨F1 ++ H, fun g hg => ?_, F1, H, rfl, h1, h⟩
    rcases List.mem_append.1 hg with h | h
    · exact .inl (by simp [h])
    · rcases hH g h with h | h
      · exact .inl (by simp [h])
      · exact .inr h

/-- What the cells css are: the data xs, one for one. -/
def Rep.lnk (e : Rep α) : Rep (List (List Value) × List α) where
  size := 0
  has w F cs p := cs = [] ∧ lnkAll e w F p.1 p.2
  len h := by rw [h.1]; rfl
  keep h hk := ⟨h.1, lnkAll_keep h.2 hk⟩
  lt h := lnkAll_lt h.2
  one h := by rw [h.1]; simp

theorem Sat.share {A : Option Addr} {n c : Nat} {xs : List α} (h : Sat w0 w (.ro e.slice [.slice A n c] xs :: Γ)) : ∃ css, css.length = xs.length ∧ Sat w0 w (.ro (Rep.raw e.size).slice [.slice A n c] css :: .ro (Rep.lnk e) [] (css, xs) :: Γ) := by
  obtain ⟨R, O, ⟨O1, O2, rfl, ⟨rfl, F, ⟨a', n', c', ces, F', hv, h1, h2, h3, h4, h5⟩, hR⟩, k⟩, h6, h7, h8, h9⟩ := h
  simp only [List.cons.injEq, Value.slice.injEq, and_true] at hv
  obtain ⟨rfl, rfl, rfl⟩ := hv
  obtain ⟨css, k1, k2⟩ := lnkAll_of h4
  have hl := lnkAll_len k2
  rcases h5 with ⟨rfl, rfl⟩ | ⟨ad, rfl, rfl, hb, hc⟩
  · have hx : xs = [] := List.eq_nil_of_length_eq_zero h1
    subst hx
    have hF := h4.1
    subst hF
    exact ⟨css, hl, R, O2, ⟨[], O2, rfl, ⟨rfl, [], ⟨A, 0, c, ces, [], rfl, by rw [hl]; rfl, h2, h3, k1, .inl ⟨rfl, rfl⟩⟩, by simp⟩, [], O2, rfl, ⟨rfl, [], ⟨rfl, k2⟩, by simp⟩, k⟩, h6, h7, h8, h9⟩
  · exact ⟨css, hl, R, O2, ⟨[], O2, rfl, ⟨rfl, [ad.block], ⟨_, n, c, ces, [], rfl, by rw [hl]; exact h1, h2, h3, k1, .inr ⟨ad, rfl, rfl, hb, hc⟩⟩, fun g hg => hR g (by rw [List.mem_singleton.1 hg]; simp)⟩, [], O2, rfl, ⟨rfl, F', ⟨rfl, k2⟩, fun g hg => hR g (by simp [hg])⟩, k⟩, h6, h7, h8, h9⟩
theorem Sat.unshare {v : Value} {css : List (List Value)} {xs : List α} (h : Sat w0 w (.ro (Rep.raw e.size).slice [v] css :: .ro (Rep.lnk e) [] (css, xs) :: Γ)) : Sat w0 w (.ro e.slice [v] xs :: Γ) := by
  obtain ⟨R, O, ⟨O1, O2, rfl, ⟨rfl, F, ⟨a', n', c', ces, F', hv, h1, h2, h3, h4, h5⟩, hR⟩, O3, O4, rfl, ⟨rfl, G, ⟨_, hG⟩, hR2⟩, k⟩, h6, h7, h8, h9⟩ := h
  obtain ⟨rfl, k3⟩ := all_of_lnk h4 hG
  have hl := lnkAll_len hG
  rcases h5 with ⟨rfl, rfl⟩ | ⟨ad, rfl, rfl, hb, hc⟩
  · have hx : xs = [] := List.eq_nil_of_length_eq_zero (by rw [← hl]; exact h1)
    subst hx
    have hF := k3.1
    subst hF
    exact ⟨R, O4, ⟨[], O4, rfl, ⟨rfl, [], ⟨a', 0, c', ces, [], hv, rfl, h2, h3, k3, .inl ⟨rfl, rfl⟩⟩, by simp⟩, k⟩, h6, h7, h8, h9⟩
  · refine ⟨R, O4, ⟨[], O4, rfl, ⟨rfl, ad.block :: G, ⟨_, n', c', ces, G, hv, by rw [← hl]; exact h1, h2, h3, k3, .inr ⟨ad, rfl, rfl, hb, hc⟩⟩, fun g hg => ?_⟩, k⟩, h6, h7, h8, h9⟩
    rcases List.mem_cons.1 hg with rfl | h
    · exact hR _ (by simp)
    · exact hR2 g h
theorem Sat.lnkApp {css : List (List Value)} {xs : List α} {c : List Value} {x : α} (h : Sat w0 w (.ro e c x :: .ro (Rep.lnk e) [] (css, xs) :: Γ)) : Sat w0 w (.ro (Rep.lnk e) [] (css ++ [c], xs ++ [x]) :: Γ) := by
  obtain ⟨R, O, ⟨O1, O2, rfl, ⟨rfl, F, hF, hR⟩, O3, O4, rfl, ⟨rfl, G, ⟨_, hG⟩, hR2⟩, k⟩, h6⟩ := h
  refine ⟨R, O4, ⟨[], O4, rfl, ⟨rfl, G ++ F, ⟨rfl, lnkAll_append hG hF⟩, fun g hg => ?_⟩, k⟩, h6⟩
  rcases List.mem_append.1 hg with h | h
  · exact hR2 g h
  · exact hR g h
theorem Sat.lnkGet {css : List (List Value)} {xs : List α} {c : List Value} {x : α} {k : Nat} (h : Sat w0 w (.ro (Rep.lnk e) [] (css, xs) :: Γ)) (h1 : css[k]? = some c) (h2 : xs[k]? = some x) : Sat w0 w (.ro e c x :: .ro (Rep.lnk e) [] (css, xs) :: Γ) := by
  obtain ⟨R, O, ⟨O3, O4, rfl, ⟨rfl, G, ⟨_, hG⟩, hR2⟩, k⟩, h6⟩ := h
  obtain ⟨H, hH, hh⟩ := lnkAll_get hG h1 h2
  exact ⟨R, O4, ⟨[], O4, rfl, ⟨rfl, H, hh, fun g hg => hR2 g (hH g hg)⟩, [], O4, rfl, ⟨rfl, G, ⟨rfl, hG⟩, hR2⟩, k⟩, h6⟩
theorem Sat.lnkSet {css : List (List Value)} {xs : List α} {c : List Value} {x : α} (k : Nat) (h : Sat w0 w (.ro e c x :: .ro (Rep.lnk e) [] (css, xs) :: Γ)) : Sat w0 w (.ro (Rep.lnk e) [] (css.set k c, xs.set k x) :: Γ) := by
  obtain ⟨R, O, ⟨O1, O2, rfl, ⟨rfl, F, hF, hR⟩, O3, O4, rfl, ⟨rfl, G, ⟨_, hG⟩, hR2⟩, k'⟩, h6⟩ := h
  obtain ⟨H, hH, hh⟩ := lnkAll_set k hG hF
  exact ⟨R, O4, ⟨[], O4, rfl, ⟨rfl, H, ⟨rfl, hh⟩, fun g hg => by rcases hH g hg with h | h; exact hR2 g h; exact hR g h⟩, k'⟩, h6⟩
theorem Sat.rawOwn (h : Sat w0 w Γ) (n : Nat) (cs : List Value) (h1 : cs.length = n) (h2 : ∀ u ∈ cs, u.oneCell' = true) : Sat w0 w (.own (Rep.raw n) cs cs :: Γ) := h.flat (Rep.raw_mk h1 h2)
/-- More that is read, where nothing is owned. -/
theorem Sat.roMore {cs : List Value} {x : α} (h : Sat w0 w Γ) (hx : ∃ F, e.has w F cs x) (hΓ : ∀ R O, holdAll w R Γ O → O = []) : Sat w0 w (.ro e cs x :: Γ) := by
  obtain ⟨R, O, h1, h2, h3, h4, h5⟩ := h
  obtain ⟨F, hF⟩ := hx
  have hO := hΓ R O h1
  subst hO
  have grow : ∀ {Γ : List Fact} {O}, holdAll w R Γ O → holdAll w (R ++ F) Γ O := by
    intro Γ
    induction Γ with
    | nil => intro O h; exact h
    | cons f Γ ih =>
      rintro O ⟨O1, O2, rfl, h1, h2⟩
      refine ⟨O1, O2, rfl, ?_, ih h2⟩
      cases f with
      | own e cs x => exact h1
      | ro e cs x => obtain ⟨rfl, F, k1, k2⟩ := h1; exact ⟨rfl, F, k1, fun g hg => by simp [k2 g hg]⟩
      | box b cs => exact h1
      | «at» ad cs => obtain ⟨rfl, k1, k2⟩ := h1; exact ⟨rfl, by simp [k1], k2⟩
      | set r ks => exact h1
  refine ⟨R ++ F, [], ⟨[], [], rfl, ⟨rfl, F, hF, fun g hg => by simp [hg]⟩, grow h1⟩, h2, by simp, fun g hg => ?_, h5⟩
  rcases List.mem_append.1 hg with h | h
  · exact h4 g h
  · exact e.lt hF g h
theorem Sat.rawBox {b : Nat} {cs : List Value} (h : Sat w0 w (.box b cs :: Γ)) (n : Nat) (h1 : cs.length = n) (h2 : cs.all (·.oneCell') = true) : Sat w0 w (.own ((Rep.raw n).vec 1) cs [cs] :: .box b cs :: Γ) :=
  Sat.vec1 (h.rawOwn n cs h1 (List.all_eq_true.1 h2))
theorem Sat.roRaw {n : Nat} {ck c : List Value} (h : Sat w0 w (.ro (Rep.raw n) ck c :: Γ)) : ck = c ∧ Sat w0 w Γ := by
  obtain ⟨F, hF⟩ := h.readRo
  exact ⟨hF.2.1, h.drop⟩
theorem Sat.unshareAt {v : Value} {css : List (List Value)} {xs : List α} (i : Nat) (h : Sat w0 w (.ro (Rep.raw e.size).slice [v] css :: Γ)) (hi : Γ[i]? = some (.ro (Rep.lnk e) [] (css, xs))) : Sat w0 w (.ro e.slice [v] xs :: Γ) := by
  have h1 := h.dupRo (i + 1) (by simpa using hi)
  have h2 := Sat.unshare (Sat.swap h1)
  exact h2
theorem Sat.roMap {β : Type} {b : Rep β} {cs ds : List Value} {x : α} {y : β} (h : Sat w0 w (.ro e cs x :: Γ)) (hc : ∀ w F, e.has w F cs x → b.has w F ds y) : Sat w0 w (.ro b ds y :: Γ) := by
  obtain ⟨R, O, ⟨O1, O2, rfl, ⟨rfl, F, hF, hR⟩, k⟩, h6⟩ := h
  exact ⟨R, O2, ⟨[], O2, rfl, ⟨rfl, F, hc w F hF, hR⟩, k⟩, h6⟩
theorem raw_upd {n j : Nat} {u : Value} {c0 : List Value} (hu : u.oneCell' = true) {w : World} {F : List Nat} {ck : List Value} (h : (Rep.raw n).has w F ck c0) : (Rep.raw n).has w F (ck.set j u) (c0.set j u) := by
  obtain ⟨rfl, rfl, h1, h2⟩ := h
  refine ⟨rfl, rfl, by rw [List.length_set]; exact h1, fun v hv => ?_⟩
  rcases List.mem_or_eq_of_mem_set hv with h | rfl
  · exact h2 v h
  · exact hu
end
end Go.Proofs.YthabgnhedmepjaaDoor
