/- Lists whose elements share what lies behind them: cells as they are (raw), and what these cells are (lnk). No function of the program occurs here. -/
import Derived.Test.YtldknaajnnohiaaDoorStF
section
namespace Go.Proofs.YtldknaajnnohiaaDoor
open Go.RowKit

/-- Cells as they are. -/
def Rep.raw (n : Nat) : Rep (List Value) where
  size := n
  has _ F cs x := F = [] ∧ cs = x ∧ x.length = n ∧ ∀ u ∈ x, u.oneCell' = true
  len h := by rw [h.2.1]; exact h.2.2.1
  keep h _ := h
  lt h := by rw [h.1]; simp
  one h := by rw [h.2.1]; exact h.2.2.2
instance (n : Nat) : Flat (Rep.raw n) (Rep.raw n) := ⟨fun h _ => ⟨rfl, h.2⟩⟩
theorem Rep.raw_mk {n : Nat} {w : World} {cs : List Value} (h : cs.length = n) (h1 : ∀ u ∈ cs, u.oneCell' = true) : (Rep.raw n).has w [] cs cs := ⟨rfl, rfl, h, h1⟩

section
variable {α : Type} (e : Rep α)
def lnkAll (w : World) : List Nat → List (List Value) → List α → Prop
  | F, [], [] => F = []
  | F, c :: cs, x :: xs => ∃ F1 F2, F = F1 ++ F2 ∧ e.has w F1 c x ∧ lnkAll w F2 cs xs
  | _, _, _ => False
variable {e} {w w' w0 : World} {Γ : List Fact}
theorem lnkAll_keep : ∀ {css : List (List Value)} {xs : List α} {F}, lnkAll e w F css xs → (∀ g ∈ F, w'.heap[g]? = w.heap[g]?) → lnkAll e w' F css xs
  | [], [], _, h, _ => h
  | [], _ :: _, _, h, _ => h
  | _ :: _, [], _, h, _ => h
  | c :: cs, x :: xs, _, ⟨F1, F2, e1, h1, h2⟩, hk => by
    subst e1
    exact ⟨F1, F2, rfl, e.keep h1 (fun g hg => hk g (by simp [hg])), lnkAll_keep h2 (fun g hg => hk g (by simp [hg]))⟩
theorem lnkAll_lt : ∀ {css : List (List Value)} {xs : List α} {F}, lnkAll e w F css xs → ∀ g ∈ F, g < w.heap.size
  | [], [], _, h, g, hg => by rw [show _ = [] from h] at hg; cases hg
  | [], _ :: _, _, h, _, _ => h.elim
  | _ :: _, [], _, h, _, _ => h.elim
  | c :: cs, x :: xs, _, ⟨F1, F2, e1, h1, h2⟩, g, hg => by
    subst e1
    rcases List.mem_append.1 hg with h | h
    · exact e.lt h1 g h
    · exact lnkAll_lt h2 g h
theorem lnkAll_len : ∀ {css : List (List Value)} {xs : List α} {F}, lnkAll e w F css xs → css.length = xs.length
  | [], [], _, _ => rfl
  | [], _ :: _, _, h => h.elim
  | _ :: _, [], _, h => h.elim
  | c :: cs, x :: xs, _, ⟨F1, F2, e1, h1, h2⟩ => by rw [List.length_cons, List.length_cons, lnkAll_len h2]
theorem lnkAll_of : ∀ {xs : List α} {F ces}, e.all w F ces xs → ∃ css, (Rep.raw e.size).all w [] ces css ∧ lnkAll e w F css xs
  | [], _, _, h => ⟨[], ⟨rfl, h.2⟩, h.1⟩
  | x :: xs, _, _, ⟨F1, F2, c1, c2, e1, e2, h1, h2⟩ => by
    obtain ⟨css, k1, k2⟩ := lnkAll_of h2
    exact ⟨c1 :: css, ⟨[], [], c1, c2, rfl, e2, ⟨rfl, rfl, e.len h1, e.one h1⟩, k1⟩, F1, F2, e1, h1, k2⟩
theorem all_of_lnk : ∀ {css : List (List Value)} {xs : List α} {F G ces}, (Rep.raw e.size).all w G ces css → lnkAll e w F css xs → G = [] ∧ e.all w F ces xs
  | [], [], _, _, _, h, k => ⟨h.1, k, h.2⟩
  | [], _ :: _, _, _, _, _, k => k.elim
  | _ :: _, [], _, _, _, _, k => k.elim
  | c :: css, x :: xs, _, _, _, ⟨G1, G2, c1, c2, e1, e2, ⟨g1, e3, _⟩, h2⟩, ⟨F1, F2, e4, k1, k2⟩ => by
    obtain ⟨g2, k3⟩ := all_of_lnk h2 k2
    subst g1 g2 e3
    exact ⟨e1, F1, F2, c1, c2, e4, e2, k1, k3⟩
/-- What the cells css are: the data xs, one for one. -/
def Rep.lnk (e : Rep α) : Rep (List (List Value) × List α) where
  size := 0
  has w F cs p := cs = [] ∧ lnkAll e w F p.1 p.2
  len h := by rw [h.1]; rfl
  keep h hk := ⟨h.1, lnkAll_keep h.2 hk⟩
  lt h := lnkAll_lt h.2
  one h := by rw [h.1]; simp

theorem Sat.share {A : Option Addr} {n c : Nat} {xs : List α} (h : Sat w0 w (.ro e.slice [.slice A n c] xs :: Γ)) : ∃ css, css.length = xs.length ∧ Sat w0 w (.ro (Rep.raw e.size).slice [.slice A n c] css :: .ro (Rep.lnk e) [] (css, xs) :: Γ) := by
  obtain ⟨R, O, ⟨O1, O2, rfl, ⟨rfl, F, ⟨a', n', c', ces, F', hv, h1, h2, h3, h4, h5⟩, hR⟩, k⟩, h6, h7, h8, h9⟩ := h
  simp only [List.cons.injEq, Value.slice.injEq, and_true] at hv
  obtain ⟨rfl, rfl, rfl⟩ := hv
  obtain ⟨css, k1, k2⟩ := lnkAll_of h4
  have hl := lnkAll_len k2
  rcases h5 with ⟨rfl, rfl⟩ | ⟨ad, rfl, rfl, hb, hc⟩
  · have hx : xs = [] := List.eq_nil_of_length_eq_zero h1
    subst hx
    have hF := h4.1
    subst hF
    exact ⟨css, hl, R, O2, ⟨[], O2, rfl, ⟨rfl, [], ⟨A, 0, c, ces, [], rfl, by rw [hl]; rfl, h2, h3, k1, .inl ⟨rfl, rfl⟩⟩, by simp⟩, [], O2, rfl, ⟨rfl, [], ⟨rfl, k2⟩, by simp⟩, k⟩, h6, h7, h8, h9⟩
  · exact ⟨css, hl, R, O2, ⟨[], O2, rfl, ⟨rfl, [ad.block], ⟨_, n, c, ces, [], rfl, by rw [hl]; exact h1, h2, h3, k1, .inr ⟨ad, rfl, rfl, hb, hc⟩⟩, fun g hg => hR g (by rw [List.mem_singleton.1 hg]; simp)⟩, [], O2, rfl, ⟨rfl, F', ⟨rfl, k2⟩, fun g hg => hR g (by simp [hg])⟩, k⟩, h6, h7, h8, h9⟩
theorem Sat.rawOwn (h : Sat w0 w Γ) (n : Nat) (cs : List Value) (h1 : cs.length = n) (h2 : ∀ u ∈ cs, u.oneCell' = true) : Sat w0 w (.own (Rep.raw n) cs cs :: Γ) := h.flat (Rep.raw_mk h1 h2)
end
end Go.Proofs.YtldknaajnnohiaaDoor
end

section
namespace Go.Proofs.YtldknaajnnohiaaDoor
open Go.RowKit

section
variable {α : Type} {e : Rep α} {w w0 : World} {Γ : List Fact}
theorem Sat.shareOwn {v : Value} {xs : List α} (h : Sat w0 w (.own e.rows [v] xs :: Γ)) : ∃ css, css.length = xs.length ∧ Sat w0 w (.own (Rep.raw e.size).rows [v] css :: .own (Rep.lnk e) [] (css, xs) :: Γ) := by
  obtain ⟨R, O, ⟨O1, O2, rfl, h1, h2⟩, h3⟩ := h
  rcases h1 with ⟨hv, rfl, rfl⟩ | ⟨g, off, cap, cur, t, ces, F', hv, rfl, hh, hle, hcm, hsz, hce, htk⟩
  · exact ⟨[], rfl, R, _, ⟨[], O2, rfl, .inl ⟨hv, rfl, rfl⟩, [], O2, rfl, ⟨rfl, rfl⟩, h2⟩, h3⟩
  · obtain ⟨css, k1, k2⟩ := lnkAll_of hce
    have hl := lnkAll_len k2
    exact ⟨css, hl, R, _, ⟨[g], F' ++ O2, rfl, .inr ⟨g, off, cap, cur, t, ces, [], by rw [hl]; exact hv, rfl, hh, by rw [hl]; exact hle, hcm, hsz, k1, htk⟩, F', O2, rfl, ⟨rfl, k2⟩, h2⟩, h3⟩
theorem Sat.unshareOwn {v : Value} {css : List (List Value)} {xs : List α} (h : Sat w0 w (.own (Rep.raw e.size).rows [v] css :: .own (Rep.lnk e) [] (css, xs) :: Γ)) : Sat w0 w (.own e.rows [v] xs :: Γ) := by
  obtain ⟨R, O, ⟨O1, O', rfl, h1, O2, O3, rfl, ⟨_, hG⟩, h2⟩, h3⟩ := h
  have hl := lnkAll_len hG
  rcases h1 with ⟨hv, rfl, rfl⟩ | ⟨g, off, cap, cur, t, ces, F', hv, rfl, hh, hle, hcm, hsz, hce, htk⟩
  · have hx : xs = [] := List.eq_nil_of_length_eq_zero hl.symm
    subst hx
    have hO : O2 = [] := hG
    subst hO
    exact ⟨R, _, ⟨[], O3, rfl, .inl ⟨hv, rfl, rfl⟩, h2⟩, h3⟩
  · obtain ⟨rfl, k3⟩ := all_of_lnk hce hG
    exact ⟨R, _, ⟨g :: O2, O3, rfl, .inr ⟨g, off, cap, cur, t, ces, O2, by rw [← hl]; exact hv, rfl, hh, by rw [← hl]; exact hle, hcm, hsz, k3, htk⟩, h2⟩, h3⟩
end
section
variable {P : Program} {o : Oper} {a : Act} {w w0 : World} {Γ : List Fact}
theorem f_loadRaw {T : TypeId} {z : Value} {p : Operand} {g off n c k i : Nat} {css : List (List Value)} {u : Value} (hS : Sat w0 w Γ) (ho : o.op = .load T p) (hp : a.eval p = .pointer (some ⟨g, off + k, none⟩)) [hi : OwnIn Γ (Rep.raw 1).rows [.slice (some ⟨g, off, none⟩) n c] css i] [hT : Ty P T z 1 false] (hx : css[k]? = some [u]) : Gives P o a w u := by
  obtain ⟨⟨u', Fu, hc, -, hu, -⟩, -⟩ := hS.rowCell i hi.get rfl hx
  simp only [List.cons.injEq, and_true] at hu
  subst hu
  unfold Gives execOp
  simp [ho, hp, run_load1 hT hc]
theorem f_loadBoolRow {T : TypeId} {z : Value} {p : Operand} {g off n c k i : Nat} {xs : List Bool} {x : Bool} (hS : Sat w0 w Γ) (ho : o.op = .load T p) (hp : a.eval p = .pointer (some ⟨g, off + k, none⟩)) [hi : OwnIn Γ Rep.bool.rows [.slice (some ⟨g, off, none⟩) n c] xs i] [hT : Ty P T z 1 false] (hx : xs[k]? = some x) : Gives P o a w (.bool x) := by
  obtain ⟨⟨u, Fu, hc, -, hu⟩, -⟩ := hS.rowCell i hi.get rfl hx
  simp only [List.cons.injEq, and_true] at hu
  subst hu
  unfold Gives execOp
  simp [ho, hp, run_load1 hT hc]
end
section
variable {w w0 x : World} {Γ : List Fact}
end
end Go.Proofs.YtldknaajnnohiaaDoor
end
