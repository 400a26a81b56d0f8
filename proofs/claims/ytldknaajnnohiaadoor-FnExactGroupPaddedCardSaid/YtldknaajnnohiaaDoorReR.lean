/- Sorted padded tables: real rows stand first (plain laws). -/
import Derived.Test.YtldknaajnnohiaaDoorSPl
import Derived.Test.YtldknaajnnohiaaDoorCutI
import Derived.Test.YtldknaajnnohiaaDoorSrL
section
namespace Go.Proofs.YtldknaajnnohiaaDoor
open Go.RowKit

theorem bools_front : ∀ {l : List Bool}, l.Pairwise (fun a b => ¬(a = false ∧ b = true)) → l = List.replicate (l.countP id) true ++ List.replicate (l.length - l.countP id) false
  | [], _ => rfl
  | true :: l, h => by
    have ih := bools_front (List.pairwise_cons.1 h).2
    have hc : (true :: l).countP id = l.countP id + 1 := by rw [List.countP_cons]; rfl
    rw [hc, List.length_cons, Nat.add_sub_add_right, List.replicate_succ, List.cons_append, ← ih]
  | false :: l, h => by
    have h1 := (List.pairwise_cons.1 h).1
    have h2 : ∀ b ∈ l, b = false := fun b hb => by
      cases b
      · rfl
      · exact absurd ⟨rfl, rfl⟩ (h1 true hb)
    have hc0 : l.countP id = 0 := List.countP_eq_zero.2 (fun b hb => by rw [h2 b hb]; simp)
    have hc : (false :: l).countP id = 0 := by rw [List.countP_cons, hc0]; rfl
    have hl : l = List.replicate l.length false := List.eq_replicate_iff.2 ⟨rfl, h2⟩
    rw [hc, List.length_cons, Nat.sub_zero, List.replicate_zero, List.nil_append, List.replicate_succ, ← hl]
theorem sortP_front {c : Int} {down : Bool} {p : PaddedD} : (sortP c down p).2.2 = List.replicate ((sortP c down p).2.2.countP id) true ++ List.replicate ((sortP c down p).2.2.length - (sortP c down p).2.2.countP id) false := by
  refine bools_front ?_
  unfold sortP
  dsimp only
  rw [List.pairwise_map]
  refine (sortZ_sorted (c := c) (down := down)).imp ?_
  rintro ⟨a, ra⟩ ⟨b, rb⟩ h ⟨h1, h2⟩
  dsimp only at h1 h2
  subst h1 h2
  have h3 := ltR_real (c := c) (down := down) (a := (b, true)) (b := (a, false)) (by simp)
  rw [h] at h3
  cases h3
end Go.Proofs.YtldknaajnnohiaaDoor
end

section
namespace Go.Proofs.YtldknaajnnohiaaDoor
open Go.RowKit

/-- How many rows are real; -1 for a table that is none. -/
def realF (p : PaddedD) : Int := if paddedOk p then ((p.2.2.countP id : Nat) : Int) else -1
/-! ### Sorted again, cut -/
theorem sortF_ok {p : PaddedD} {col : ByteArray} {down : Bool} {q : PaddedD} {tr : List AccessD} (h : sortF p col down = (q, tr, true)) : paddedOk p = true ∧ q = sortP (colOf p.1 col) down p ∧ paddedOk q = true ∧ q.1 = p.1 ∧ sortOk p col = true := by
  cases hs : sortOk p col
  · rw [sortF_f hs] at h; cases h
  · rw [sortF_t hs] at h
    have hp : paddedOk p = true := by
      unfold sortOk at hs
      simp only [Bool.and_eq_true] at hs
      exact hs.1
    have hq : q = sortP (colOf p.1 col) down p := by cases h; rfl
    exact ⟨hp, hq, by rw [hq]; exact sortP_ok hp, by rw [hq]; rfl, rfl⟩
end Go.Proofs.YtldknaajnnohiaaDoor
end
