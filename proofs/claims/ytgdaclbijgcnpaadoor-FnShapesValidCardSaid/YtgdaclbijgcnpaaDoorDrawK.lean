/- Trees of orders whose branches may be of the kind 3, too. No function of the program occurs here. -/
import Derived.Test.YtgdaclbijgcnpaaDoorDrawB
namespace Go.Proofs.YtgdaclbijgcnpaaDoor
open Go.RowKit

section
variable {P : Program} {ops : Array Oper} {Q : Exit → Act → World → Prop} {md : Region.Mode} {calm : Nat → Bool}
/-- Orders: a list, or a list behind which two operations (of the kinds k and l, 2 or 3) may come in either order. -/
inductive OrdK where
  | lin (L : List (Nat × Nat))
  | br (L : List (Nat × Nat)) (i k : Nat) (A : OrdK) (j l : Nat) (B : OrdK)
def OrdK.len : OrdK → Nat
  | .lin L => L.length
  | .br L _ _ A _ _ B => L.length + 1 + (A.len + B.len)
def OrdK.loud : OrdK → Nat → Bool
  | .lin L, x => L.contains (x, 3)
  | .br L i k A j l B, x => L.contains (x, 3) || ((i == x && k == 3) || ((j == x && l == 3) || (A.loud x || B.loud x)))
def wpK (P : Program) (ops : Array Oper) (Q : Exit → Act → World → Prop) : OrdK → Act → World → Prop
  | .lin L, a, w => wpD P ops Q L a w
  | .br L i k A j l B, a, w => wpD P ops (onN Q fun a w => wpD P ops (onN Q (wpK P ops Q A)) [(i, k)] a w ∧ wpD P ops (onN Q (wpK P ops Q B)) [(j, l)] a w) L a w
def okK (calm : Nat → Bool) (i k : Nat) : Bool := k == 2 || (k == 3 && !calm i)
def chkK (md : Region.Mode) (ops : Array Oper) (calm : Nat → Bool) : OrdK → Array Bool → Bool
  | .lin L, listed => chkD md ops calm L listed
  | .br L i k A j l B, listed => chkP md ops calm L listed && ((Region.ready md ops (aft L listed) == [i, j]) && ((okK calm i k && okK calm j l) && (chkK md ops calm A ((aft L listed).setIfInBounds i true) && chkK md ops calm B ((aft L listed).setIfInBounds j true))))
theorem stepK {i k : Nat} {a : Act} {w : World} {K R : Act → World → Prop} (hk : okK calm i k = true) (h : wpD P ops (onN Q K) [(i, k)] a w) (hR : ∀ a' w', K a' w' → R a' w') : wpOp P ops Q i (fun a' w' => (calm i = true → Mod [] w w') ∧ R a' w') a w := by
  simp only [okK, Bool.or_eq_true, Bool.and_eq_true, beq_iff_eq, Bool.not_eq_true'] at hk
  rcases hk with rfl | ⟨rfl, hc⟩
  · exact wpOp_mono (fun a' w' h' => ⟨fun _ => h'.1, hR _ _ h'.2⟩) (wpOp_onN h)
  · exact wpOp_mono (fun a' w' h' => ⟨fun h0 => (by rw [hc] at h0; cases h0), hR _ _ h'⟩) (wpOp_onN h)
theorem wpAnyM_of_K (hsel : Region.noSelect ops = true) (hQ : ∀ c a d v w, Q (.panic c) (Act.put a d v) w → Q (.panic c) a w) : ∀ (t : OrdK) (listed : Array Bool) (a : Act) (w : World) (fuel : Nat),
    chkK md ops calm t listed = true → ClosedL md ops listed → wpK P ops Q t a w → t.len ≤ fuel → wpAnyM P md ops Q calm fuel listed a w
  | .lin L, listed, a, w, fuel, hk, hcl, h, hf => wpAnyM_of_D hsel hQ L listed a w fuel hk hcl h hf
  | .br L i k A j l B, listed, a, w, fuel, hk, hcl, h, hf => by
    simp only [chkK, Bool.and_eq_true, beq_iff_eq] at hk
    obtain ⟨hk1, hk2, ⟨hki, hkj⟩, hk3, hk4⟩ := hk
    obtain ⟨f, rfl⟩ : ∃ f, fuel = (f + 1) + L.length := ⟨fuel - 1 - L.length, by simp only [OrdK.len] at hf; omega⟩
    have hA : A.len ≤ f := by simp only [OrdK.len] at hf; omega
    have hB : B.len ≤ f := by simp only [OrdK.len] at hf; omega
    refine wpAnyM_of_P hsel hQ L listed a w (f + 1) hk1 hcl h (fun a w hc hK => ?_)
    have hi : i ∈ Region.ready md ops (aft L listed) := by rw [hk2]; simp
    have hj : j ∈ Region.ready md ops (aft L listed) := by rw [hk2]; simp
    refine ⟨fun h0 => (by rw [h0] at hi; cases hi), fun x hx => ?_⟩
    rw [hk2] at hx
    simp only [List.mem_cons, List.not_mem_nil, or_false] at hx
    rcases hx with rfl | rfl
    · exact stepK hki hK.1 (fun a' w' h' => wpAnyM_of_K hsel hQ A _ a' w' f hk3 (hc.set hi) h' hA)
    · exact stepK hkj hK.2 (fun a' w' h' => wpAnyM_of_K hsel hQ B _ a' w' f hk4 (hc.set hj) h' hB)
def chkTreeK (ops : Array Oper) (t : OrdK) : Bool := Region.noSelect ops && (t.len ≤ 4 * ops.size : Bool) && chkK .any ops (fun j => !t.loud j) t (Array.replicate ops.size false)
/-- A region that draws its order: a tree of orders serves. -/
theorem wp_region_treeK {id : Nat} {a : Act} {w : World} {l : List Oper} (t : OrdK) (hm : P.follows .mixedOrders = true) (hc : chkTreeK l.toArray t = true) (hQ : ∀ c a d v w, Q (.panic c) (Act.put a d v) w → Q (.panic c) a w)
    (h : wpK P l.toArray Q t a w.drew) : (Code.region id l.toArray true).wp P Q a w := by
  simp only [chkTreeK, Bool.and_eq_true, decide_eq_true_eq] at hc
  have h1 := wpAny_of_M (calm := fun j => !t.loud j) _ _ _ _ (wpAnyM_of_K hc.1.1 hQ t _ a _ (l.toArray.size + 3 * l.toArray.size) hc.2 (fun j o _ hj => by
    have : (Array.replicate l.toArray.size false).getD j false = false := by
      rw [Array.getD_eq_getD_getElem?, Array.getElem?_replicate]
      split <;> rfl
    rw [this] at hj; cases hj) h (by omega))
  refine wp_region_any hm (wpAny_len (3 * l.toArray.size) _ _ _ _ (by simp) ?_ h1)
  refine Nat.le_trans (List.length_filter_le _ _) (by simp)

variable {a : Act} {w : World} {i k j l : Nat} {L : List (Nat × Nat)} {A B : OrdK}
theorem K_br (h : wpD P ops (onN Q fun a w => wpD P ops (onN Q (wpK P ops Q A)) [(i, k)] a w ∧ wpD P ops (onN Q (wpK P ops Q B)) [(j, l)] a w) L a w) : wpK P ops Q (.br L i k A j l B) a w := h
theorem K_lin (h : wpD P ops Q L a w) : wpK P ops Q (.lin L) a w := h
theorem K_and (h1 : wpD P ops (onN Q (wpK P ops Q A)) [(i, k)] a w) (h2 : wpD P ops (onN Q (wpK P ops Q B)) [(j, l)] a w) : wpD P ops (onN Q fun a w => wpD P ops (onN Q (wpK P ops Q A)) [(i, k)] a w ∧ wpD P ops (onN Q (wpK P ops Q B)) [(j, l)] a w) [] a w := ⟨h1, h2⟩
theorem K_ord (h : wpK P ops Q A a w) : wpD P ops (onN Q (wpK P ops Q A)) [] a w := h
end
end Go.Proofs.YtgdaclbijgcnpaaDoor
