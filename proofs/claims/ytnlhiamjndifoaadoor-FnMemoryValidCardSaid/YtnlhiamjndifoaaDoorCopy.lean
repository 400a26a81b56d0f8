/- Regions that draw their order, where two or three operations of the kinds 2 and 3 may come in any order: a tree of orders. No function of the program occurs here. -/
import Derived.Test.YtnlhiamjndifoaaDoorDrawB
import Derived.Test.YtnlhiamjndifoaaDoorNew
import Derived.Test.YtnlhiamjndifoaaDoorPdv
section
namespace Go.Proofs.YtnlhiamjndifoaaDoor
open Go.RowKit

section
variable {P : Program} {ops : Array Oper} {Q : Exit → Act → World → Prop} {md : Region.Mode} {calm : Nat → Bool}
/-- Orders: a list, or a list behind which two or three operations (of the kinds 2 or 3) may come in any order. -/
inductive OrdM where
  | lin (L : List (Nat × Nat))
  | br (L : List (Nat × Nat)) (i k : Nat) (A : OrdM) (j l : Nat) (B : OrdM)
  | tri (L : List (Nat × Nat)) (i k : Nat) (A : OrdM) (j l : Nat) (B : OrdM) (m n : Nat) (C : OrdM)
def OrdM.len : OrdM → Nat
  | .lin L => L.length
  | .br L _ _ A _ _ B => L.length + 1 + max A.len B.len
  | .tri L _ _ A _ _ B _ _ C => L.length + 1 + max A.len (max B.len C.len)
def OrdM.loud : OrdM → Nat → Bool
  | .lin L, x => L.contains (x, 3)
  | .br L i k A j l B, x => L.contains (x, 3) || ((i == x && k == 3) || ((j == x && l == 3) || (A.loud x || B.loud x)))
  | .tri L i k A j l B m n C, x => L.contains (x, 3) || ((i == x && k == 3) || ((j == x && l == 3) || ((m == x && n == 3) || (A.loud x || (B.loud x || C.loud x)))))
def wpM (P : Program) (ops : Array Oper) (Q : Exit → Act → World → Prop) : OrdM → Act → World → Prop
  | .lin L, a, w => wpD P ops Q L a w
  | .br L i k A j l B, a, w => wpD P ops (onN Q fun a w => wpD P ops (onN Q (wpM P ops Q A)) [(i, k)] a w ∧ wpD P ops (onN Q (wpM P ops Q B)) [(j, l)] a w) L a w
  | .tri L i k A j l B m n C, a, w => wpD P ops (onN Q fun a w => wpD P ops (onN Q (wpM P ops Q A)) [(i, k)] a w ∧ wpD P ops (onN Q (wpM P ops Q B)) [(j, l)] a w ∧ wpD P ops (onN Q (wpM P ops Q C)) [(m, n)] a w) L a w
def chkM (md : Region.Mode) (ops : Array Oper) (calm : Nat → Bool) : OrdM → Array Bool → Bool
  | .lin L, listed => chkD md ops calm L listed
  | .br L i k A j l B, listed => chkP md ops calm L listed && ((Region.ready md ops (aft L listed) == [i, j]) && ((okK calm i k && okK calm j l) && (chkM md ops calm A ((aft L listed).setIfInBounds i true) && chkM md ops calm B ((aft L listed).setIfInBounds j true))))
  | .tri L i k A j l B m n C, listed => chkP md ops calm L listed && ((Region.ready md ops (aft L listed) == [i, j, m]) && ((okK calm i k && (okK calm j l && okK calm m n)) && (chkM md ops calm A ((aft L listed).setIfInBounds i true) && (chkM md ops calm B ((aft L listed).setIfInBounds j true) && chkM md ops calm C ((aft L listed).setIfInBounds m true)))))
theorem wpAnyM_of_T (hsel : Region.noSelect ops = true) (hQ : ∀ c a d v w, Q (.panic c) (Act.put a d v) w → Q (.panic c) a w) : ∀ (t : OrdM) (listed : Array Bool) (a : Act) (w : World) (fuel : Nat),
    chkM md ops calm t listed = true → ClosedL md ops listed → wpM P ops Q t a w → t.len ≤ fuel → wpAnyM P md ops Q calm fuel listed a w
  | .lin L, listed, a, w, fuel, hk, hcl, h, hf => wpAnyM_of_D hsel hQ L listed a w fuel hk hcl h hf
  | .br L i k A j l B, listed, a, w, fuel, hk, hcl, h, hf => by
    simp only [chkM, Bool.and_eq_true, beq_iff_eq] at hk
    obtain ⟨hk1, hk2, ⟨hki, hkj⟩, hk3, hk4⟩ := hk
    obtain ⟨f, rfl⟩ : ∃ f, fuel = (f + 1) + L.length := ⟨fuel - 1 - L.length, by simp only [OrdM.len] at hf; omega⟩
    have hA : A.len ≤ f := by simp only [OrdM.len] at hf; omega
    have hB : B.len ≤ f := by simp only [OrdM.len] at hf; omega
    refine wpAnyM_of_P hsel hQ L listed a w (f + 1) hk1 hcl h (fun a w hc hK => ?_)
    have hi : i ∈ Region.ready md ops (aft L listed) := by rw [hk2]; simp
    have hj : j ∈ Region.ready md ops (aft L listed) := by rw [hk2]; simp
    refine ⟨fun h0 => (by rw [h0] at hi; cases hi), fun x hx => ?_⟩
    rw [hk2] at hx
    simp only [List.mem_cons, List.not_mem_nil, or_false] at hx
    rcases hx with rfl | rfl
    · exact stepK hki hK.1 (fun a' w' h' => wpAnyM_of_T hsel hQ A _ a' w' f hk3 (hc.set hi) h' hA)
    · exact stepK hkj hK.2 (fun a' w' h' => wpAnyM_of_T hsel hQ B _ a' w' f hk4 (hc.set hj) h' hB)
  | .tri L i k A j l B m n C, listed, a, w, fuel, hk, hcl, h, hf => by
    simp only [chkM, Bool.and_eq_true, beq_iff_eq] at hk
    obtain ⟨hk1, hk2, ⟨hki, hkj, hkm⟩, hk3, hk4, hk5⟩ := hk
    obtain ⟨f, rfl⟩ : ∃ f, fuel = (f + 1) + L.length := ⟨fuel - 1 - L.length, by simp only [OrdM.len] at hf; omega⟩
    have hA : A.len ≤ f := by simp only [OrdM.len] at hf; omega
    have hB : B.len ≤ f := by simp only [OrdM.len] at hf; omega
    have hC : C.len ≤ f := by simp only [OrdM.len] at hf; omega
    refine wpAnyM_of_P hsel hQ L listed a w (f + 1) hk1 hcl h (fun a w hc hK => ?_)
    have hi : i ∈ Region.ready md ops (aft L listed) := by rw [hk2]; simp
    have hj : j ∈ Region.ready md ops (aft L listed) := by rw [hk2]; simp
    have hm : m ∈ Region.ready md ops (aft L listed) := by rw [hk2]; simp
    refine ⟨fun h0 => (by rw [h0] at hi; cases hi), fun x hx => ?_⟩
    rw [hk2] at hx
    simp only [List.mem_cons, List.not_mem_nil, or_false] at hx
    rcases hx with rfl | rfl | rfl
    · exact stepK hki hK.1 (fun a' w' h' => wpAnyM_of_T hsel hQ A _ a' w' f hk3 (hc.set hi) h' hA)
    · exact stepK hkj hK.2.1 (fun a' w' h' => wpAnyM_of_T hsel hQ B _ a' w' f hk4 (hc.set hj) h' hB)
    · exact stepK hkm hK.2.2 (fun a' w' h' => wpAnyM_of_T hsel hQ C _ a' w' f hk5 (hc.set hm) h' hC)
def chkTreeM (ops : Array Oper) (t : OrdM) : Bool := Region.noSelect ops && (t.len ≤ 4 * ops.size : Bool) && chkM .any ops (fun j => !t.loud j) t (Array.replicate ops.size false)
/-- A region that draws its order: a tree of orders serves. -/
theorem wp_region_treeM {id : Nat} {a : Act} {w : World} {l : List Oper} (t : OrdM) (hm : P.follows .mixedOrders = true) (hc : chkTreeM l.toArray t = true) (hQ : ∀ c a d v w, Q (.panic c) (Act.put a d v) w → Q (.panic c) a w)
    (h : wpM P l.toArray Q t a w.drew) : (Code.region id l.toArray true).wp P Q a w := by
  simp only [chkTreeM, Bool.and_eq_true, decide_eq_true_eq] at hc
  have h1 := wpAny_of_M (calm := fun j => !t.loud j) _ _ _ _ (wpAnyM_of_T hc.1.1 hQ t _ a _ (l.toArray.size + 3 * l.toArray.size) hc.2 (fun j o _ hj => by
    have : (Array.replicate l.toArray.size false).getD j false = false := by
      rw [Array.getD_eq_getD_getElem?, Array.getElem?_replicate]
      split <;> rfl
    rw [this] at hj; cases hj) h (by omega))
  refine wp_region_any hm (wpAny_len (3 * l.toArray.size) _ _ _ _ (by simp) ?_ h1)
  refine Nat.le_trans (List.length_filter_le _ _) (by simp)

variable {a : Act} {w : World} {i k j l m n : Nat} {L : List (Nat × Nat)} {A B C : OrdM}
theorem M_br (h : wpD P ops (onN Q fun a w => wpD P ops (onN Q (wpM P ops Q A)) [(i, k)] a w ∧ wpD P ops (onN Q (wpM P ops Q B)) [(j, l)] a w) L a w) : wpM P ops Q (.br L i k A j l B) a w := h
theorem M_tri (h : wpD P ops (onN Q fun a w => wpD P ops (onN Q (wpM P ops Q A)) [(i, k)] a w ∧ wpD P ops (onN Q (wpM P ops Q B)) [(j, l)] a w ∧ wpD P ops (onN Q (wpM P ops Q C)) [(m, n)] a w) L a w) : wpM P ops Q (.tri L i k A j l B m n C) a w := h
theorem M_lin (h : wpD P ops Q L a w) : wpM P ops Q (.lin L) a w := h
theorem M_and (h1 : wpD P ops (onN Q (wpM P ops Q A)) [(i, k)] a w) (h2 : wpD P ops (onN Q (wpM P ops Q B)) [(j, l)] a w) : wpD P ops (onN Q fun a w => wpD P ops (onN Q (wpM P ops Q A)) [(i, k)] a w ∧ wpD P ops (onN Q (wpM P ops Q B)) [(j, l)] a w) [] a w := ⟨h1, h2⟩
theorem M_and3 (h1 : wpD P ops (onN Q (wpM P ops Q A)) [(i, k)] a w) (h2 : wpD P ops (onN Q (wpM P ops Q B)) [(j, l)] a w) (h3 : wpD P ops (onN Q (wpM P ops Q C)) [(m, n)] a w) : wpD P ops (onN Q fun a w => wpD P ops (onN Q (wpM P ops Q A)) [(i, k)] a w ∧ wpD P ops (onN Q (wpM P ops Q B)) [(j, l)] a w ∧ wpD P ops (onN Q (wpM P ops Q C)) [(m, n)] a w) [] a w := ⟨h1, h2, h3⟩
theorem M_ord (h : wpM P ops Q A a w) : wpD P ops (onN Q (wpM P ops Q A)) [] a w := h
end
end Go.Proofs.YtnlhiamjndifoaaDoor
end

section
namespace Go.Proofs.YtnlhiamjndifoaaDoor
open Go.RowKit















































end Go.Proofs.YtnlhiamjndifoaaDoor
end

section
namespace Go.Proofs.YtnlhiamjndifoaaDoor
open Go.RowKit

section
variable {P : Program} {ops : Array Oper} {Q : Exit → Act → World → Prop} {md : Region.Mode} {calm : Nat → Bool} {G : List Nat}
def wpGM (G : List Nat) (P : Program) (ops : Array Oper) (Q : Exit → Act → World → Prop) : OrdM → Act → World → Prop
  | .lin L, a, w => wpG G P ops Q L a w
  | .br L i k A j l B, a, w => wpG G P ops (onN Q fun a w => wpG G P ops (onN Q (wpGM G P ops Q A)) [(i, k)] a w ∧ wpG G P ops (onN Q (wpGM G P ops Q B)) [(j, l)] a w) L a w
  | .tri L i k A j l B m n C, a, w => wpG G P ops (onN Q fun a w => wpG G P ops (onN Q (wpGM G P ops Q A)) [(i, k)] a w ∧ wpG G P ops (onN Q (wpGM G P ops Q B)) [(j, l)] a w ∧ wpG G P ops (onN Q (wpGM G P ops Q C)) [(m, n)] a w) L a w
theorem wpAnyG_of_T (hsel : Region.noSelect ops = true) (hQ : ∀ c a d v w, Q (.panic c) (Act.put a d v) w → Q (.panic c) a w) : ∀ (t : OrdM) (listed : Array Bool) (a : Act) (w : World) (fuel : Nat),
    chkM md ops calm t listed = true → ClosedL md ops listed → wpGM G P ops Q t a w → t.len ≤ fuel → wpAnyG G P md ops Q calm fuel listed a w
  | .lin L, listed, a, w, fuel, hk, hcl, h, hf => wpAnyG_of_D hsel hQ L listed a w fuel hk hcl h hf
  | .br L i k A j l B, listed, a, w, fuel, hk, hcl, h, hf => by
    simp only [chkM, Bool.and_eq_true, beq_iff_eq] at hk
    obtain ⟨hk1, hk2, ⟨hki, hkj⟩, hk3, hk4⟩ := hk
    obtain ⟨f, rfl⟩ : ∃ f, fuel = (f + 1) + L.length := ⟨fuel - 1 - L.length, by simp only [OrdM.len] at hf; omega⟩
    have hA : A.len ≤ f := by simp only [OrdM.len] at hf; omega
    have hB : B.len ≤ f := by simp only [OrdM.len] at hf; omega
    refine wpAnyG_of_P hsel hQ L listed a w (f + 1) hk1 hcl h (fun a w hc hK => ?_)
    have hi : i ∈ Region.ready md ops (aft L listed) := by rw [hk2]; simp
    have hj : j ∈ Region.ready md ops (aft L listed) := by rw [hk2]; simp
    refine ⟨fun h0 => (by rw [h0] at hi; cases hi), fun x hx => ?_⟩
    rw [hk2] at hx
    simp only [List.mem_cons, List.not_mem_nil, or_false] at hx
    rcases hx with rfl | rfl
    · exact stepG hki hK.1 (fun a' w' h' => wpAnyG_of_T hsel hQ A _ a' w' f hk3 (hc.set hi) h' hA)
    · exact stepG hkj hK.2 (fun a' w' h' => wpAnyG_of_T hsel hQ B _ a' w' f hk4 (hc.set hj) h' hB)
  | .tri L i k A j l B m n C, listed, a, w, fuel, hk, hcl, h, hf => by
    simp only [chkM, Bool.and_eq_true, beq_iff_eq] at hk
    obtain ⟨hk1, hk2, ⟨hki, hkj, hkm⟩, hk3, hk4, hk5⟩ := hk
    obtain ⟨f, rfl⟩ : ∃ f, fuel = (f + 1) + L.length := ⟨fuel - 1 - L.length, by simp only [OrdM.len] at hf; omega⟩
    have hA : A.len ≤ f := by simp only [OrdM.len] at hf; omega
    have hB : B.len ≤ f := by simp only [OrdM.len] at hf; omega
    have hC : C.len ≤ f := by simp only [OrdM.len] at hf; omega
    refine wpAnyG_of_P hsel hQ L listed a w (f + 1) hk1 hcl h (fun a w hc hK => ?_)
    have hi : i ∈ Region.ready md ops (aft L listed) := by rw [hk2]; simp
    have hj : j ∈ Region.ready md ops (aft L listed) := by rw [hk2]; simp
    have hm : m ∈ Region.ready md ops (aft L listed) := by rw [hk2]; simp
    refine ⟨fun h0 => (by rw [h0] at hi; cases hi), fun x hx => ?_⟩
    rw [hk2] at hx
    simp only [List.mem_cons, List.not_mem_nil, or_false] at hx
    rcases hx with rfl | rfl | rfl
    · exact stepG hki hK.1 (fun a' w' h' => wpAnyG_of_T hsel hQ A _ a' w' f hk3 (hc.set hi) h' hA)
    · exact stepG hkj hK.2.1 (fun a' w' h' => wpAnyG_of_T hsel hQ B _ a' w' f hk4 (hc.set hj) h' hB)
    · exact stepG hkm hK.2.2 (fun a' w' h' => wpAnyG_of_T hsel hQ C _ a' w' f hk5 (hc.set hm) h' hC)
/-- A region that draws its order: a tree of orders serves. -/
theorem wp_region_treeGM {id : Nat} {a : Act} {w : World} {l : List Oper} (t : OrdM) (hm : P.follows .mixedOrders = true) (hc : chkTreeM l.toArray t = true) (hQ : ∀ c a d v w, Q (.panic c) (Act.put a d v) w → Q (.panic c) a w)
    (h : wpGM G P l.toArray Q t a w.drew) : (Code.region id l.toArray true).wp P Q a w := by
  simp only [chkTreeM, Bool.and_eq_true, decide_eq_true_eq] at hc
  have h1 := wpAny_of_G (calm := fun j => !t.loud j) _ _ _ _ (wpAnyG_of_T hc.1.1 hQ t _ a _ (l.toArray.size + 3 * l.toArray.size) hc.2 (fun j o _ hj => by
    have : (Array.replicate l.toArray.size false).getD j false = false := by
      rw [Array.getD_eq_getD_getElem?, Array.getElem?_replicate]
      split <;> rfl
    rw [this] at hj; cases hj) h (by omega))
  refine wp_region_any hm (wpAny_len (3 * l.toArray.size) _ _ _ _ (by simp) ?_ h1)
  refine Nat.le_trans (List.length_filter_le _ _) (by simp)

def chkTreeC (ops : Array Oper) (t : OrdM) : Bool := Region.noSelect ops && (t.len ≤ 4 * ops.size : Bool) && chkM .any ops (fun _ => true) t (Array.replicate ops.size false)
/-- The same where every operation is calm (no operation of the kind 3): a quicker check. -/
theorem wp_region_treeGC {id : Nat} {a : Act} {w : World} {l : List Oper} (t : OrdM) (hm : P.follows .mixedOrders = true) (hc : chkTreeC l.toArray t = true) (hQ : ∀ c a d v w, Q (.panic c) (Act.put a d v) w → Q (.panic c) a w)
    (h : wpGM G P l.toArray Q t a w.drew) : (Code.region id l.toArray true).wp P Q a w := by
  simp only [chkTreeC, Bool.and_eq_true, decide_eq_true_eq] at hc
  have h1 := wpAny_of_G (calm := fun _ => true) _ _ _ _ (wpAnyG_of_T hc.1.1 hQ t _ a _ (l.toArray.size + 3 * l.toArray.size) hc.2 (fun j o _ hj => by
    have : (Array.replicate l.toArray.size false).getD j false = false := by
      rw [Array.getD_eq_getD_getElem?, Array.getElem?_replicate]
      split <;> rfl
    rw [this] at hj; cases hj) h (by omega))
  refine wp_region_any hm (wpAny_len (3 * l.toArray.size) _ _ _ _ (by simp) ?_ h1)
  refine Nat.le_trans (List.length_filter_le _ _) (by simp)

variable {a : Act} {w : World} {i k j l m n : Nat} {L : List (Nat × Nat)} {A B C : OrdM}
theorem GM_br (h : wpG G P ops (onN Q fun a w => wpG G P ops (onN Q (wpGM G P ops Q A)) [(i, k)] a w ∧ wpG G P ops (onN Q (wpGM G P ops Q B)) [(j, l)] a w) L a w) : wpGM G P ops Q (.br L i k A j l B) a w := h
theorem GM_tri (h : wpG G P ops (onN Q fun a w => wpG G P ops (onN Q (wpGM G P ops Q A)) [(i, k)] a w ∧ wpG G P ops (onN Q (wpGM G P ops Q B)) [(j, l)] a w ∧ wpG G P ops (onN Q (wpGM G P ops Q C)) [(m, n)] a w) L a w) : wpGM G P ops Q (.tri L i k A j l B m n C) a w := h
theorem GM_lin (h : wpG G P ops Q L a w) : wpGM G P ops Q (.lin L) a w := h
theorem GM_and (h1 : wpG G P ops (onN Q (wpGM G P ops Q A)) [(i, k)] a w) (h2 : wpG G P ops (onN Q (wpGM G P ops Q B)) [(j, l)] a w) : wpG G P ops (onN Q fun a w => wpG G P ops (onN Q (wpGM G P ops Q A)) [(i, k)] a w ∧ wpG G P ops (onN Q (wpGM G P ops Q B)) [(j, l)] a w) [] a w := ⟨h1, h2⟩
theorem GM_and3 (h1 : wpG G P ops (onN Q (wpGM G P ops Q A)) [(i, k)] a w) (h2 : wpG G P ops (onN Q (wpGM G P ops Q B)) [(j, l)] a w) (h3 : wpG G P ops (onN Q (wpGM G P ops Q C)) [(m, n)] a w) : wpG G P ops (onN Q fun a w => wpG G P ops (onN Q (wpGM G P ops Q A)) [(i, k)] a w ∧ wpG G P ops (onN Q (wpGM G P ops Q B)) [(j, l)] a w ∧ wpG G P ops (onN Q (wpGM G P ops Q C)) [(m, n)] a w) [] a w := ⟨h1, h2, h3⟩
theorem GM_ord (h : wpGM G P ops Q A a w) : wpG G P ops (onN Q (wpGM G P ops Q A)) [] a w := h
end
section
variable {P : Program} {o : Oper} {a : Act} {w w0 x : World} {Γ : List Fact}
/-- The blocks of two variables, found by their places. -/
abbrev gOf {b c : Nat} {us vs : List Value} (_ : Sat w0 w Γ) (i j : Nat) (_ : Γ[i]? = some (.box b us)) (_ : Γ[j]? = some (.box c vs)) : List Nat := [b, c]
theorem f_loadH {T : TypeId} {z : Value} {p : Operand} {b off i br j b2 j2 : Nat} {cs us us2 : List Value} {u : Value} (hS : Sat w0 w Γ) (hx : Mod [br, b2] w x) (ho : o.op = .load T p) (hp : a.eval p = .pointer (some ⟨b, off, none⟩)) [hi : BoxAt Γ b cs i] [hj : BoxAt Γ br us j] [hj2 : BoxAt Γ b2 us2 j2] (hij : i ≠ j ∧ i ≠ j2) [hT : Ty P T z 1 false] (hu : cs[off]? = some u) : Gives P o a x u := by
  have hne := hS.boxNe hi.get hj.get hij.1
  have hne2 := hS.boxNe hi.get hj2.get hij.2
  have hc := (hS.pull i hi.get).cellAt hu
  have hl : b < w.heap.size := by
    obtain ⟨R, O, ⟨O1, O2, rfl, ⟨rfl, t, hb⟩, _⟩, _⟩ := hS.pull i hi.get
    exact (Array.getElem?_eq_some_iff.1 hb).1
  have hc2 : x.cell? ⟨b, off, none⟩ = some u := (hx.cell (p := ⟨b, off, none⟩) hl (by simp [hne, hne2])).trans hc
  unfold Gives execOp
  simp [ho, hp, run_load1 hT hc2]
theorem f_loadHS {T : TypeId} {z : Value} {p : Operand} {b n i br j b2 j2 : Nat} {cs us us2 : List Value} (hS : Sat w0 w Γ) (hx : Mod [br, b2] w x) (ho : o.op = .load T p) (hp : a.eval p = .pointer (some ⟨b, 0, none⟩)) [hi : BoxAt Γ b cs i] [hj : BoxAt Γ br us j] [hj2 : BoxAt Γ b2 us2 j2] (hij : i ≠ j ∧ i ≠ j2) [hT : Ty P T z n true] (hl : cs.length = n) : Gives P o a x (.agg cs.toArray) := by
  have hne := hS.boxNe hi.get hj.get hij.1
  have hne2 := hS.boxNe hi.get hj2.get hij.2
  have hc := hS.boxCells hi.get
  have hlb : b < w.heap.size := by
    obtain ⟨R, O, ⟨O1, O2, rfl, ⟨rfl, t, hb⟩, _⟩, _⟩ := hS.pull i hi.get
    exact (Array.getElem?_eq_some_iff.1 hb).1
  have hc2 : CellsAt x ⟨b, 0, none⟩ cs := fun q u hq => by
    have h1 := hc q u hq
    rw [Addr.add_lit] at h1 ⊢
    exact (hx.cell (p := ⟨b, _, none⟩) hlb (by simp [hne, hne2])).trans h1
  unfold Gives execOp
  simp [ho, hp, run_loadS hT hl hc2]
/-- A store of a whole struct, and which block it changes. -/
theorem f_storeSM {T : TypeId} {z : Value} {p x : Operand} {b n i : Nat} {cs : List Value} {us : Array Value} (hS : Sat w0 w Γ) (ho : o.op = .store T p x) (hp : a.eval p = .pointer (some ⟨b, 0, none⟩)) (hx : a.eval x = .agg us) [hi : BoxAt Γ b cs i] [hT : Ty P T z n true] (h1' : us.toList.all (·.oneCell') = true) (hn : us.size = n) (hl : cs.length = n) :
    Does P o a w (fun v w' => v = undef ∧ Sat w0 w' (Γ.set i (.box b us.toList)) ∧ Mod [b] w w') := by
  have h1 : ∀ u ∈ us.toList, u.oneCell' = true := List.all_eq_true.1 h1'
  have hp' := hS.pull i hi.get
  have hr := run_storeN (w := w) (g := b) (o := 0) (v := .agg us) hT hn h1 (by intro j hj; rw [Nat.zero_add, hp'.cellAt (List.getElem?_eq_getElem (by omega))]; rfl) (fun j => hp'.frozenAt j)
  have hs := setCells_box us.toList 0 w b cs hp' (by simp; omega)
  have e : cs.take 0 ++ us.toList ++ cs.drop (0 + us.toList.length) = us.toList := by
    rw [List.take_zero, List.nil_append, List.drop_eq_nil_of_le (by simp; omega), List.append_nil]
  rw [e] at hs
  refine ⟨undef, _, ⟨rfl, hs.perm (perm_set i hi.get), Mod.setCells (by simp) _ _ (Mod.refl _ _)⟩, .inr ⟨?_, rfl⟩⟩
  unfold execOp
  simp only [ho, hp, hx, Sem.run_bind, hr, Result.andThen_ok]
  rfl
end
end Go.Proofs.YtnlhiamjndifoaaDoor
end
