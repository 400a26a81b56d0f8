/- Regions that draw their order, where two operations of the kind 2 may come in either order: a tree of orders. No function of the program occurs here. -/
import Derived.Test.YtnbaekjednmfjaaDoorFind
import Derived.Test.YtnbaekjednmfjaaDoorFind
namespace Go.Proofs.YtnbaekjednmfjaaDoor
open Go.RowKit

section
variable {P : Program} {ops : Array Oper} {Q : Exit → Act → World → Prop} {md : Region.Mode} {calm : Nat → Bool}
def onN (Q : Exit → Act → World → Prop) (K : Act → World → Prop) : Exit → Act → World → Prop
  | .normal, a, w => K a w
  | .exit i, a, w => Q (.exit i) a w
  | .goto i, a, w => Q (.goto i) a w
  | .ret, a, w => Q .ret a w
  | .panic c, a, w => Q (.panic c) a w
  | .outgrown, a, w => Q .outgrown a w
theorem wp_onN {o : Oper} {a : Act} {w : World} {R K : Act → World → Prop} (hh : o.wp P a w R (onN Q K)) : o.wp P a w R Q := by
  unfold Oper.wp at *
  generalize (execOp a.eval o).run P w = r at *
  cases r with
  | ok n w' =>
    cases n <;> simp only [Oper.upon] at hh ⊢ <;>
      first
        | exact hh
        | exact Calls.mono hh (fun e w'' he => by cases e <;> exact he)
  | halt x w' => cases x <;> simp only [Oper.upon] at hh ⊢ <;> exact hh
theorem wpOp_onN {i : Nat} {a : Act} {w : World} {R K : Act → World → Prop} (hh : wpOp P ops (onN Q K) i R a w) : wpOp P ops Q i R a w := by
  unfold wpOp at *
  split
  · rename_i ho; simpa only [ho] using hh
  · rename_i o ho
    simp only [ho] at hh
    split
    · rename_i hw; simp only [hw, if_true] at hh; exact hh.imp wp_onN id
    · rename_i hw; simp only [hw] at hh; exact hh
def aft (L : List (Nat × Nat)) (listed : Array Bool) : Array Bool := L.foldl (fun l p => l.setIfInBounds p.1 true) listed
def chkP (md : Region.Mode) (ops : Array Oper) (calm : Nat → Bool) : List (Nat × Nat) → Array Bool → Bool
  | [], _ => true
  | (i, k) :: L, listed =>
    (match k with
     | 0 => Region.free md ops listed i && (Region.ready md ops listed).contains i
     | 1 => Region.free md ops listed i && (Region.ready md ops listed).contains i && (List.range ops.size).all fun j => calm j || listed.getD j false || waitsB md ops ops.size j i
     | 2 => (Region.ready md ops listed == [i]) && calm i
     | _ => (Region.ready md ops listed == [i]) && !calm i) && chkP md ops calm L (listed.setIfInBounds i true)
theorem wpAnyM_of_P {K : Act → World → Prop} (hsel : Region.noSelect ops = true) (hQ : ∀ c a d v w, Q (.panic c) (Act.put a d v) w → Q (.panic c) a w) : ∀ (L : List (Nat × Nat)) (listed : Array Bool) (a : Act) (w : World) (fuel : Nat),
    chkP md ops calm L listed = true → ClosedL md ops listed → wpD P ops (onN Q K) L a w → (∀ a w, ClosedL md ops (aft L listed) → K a w → wpAnyM P md ops Q calm fuel (aft L listed) a w) → wpAnyM P md ops Q calm (fuel + L.length) listed a w
  | [], listed, a, w, fuel, _, hcl, h, hend => hend a w hcl h
  | (i, k) :: L, listed, a, w, fuel, hk, hcl, h, hend => by
    unfold chkP at hk
    rw [Bool.and_eq_true] at hk
    obtain ⟨hk1, hk2⟩ := hk
    rw [List.length_cons, ← Nat.add_assoc]
    have single : Region.ready md ops listed = [i] → wpOp P ops Q i (fun a' w' => (calm i = true → Mod [] w w') ∧ wpAnyM P md ops Q calm (fuel + L.length) (listed.setIfInBounds i true) a' w') a w → wpAnyM P md ops Q calm (fuel + L.length + 1) listed a w := fun hr hw =>
      ⟨fun h0 => (by rw [h0] at hr; cases hr), by rw [hr]; simpa using hw⟩
    match k with
    | 0 =>
      simp only [Bool.and_eq_true] at hk1
      obtain ⟨o, v, ho, hy, hrest⟩ := h
      have hri : i ∈ Region.ready md ops listed := by simpa using hk1.2
      exact wpAnyM_first (C := fun _ _ => True) (listed := listed) ho (Region.noSelect_spec hsel) hQ (fun _ => trivial) (fun _ _ _ _ _ _ _ _ _ _ _ => trivial) _ listed a w hcl (fun _ hk => hk) (Region.free_spec ho hk1.1) hri hy
        (wpAnyM_of_P hsel hQ L _ _ w fuel hk2 (hcl.set hri) hrest hend)
    | 1 =>
      simp only [Bool.and_eq_true] at hk1
      obtain ⟨o, v, ho, hy, hrest⟩ := h
      have hri : i ∈ Region.ready md ops listed := by simpa using hk1.1.2
      refine wpAnyM_first (C := fun w x => Mod [] w x) (listed := listed) ho (Region.noSelect_spec hsel) hQ (fun _ => Mod.refl _ _) (fun listed' j w1 w2 hcl' hext hiun hj hm x hx => ?_) _ listed a w hcl (fun _ hk => hk) (Region.free_spec ho hk1.1.1) hri hy
        (wpAnyM_of_P hsel hQ L _ _ w fuel hk2 (hcl.set hri) hrest hend)
      have hall := List.all_eq_true.1 hk1.2
      obtain ⟨hjun, oj, hoj, hje⟩ := mem_ready.1 hj
      have hj' := hall j (List.mem_range.2 (Array.getElem?_eq_some_iff.1 hoj).1)
      simp only [Bool.or_eq_true] at hj'
      rcases hj' with (hj' | hj') | hj'
      · exact (hm hj').seq hx
      · have := hext j hj'; rw [getD_unlisted hjun] at this; cases this
      · have := waits_listed hcl' _ j i hj' (fun o ho e he hb => by rw [hoj] at ho; cases ho; exact hje e he hb)
        rw [getD_unlisted hiun] at this; cases this
    | 2 =>
      simp only [Bool.and_eq_true, beq_iff_eq] at hk1
      have hri : i ∈ Region.ready md ops listed := by rw [hk1.1]; simp
      exact single hk1.1 (wpOp_mono (fun a' w' h' => ⟨fun _ => h'.1, wpAnyM_of_P hsel hQ L _ a' w' fuel hk2 (hcl.set hri) h'.2 hend⟩) (wpOp_onN h))
    | k + 3 =>
      simp only [Bool.and_eq_true, beq_iff_eq, Bool.not_eq_true'] at hk1
      have hri : i ∈ Region.ready md ops listed := by rw [hk1.1]; simp
      exact single hk1.1 (wpOp_mono (fun a' w' h' => ⟨fun hc => (by rw [hk1.2] at hc; cases hc), wpAnyM_of_P hsel hQ L _ a' w' fuel hk2 (hcl.set hri) h' hend⟩) (wpOp_onN h))

/-- Orders: a list, or a list behind which two operations of the kind 2 may come in either order. -/
inductive Ord where
  | lin (L : List (Nat × Nat))
  | br (L : List (Nat × Nat)) (i : Nat) (A : Ord) (j : Nat) (B : Ord)
def Ord.len : Ord → Nat
  | .lin L => L.length
  | .br L _ A _ B => L.length + 1 + (A.len + B.len)
def Ord.loud : Ord → Nat → Bool
  | .lin L, j => L.contains (j, 3)
  | .br L _ A _ B, j => L.contains (j, 3) || (A.loud j || B.loud j)
def wpO (P : Program) (ops : Array Oper) (Q : Exit → Act → World → Prop) : Ord → Act → World → Prop
  | .lin L, a, w => wpD P ops Q L a w
  | .br L i A j B, a, w => wpD P ops (onN Q fun a w => wpD P ops (onN Q (wpO P ops Q A)) [(i, 2)] a w ∧ wpD P ops (onN Q (wpO P ops Q B)) [(j, 2)] a w) L a w
def chkO (md : Region.Mode) (ops : Array Oper) (calm : Nat → Bool) : Ord → Array Bool → Bool
  | .lin L, listed => chkD md ops calm L listed
  | .br L i A j B, listed => chkP md ops calm L listed && ((Region.ready md ops (aft L listed) == [i, j]) && (chkO md ops calm A ((aft L listed).setIfInBounds i true) && chkO md ops calm B ((aft L listed).setIfInBounds j true)))
theorem wpAnyM_of_O (hsel : Region.noSelect ops = true) (hQ : ∀ c a d v w, Q (.panic c) (Act.put a d v) w → Q (.panic c) a w) : ∀ (t : Ord) (listed : Array Bool) (a : Act) (w : World) (fuel : Nat),
    chkO md ops calm t listed = true → ClosedL md ops listed → wpO P ops Q t a w → t.len ≤ fuel → wpAnyM P md ops Q calm fuel listed a w
  | .lin L, listed, a, w, fuel, hk, hcl, h, hf => wpAnyM_of_D hsel hQ L listed a w fuel hk hcl h hf
  | .br L i A j B, listed, a, w, fuel, hk, hcl, h, hf => by
    simp only [chkO, Bool.and_eq_true, beq_iff_eq] at hk
    obtain ⟨hk1, hk2, hk3, hk4⟩ := hk
    obtain ⟨f, rfl⟩ : ∃ f, fuel = (f + 1) + L.length := ⟨fuel - 1 - L.length, by simp only [Ord.len] at hf; omega⟩
    have hA : A.len ≤ f := by simp only [Ord.len] at hf; omega
    have hB : B.len ≤ f := by simp only [Ord.len] at hf; omega
    refine wpAnyM_of_P hsel hQ L listed a w (f + 1) hk1 hcl h (fun a w hc hK => ?_)
    have hi : i ∈ Region.ready md ops (aft L listed) := by rw [hk2]; simp
    have hj : j ∈ Region.ready md ops (aft L listed) := by rw [hk2]; simp
    refine ⟨fun h0 => (by rw [h0] at hi; cases hi), fun x hx => ?_⟩
    rw [hk2] at hx
    simp only [List.mem_cons, List.not_mem_nil, or_false] at hx
    rcases hx with rfl | rfl
    · exact wpOp_mono (fun a' w' h' => ⟨fun _ => h'.1, wpAnyM_of_O hsel hQ A _ a' w' f hk3 (hc.set hi) h'.2 hA⟩) (wpOp_onN hK.1)
    · exact wpOp_mono (fun a' w' h' => ⟨fun _ => h'.1, wpAnyM_of_O hsel hQ B _ a' w' f hk4 (hc.set hj) h'.2 hB⟩) (wpOp_onN hK.2)
def chkTree (ops : Array Oper) (t : Ord) : Bool := Region.noSelect ops && (t.len ≤ 4 * ops.size : Bool) && chkO .any ops (fun j => !t.loud j) t (Array.replicate ops.size false)
theorem wpAny_len : ∀ (m fuel : Nat) (listed : Array Bool) (a : Act) (w : World), listed.size = ops.size → (listed.toList.filter (fun b => !b)).length ≤ fuel → wpAny P md ops Q (fuel + m) listed a w → wpAny P md ops Q fuel listed a w := by
  intro m fuel
  induction fuel with
  | zero =>
    intro listed a w hs hl h
    have hr : Region.ready md ops listed = [] := by
      cases hrr : Region.ready md ops listed with
      | nil => rfl
      | cons x xs =>
        have hx : x ∈ Region.ready md ops listed := by rw [hrr]; simp
        obtain ⟨h1, o, ho, _⟩ := mem_ready.1 hx
        have hlt := (Array.getElem?_eq_some_iff.1 ho).1
        have h2 : listed.getD x true = false := h1
        have h3 : listed[x]? = some false := by
          rw [Array.getElem?_eq_getElem (by omega)]
          simpa [show x < listed.size by omega] using h2
        have h4 : false ∈ listed.toList.filter (fun b => !b) := by
          rw [List.mem_filter]
          refine ⟨?_, rfl⟩
          rw [Array.mem_toList_iff]
          exact Array.mem_of_getElem? h3
        rw [List.length_eq_zero_iff.1 (Nat.le_zero.1 hl)] at h4
        cases h4
    cases m with
    | zero => exact h
    | succ m => exact ⟨hr, h.1 hr⟩
  | succ fuel ih =>
    intro listed a w hs hl h
    rw [show fuel + 1 + m = (fuel + m) + 1 by omega] at h
    refine ⟨h.1, fun i hi => wpOp_mono (fun a' w' h' => ih _ a' w' (by simpa using hs) ?_ h') (h.2 i hi)⟩
    obtain ⟨h1, o, ho, _⟩ := mem_ready.1 hi
    have hlt : i < listed.size := by rw [hs]; exact (Array.getElem?_eq_some_iff.1 ho).1
    have h2 : listed[i] = false := by simpa [hlt] using h1
    have e : listed.toList = listed.toList.take i ++ false :: listed.toList.drop (i + 1) := by
      have : listed.toList[i]'(by simpa using hlt) = false := by simpa using h2
      rw [← this, ← List.drop_eq_getElem_cons, List.take_append_drop]
    have e2 : (listed.setIfInBounds i true).toList = listed.toList.take i ++ true :: listed.toList.drop (i + 1) := by
      rw [Array.toList_setIfInBounds, List.set_eq_take_append_cons_drop, if_pos (by simpa using hlt)]
    rw [e, List.filter_append] at hl
    rw [e2, List.filter_append]
    simp only [List.filter_cons, Bool.not_true, Bool.not_false, if_true, List.length_append, List.length_cons] at hl ⊢
    simp only [Bool.false_eq_true, if_false]
    omega
/-- A region that draws its order: a tree of orders serves. -/
theorem wp_region_tree {id : Nat} {a : Act} {w : World} {l : List Oper} (t : Ord) (hm : P.follows .mixedOrders = true) (hc : chkTree l.toArray t = true) (hQ : ∀ c a d v w, Q (.panic c) (Act.put a d v) w → Q (.panic c) a w)
    (h : wpO P l.toArray Q t a w.drew) : (Code.region id l.toArray true).wp P Q a w := by
  simp only [chkTree, Bool.and_eq_true, decide_eq_true_eq] at hc
  have h1 := wpAny_of_M (calm := fun j => !t.loud j) _ _ _ _ (wpAnyM_of_O hc.1.1 hQ t _ a _ (l.toArray.size + 3 * l.toArray.size) hc.2 (fun j o _ hj => by
    have : (Array.replicate l.toArray.size false).getD j false = false := by
      rw [Array.getD_eq_getD_getElem?, Array.getElem?_replicate]
      split <;> rfl
    rw [this] at hj; cases hj) h (by omega))
  refine wp_region_any hm (wpAny_len (3 * l.toArray.size) _ _ _ _ (by simp) ?_ h1)
  refine Nat.le_trans (List.length_filter_le _ _) (by simp)

variable {a : Act} {w : World} {i j : Nat} {L : List (Nat × Nat)} {A B : Ord}
theorem D_br (h : wpD P ops (onN Q fun a w => wpD P ops (onN Q (wpO P ops Q A)) [(i, 2)] a w ∧ wpD P ops (onN Q (wpO P ops Q B)) [(j, 2)] a w) L a w) : wpO P ops Q (.br L i A j B) a w := h
theorem D_lin (h : wpD P ops Q L a w) : wpO P ops Q (.lin L) a w := h
theorem N_and (h1 : wpD P ops (onN Q (wpO P ops Q A)) [(i, 2)] a w) (h2 : wpD P ops (onN Q (wpO P ops Q B)) [(j, 2)] a w) : wpD P ops (onN Q fun a w => wpD P ops (onN Q (wpO P ops Q A)) [(i, 2)] a w ∧ wpD P ops (onN Q (wpO P ops Q B)) [(j, 2)] a w) [] a w := ⟨h1, h2⟩
theorem N_ord (h : wpO P ops Q A a w) : wpD P ops (onN Q (wpO P ops Q A)) [] a w := h
end

/-! ### Branches of the kinds 2 and 3 -/

section
variable {P : Program} {ops : Array Oper} {Q : Exit → Act → World → Prop} {md : Region.Mode} {calm : Nat → Bool}
/-- Orders: a list, or a list behind which two operations (of the kinds k and l, 2 or 3) may come in either order. -/
inductive OrdK where
  | lin (L : List (Nat × Nat))
  | br (L : List (Nat × Nat)) (i k : Nat) (A : OrdK) (j l : Nat) (B : OrdK)
def OrdK.len : OrdK → Nat
  | .lin L => L.length
  | .br L _ _ A _ _ B => L.length + 1 + (A.len + B.len)
def OrdK.loud : OrdK → Nat → Bool
  | .lin L, x => L.contains (x, 3)
  | .br L i k A j l B, x => L.contains (x, 3) || ((i == x && k == 3) || ((j == x && l == 3) || (A.loud x || B.loud x)))
def wpK (P : Program) (ops : Array Oper) (Q : Exit → Act → World → Prop) : OrdK → Act → World → Prop
  | .lin L, a, w => wpD P ops Q L a w
  | .br L i k A j l B, a, w => wpD P ops (onN Q fun a w => wpD P ops (onN Q (wpK P ops Q A)) [(i, k)] a w ∧ wpD P ops (onN Q (wpK P ops Q B)) [(j, l)] a w) L a w
def okK (calm : Nat → Bool) (i k : Nat) : Bool := k == 2 || (k == 3 && !calm i)
def chkK (md : Region.Mode) (ops : Array Oper) (calm : Nat → Bool) : OrdK → Array Bool → Bool
  | .lin L, listed => chkD md ops calm L listed
  | .br L i k A j l B, listed => chkP md ops calm L listed && ((Region.ready md ops (aft L listed) == [i, j]) && ((okK calm i k && okK calm j l) && (chkK md ops calm A ((aft L listed).setIfInBounds i true) && chkK md ops calm B ((aft L listed).setIfInBounds j true))))
theorem stepK {i k : Nat} {a : Act} {w : World} {K R : Act → World → Prop} (hk : okK calm i k = true) (h : wpD P ops (onN Q K) [(i, k)] a w) (hR : ∀ a' w', K a' w' → R a' w') : wpOp P ops Q i (fun a' w' => (calm i = true → Mod [] w w') ∧ R a' w') a w := by
  simp only [okK, Bool.or_eq_true, Bool.and_eq_true, beq_iff_eq, Bool.not_eq_true'] at hk
  rcases hk with rfl | ⟨rfl, hc⟩
  · exact wpOp_mono (fun a' w' h' => ⟨fun _ => h'.1, hR _ _ h'.2⟩) (wpOp_onN h)
  · exact wpOp_mono (fun a' w' h' => ⟨fun h0 => (by rw [hc] at h0; cases h0), hR _ _ h'⟩) (wpOp_onN h)
theorem wpAnyM_of_K (hsel : Region.noSelect ops = true) (hQ : ∀ c a d v w, Q (.panic c) (Act.put a d v) w → Q (.panic c) a w) : ∀ (t : OrdK) (listed : Array Bool) (a : Act) (w : World) (fuel : Nat),
    chkK md ops calm t listed = true → ClosedL md ops listed → wpK P ops Q t a w → t.len ≤ fuel → wpAnyM P md ops Q calm fuel listed a w
  | .lin L, listed, a, w, fuel, hk, hcl, h, hf => wpAnyM_of_D hsel hQ L listed a w fuel hk hcl h hf
  | .br L i k A j l B, listed, a, w, fuel, hk, hcl, h, hf => by
    simp only [chkK, Bool.and_eq_true, beq_iff_eq] at hk
    obtain ⟨hk1, hk2, ⟨hki, hkj⟩, hk3, hk4⟩ := hk
    obtain ⟨f, rfl⟩ : ∃ f, fuel = (f + 1) + L.length := ⟨fuel - 1 - L.length, by simp only [OrdK.len] at hf; omega⟩
    have hA : A.len ≤ f := by simp only [OrdK.len] at hf; omega
    have hB : B.len ≤ f := by simp only [OrdK.len] at hf; omega
    refine wpAnyM_of_P hsel hQ L listed a w (f + 1) hk1 hcl h (fun a w hc hK => ?_)
    have hi : i ∈ Region.ready md ops (aft L listed) := by rw [hk2]; simp
    have hj : j ∈ Region.ready md ops (aft L listed) := by rw [hk2]; simp
    refine ⟨fun h0 => (by rw [h0] at hi; cases hi), fun x hx => ?_⟩
    rw [hk2] at hx
    simp only [List.mem_cons, List.not_mem_nil, or_false] at hx
    rcases hx with rfl | rfl
    · exact stepK hki hK.1 (fun a' w' h' => wpAnyM_of_K hsel hQ A _ a' w' f hk3 (hc.set hi) h' hA)
    · exact stepK hkj hK.2 (fun a' w' h' => wpAnyM_of_K hsel hQ B _ a' w' f hk4 (hc.set hj) h' hB)
def chkTreeK (ops : Array Oper) (t : OrdK) : Bool := Region.noSelect ops && (t.len ≤ 4 * ops.size : Bool) && chkK .any ops (fun j => !t.loud j) t (Array.replicate ops.size false)
/-- A region that draws its order: a tree of orders serves. -/
theorem wp_region_treeK {id : Nat} {a : Act} {w : World} {l : List Oper} (t : OrdK) (hm : P.follows .mixedOrders = true) (hc : chkTreeK l.toArray t = true) (hQ : ∀ c a d v w, Q (.panic c) (Act.put a d v) w → Q (.panic c) a w)
    (h : wpK P l.toArray Q t a w.drew) : (Code.region id l.toArray true).wp P Q a w := by
  simp only [chkTreeK, Bool.and_eq_true, decide_eq_true_eq] at hc
  have h1 := wpAny_of_M (calm := fun j => !t.loud j) _ _ _ _ (wpAnyM_of_K hc.1.1 hQ t _ a _ (l.toArray.size + 3 * l.toArray.size) hc.2 (fun j o _ hj => by
    have : (Array.replicate l.toArray.size false).getD j false = false := by
      rw [Array.getD_eq_getD_getElem?, Array.getElem?_replicate]
      split <;> rfl
    rw [this] at hj; cases hj) h (by omega))
  refine wp_region_any hm (wpAny_len (3 * l.toArray.size) _ _ _ _ (by simp) ?_ h1)
  refine Nat.le_trans (List.length_filter_le _ _) (by simp)

variable {a : Act} {w : World} {i k j l : Nat} {L : List (Nat × Nat)} {A B : OrdK}
theorem K_br (h : wpD P ops (onN Q fun a w => wpD P ops (onN Q (wpK P ops Q A)) [(i, k)] a w ∧ wpD P ops (onN Q (wpK P ops Q B)) [(j, l)] a w) L a w) : wpK P ops Q (.br L i k A j l B) a w := h
theorem K_lin (h : wpD P ops Q L a w) : wpK P ops Q (.lin L) a w := h
theorem K_and (h1 : wpD P ops (onN Q (wpK P ops Q A)) [(i, k)] a w) (h2 : wpD P ops (onN Q (wpK P ops Q B)) [(j, l)] a w) : wpD P ops (onN Q fun a w => wpD P ops (onN Q (wpK P ops Q A)) [(i, k)] a w ∧ wpD P ops (onN Q (wpK P ops Q B)) [(j, l)] a w) [] a w := ⟨h1, h2⟩
theorem K_ord (h : wpK P ops Q A a w) : wpD P ops (onN Q (wpK P ops Q A)) [] a w := h
end

/-! ### Calm operations that change the blocks G (a reader's); printed by gen_drawg.py -/

section
variable {P : Program} {ops : Array Oper} {Q : Exit → Act → World → Prop} {md : Region.Mode} {calm : Nat → Bool} {G : List Nat}
/-- Whatever order is picked from here on, and the calm operations leave old blocks alone. -/
def wpAnyG (G : List Nat) (P : Program) (md : Region.Mode) (ops : Array Oper) (Q : Exit → Act → World → Prop) (calm : Nat → Bool) : Nat → Array Bool → Act → World → Prop
  | 0, listed, a, w => Region.ready md ops listed = [] ∧ Q .normal a w
  | fuel + 1, listed, a, w =>
    (Region.ready md ops listed = [] → Q .normal a w) ∧
    ∀ i ∈ Region.ready md ops listed, wpOp P ops Q i (fun a' w' => (calm i = true → Mod G w w') ∧ wpAnyG G P md ops Q calm fuel (listed.setIfInBounds i true) a' w') a w
theorem wpAny_of_G : ∀ (fuel : Nat) (listed : Array Bool) (a : Act) (w : World), wpAnyG G P md ops Q calm fuel listed a w → wpAny P md ops Q fuel listed a w
  | 0, _, _, _, h => h
  | fuel + 1, _, _, _, h => ⟨h.1, fun i hi => wpOp_mono (fun _ _ h' => wpAny_of_G fuel _ _ _ h'.2) (h.2 i hi)⟩
/-- An operation that may come up now may be taken first. -/
theorem wpAnyG_first {C : World → World → Prop} {i : Nat} {oi : Oper} {v : Value} {listed : Array Bool} (hi : ops[i]? = some oi) (hsel : ∀ (j : Nat) (o : Oper) cs b, ops[j]? = some o → o.op ≠ .select cs b)
    (hQ : ∀ c a d v w, Q (.panic c) (Act.put a d v) w → Q (.panic c) a w) (hC0 : ∀ w, C w w)
    (hC : ∀ (listed' : Array Bool) (j : Nat) (w w' : World), ClosedL md ops listed' → (∀ k, listed.getD k false = true → listed'.getD k false = true) → listed'.getD i true = false → j ∈ Region.ready md ops listed' → (calm j = true → Mod G w w') → ∀ x, C w' x → C w x) :
    ∀ (fuel : Nat) (listed' : Array Bool) (a : Act) (w : World), ClosedL md ops listed' → (∀ k, listed.getD k false = true → listed'.getD k false = true) →
      (∀ j oj, ops[j]? = some oj → j ≠ i → listed'.getD j true = false → (∀ e ∈ oj.after, Region.binds md e = true → e.on ≠ i) → oi.apart ops oj = true) →
      i ∈ Region.ready md ops listed' → YieldsIf P ops (C w) oi v a →
      wpAnyG G P md ops Q calm fuel (listed'.setIfInBounds i true) (a.put oi.dst v) w → wpAnyG G P md ops Q calm (fuel + 1) listed' a w := by
  intro fuel
  induction fuel with
  | zero =>
    intro listed' a w hcl hext _ hr hy H
    refine ⟨fun h => (by rw [h] at hr; cases hr), fun j hj => ?_⟩
    by_cases hji : j = i
    · subst hji; exact hy.wpOp hi (hC0 w) ⟨fun _ => Mod.refl _ _, H⟩
    · have := ready_mono hj hji
      rw [H.1] at this
      cases this
  | succ fuel ih =>
    intro listed' a w hcl hext hfree hr hy H
    refine ⟨fun h => (by rw [h] at hr; cases hr), fun j hj => ?_⟩
    by_cases hji : j = i
    · subst hji; exact hy.wpOp hi (hC0 w) ⟨fun _ => Mod.refl _ _, H⟩
    · have h1 := H.2 j (ready_mono hj hji)
      obtain ⟨hjun, oj, hoj, hall⟩ := mem_ready.1 hj
      have hiun := (mem_ready.1 hr).1
      have hnot : ∀ e ∈ oj.after, Region.binds md e = true → e.on ≠ i := fun e he hb heq => by
        have h1 := hall e he hb
        rw [heq, getD_unlisted hiun] at h1
        cases h1
      have h2 := wpOp_putIf hoj (hfree j oj hoj hji hjun hnot) (fun cs b => hsel i oi cs b hi) (fun cs b => hsel j oj cs b hoj) (fun c a w => hQ c a _ _ w) hy h1
      have hfree' : ∀ k ok, ops[k]? = some ok → k ≠ i → (listed'.setIfInBounds j true).getD k true = false →
          (∀ e ∈ ok.after, Region.binds md e = true → e.on ≠ i) → oi.apart ops ok = true := fun k ok hk hki hun hno => by
        refine hfree k ok hk hki ?_ hno
        by_cases hjk : j = k
        · subst hjk; exact hjun
        · rw [getD_set_ne true hjk] at hun; exact hun
      refine wpOp_mono (fun a' w' h3 => ⟨h3.2.1, ih (listed'.setIfInBounds j true) a' w' (hcl.set hj) (fun k hk => getD_set_true (hext k hk)) hfree' (ready_mono hr (Ne.symm hji)) (YieldsIf.imp h3.1 (fun x hx => hC listed' j w w' hcl hext hiun hj h3.2.1 x hx)) ?_⟩) h2
      rw [Array.setIfInBounds_comm _ _ hji]
      exact h3.2.2

/-! ### The walk -/
/-- The operations in one order, each with its kind. -/
def wpG (G : List Nat) (P : Program) (ops : Array Oper) (Q : Exit → Act → World → Prop) : List (Nat × Nat) → Act → World → Prop
  | [], a, w => Q .normal a w
  | (i, 0) :: L, a, w => ∃ o v, ops[i]? = some o ∧ YieldsIf P ops (fun _ => True) o v a ∧ wpG G P ops Q L (a.put o.dst v) w
  | (i, 1) :: L, a, w => ∃ o v, ops[i]? = some o ∧ YieldsIf P ops (Mod G w) o v a ∧ wpG G P ops Q L (a.put o.dst v) w
  | (i, 2) :: L, a, w => wpOp P ops Q i (fun a' w' => Mod G w w' ∧ wpG G P ops Q L a' w') a w
  | (i, _) :: L, a, w => wpOp P ops Q i (fun a' w' => wpG G P ops Q L a' w') a w
theorem wpAnyG_of_D (hsel : Region.noSelect ops = true) (hQ : ∀ c a d v w, Q (.panic c) (Act.put a d v) w → Q (.panic c) a w) : ∀ (L : List (Nat × Nat)) (listed : Array Bool) (a : Act) (w : World) (fuel : Nat),
    chkD md ops calm L listed = true → ClosedL md ops listed → wpG G P ops Q L a w → L.length ≤ fuel → wpAnyG G P md ops Q calm fuel listed a w
  | [], listed, a, w, fuel, hk, _, h, _ => by
    have hr : Region.ready md ops listed = [] := by simpa [chkD] using hk
    cases fuel with
    | zero => exact ⟨hr, h⟩
    | succ fuel => exact ⟨fun _ => h, by rw [hr]; simp⟩
  | (i, k) :: L, listed, a, w, 0, _, _, _, hf => by simp at hf
  | (i, k) :: L, listed, a, w, fuel + 1, hk, hcl, h, hf => by
    simp only [List.length_cons, Nat.add_le_add_iff_right] at hf
    unfold chkD at hk
    rw [Bool.and_eq_true] at hk
    obtain ⟨hk1, hk2⟩ := hk
    have single : Region.ready md ops listed = [i] → wpOp P ops Q i (fun a' w' => (calm i = true → Mod G w w') ∧ wpAnyG G P md ops Q calm fuel (listed.setIfInBounds i true) a' w') a w → wpAnyG G P md ops Q calm (fuel + 1) listed a w := fun hr hw =>
      ⟨fun h0 => (by rw [hr] at h0; cases h0), by rw [hr]; simpa using hw⟩
    match k with
    | 0 =>
      simp only [Bool.and_eq_true] at hk1
      obtain ⟨o, v, ho, hy, hrest⟩ := h
      have hri : i ∈ Region.ready md ops listed := by simpa using hk1.2
      exact wpAnyG_first (C := fun _ _ => True) (listed := listed) ho (Region.noSelect_spec hsel) hQ (fun _ => trivial) (fun _ _ _ _ _ _ _ _ _ _ _ => trivial) fuel listed a w hcl (fun _ hk => hk) (Region.free_spec ho hk1.1) hri hy
        (wpAnyG_of_D hsel hQ L _ _ w fuel hk2 (hcl.set hri) hrest hf)
    | 1 =>
      simp only [Bool.and_eq_true] at hk1
      obtain ⟨o, v, ho, hy, hrest⟩ := h
      have hri : i ∈ Region.ready md ops listed := by simpa using hk1.1.2
      refine wpAnyG_first (C := fun w x => Mod G w x) (listed := listed) ho (Region.noSelect_spec hsel) hQ (fun _ => Mod.refl _ _) (fun listed' j w1 w2 hcl' hext hiun hj hm x hx => ?_) fuel listed a w hcl (fun _ hk => hk) (Region.free_spec ho hk1.1.1) hri hy
        (wpAnyG_of_D hsel hQ L _ _ w fuel hk2 (hcl.set hri) hrest hf)
      have hall := List.all_eq_true.1 hk1.2
      obtain ⟨hjun, oj, hoj, hje⟩ := mem_ready.1 hj
      have hj' := hall j (List.mem_range.2 (Array.getElem?_eq_some_iff.1 hoj).1)
      simp only [Bool.or_eq_true] at hj'
      rcases hj' with (hj' | hj') | hj'
      · exact (hm hj').seq hx
      · have := hext j hj'; rw [getD_unlisted hjun] at this; cases this
      · have := waits_listed hcl' _ j i hj' (fun o ho e he hb => by rw [hoj] at ho; cases ho; exact hje e he hb)
        rw [getD_unlisted hiun] at this; cases this
    | 2 =>
      simp only [Bool.and_eq_true, beq_iff_eq] at hk1
      have hri : i ∈ Region.ready md ops listed := by rw [hk1.1]; simp
      exact single hk1.1 (wpOp_mono (fun a' w' h' => ⟨fun _ => h'.1, wpAnyG_of_D hsel hQ L _ a' w' fuel hk2 (hcl.set hri) h'.2 hf⟩) h)
    | k + 3 =>
      simp only [Bool.and_eq_true, beq_iff_eq, Bool.not_eq_true'] at hk1
      have hri : i ∈ Region.ready md ops listed := by rw [hk1.1]; simp
      exact single hk1.1 (wpOp_mono (fun a' w' h' => ⟨fun hc => (by rw [hk1.2] at hc; cases hc), wpAnyG_of_D hsel hQ L _ a' w' fuel hk2 (hcl.set hri) h' hf⟩) h)
theorem wpAnyG_of_P {K : Act → World → Prop} (hsel : Region.noSelect ops = true) (hQ : ∀ c a d v w, Q (.panic c) (Act.put a d v) w → Q (.panic c) a w) : ∀ (L : List (Nat × Nat)) (listed : Array Bool) (a : Act) (w : World) (fuel : Nat),
    chkP md ops calm L listed = true → ClosedL md ops listed → wpG G P ops (onN Q K) L a w → (∀ a w, ClosedL md ops (aft L listed) → K a w → wpAnyG G P md ops Q calm fuel (aft L listed) a w) → wpAnyG G P md ops Q calm (fuel + L.length) listed a w
  | [], listed, a, w, fuel, _, hcl, h, hend => hend a w hcl h
  | (i, k) :: L, listed, a, w, fuel, hk, hcl, h, hend => by
    unfold chkP at hk
    rw [Bool.and_eq_true] at hk
    obtain ⟨hk1, hk2⟩ := hk
    rw [List.length_cons, ← Nat.add_assoc]
    have single : Region.ready md ops listed = [i] → wpOp P ops Q i (fun a' w' => (calm i = true → Mod G w w') ∧ wpAnyG G P md ops Q calm (fuel + L.length) (listed.setIfInBounds i true) a' w') a w → wpAnyG G P md ops Q calm (fuel + L.length + 1) listed a w := fun hr hw =>
      ⟨fun h0 => (by rw [h0] at hr; cases hr), by rw [hr]; simpa using hw⟩
    match k with
    | 0 =>
      simp only [Bool.and_eq_true] at hk1
      obtain ⟨o, v, ho, hy, hrest⟩ := h
      have hri : i ∈ Region.ready md ops listed := by simpa using hk1.2
      exact wpAnyG_first (C := fun _ _ => True) (listed := listed) ho (Region.noSelect_spec hsel) hQ (fun _ => trivial) (fun _ _ _ _ _ _ _ _ _ _ _ => trivial) _ listed a w hcl (fun _ hk => hk) (Region.free_spec ho hk1.1) hri hy
        (wpAnyG_of_P hsel hQ L _ _ w fuel hk2 (hcl.set hri) hrest hend)
    | 1 =>
      simp only [Bool.and_eq_true] at hk1
      obtain ⟨o, v, ho, hy, hrest⟩ := h
      have hri : i ∈ Region.ready md ops listed := by simpa using hk1.1.2
      refine wpAnyG_first (C := fun w x => Mod G w x) (listed := listed) ho (Region.noSelect_spec hsel) hQ (fun _ => Mod.refl _ _) (fun listed' j w1 w2 hcl' hext hiun hj hm x hx => ?_) _ listed a w hcl (fun _ hk => hk) (Region.free_spec ho hk1.1.1) hri hy
        (wpAnyG_of_P hsel hQ L _ _ w fuel hk2 (hcl.set hri) hrest hend)
      have hall := List.all_eq_true.1 hk1.2
      obtain ⟨hjun, oj, hoj, hje⟩ := mem_ready.1 hj
      have hj' := hall j (List.mem_range.2 (Array.getElem?_eq_some_iff.1 hoj).1)
      simp only [Bool.or_eq_true] at hj'
      rcases hj' with (hj' | hj') | hj'
      · exact (hm hj').seq hx
      · have := hext j hj'; rw [getD_unlisted hjun] at this; cases this
      · have := waits_listed hcl' _ j i hj' (fun o ho e he hb => by rw [hoj] at ho; cases ho; exact hje e he hb)
        rw [getD_unlisted hiun] at this; cases this
    | 2 =>
      simp only [Bool.and_eq_true, beq_iff_eq] at hk1
      have hri : i ∈ Region.ready md ops listed := by rw [hk1.1]; simp
      exact single hk1.1 (wpOp_mono (fun a' w' h' => ⟨fun _ => h'.1, wpAnyG_of_P hsel hQ L _ a' w' fuel hk2 (hcl.set hri) h'.2 hend⟩) (wpOp_onN h))
    | k + 3 =>
      simp only [Bool.and_eq_true, beq_iff_eq, Bool.not_eq_true'] at hk1
      have hri : i ∈ Region.ready md ops listed := by rw [hk1.1]; simp
      exact single hk1.1 (wpOp_mono (fun a' w' h' => ⟨fun hc => (by rw [hk1.2] at hc; cases hc), wpAnyG_of_P hsel hQ L _ a' w' fuel hk2 (hcl.set hri) h' hend⟩) (wpOp_onN h))

def wpGK (G : List Nat) (P : Program) (ops : Array Oper) (Q : Exit → Act → World → Prop) : OrdK → Act → World → Prop
  | .lin L, a, w => wpG G P ops Q L a w
  | .br L i k A j l B, a, w => wpG G P ops (onN Q fun a w => wpG G P ops (onN Q (wpGK G P ops Q A)) [(i, k)] a w ∧ wpG G P ops (onN Q (wpGK G P ops Q B)) [(j, l)] a w) L a w
theorem stepG {i k : Nat} {a : Act} {w : World} {K R : Act → World → Prop} (hk : okK calm i k = true) (h : wpG G P ops (onN Q K) [(i, k)] a w) (hR : ∀ a' w', K a' w' → R a' w') : wpOp P ops Q i (fun a' w' => (calm i = true → Mod G w w') ∧ R a' w') a w := by
  simp only [okK, Bool.or_eq_true, Bool.and_eq_true, beq_iff_eq, Bool.not_eq_true'] at hk
  rcases hk with rfl | ⟨rfl, hc⟩
  · exact wpOp_mono (fun a' w' h' => ⟨fun _ => h'.1, hR _ _ h'.2⟩) (wpOp_onN h)
  · exact wpOp_mono (fun a' w' h' => ⟨fun h0 => (by rw [hc] at h0; cases h0), hR _ _ h'⟩) (wpOp_onN h)
theorem wpAnyG_of_K (hsel : Region.noSelect ops = true) (hQ : ∀ c a d v w, Q (.panic c) (Act.put a d v) w → Q (.panic c) a w) : ∀ (t : OrdK) (listed : Array Bool) (a : Act) (w : World) (fuel : Nat),
    chkK md ops calm t listed = true → ClosedL md ops listed → wpGK G P ops Q t a w → t.len ≤ fuel → wpAnyG G P md ops Q calm fuel listed a w
  | .lin L, listed, a, w, fuel, hk, hcl, h, hf => wpAnyG_of_D hsel hQ L listed a w fuel hk hcl h hf
  | .br L i k A j l B, listed, a, w, fuel, hk, hcl, h, hf => by
    simp only [chkK, Bool.and_eq_true, beq_iff_eq] at hk
    obtain ⟨hk1, hk2, ⟨hki, hkj⟩, hk3, hk4⟩ := hk
    obtain ⟨f, rfl⟩ : ∃ f, fuel = (f + 1) + L.length := ⟨fuel - 1 - L.length, by simp only [OrdK.len] at hf; omega⟩
    have hA : A.len ≤ f := by simp only [OrdK.len] at hf; omega
    have hB : B.len ≤ f := by simp only [OrdK.len] at hf; omega
    refine wpAnyG_of_P hsel hQ L listed a w (f + 1) hk1 hcl h (fun a w hc hK => ?_)
    have hi : i ∈ Region.ready md ops (aft L listed) := by rw [hk2]; simp
    have hj : j ∈ Region.ready md ops (aft L listed) := by rw [hk2]; simp
    refine ⟨fun h0 => (by rw [h0] at hi; cases hi), fun x hx => ?_⟩
    rw [hk2] at hx
    simp only [List.mem_cons, List.not_mem_nil, or_false] at hx
    rcases hx with rfl | rfl
    · exact stepG hki hK.1 (fun a' w' h' => wpAnyG_of_K hsel hQ A _ a' w' f hk3 (hc.set hi) h' hA)
    · exact stepG hkj hK.2 (fun a' w' h' => wpAnyG_of_K hsel hQ B _ a' w' f hk4 (hc.set hj) h' hB)
/-- A region that draws its order: a tree of orders serves. -/
theorem wp_region_treeG {id : Nat} {a : Act} {w : World} {l : List Oper} (t : OrdK) (hm : P.follows .mixedOrders = true) (hc : chkTreeK l.toArray t = true) (hQ : ∀ c a d v w, Q (.panic c) (Act.put a d v) w → Q (.panic c) a w)
    (h : wpGK G P l.toArray Q t a w.drew) : (Code.region id l.toArray true).wp P Q a w := by
  simp only [chkTreeK, Bool.and_eq_true, decide_eq_true_eq] at hc
  have h1 := wpAny_of_G (calm := fun j => !t.loud j) _ _ _ _ (wpAnyG_of_K hc.1.1 hQ t _ a _ (l.toArray.size + 3 * l.toArray.size) hc.2 (fun j o _ hj => by
    have : (Array.replicate l.toArray.size false).getD j false = false := by
      rw [Array.getD_eq_getD_getElem?, Array.getElem?_replicate]
      split <;> rfl
    rw [this] at hj; cases hj) h (by omega))
  refine wp_region_any hm (wpAny_len (3 * l.toArray.size) _ _ _ _ (by simp) ?_ h1)
  refine Nat.le_trans (List.length_filter_le _ _) (by simp)

variable {a : Act} {w : World} {i : Nat} {o : Oper} {L : List (Nat × Nat)}
theorem G_nil (h : Q .normal a w) : wpG G P ops Q [] a w := h
theorem G_pure {v : Value} (ho : ops[i]? = some o) (hg : Region.wanted o (yielded ops a.tmps) = true) (hr : ∀ w, (execOp a.eval o).run P w = .ok (.value v) w) (h : wpG G P ops Q L (a.put o.dst v) w) : wpG G P ops Q ((i, 0) :: L) a w :=
  ⟨o, v, ho, .inl ⟨hg, fun w _ => hr w⟩, h⟩
theorem G_skip {k : Nat} (ho : ops[i]? = some o) (hg : Region.wanted o (yielded ops a.tmps) = false) (h : wpG G P ops Q L (a.put o.dst undef) w) : wpG G P ops Q ((i, k) :: L) a w := by
  match k with
  | 0 => exact ⟨o, undef, ho, .inr ⟨hg, rfl⟩, h⟩
  | 1 => exact ⟨o, undef, ho, .inr ⟨hg, rfl⟩, h⟩
  | 2 => simp only [wpG, wpOp, ho, hg]; exact ⟨Mod.refl _ _, h⟩
  | k + 3 => simp only [wpG, wpOp, ho, hg]; exact h
theorem G_load {v : Value} (ho : ops[i]? = some o) (hg : Region.wanted o (yielded ops a.tmps) = true) (hr : ∀ x, Mod G w x → Gives P o a x v) (h : wpG G P ops Q L (a.put o.dst v) w) : wpG G P ops Q ((i, 1) :: L) a w :=
  ⟨o, v, ho, .inl ⟨hg, hr⟩, h⟩
theorem G_calm {R : Value → World → Prop} (ho : ops[i]? = some o) (hg : Region.wanted o (yielded ops a.tmps) = true) (hd : Does P o a w R) (h : ∀ v w', R v w' → Mod G w w' ∧ wpG G P ops Q L (a.put o.dst v) w') : wpG G P ops Q ((i, 2) :: L) a w := by
  simp only [wpG, wpOp, ho, hg, if_true]
  exact .inl (hd.wp h)
theorem G_loud {R : Value → World → Prop} (ho : ops[i]? = some o) (hg : Region.wanted o (yielded ops a.tmps) = true) (hd : Does P o a w R) (h : ∀ v w', R v w' → wpG G P ops Q L (a.put o.dst v) w') : wpG G P ops Q ((i, 3) :: L) a w := by
  simp only [wpG, wpOp, ho, hg, if_true]
  exact .inl (hd.wp h)
theorem G_call {f : FuncId} {args : Array Value} (ho : ops[i]? = some o) (hg : Region.wanted o (yielded ops a.tmps) = true) (hr : (execOp a.eval o).run P w = .ok (.enter f args) w)
    (h : Calls P f args w (fun e w' => ∃ v, e = .returned v ∧ Mod G w w' ∧ wpG G P ops Q L (a.put o.dst v) w')) : wpG G P ops Q ((i, 2) :: L) a w := by
  simp only [wpG, wpOp, ho, hg, if_true]
  refine .inl ?_
  unfold Oper.wp
  rw [hr, Oper.upon_enter]
  refine h.mono ?_
  rintro e w' ⟨v, rfl, h1⟩
  exact h1
theorem G_callLoud {f : FuncId} {args : Array Value} (ho : ops[i]? = some o) (hg : Region.wanted o (yielded ops a.tmps) = true) (hr : (execOp a.eval o).run P w = .ok (.enter f args) w)
    (h : Calls P f args w (fun e w' => ∃ v, e = .returned v ∧ wpG G P ops Q L (a.put o.dst v) w')) : wpG G P ops Q ((i, 3) :: L) a w := by
  simp only [wpG, wpOp, ho, hg, if_true]
  refine .inl ?_
  unfold Oper.wp
  rw [hr, Oper.upon_enter]
  refine h.mono ?_
  rintro e w' ⟨v, rfl, h1⟩
  exact h1
variable {j k l : Nat} {A B : OrdK}
theorem G_br (h : wpG G P ops (onN Q fun a w => wpG G P ops (onN Q (wpGK G P ops Q A)) [(i, k)] a w ∧ wpG G P ops (onN Q (wpGK G P ops Q B)) [(j, l)] a w) L a w) : wpGK G P ops Q (.br L i k A j l B) a w := h
theorem G_lin (h : wpG G P ops Q L a w) : wpGK G P ops Q (.lin L) a w := h
theorem G_and (h1 : wpG G P ops (onN Q (wpGK G P ops Q A)) [(i, k)] a w) (h2 : wpG G P ops (onN Q (wpGK G P ops Q B)) [(j, l)] a w) : wpG G P ops (onN Q fun a w => wpG G P ops (onN Q (wpGK G P ops Q A)) [(i, k)] a w ∧ wpG G P ops (onN Q (wpGK G P ops Q B)) [(j, l)] a w) [] a w := ⟨h1, h2⟩
theorem G_ord (h : wpGK G P ops Q A a w) : wpG G P ops (onN Q (wpGK G P ops Q A)) [] a w := h
end
section
variable {P : Program} {o : Oper} {a : Act} {w w0 x : World} {Γ : List Fact}
/-- Two variables lie in different blocks. -/
theorem Sat.boxNe {b c i j : Nat} {us vs : List Value} (hS : Sat w0 w Γ) (hi : Γ[i]? = some (.box b us)) (hj : Γ[j]? = some (.box c vs)) (hij : i ≠ j) : b ≠ c := by
  obtain ⟨R, O, ⟨O1, O2, rfl, ⟨rfl, t, hb⟩, k2⟩, h2, h3, h4, h5⟩ := hS.pull i hi
  have hmem : (Fact.box c vs) ∈ Γ.eraseIdx i := by
    have hj' := (List.getElem?_eq_some_iff.1 hj)
    obtain ⟨hl, he⟩ := hj'
    rw [← he, List.mem_eraseIdx_iff_getElem]
    exact ⟨j, hl, Ne.symm hij, rfl⟩
  have key : ∀ {Δ : List Fact} {O : List Nat}, (Fact.box c vs) ∈ Δ → holdAll w R Δ O → c ∈ O := by
    intro Δ
    induction Δ with
    | nil => intro O h; cases h
    | cons f Δ ih =>
      rintro O h ⟨O1, O2, rfl, k1, k2⟩
      rcases List.mem_cons.1 h with rfl | h
      · obtain ⟨rfl, _⟩ := k1; simp
      · exact List.mem_append_right _ (ih h k2)
  have hc := key hmem k2
  rintro rfl
  exact h2.apart b (by simp) hc
theorem f_loadG {T : TypeId} {z : Value} {p : Operand} {b off i br j : Nat} {cs us : List Value} {u : Value} (hS : Sat w0 w Γ) (hx : Mod [br] w x) (ho : o.op = .load T p) (hp : a.eval p = .pointer (some ⟨b, off, none⟩)) [hi : BoxAt Γ b cs i] [hj : BoxAt Γ br us j] (hij : i ≠ j) [hT : Ty P T z 1 false] (hu : cs[off]? = some u) : Gives P o a x u := by
  have hne := hS.boxNe hi.get hj.get hij
  have hc := (hS.pull i hi.get).cellAt hu
  have hl : b < w.heap.size := by
    obtain ⟨R, O, ⟨O1, O2, rfl, ⟨rfl, t, hb⟩, _⟩, _⟩ := hS.pull i hi.get
    exact (Array.getElem?_eq_some_iff.1 hb).1
  have hc2 : x.cell? ⟨b, off, none⟩ = some u := (hx.cell (p := ⟨b, off, none⟩) hl (by simpa using hne)).trans hc
  unfold Gives execOp
  simp [ho, hp, run_load1 hT hc2]
end
end Go.Proofs.YtnbaekjednmfjaaDoor
