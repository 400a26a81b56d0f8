/- Regions that draw their order, where two operations of the kind 2 may come in either order: a tree of orders. No function of the program occurs here. -/
import Derived.Test.YtgdaclbijgcnpaaDoorDraw
namespace Go.Proofs.YtgdaclbijgcnpaaDoor
open Go.RowKit

section
variable {P : Program} {ops : Array Oper} {Q : Exit → Act → World → Prop} {md : Region.Mode} {calm : Nat → Bool}
def onN (Q : Exit → Act → World → Prop) (K : Act → World → Prop) : Exit → Act → World → Prop
  | .normal, a, w => K a w
  | .exit i, a, w => Q (.exit i) a w
  | .goto i, a, w => Q (.goto i) a w
  | .ret, a, w => Q .ret a w
  | .panic c, a, w => Q (.panic c) a w
  | .outgrown, a, w => Q .outgrown a w
theorem wp_onN {o : Oper} {a : Act} {w : World} {R K : Act → World → Prop} (hh : o.wp P a w R (onN Q K)) : o.wp P a w R Q := by
  unfold Oper.wp at *
  generalize (execOp a.eval o).run P w = r at *
  cases r with
  | ok n w' =>
    cases n <;> simp only [Oper.upon] at hh ⊢ <;>
      first
        | exact hh
        | exact Calls.mono hh (fun e w'' he => by cases e <;> exact he)
  | halt x w' => cases x <;> simp only [Oper.upon] at hh ⊢ <;> exact hh
theorem wpOp_onN {i : Nat} {a : Act} {w : World} {R K : Act → World → Prop} (hh : wpOp P ops (onN Q K) i R a w) : wpOp P ops Q i R a w := by
  unfold wpOp at *
  split
  · rename_i ho; simpa only [ho] using hh
  · rename_i o ho
    simp only [ho] at hh
    split
    · rename_i hw; simp only [hw, if_true] at hh; exact hh.imp wp_onN id
    · rename_i hw; simp only [hw] at hh; exact hh
def aft (L : List (Nat × Nat)) (listed : Array Bool) : Array Bool := L.foldl (fun l p => l.setIfInBounds p.1 true) listed
def chkP (md : Region.Mode) (ops : Array Oper) (calm : Nat → Bool) : List (Nat × Nat) → Array Bool → Bool
  | [], _ => true
  | (i, k) :: L, listed =>
    (match k with
     | 0 => Region.free md ops listed i && (Region.ready md ops listed).contains i
     | 1 => Region.free md ops listed i && (Region.ready md ops listed).contains i && (List.range ops.size).all fun j => calm j || listed.getD j false || waitsB md ops ops.size j i
     | 2 => (Region.ready md ops listed == [i]) && calm i
     | _ => (Region.ready md ops listed == [i]) && !calm i) && chkP md ops calm L (listed.setIfInBounds i true)
theorem wpAnyM_of_P {K : Act → World → Prop} (hsel : Region.noSelect ops = true) (hQ : ∀ c a d v w, Q (.panic c) (Act.put a d v) w → Q (.panic c) a w) : ∀ (L : List (Nat × Nat)) (listed : Array Bool) (a : Act) (w : World) (fuel : Nat),
    chkP md ops calm L listed = true → ClosedL md ops listed → wpD P ops (onN Q K) L a w → (∀ a w, ClosedL md ops (aft L listed) → K a w → wpAnyM P md ops Q calm fuel (aft L listed) a w) → wpAnyM P md ops Q calm (fuel + L.length) listed a w
  | [], listed, a, w, fuel, _, hcl, h, hend => hend a w hcl h
  | (i, k) :: L, listed, a, w, fuel, hk, hcl, h, hend => by
    unfold chkP at hk
    rw [Bool.and_eq_true] at hk
    obtain ⟨hk1, hk2⟩ := hk
    rw [List.length_cons, ← Nat.add_assoc]
    have single : Region.ready md ops listed = [i] → wpOp P ops Q i (fun a' w' => (calm i = true → Mod [] w w') ∧ wpAnyM P md ops Q calm (fuel + L.length) (listed.setIfInBounds i true) a' w') a w → wpAnyM P md ops Q calm (fuel + L.length + 1) listed a w := fun hr hw =>
      ⟨fun h0 => (by rw [h0] at hr; cases hr), by rw [hr]; simpa using hw⟩
    match k with
    | 0 =>
      simp only [Bool.and_eq_true] at hk1
      obtain ⟨o, v, ho, hy, hrest⟩ := h
      have hri : i ∈ Region.ready md ops listed := by simpa using hk1.2
      exact wpAnyM_first (C := fun _ _ => True) (listed := listed) ho (Region.noSelect_spec hsel) hQ (fun _ => trivial) (fun _ _ _ _ _ _ _ _ _ _ _ => trivial) _ listed a w hcl (fun _ hk => hk) (Region.free_spec ho hk1.1) hri hy
        (wpAnyM_of_P hsel hQ L _ _ w fuel hk2 (hcl.set hri) hrest hend)
    | 1 =>
      simp only [Bool.and_eq_true] at hk1
      obtain ⟨o, v, ho, hy, hrest⟩ := h
      have hri : i ∈ Region.ready md ops listed := by simpa using hk1.1.2
      refine wpAnyM_first (C := fun w x => Mod [] w x) (listed := listed) ho (Region.noSelect_spec hsel) hQ (fun _ => Mod.refl _ _) (fun listed' j w1 w2 hcl' hext hiun hj hm x hx => ?_) _ listed a w hcl (fun _ hk => hk) (Region.free_spec ho hk1.1.1) hri hy
        (wpAnyM_of_P hsel hQ L _ _ w fuel hk2 (hcl.set hri) hrest hend)
      have hall := List.all_eq_true.1 hk1.2
      obtain ⟨hjun, oj, hoj, hje⟩ := mem_ready.1 hj
      have hj' := hall j (List.mem_range.2 (Array.getElem?_eq_some_iff.1 hoj).1)
      simp only [Bool.or_eq_true] at hj'
      rcases hj' with (hj' | hj') | hj'
      · exact (hm hj').seq hx
      · have := hext j hj'; rw [getD_unlisted hjun] at this; cases this
      · have := waits_listed hcl' _ j i hj' (fun o ho e he hb => by rw [hoj] at ho; cases ho; exact hje e he hb)
        rw [getD_unlisted hiun] at this; cases this
    | 2 =>
      simp only [Bool.and_eq_true, beq_iff_eq] at hk1
      have hri : i ∈ Region.ready md ops listed := by rw [hk1.1]; simp
      exact single hk1.1 (wpOp_mono (fun a' w' h' => ⟨fun _ => h'.1, wpAnyM_of_P hsel hQ L _ a' w' fuel hk2 (hcl.set hri) h'.2 hend⟩) (wpOp_onN h))
    | k + 3 =>
      simp only [Bool.and_eq_true, beq_iff_eq, Bool.not_eq_true'] at hk1
      have hri : i ∈ Region.ready md ops listed := by rw [hk1.1]; simp
      exact single hk1.1 (wpOp_mono (fun a' w' h' => ⟨fun hc => (by rw [hk1.2] at hc; cases hc), wpAnyM_of_P hsel hQ L _ a' w' fuel hk2 (hcl.set hri) h' hend⟩) (wpOp_onN h))

/-- Orders: a list, or a list behind which two operations of the kind 2 may come in either order. -/
inductive Ord where
  | lin (L : List (Nat × Nat))
  | br (L : List (Nat × Nat)) (i : Nat) (A : Ord) (j : Nat) (B : Ord)
def Ord.len : Ord → Nat
  | .lin L => L.length
  | .br L _ A _ B => L.length + 1 + (A.len + B.len)
def Ord.loud : Ord → Nat → Bool
  | .lin L, j => L.contains (j, 3)
  | .br L _ A _ B, j => L.contains (j, 3) || (A.loud j || B.loud j)
def wpO (P : Program) (ops : Array Oper) (Q : Exit → Act → World → Prop) : Ord → Act → World → Prop
  | .lin L, a, w => wpD P ops Q L a w
  | .br L i A j B, a, w => wpD P ops (onN Q fun a w => wpD P ops (onN Q (wpO P ops Q A)) [(i, 2)] a w ∧ wpD P ops (onN Q (wpO P ops Q B)) [(j, 2)] a w) L a w
def chkO (md : Region.Mode) (ops : Array Oper) (calm : Nat → Bool) : Ord → Array Bool → Bool
  | .lin L, listed => chkD md ops calm L listed
  | .br L i A j B, listed => chkP md ops calm L listed && ((Region.ready md ops (aft L listed) == [i, j]) && (chkO md ops calm A ((aft L listed).setIfInBounds i true) && chkO md ops calm B ((aft L listed).setIfInBounds j true)))
theorem wpAnyM_of_O (hsel : Region.noSelect ops = true) (hQ : ∀ c a d v w, Q (.panic c) (Act.put a d v) w → Q (.panic c) a w) : ∀ (t : Ord) (listed : Array Bool) (a : Act) (w : World) (fuel : Nat),
    chkO md ops calm t listed = true → ClosedL md ops listed → wpO P ops Q t a w → t.len ≤ fuel → wpAnyM P md ops Q calm fuel listed a w
  | .lin L, listed, a, w, fuel, hk, hcl, h, hf => wpAnyM_of_D hsel hQ L listed a w fuel hk hcl h hf
  | .br L i A j B, listed, a, w, fuel, hk, hcl, h, hf => by
    simp only [chkO, Bool.and_eq_true, beq_iff_eq] at hk
    obtain ⟨hk1, hk2, hk3, hk4⟩ := hk
    obtain ⟨f, rfl⟩ : ∃ f, fuel = (f + 1) + L.length := ⟨fuel - 1 - L.length, by simp only [Ord.len] at hf; omega⟩
    have hA : A.len ≤ f := by simp only [Ord.len] at hf; omega
    have hB : B.len ≤ f := by simp only [Ord.len] at hf; omega
    refine wpAnyM_of_P hsel hQ L listed a w (f + 1) hk1 hcl h (fun a w hc hK => ?_)
    have hi : i ∈ Region.ready md ops (aft L listed) := by rw [hk2]; simp
    have hj : j ∈ Region.ready md ops (aft L listed) := by rw [hk2]; simp
    refine ⟨fun h0 => (by rw [h0] at hi; cases hi), fun x hx => ?_⟩
    rw [hk2] at hx
    simp only [List.mem_cons, List.not_mem_nil, or_false] at hx
    rcases hx with rfl | rfl
    · exact wpOp_mono (fun a' w' h' => ⟨fun _ => h'.1, wpAnyM_of_O hsel hQ A _ a' w' f hk3 (hc.set hi) h'.2 hA⟩) (wpOp_onN hK.1)
    · exact wpOp_mono (fun a' w' h' => ⟨fun _ => h'.1, wpAnyM_of_O hsel hQ B _ a' w' f hk4 (hc.set hj) h'.2 hB⟩) (wpOp_onN hK.2)
def chkTree (ops : Array Oper) (t : Ord) : Bool := Region.noSelect ops && (t.len ≤ 4 * ops.size : Bool) && chkO .any ops (fun j => !t.loud j) t (Array.replicate ops.size false)
theorem wpAny_len : ∀ (m fuel : Nat) (listed : Array Bool) (a : Act) (w : World), listed.size = ops.size → (listed.toList.filter (fun b => !b)).length ≤ fuel → wpAny P md ops Q (fuel + m) listed a w → wpAny P md ops Q fuel listed a w := by
  intro m fuel
  induction fuel with
  | zero =>
    intro listed a w hs hl h
    have hr : Region.ready md ops listed = [] := by
      cases hrr : Region.ready md ops listed with
      | nil => rfl
      | cons x xs =>
        have hx : x ∈ Region.ready md ops listed := by rw [hrr]; simp
        obtain ⟨h1, o, ho, _⟩ := mem_ready.1 hx
        have hlt := (Array.getElem?_eq_some_iff.1 ho).1
        have h2 : listed.getD x true = false := h1
        have h3 : listed[x]? = some false := by
          rw [Array.getElem?_eq_getElem (by omega)]
          simpa [show x < listed.size by omega] using h2
        have h4 : false ∈ listed.toList.filter (fun b => !b) := by
          rw [List.mem_filter]
          refine ⟨?_, rfl⟩
          rw [Array.mem_toList_iff]
          exact Array.mem_of_getElem? h3
        rw [List.length_eq_zero_iff.1 (Nat.le_zero.1 hl)] at h4
        cases h4
    cases m with
    | zero => exact h
    | succ m => exact ⟨hr, h.1 hr⟩
  | succ fuel ih =>
    intro listed a w hs hl h
    rw [show fuel + 1 + m = (fuel + m) + 1 by omega] at h
    refine ⟨h.1, fun i hi => wpOp_mono (fun a' w' h' => ih _ a' w' (by simpa using hs) ?_ h') (h.2 i hi)⟩
    obtain ⟨h1, o, ho, _⟩ := mem_ready.1 hi
    have hlt : i < listed.size := by rw [hs]; exact (Array.getElem?_eq_some_iff.1 ho).1
    have h2 : listed[i] = false := by simpa [hlt] using h1
    have e : listed.toList = listed.toList.take i ++ false :: listed.toList.drop (i + 1) := by
      have : listed.toList[i]'(by simpa using hlt) = false := by simpa using h2
      rw [← this, ← List.drop_eq_getElem_cons, List.take_append_drop]
    have e2 : (listed.setIfInBounds i true).toList = listed.toList.take i ++ true :: listed.toList.drop (i + 1) := by
      rw [Array.toList_setIfInBounds, List.set_eq_take_append_cons_drop, if_pos (by simpa using hlt)]
    rw [e, List.filter_append] at hl
    rw [e2, List.filter_append]
    simp only [List.filter_cons, Bool.not_true, Bool.not_false, if_true, List.length_append, List.length_cons] at hl ⊢
    simp only [Bool.false_eq_true, if_false]
    omega
/-- A region that draws its order: a tree of orders serves. -/
theorem wp_region_tree {id : Nat} {a : Act} {w : World} {l : List Oper} (t : Ord) (hm : P.follows .mixedOrders = true) (hc : chkTree l.toArray t = true) (hQ : ∀ c a d v w, Q (.panic c) (Act.put a d v) w → Q (.panic c) a w)
    (h : wpO P l.toArray Q t a w.drew) : (Code.region id l.toArray true).wp P Q a w := by
  simp only [chkTree, Bool.and_eq_true, decide_eq_true_eq] at hc
  have h1 := wpAny_of_M (calm := fun j => !t.loud j) _ _ _ _ (wpAnyM_of_O hc.1.1 hQ t _ a _ (l.toArray.size + 3 * l.toArray.size) hc.2 (fun j o _ hj => by
    have : (Array.replicate l.toArray.size false).getD j false = false := by
      rw [Array.getD_eq_getD_getElem?, Array.getElem?_replicate]
      split <;> rfl
    rw [this] at hj; cases hj) h (by omega))
  refine wp_region_any hm (wpAny_len (3 * l.toArray.size) _ _ _ _ (by simp) ?_ h1)
  refine Nat.le_trans (List.length_filter_le _ _) (by simp)

variable {a : Act} {w : World} {i j : Nat} {L : List (Nat × Nat)} {A B : Ord}
theorem D_br (h : wpD P ops (onN Q fun a w => wpD P ops (onN Q (wpO P ops Q A)) [(i, 2)] a w ∧ wpD P ops (onN Q (wpO P ops Q B)) [(j, 2)] a w) L a w) : wpO P ops Q (.br L i A j B) a w := h
theorem D_lin (h : wpD P ops Q L a w) : wpO P ops Q (.lin L) a w := h
theorem N_and (h1 : wpD P ops (onN Q (wpO P ops Q A)) [(i, 2)] a w) (h2 : wpD P ops (onN Q (wpO P ops Q B)) [(j, 2)] a w) : wpD P ops (onN Q fun a w => wpD P ops (onN Q (wpO P ops Q A)) [(i, 2)] a w ∧ wpD P ops (onN Q (wpO P ops Q B)) [(j, 2)] a w) [] a w := ⟨h1, h2⟩
theorem N_ord (h : wpO P ops Q A a w) : wpD P ops (onN Q (wpO P ops Q A)) [] a w := h
end
end Go.Proofs.YtgdaclbijgcnpaaDoor
