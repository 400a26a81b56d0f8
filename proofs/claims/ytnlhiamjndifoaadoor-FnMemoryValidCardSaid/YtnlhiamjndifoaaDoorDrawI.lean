/- Regions that draw their order, where nothing that was there before is changed: loads of what was there may come at any time, beside whatever writes into new blocks. No function of the program occurs here. -/
import Derived.Test.YtnlhiamjndifoaaDoorCopy
namespace Go.Proofs.YtnlhiamjndifoaaDoor
open Go.RowKit

section
variable {P : Program} {ops : Array Oper} {Q : Exit → Act → World → Prop} {md : Region.Mode} {I : World → Prop}
/-- Whatever order is picked from here on, and I holds all along. -/
def wpAnyI (I : World → Prop) (P : Program) (md : Region.Mode) (ops : Array Oper) (Q : Exit → Act → World → Prop) : Nat → Array Bool → Act → World → Prop
  | 0, listed, a, w => Region.ready md ops listed = [] ∧ Q .normal a w
  | fuel + 1, listed, a, w =>
    (Region.ready md ops listed = [] → Q .normal a w) ∧
    ∀ i ∈ Region.ready md ops listed, wpOp P ops Q i (fun a' w' => I w' ∧ wpAnyI I P md ops Q fuel (listed.setIfInBounds i true) a' w') a w
theorem wpAny_of_I : ∀ (fuel : Nat) (listed : Array Bool) (a : Act) (w : World), wpAnyI I P md ops Q fuel listed a w → wpAny P md ops Q fuel listed a w
  | 0, _, _, _, h => h
  | fuel + 1, _, _, _, h => ⟨h.1, fun i hi => wpOp_mono (fun _ _ h' => wpAny_of_I fuel _ _ _ h'.2) (h.2 i hi)⟩
/-- An operation that may come up now may be taken first. -/
theorem wpAnyI_first {i : Nat} {oi : Oper} {v : Value} (hi : ops[i]? = some oi) (hsel : ∀ (j : Nat) (o : Oper) cs b, ops[j]? = some o → o.op ≠ .select cs b)
    (hQ : ∀ c a d v w, Q (.panic c) (Act.put a d v) w → Q (.panic c) a w) :
    ∀ (fuel : Nat) (listed' : Array Bool) (a : Act) (w : World), I w →
      (∀ j oj, ops[j]? = some oj → j ≠ i → listed'.getD j true = false → (∀ e ∈ oj.after, Region.binds md e = true → e.on ≠ i) → oi.apart ops oj = true) →
      i ∈ Region.ready md ops listed' → YieldsIf P ops I oi v a →
      wpAnyI I P md ops Q fuel (listed'.setIfInBounds i true) (a.put oi.dst v) w → wpAnyI I P md ops Q (fuel + 1) listed' a w := by
  intro fuel
  induction fuel with
  | zero =>
    intro listed' a w hI _ hr hy H
    refine ⟨fun h => (by rw [h] at hr; cases hr), fun j hj => ?_⟩
    by_cases hji : j = i
    · subst hji; exact hy.wpOp hi hI ⟨hI, H⟩
    · have := ready_mono hj hji
      rw [H.1] at this
      cases this
  | succ fuel ih =>
    intro listed' a w hI hfree hr hy H
    refine ⟨fun h => (by rw [h] at hr; cases hr), fun j hj => ?_⟩
    by_cases hji : j = i
    · subst hji; exact hy.wpOp hi hI ⟨hI, H⟩
    · have h1 := H.2 j (ready_mono hj hji)
      obtain ⟨hjun, oj, hoj, hall⟩ := mem_ready.1 hj
      have hiun := (mem_ready.1 hr).1
      have hnot : ∀ e ∈ oj.after, Region.binds md e = true → e.on ≠ i := fun e he hb heq => by
        have h1 := hall e he hb
        rw [heq, getD_unlisted hiun] at h1
        cases h1
      have h2 := wpOp_putIf hoj (hfree j oj hoj hji hjun hnot) (fun cs b => hsel i oi cs b hi) (fun cs b => hsel j oj cs b hoj) (fun c a w => hQ c a _ _ w) hy h1
      have hfree' : ∀ k ok, ops[k]? = some ok → k ≠ i → (listed'.setIfInBounds j true).getD k true = false →
          (∀ e ∈ ok.after, Region.binds md e = true → e.on ≠ i) → oi.apart ops ok = true := fun k ok hk hki hun hno => by
        refine hfree k ok hk hki ?_ hno
        by_cases hjk : j = k
        · subst hjk; exact hjun
        · rw [getD_set_ne true hjk] at hun; exact hun
      refine wpOp_mono (fun a' w' h3 => ⟨h3.2.1, ih (listed'.setIfInBounds j true) a' w' h3.2.1 hfree' (ready_mono hr (Ne.symm hji)) h3.1 ?_⟩) h2
      rw [Array.setIfInBounds_comm _ _ hji]
      exact h3.2.2
/-- The operations in one order: 0 yields one value in every world, 1 in every world of I, all others keep I. -/
def wpI (I : World → Prop) (P : Program) (ops : Array Oper) (Q : Exit → Act → World → Prop) : List (Nat × Nat) → Act → World → Prop
  | [], a, w => Q .normal a w
  | (i, 0) :: L, a, w => ∃ o v, ops[i]? = some o ∧ YieldsIf P ops (fun _ => True) o v a ∧ wpI I P ops Q L (a.put o.dst v) w
  | (i, 1) :: L, a, w => ∃ o v, ops[i]? = some o ∧ YieldsIf P ops I o v a ∧ wpI I P ops Q L (a.put o.dst v) w
  | (i, _) :: L, a, w => wpOp P ops Q i (fun a' w' => I w' ∧ wpI I P ops Q L a' w') a w
def chkPI (md : Region.Mode) (ops : Array Oper) : List (Nat × Nat) → Array Bool → Bool
  | [], _ => true
  | (i, k) :: L, listed =>
    (match k with
     | 0 => Region.free md ops listed i && (Region.ready md ops listed).contains i
     | 1 => Region.free md ops listed i && (Region.ready md ops listed).contains i
     | _ => Region.ready md ops listed == [i]) && chkPI md ops L (listed.setIfInBounds i true)
theorem wpAnyI_of_P {K : Act → World → Prop} (hsel : Region.noSelect ops = true) (hQ : ∀ c a d v w, Q (.panic c) (Act.put a d v) w → Q (.panic c) a w) : ∀ (L : List (Nat × Nat)) (listed : Array Bool) (a : Act) (w : World) (fuel : Nat),
    chkPI md ops L listed = true → I w → wpI I P ops (onN Q K) L a w → (∀ a w, I w → K a w → wpAnyI I P md ops Q fuel (aft L listed) a w) → wpAnyI I P md ops Q (fuel + L.length) listed a w
  | [], listed, a, w, fuel, _, hI, h, hend => hend a w hI h
  | (i, k) :: L, listed, a, w, fuel, hk, hI, h, hend => by
    unfold chkPI at hk
    rw [Bool.and_eq_true] at hk
    obtain ⟨hk1, hk2⟩ := hk
    rw [List.length_cons, ← Nat.add_assoc]
    match k with
    | 0 =>
      simp only [Bool.and_eq_true] at hk1
      obtain ⟨o, v, ho, hy, hrest⟩ := h
      have hri : i ∈ Region.ready md ops listed := by simpa using hk1.2
      exact wpAnyI_first ho (Region.noSelect_spec hsel) hQ _ listed a w hI (Region.free_spec ho hk1.1) hri (YieldsIf.imp hy (fun _ _ => trivial))
        (wpAnyI_of_P hsel hQ L _ _ w fuel hk2 hI hrest hend)
    | 1 =>
      simp only [Bool.and_eq_true] at hk1
      obtain ⟨o, v, ho, hy, hrest⟩ := h
      have hri : i ∈ Region.ready md ops listed := by simpa using hk1.2
      exact wpAnyI_first ho (Region.noSelect_spec hsel) hQ _ listed a w hI (Region.free_spec ho hk1.1) hri hy
        (wpAnyI_of_P hsel hQ L _ _ w fuel hk2 hI hrest hend)
    | k + 2 =>
      simp only [beq_iff_eq] at hk1
      refine ⟨fun h0 => (by rw [h0] at hk1; cases hk1), by rw [hk1]; simpa using (wpOp_mono (fun a' w' h' => ⟨h'.1, wpAnyI_of_P hsel hQ L _ a' w' fuel hk2 h'.1 h'.2 hend⟩) (wpOp_onN h))⟩
def wpIM (I : World → Prop) (P : Program) (ops : Array Oper) (Q : Exit → Act → World → Prop) : OrdM → Act → World → Prop
  | .lin L, a, w => wpI I P ops Q L a w
  | .br L i _ A j _ B, a, w => wpI I P ops (onN Q fun a w => wpI I P ops (onN Q (wpIM I P ops Q A)) [(i, 2)] a w ∧ wpI I P ops (onN Q (wpIM I P ops Q B)) [(j, 2)] a w) L a w
  | .tri L i _ A j _ B m _ C, a, w => wpI I P ops (onN Q fun a w => wpI I P ops (onN Q (wpIM I P ops Q A)) [(i, 2)] a w ∧ wpI I P ops (onN Q (wpIM I P ops Q B)) [(j, 2)] a w ∧ wpI I P ops (onN Q (wpIM I P ops Q C)) [(m, 2)] a w) L a w
def chkIM (md : Region.Mode) (ops : Array Oper) : OrdM → Array Bool → Bool
  | .lin L, listed => chkPI md ops L listed && (Region.ready md ops (aft L listed) == [])
  | .br L i _ A j _ B, listed => chkPI md ops L listed && ((Region.ready md ops (aft L listed) == [i, j]) && (chkIM md ops A ((aft L listed).setIfInBounds i true) && chkIM md ops B ((aft L listed).setIfInBounds j true)))
  | .tri L i _ A j _ B m _ C, listed => chkPI md ops L listed && ((Region.ready md ops (aft L listed) == [i, j, m]) && (chkIM md ops A ((aft L listed).setIfInBounds i true) && (chkIM md ops B ((aft L listed).setIfInBounds j true) && chkIM md ops C ((aft L listed).setIfInBounds m true))))
theorem wpI_end : ∀ (L : List (Nat × Nat)) (a : Act) (w : World), wpI I P ops Q L a w → wpI I P ops (onN Q (Q .normal)) L a w
  | [], _, _, h => h
  | (_, 0) :: L, _, w, ⟨o, v, ho, hy, h⟩ => ⟨o, v, ho, hy, wpI_end L _ w h⟩
  | (_, 1) :: L, _, w, ⟨o, v, ho, hy, h⟩ => ⟨o, v, ho, hy, wpI_end L _ w h⟩
  | (i, k + 2) :: L, a, w, h => by
    have hQQ : onN Q (Q .normal) = Q := by
      funext e a w
      cases e <;> rfl
    have h' : wpOp P ops Q i (fun a' w' => I w' ∧ wpI I P ops Q L a' w') a w := h
    show wpOp P ops (onN Q (Q .normal)) i (fun a' w' => I w' ∧ wpI I P ops (onN Q (Q .normal)) L a' w') a w
    rw [hQQ]
    exact h'
theorem wpAnyI_of_T (hsel : Region.noSelect ops = true) (hQ : ∀ c a d v w, Q (.panic c) (Act.put a d v) w → Q (.panic c) a w) : ∀ (t : OrdM) (listed : Array Bool) (a : Act) (w : World) (fuel : Nat),
    chkIM md ops t listed = true → I w → wpIM I P ops Q t a w → t.len ≤ fuel → wpAnyI I P md ops Q fuel listed a w
  | .lin L, listed, a, w, fuel, hk, hI, h, hf => by
    simp only [chkIM, Bool.and_eq_true, beq_iff_eq] at hk
    obtain ⟨f, rfl⟩ : ∃ f, fuel = f + L.length := ⟨fuel - L.length, by simp only [OrdM.len] at hf; omega⟩
    refine wpAnyI_of_P hsel hQ L listed a w f hk.1 hI (wpI_end L a w h) (fun a w _ hq => ?_)
    cases f with
    | zero => exact ⟨hk.2, hq⟩
    | succ f => exact ⟨fun _ => hq, by rw [hk.2]; simp⟩
  | .br L i k A j l B, listed, a, w, fuel, hk, hI, h, hf => by
    simp only [chkIM, Bool.and_eq_true, beq_iff_eq] at hk
    obtain ⟨hk1, hk2, hk3, hk4⟩ := hk
    obtain ⟨f, rfl⟩ : ∃ f, fuel = (f + 1) + L.length := ⟨fuel - 1 - L.length, by simp only [OrdM.len] at hf; omega⟩
    have hA : A.len ≤ f := by simp only [OrdM.len] at hf; omega
    have hB : B.len ≤ f := by simp only [OrdM.len] at hf; omega
    refine wpAnyI_of_P hsel hQ L listed a w (f + 1) hk1 hI h (fun a w hI hK => ?_)
    refine ⟨fun h0 => (by rw [h0] at hk2; cases hk2), fun x hx => ?_⟩
    rw [hk2] at hx
    simp only [List.mem_cons, List.not_mem_nil, or_false] at hx
    rcases hx with rfl | rfl
    · exact wpOp_mono (fun a' w' h' => ⟨h'.1, wpAnyI_of_T hsel hQ A _ a' w' f hk3 h'.1 h'.2 hA⟩) (wpOp_onN hK.1)
    · exact wpOp_mono (fun a' w' h' => ⟨h'.1, wpAnyI_of_T hsel hQ B _ a' w' f hk4 h'.1 h'.2 hB⟩) (wpOp_onN hK.2)
  | .tri L i k A j l B m n C, listed, a, w, fuel, hk, hI, h, hf => by
    simp only [chkIM, Bool.and_eq_true, beq_iff_eq] at hk
    obtain ⟨hk1, hk2, hk3, hk4, hk5⟩ := hk
    obtain ⟨f, rfl⟩ : ∃ f, fuel = (f + 1) + L.length := ⟨fuel - 1 - L.length, by simp only [OrdM.len] at hf; omega⟩
    have hA : A.len ≤ f := by simp only [OrdM.len] at hf; omega
    have hB : B.len ≤ f := by simp only [OrdM.len] at hf; omega
    have hC : C.len ≤ f := by simp only [OrdM.len] at hf; omega
    refine wpAnyI_of_P hsel hQ L listed a w (f + 1) hk1 hI h (fun a w hI hK => ?_)
    refine ⟨fun h0 => (by rw [h0] at hk2; cases hk2), fun x hx => ?_⟩
    rw [hk2] at hx
    simp only [List.mem_cons, List.not_mem_nil, or_false] at hx
    rcases hx with rfl | rfl | rfl
    · exact wpOp_mono (fun a' w' h' => ⟨h'.1, wpAnyI_of_T hsel hQ A _ a' w' f hk3 h'.1 h'.2 hA⟩) (wpOp_onN hK.1)
    · exact wpOp_mono (fun a' w' h' => ⟨h'.1, wpAnyI_of_T hsel hQ B _ a' w' f hk4 h'.1 h'.2 hB⟩) (wpOp_onN hK.2.1)
    · exact wpOp_mono (fun a' w' h' => ⟨h'.1, wpAnyI_of_T hsel hQ C _ a' w' f hk5 h'.1 h'.2 hC⟩) (wpOp_onN hK.2.2)
def chkTreeI (ops : Array Oper) (t : OrdM) : Bool := Region.noSelect ops && (t.len ≤ 4 * ops.size : Bool) && chkIM .any ops t (Array.replicate ops.size false)
/-- A region that draws its order: a tree of orders serves, where I holds all along. -/
theorem wp_region_treeI {id : Nat} {a : Act} {w : World} {l : List Oper} (I : World → Prop) (t : OrdM) (hm : P.follows .mixedOrders = true) (hc : chkTreeI l.toArray t = true) (hQ : ∀ c a d v w, Q (.panic c) (Act.put a d v) w → Q (.panic c) a w) (hI : I w.drew)
    (h : wpIM I P l.toArray Q t a w.drew) : (Code.region id l.toArray true).wp P Q a w := by
  simp only [chkTreeI, Bool.and_eq_true, decide_eq_true_eq] at hc
  have h1 := wpAny_of_I _ _ _ _ (wpAnyI_of_T hc.1.1 hQ t _ a _ (l.toArray.size + 3 * l.toArray.size) hc.2 hI h (by omega))
  refine wp_region_any hm (wpAny_len (3 * l.toArray.size) _ _ _ _ (by simp) ?_ h1)
  refine Nat.le_trans (List.length_filter_le _ _) (by simp)

variable {a : Act} {w : World} {i j m k l n : Nat} {o : Oper} {L : List (Nat × Nat)} {A B C : OrdM}
theorem I_nil (h : Q .normal a w) : wpI I P ops Q [] a w := h
theorem I_pure {v : Value} (ho : ops[i]? = some o) (hg : Region.wanted o (yielded ops a.tmps) = true) (hr : ∀ w, (execOp a.eval o).run P w = .ok (.value v) w) (h : wpI I P ops Q L (a.put o.dst v) w) : wpI I P ops Q ((i, 0) :: L) a w :=
  ⟨o, v, ho, .inl ⟨hg, fun w _ => hr w⟩, h⟩
theorem I_load {v : Value} (ho : ops[i]? = some o) (hg : Region.wanted o (yielded ops a.tmps) = true) (hr : ∀ x, I x → Gives P o a x v) (h : wpI I P ops Q L (a.put o.dst v) w) : wpI I P ops Q ((i, 1) :: L) a w :=
  ⟨o, v, ho, .inl ⟨hg, hr⟩, h⟩
theorem I_calm {R : Value → World → Prop} (ho : ops[i]? = some o) (hg : Region.wanted o (yielded ops a.tmps) = true) (hd : Does P o a w R) (h : ∀ v w', R v w' → I w' ∧ wpI I P ops Q L (a.put o.dst v) w') : wpI I P ops Q ((i, k + 2) :: L) a w := by
  simp only [wpI, wpOp, ho, hg, if_true]
  exact .inl (hd.wp h)
theorem I_br (h : wpI I P ops (onN Q fun a w => wpI I P ops (onN Q (wpIM I P ops Q A)) [(i, 2)] a w ∧ wpI I P ops (onN Q (wpIM I P ops Q B)) [(j, 2)] a w) L a w) : wpIM I P ops Q (.br L i k A j l B) a w := h
theorem I_tri (h : wpI I P ops (onN Q fun a w => wpI I P ops (onN Q (wpIM I P ops Q A)) [(i, 2)] a w ∧ wpI I P ops (onN Q (wpIM I P ops Q B)) [(j, 2)] a w ∧ wpI I P ops (onN Q (wpIM I P ops Q C)) [(m, 2)] a w) L a w) : wpIM I P ops Q (.tri L i k A j l B m n C) a w := h
theorem I_lin (h : wpI I P ops Q L a w) : wpIM I P ops Q (.lin L) a w := h
theorem I_and (h1 : wpI I P ops (onN Q (wpIM I P ops Q A)) [(i, 2)] a w) (h2 : wpI I P ops (onN Q (wpIM I P ops Q B)) [(j, 2)] a w) : wpI I P ops (onN Q fun a w => wpI I P ops (onN Q (wpIM I P ops Q A)) [(i, 2)] a w ∧ wpI I P ops (onN Q (wpIM I P ops Q B)) [(j, 2)] a w) [] a w := ⟨h1, h2⟩
theorem I_and3 (h1 : wpI I P ops (onN Q (wpIM I P ops Q A)) [(i, 2)] a w) (h2 : wpI I P ops (onN Q (wpIM I P ops Q B)) [(j, 2)] a w) (h3 : wpI I P ops (onN Q (wpIM I P ops Q C)) [(m, 2)] a w) : wpI I P ops (onN Q fun a w => wpI I P ops (onN Q (wpIM I P ops Q A)) [(i, 2)] a w ∧ wpI I P ops (onN Q (wpIM I P ops Q B)) [(j, 2)] a w ∧ wpI I P ops (onN Q (wpIM I P ops Q C)) [(m, 2)] a w) [] a w := ⟨h1, h2, h3⟩
theorem I_ord (h : wpIM I P ops Q A a w) : wpI I P ops (onN Q (wpIM I P ops Q A)) [] a w := h
end
section
variable {w w0 : World} {Γ : List Fact}
/-- A variable that will not be written any more: its cells, where nobody writes. -/
theorem Sat.boxStill {b : Nat} {cs : List Value} (h : Sat w0 w (.box b cs :: Γ)) : Sat w0 w (.at ⟨b, 0, none⟩ cs :: Γ) := by
  have hc := h.boxCells (i := 0) rfl
  obtain ⟨R, O, ⟨O1, O2, rfl, ⟨rfl, t, hb⟩, k2⟩, h2, h3, h4, h5⟩ := h
  have grow : ∀ {Γ : List Fact} {O}, holdAll w R Γ O → holdAll w (R ++ [b]) Γ O := by
    intro Γ
    induction Γ with
    | nil => intro O h; exact h
    | cons f Γ ih =>
      rintro O ⟨O1, O2, rfl, h1, h2⟩
      refine ⟨O1, O2, rfl, ?_, ih h2⟩
      cases f with
      | own e cs x => exact h1
      | ro e cs x => obtain ⟨rfl, F, k1, k2⟩ := h1; exact ⟨rfl, F, k1, fun g hg => by simp [k2 g hg]⟩
      | box b cs => exact h1
      | «at» ad cs => obtain ⟨rfl, k1, k2⟩ := h1; exact ⟨rfl, by simp [k1], k2⟩
      | set r ks => exact h1
  refine ⟨R ++ [b], O2, ⟨[], O2, rfl, ⟨rfl, by simp, hc⟩, grow k2⟩, h2.right, fun g hg => ⟨fun hr => ?_, (h3 g (by simp [hg])).2⟩, fun g hg => ?_, h5⟩
  · rcases List.mem_append.1 hr with h | h
    · exact (h3 g (by simp [hg])).1 h
    · exact h2.apart g (by simpa using h) hg
  · rcases List.mem_append.1 hg with h | h
    · exact h4 g h
    · rw [List.mem_singleton.1 h]
      exact (Array.getElem?_eq_some_iff.1 hb).1
/-- Where nothing is owned, the past may be forgotten. -/
theorem Sat.rebase (h : Sat w0 w Γ) (hΓ : ∀ R O, holdAll w R Γ O → O = []) : Sat w w Γ := by
  obtain ⟨R, O, h1, h2, h3, h4, h5⟩ := h
  have hO := hΓ R O h1
  subst hO
  exact ⟨R, [], h1, h2, by simp, h4, Mod.refl _ _⟩
theorem Sat.frontBox {b i : Nat} (cs : List Value) (h : Sat w0 w Γ) [hi : BoxAt Γ b cs i] : Sat w0 w (.box b cs :: Γ.eraseIdx i) := h.pull i hi.get
end
theorem f_loadAtI {P : Program} {o : Oper} {a : Act} {w w0 : World} {Γ : List Fact} {T : TypeId} {z : Value} {p : Operand} {b j i : Nat} {u : Value} {cs : List Value} (hS : Sat w0 w Γ) (ho : o.op = .load T p) (hp : a.eval p = .pointer (some ⟨b, j + 1, none⟩)) [hi : CellsIn Γ ⟨b, 0, none⟩ cs i] [hT : Ty P T z 1 false] (hu : cs[j + 1]? = some u) : Gives P o a w u :=
  f_loadAtF (ad := ⟨b, 0, none⟩) hS ho (by simpa using hp) hu
end Go.Proofs.YtnlhiamjndifoaaDoor
