/- Regions that draw their order: one walk in one order serves every order. Operations of four kinds: 0 yields one value in every world; 1 reads, its value stays while old blocks stay; 2 leaves old blocks alone; 3 whatever. No function of the program occurs here. -/
import Derived.Test.YthabgnhedmepjaaDoorSub
import Derived.OrdersHeld
import Derived.KernelRfl
namespace Go.Proofs.YthabgnhedmepjaaDoor
open Go.RowKit

section
variable {P : Program} {ops : Array Oper} {Q : Exit → Act → World → Prop} {md : Region.Mode} {calm : Nat → Bool}
/-- Whatever order is picked from here on, and the calm operations leave old blocks alone. -/
def wpAnyM (P : Program) (md : Region.Mode) (ops : Array Oper) (Q : Exit → Act → World → Prop) (calm : Nat → Bool) : Nat → Array Bool → Act → World → Prop
  | 0, listed, a, w => Region.ready md ops listed = [] ∧ Q .normal a w
  | fuel + 1, listed, a, w =>
    (Region.ready md ops listed = [] → Q .normal a w) ∧
    ∀ i ∈ Region.ready md ops listed, wpOp P ops Q i (fun a' w' => (calm i = true → Mod [] w w') ∧ wpAnyM P md ops Q calm fuel (listed.setIfInBounds i true) a' w') a w
theorem wpAny_of_M : ∀ (fuel : Nat) (listed : Array Bool) (a : Act) (w : World), wpAnyM P md ops Q calm fuel listed a w → wpAny P md ops Q fuel listed a w
  | 0, _, _, _, h => h
  | fuel + 1, _, _, _, h => ⟨h.1, fun i hi => wpOp_mono (fun _ _ h' => wpAny_of_M fuel _ _ _ h'.2) (h.2 i hi)⟩
/-- What has come up, and what it waited for. -/
def ClosedL (md : Region.Mode) (ops : Array Oper) (listed : Array Bool) : Prop :=
  ∀ j o, ops[j]? = some o → listed.getD j false = true → ∀ e ∈ o.after, Region.binds md e = true → listed.getD e.on false = true
def waitsB (md : Region.Mode) (ops : Array Oper) : Nat → Nat → Nat → Bool
  | 0, _, _ => false
  | n + 1, j, i => match ops[j]? with
    | none => false
    | some o => o.after.any fun e => Region.binds md e && (e.on == i || waitsB md ops n e.on i)
theorem getD_unlisted {listed : Array Bool} {i : Nat} (h : listed.getD i true = false) : listed.getD i false = false := by
  rcases Nat.lt_or_ge i listed.size with h' | h'
  · simpa [h'] using h
  · simp [Array.getElem?_eq_none h'] at h
theorem waits_listed {listed : Array Bool} (hc : ClosedL md ops listed) : ∀ (n j i : Nat), waitsB md ops n j i = true → (∀ o, ops[j]? = some o → ∀ e ∈ o.after, Region.binds md e = true → listed.getD e.on false = true) → listed.getD i false = true
  | 0, _, _, h, _ => by simp [waitsB] at h
  | n + 1, j, i, h, hall => by
    unfold waitsB at h
    cases hj : ops[j]? with
    | none => rw [hj] at h; simp at h
    | some o =>
      rw [hj] at h
      obtain ⟨e, he, hb⟩ := Array.any_eq_true'.1 h
      simp only [Bool.and_eq_true, Bool.or_eq_true, beq_iff_eq] at hb
      have hl := hall o hj e he hb.1
      rcases hb.2 with rfl | hw
      · exact hl
      · exact waits_listed hc n e.on i hw (fun o ho e' he' hb' => hc e.on o ho hl e' he' hb')
theorem ClosedL.set {listed : Array Bool} (hc : ClosedL md ops listed) {j : Nat} (hj : j ∈ Region.ready md ops listed) : ClosedL md ops (listed.setIfInBounds j true) := by
  intro k o ho hk e he hb
  by_cases h : j = k
  · subst h
    obtain ⟨_, o', ho', hall⟩ := mem_ready.1 hj
    rw [ho] at ho'
    cases ho'
    exact getD_set_true (hall e he hb)
  · rw [getD_set_ne false h] at hk
    exact getD_set_true (hc k o ho hk e he hb)
theorem YieldsIf.imp {S S' : World → Prop} {o : Oper} {v : Value} {a : Act} (h : YieldsIf P ops S o v a) (hs : ∀ w, S' w → S w) : YieldsIf P ops S' o v a :=
  Or.imp (fun ⟨hw, hv⟩ => ⟨hw, fun w hw' => hv w (hs w hw')⟩) id h
/-- An operation that may come up now may be taken first. -/
theorem wpAnyM_first {C : World → World → Prop} {i : Nat} {oi : Oper} {v : Value} {listed : Array Bool} (hi : ops[i]? = some oi) (hsel : ∀ (j : Nat) (o : Oper) cs b, ops[j]? = some o → o.op ≠ .select cs b)
    (hQ : ∀ c a d v w, Q (.panic c) (Act.put a d v) w → Q (.panic c) a w) (hC0 : ∀ w, C w w)
    (hC : ∀ (listed' : Array Bool) (j : Nat) (w w' : World), ClosedL md ops listed' → (∀ k, listed.getD k false = true → listed'.getD k false = true) → listed'.getD i true = false → j ∈ Region.ready md ops listed' → (calm j = true → Mod [] w w') → ∀ x, C w' x → C w x) :
    ∀ (fuel : Nat) (listed' : Array Bool) (a : Act) (w : World), ClosedL md ops listed' → (∀ k, listed.getD k false = true → listed'.getD k false = true) →
      (∀ j oj, ops[j]? = some oj → j ≠ i → listed'.getD j true = false → (∀ e ∈ oj.after, Region.binds md e = true → e.on ≠ i) → oi.apart ops oj = true) →
      i ∈ Region.ready md ops listed' → YieldsIf P ops (C w) oi v a →
      wpAnyM P md ops Q calm fuel (listed'.setIfInBounds i true) (a.put oi.dst v) w → wpAnyM P md ops Q calm (fuel + 1) listed' a w := by
  intro fuel
  induction fuel with
  | zero =>
    intro listed' a w hcl hext _ hr hy H
    refine ⟨fun h => (by rw [h] at hr; cases hr), fun j hj => ?_⟩
    by_cases hji : j = i
    · subst hji; exact hy.wpOp hi (hC0 w) ⟨fun _ => Mod.refl _ _, H⟩
    · have := ready_mono hj hji
      rw [H.1] at this
      cases this
  | succ fuel ih =>
    intro listed' a w hcl hext hfree hr hy H
    refine ⟨fun h => (by rw [h] at hr; cases hr), fun j hj => ?_⟩
    by_cases hji : j = i
    · subst hji; exact hy.wpOp hi (hC0 w) ⟨fun _ => Mod.refl _ _, H⟩
    · have h1 := H.2 j (ready_mono hj hji)
      obtain ⟨hjun, oj, hoj, hall⟩ := mem_ready.1 hj
      have hiun := (mem_ready.1 hr).1
      have hnot : ∀ e ∈ oj.after, Region.binds md e = true → e.on ≠ i := fun e he hb heq => by
        have h1 := hall e he hb
        rw [heq, getD_unlisted hiun] at h1
        cases h1
      have h2 := wpOp_putIf hoj (hfree j oj hoj hji hjun hnot) (fun cs b => hsel i oi cs b hi) (fun cs b => hsel j oj cs b hoj) (fun c a w => hQ c a _ _ w) hy h1
      have hfree' : ∀ k ok, ops[k]? = some ok → k ≠ i → (listed'.setIfInBounds j true).getD k true = false →
          (∀ e ∈ ok.after, Region.binds md e = true → e.on ≠ i) → oi.apart ops ok = true := fun k ok hk hki hun hno => by
        refine hfree k ok hk hki ?_ hno
        by_cases hjk : j = k
        · subst hjk; exact hjun
        · rw [getD_set_ne true hjk] at hun; exact hun
      refine wpOp_mono (fun a' w' h3 => ⟨h3.2.1, ih (listed'.setIfInBounds j true) a' w' (hcl.set hj) (fun k hk => getD_set_true (hext k hk)) hfree' (ready_mono hr (Ne.symm hji)) (YieldsIf.imp h3.1 (fun x hx => hC listed' j w w' hcl hext hiun hj h3.2.1 x hx)) ?_⟩) h2
      rw [Array.setIfInBounds_comm _ _ hji]
      exact h3.2.2

/-! ### The walk -/
/-- The operations in one order, each with its kind. -/
def wpD (P : Program) (ops : Array Oper) (Q : Exit → Act → World → Prop) : List (Nat × Nat) → Act → World → Prop
  | [], a, w => Q .normal a w
  | (i, 0) :: L, a, w => ∃ o v, ops[i]? = some o ∧ YieldsIf P ops (fun _ => True) o v a ∧ wpD P ops Q L (a.put o.dst v) w
  | (i, 1) :: L, a, w => ∃ o v, ops[i]? = some o ∧ YieldsIf P ops (Mod [] w) o v a ∧ wpD P ops Q L (a.put o.dst v) w
  | (i, 2) :: L, a, w => wpOp P ops Q i (fun a' w' => Mod [] w w' ∧ wpD P ops Q L a' w') a w
  | (i, _) :: L, a, w => wpOp P ops Q i (fun a' w' => wpD P ops Q L a' w') a w
def calmIn (L : List (Nat × Nat)) (j : Nat) : Bool := !L.contains (j, 3)
def chkD (md : Region.Mode) (ops : Array Oper) (calm : Nat → Bool) : List (Nat × Nat) → Array Bool → Bool
  | [], listed => Region.ready md ops listed == []
  | (i, k) :: L, listed =>
    (match k with
     | 0 => Region.free md ops listed i && (Region.ready md ops listed).contains i
     | 1 => Region.free md ops listed i && (Region.ready md ops listed).contains i && (List.range ops.size).all fun j => calm j || listed.getD j false || waitsB md ops ops.size j i
     | 2 => (Region.ready md ops listed == [i]) && calm i
     | _ => (Region.ready md ops listed == [i]) && !calm i) && chkD md ops calm L (listed.setIfInBounds i true)
theorem wpAnyM_of_D (hsel : Region.noSelect ops = true) (hQ : ∀ c a d v w, Q (.panic c) (Act.put a d v) w → Q (.panic c) a w) : ∀ (L : List (Nat × Nat)) (listed : Array Bool) (a : Act) (w : World) (fuel : Nat),
    chkD md ops calm L listed = true → ClosedL md ops listed → wpD P ops Q L a w → L.length ≤ fuel → wpAnyM P md ops Q calm fuel listed a w
  | [], listed, a, w, fuel, hk, _, h, _ => by
    have hr : Region.ready md ops listed = [] := by simpa [chkD] using hk
    cases fuel with
    | zero => exact ⟨hr, h⟩
    | succ fuel => exact ⟨fun _ => h, by rw [hr]; simp⟩
  | (i, k) :: L, listed, a, w, 0, _, _, _, hf => by simp at hf
  | (i, k) :: L, listed, a, w, fuel + 1, hk, hcl, h, hf => by
    simp only [List.length_cons, Nat.add_le_add_iff_right] at hf
    unfold chkD at hk
    rw [Bool.and_eq_true] at hk
    obtain ⟨hk1, hk2⟩ := hk
    have single : Region.ready md ops listed = [i] → wpOp P ops Q i (fun a' w' => (calm i = true → Mod [] w w') ∧ wpAnyM P md ops Q calm fuel (listed.setIfInBounds i true) a' w') a w → wpAnyM P md ops Q calm (fuel + 1) listed a w := fun hr hw =>
      ⟨fun h0 => (by rw [hr] at h0; cases h0), by rw [hr]; simpa using hw⟩
    match k with
    | 0 =>
      simp only [Bool.and_eq_true] at hk1
      obtain ⟨o, v, ho, hy, hrest⟩ := h
      have hri : i ∈ Region.ready md ops listed := by simpa using hk1.2
      exact wpAnyM_first (C := fun _ _ => True) (listed := listed) ho (Region.noSelect_spec hsel) hQ (fun _ => trivial) (fun _ _ _ _ _ _ _ _ _ _ _ => trivial) fuel listed a w hcl (fun _ hk => hk) (Region.free_spec ho hk1.1) hri hy
        (wpAnyM_of_D hsel hQ L _ _ w fuel hk2 (hcl.set hri) hrest hf)
    | 1 =>
      simp only [Bool.and_eq_true] at hk1
      obtain ⟨o, v, ho, hy, hrest⟩ := h
      have hri : i ∈ Region.ready md ops listed := by simpa using hk1.1.2
      refine wpAnyM_first (C := fun w x => Mod [] w x) (listed := listed) ho (Region.noSelect_spec hsel) hQ (fun _ => Mod.refl _ _) (fun listed' j w1 w2 hcl' hext hiun hj hm x hx => ?_) fuel listed a w hcl (fun _ hk => hk) (Region.free_spec ho hk1.1.1) hri hy
        (wpAnyM_of_D hsel hQ L _ _ w fuel hk2 (hcl.set hri) hrest hf)
      have hall := List.all_eq_true.1 hk1.2
      obtain ⟨hjun, oj, hoj, hje⟩ := mem_ready.1 hj
      have hj' := hall j (List.mem_range.2 (Array.getElem?_eq_some_iff.1 hoj).1)
      simp only [Bool.or_eq_true] at hj'
      rcases hj' with (hj' | hj') | hj'
      · exact (hm hj').seq hx
      · have := hext j hj'; rw [getD_unlisted hjun] at this; cases this
      · have := waits_listed hcl' _ j i hj' (fun o ho e he hb => by rw [hoj] at ho; cases ho; exact hje e he hb)
        rw [getD_unlisted hiun] at this; cases this
    | 2 =>
      simp only [Bool.and_eq_true, beq_iff_eq] at hk1
      have hri : i ∈ Region.ready md ops listed := by rw [hk1.1]; simp
      exact single hk1.1 (wpOp_mono (fun a' w' h' => ⟨fun _ => h'.1, wpAnyM_of_D hsel hQ L _ a' w' fuel hk2 (hcl.set hri) h'.2 hf⟩) h)
    | k + 3 =>
      simp only [Bool.and_eq_true, beq_iff_eq, Bool.not_eq_true'] at hk1
      have hri : i ∈ Region.ready md ops listed := by rw [hk1.1]; simp
      exact single hk1.1 (wpOp_mono (fun a' w' h' => ⟨fun hc => (by rw [hk1.2] at hc; cases hc), wpAnyM_of_D hsel hQ L _ a' w' fuel hk2 (hcl.set hri) h' hf⟩) h)
def chkR (ops : Array Oper) (L : List (Nat × Nat)) : Bool := Region.noSelect ops && (L.length ≤ ops.size : Bool) && chkD .any ops (calmIn L) L (Array.replicate ops.size false)
/-- A region that draws its order: one order serves. -/
theorem wp_region_drawn {id : Nat} {a : Act} {w : World} {l : List Oper} (L : List (Nat × Nat)) (hm : P.follows .mixedOrders = true) (hc : chkR l.toArray L = true) (hQ : ∀ c a d v w, Q (.panic c) (Act.put a d v) w → Q (.panic c) a w)
    (h : wpD P l.toArray Q L a w.drew) : (Code.region id l.toArray true).wp P Q a w := by
  simp only [chkR, Bool.and_eq_true] at hc
  have hl : L.length ≤ l.toArray.size := by simpa using hc.1.2
  refine wp_region_any hm (wpAny_of_M (calm := calmIn L) _ _ _ _ (wpAnyM_of_D hc.1.1 hQ L _ a _ _ hc.2 (fun j o _ hj => ?_) h hl))
  have : (Array.replicate l.toArray.size false).getD j false = false := by
    rw [Array.getD_eq_getD_getElem?, Array.getElem?_replicate]
    split <;> rfl
  rw [this] at hj; cases hj

variable {a : Act} {w : World} {i : Nat} {o : Oper} {L : List (Nat × Nat)}
theorem D_nil (h : Q .normal a w) : wpD P ops Q [] a w := h
theorem D_pure {v : Value} (ho : ops[i]? = some o) (hg : Region.wanted o (yielded ops a.tmps) = true) (hr : ∀ w, (execOp a.eval o).run P w = .ok (.value v) w) (h : wpD P ops Q L (a.put o.dst v) w) : wpD P ops Q ((i, 0) :: L) a w :=
  ⟨o, v, ho, .inl ⟨hg, fun w _ => hr w⟩, h⟩
theorem D_skip {k : Nat} (ho : ops[i]? = some o) (hg : Region.wanted o (yielded ops a.tmps) = false) (h : wpD P ops Q L (a.put o.dst undef) w) : wpD P ops Q ((i, k) :: L) a w := by
  match k with
  | 0 => exact ⟨o, undef, ho, .inr ⟨hg, rfl⟩, h⟩
  | 1 => exact ⟨o, undef, ho, .inr ⟨hg, rfl⟩, h⟩
  | 2 => simp only [wpD, wpOp, ho, hg]; exact ⟨Mod.refl _ _, h⟩
  | k + 3 => simp only [wpD, wpOp, ho, hg]; exact h
theorem D_load {v : Value} (ho : ops[i]? = some o) (hg : Region.wanted o (yielded ops a.tmps) = true) (hr : ∀ x, Mod [] w x → Gives P o a x v) (h : wpD P ops Q L (a.put o.dst v) w) : wpD P ops Q ((i, 1) :: L) a w :=
  ⟨o, v, ho, .inl ⟨hg, hr⟩, h⟩
theorem D_calm {R : Value → World → Prop} (ho : ops[i]? = some o) (hg : Region.wanted o (yielded ops a.tmps) = true) (hd : Does P o a w R) (h : ∀ v w', R v w' → Mod [] w w' ∧ wpD P ops Q L (a.put o.dst v) w') : wpD P ops Q ((i, 2) :: L) a w := by
  simp only [wpD, wpOp, ho, hg, if_true]
  exact .inl (hd.wp h)
theorem D_loud {R : Value → World → Prop} (ho : ops[i]? = some o) (hg : Region.wanted o (yielded ops a.tmps) = true) (hd : Does P o a w R) (h : ∀ v w', R v w' → wpD P ops Q L (a.put o.dst v) w') : wpD P ops Q ((i, 3) :: L) a w := by
  simp only [wpD, wpOp, ho, hg, if_true]
  exact .inl (hd.wp h)
theorem D_call {f : FuncId} {args : Array Value} (ho : ops[i]? = some o) (hg : Region.wanted o (yielded ops a.tmps) = true) (hr : (execOp a.eval o).run P w = .ok (.enter f args) w)
    (h : Calls P f args w (fun e w' => ∃ v, e = .returned v ∧ Mod [] w w' ∧ wpD P ops Q L (a.put o.dst v) w')) : wpD P ops Q ((i, 2) :: L) a w := by
  simp only [wpD, wpOp, ho, hg, if_true]
  refine .inl ?_
  unfold Oper.wp
  rw [hr, Oper.upon_enter]
  refine h.mono ?_
  rintro e w' ⟨v, rfl, h1⟩
  exact h1
theorem D_callLoud {f : FuncId} {args : Array Value} (ho : ops[i]? = some o) (hg : Region.wanted o (yielded ops a.tmps) = true) (hr : (execOp a.eval o).run P w = .ok (.enter f args) w)
    (h : Calls P f args w (fun e w' => ∃ v, e = .returned v ∧ wpD P ops Q L (a.put o.dst v) w')) : wpD P ops Q ((i, 3) :: L) a w := by
  simp only [wpD, wpOp, ho, hg, if_true]
  refine .inl ?_
  unfold Oper.wp
  rw [hr, Oper.upon_enter]
  refine h.mono ?_
  rintro e w' ⟨v, rfl, h1⟩
  exact h1
end
end Go.Proofs.YthabgnhedmepjaaDoor
