/- Regions that draw their order: one walk in one order serves every order. Operations of four kinds: 0 yields one value in every world; 1 reads, its value stays while old blocks stay; 2 leaves old blocks alone; 3 whatever. No function of the program occurs here. -/
import Derived.Test.YtnbaekjednmfjaaDoorApnd
import Derived.OrdersHeld
import Derived.KernelRfl
section
namespace Go.Proofs.YtnbaekjednmfjaaDoor
open Go.RowKit

section
variable {P : Program} {ops : Array Oper} {Q : Exit → Act → World → Prop} {md : Region.Mode} {calm : Nat → Bool}
/-- Whatever order is picked from here on, and the calm operations leave old blocks alone. -/
def wpAnyM (P : Program) (md : Region.Mode) (ops : Array Oper) (Q : Exit → Act → World → Prop) (calm : Nat → Bool) : Nat → Array Bool → Act → World → Prop
  | 0, listed, a, w => Region.ready md ops listed = [] ∧ Q .normal a w
  | fuel + 1, listed, a, w =>
    (Region.ready md ops listed = [] → Q .normal a w) ∧
    ∀ i ∈ Region.ready md ops listed, wpOp P ops Q i (fun a' w' => (calm i = true → Mod [] w w') ∧ wpAnyM P md ops Q calm fuel (listed.setIfInBounds i true) a' w') a w
theorem wpAny_of_M : ∀ (fuel : Nat) (listed : Array Bool) (a : Act) (w : World), wpAnyM P md ops Q calm fuel listed a w → wpAny P md ops Q fuel listed a w
  | 0, _, _, _, h => h
  | fuel + 1, _, _, _, h => ⟨h.1, fun i hi => wpOp_mono (fun _ _ h' => wpAny_of_M fuel _ _ _ h'.2) (h.2 i hi)⟩
/-- What has come up, and what it waited for. -/
def ClosedL (md : Region.Mode) (ops : Array Oper) (listed : Array Bool) : Prop :=
  ∀ j o, ops[j]? = some o → listed.getD j false = true → ∀ e ∈ o.after, Region.binds md e = true → listed.getD e.on false = true
def waitsB (md : Region.Mode) (ops : Array Oper) : Nat → Nat → Nat → Bool
  | 0, _, _ => false
  | n + 1, j, i => match ops[j]? with
    | none => false
    | some o => o.after.any fun e => Region.binds md e && (e.on == i || waitsB md ops n e.on i)
theorem getD_unlisted {listed : Array Bool} {i : Nat} (h : listed.getD i true = false) : listed.getD i false = false := by
  rcases Nat.lt_or_ge i listed.size with h' | h'
  · simpa [h'] using h
  · simp [Array.getElem?_eq_none h'] at h
theorem waits_listed {listed : Array Bool} (hc : ClosedL md ops listed) : ∀ (n j i : Nat), waitsB md ops n j i = true → (∀ o, ops[j]? = some o → ∀ e ∈ o.after, Region.binds md e = true → listed.getD e.on false = true) → listed.getD i false = true
  | 0, _, _, h, _ => by simp [waitsB] at h
  | n + 1, j, i, h, hall => by
    unfold waitsB at h
    cases hj : ops[j]? with
    | none => rw [hj] at h; simp at h
    | some o =>
      rw [hj] at h
      obtain ⟨e, he, hb⟩ := Array.any_eq_true'.1 h
      simp only [Bool.and_eq_true, Bool.or_eq_true, beq_iff_eq] at hb
      have hl := hall o hj e he hb.1
      rcases hb.2 with rfl | hw
      · exact hl
      · exact waits_listed hc n e.on i hw (fun o ho e' he' hb' => hc e.on o ho hl e' he' hb')
theorem ClosedL.set {listed : Array Bool} (hc : ClosedL md ops listed) {j : Nat} (hj : j ∈ Region.ready md ops listed) : ClosedL md ops (listed.setIfInBounds j true) := by
  intro k o ho hk e he hb
  by_cases h : j = k
  · subst h
    obtain ⟨_, o', ho', hall⟩ := mem_ready.1 hj
    rw [ho] at ho'
    cases ho'
    exact getD_set_true (hall e he hb)
  · rw [getD_set_ne false h] at hk
    exact getD_set_true (hc k o ho hk e he hb)
theorem YieldsIf.imp {S S' : World → Prop} {o : Oper} {v : Value} {a : Act} (h : YieldsIf P ops S o v a) (hs : ∀ w, S' w → S w) : YieldsIf P ops S' o v a :=
  Or.imp (fun ⟨hw, hv⟩ => ⟨hw, fun w hw' => hv w (hs w hw')⟩) id h
/-- An operation that may come up now may be taken first. -/
theorem wpAnyM_first {C : World → World → Prop} {i : Nat} {oi : Oper} {v : Value} {listed : Array Bool} (hi : ops[i]? = some oi) (hsel : ∀ (j : Nat) (o : Oper) cs b, ops[j]? = some o → o.op ≠ .select cs b)
    (hQ : ∀ c a d v w, Q (.panic c) (Act.put a d v) w → Q (.panic c) a w) (hC0 : ∀ w, C w w)
    (hC : ∀ (listed' : Array Bool) (j : Nat) (w w' : World), ClosedL md ops listed' → (∀ k, listed.getD k false = true → listed'.getD k false = true) → listed'.getD i true = false → j ∈ Region.ready md ops listed' → (calm j = true → Mod [] w w') → ∀ x, C w' x → C w x) :
    ∀ (fuel : Nat) (listed' : Array Bool) (a : Act) (w : World), ClosedL md ops listed' → (∀ k, listed.getD k false = true → listed'.getD k false = true) →
      (∀ j oj, ops[j]? = some oj → j ≠ i → listed'.getD j true = false → (∀ e ∈ oj.after, Region.binds md e = true → e.on ≠ i) → oi.apart ops oj = true) →
      i ∈ Region.ready md ops listed' → YieldsIf P ops (C w) oi v a →
      wpAnyM P md ops Q calm fuel (listed'.setIfInBounds i true) (a.put oi.dst v) w → wpAnyM P md ops Q calm (fuel + 1) listed' a w := by
  intro fuel
  induction fuel with
  | zero =>
    intro listed' a w hcl hext _ hr hy H
    refine ⟨fun h => (by rw [h] at hr; cases hr), fun j hj => ?_⟩
    by_cases hji : j = i
    · subst hji; exact hy.wpOp hi (hC0 w) ⟨fun _ => Mod.refl _ _, H⟩
    · have := ready_mono hj hji
      rw [H.1] at this
      cases this
  | succ fuel ih =>
    intro listed' a w hcl hext hfree hr hy H
    refine ⟨fun h => (by rw [h] at hr; cases hr), fun j hj => ?_⟩
    by_cases hji : j = i
    · subst hji; exact hy.wpOp hi (hC0 w) ⟨fun _ => Mod.refl _ _, H⟩
    · have h1 := H.2 j (ready_mono hj hji)
      obtain ⟨hjun, oj, hoj, hall⟩ := mem_ready.1 hj
      have hiun := (mem_ready.1 hr).1
      have hnot : ∀ e ∈ oj.after, Region.binds md e = true → e.on ≠ i := fun e he hb heq => by
        have h1 := hall e he hb
        rw [heq, getD_unlisted hiun] at h1
        cases h1
      have h2 := wpOp_putIf hoj (hfree j oj hoj hji hjun hnot) (fun cs b => hsel i oi cs b hi) (fun cs b => hsel j oj cs b hoj) (fun c a w => hQ c a _ _ w) hy h1
      have hfree' : ∀ k ok, ops[k]? = some ok → k ≠ i → (listed'.setIfInBounds j true).getD k true = false →
          (∀ e ∈ ok.after, Region.binds md e = true → e.on ≠ i) → oi.apart ops ok = true := fun k ok hk hki hun hno => by
        refine hfree k ok hk hki ?_ hno
        by_cases hjk : j = k
        · subst hjk; exact hjun
        · rw [getD_set_ne true hjk] at hun; exact hun
      refine wpOp_mono (fun a' w' h3 => ⟨h3.2.1, ih (listed'.setIfInBounds j true) a' w' (hcl.set hj) (fun k hk => getD_set_true (hext k hk)) hfree' (ready_mono hr (Ne.symm hji)) (YieldsIf.imp h3.1 (fun x hx => hC listed' j w w' hcl hext hiun hj h3.2.1 x hx)) ?_⟩) h2
      rw [Array.setIfInBounds_comm _ _ hji]
      exact h3.2.2

/-! ### The walk -/
/-- The operations in one order, each with its kind. -/
def wpD (P : Program) (ops : Array Oper) (Q : Exit → Act → World → Prop) : List (Nat × Nat) → Act → World → Prop
  | [], a, w => Q .normal a w
  | (i, 0) :: L, a, w => ∃ o v, ops[i]? = some o ∧ YieldsIf P ops (fun _ => True) o v a ∧ wpD P ops Q L (a.put o.dst v) w
  | (i, 1) :: L, a, w => ∃ o v, ops[i]? = some o ∧ YieldsIf P ops (Mod [] w) o v a ∧ wpD P ops Q L (a.put o.dst v) w
  | (i, 2) :: L, a, w => wpOp P ops Q i (fun a' w' => Mod [] w w' ∧ wpD P ops Q L a' w') a w
  | (i, _) :: L, a, w => wpOp P ops Q i (fun a' w' => wpD P ops Q L a' w') a w
def calmIn (L : List (Nat × Nat)) (j : Nat) : Bool := !L.contains (j, 3)
def chkD (md : Region.Mode) (ops : Array Oper) (calm : Nat → Bool) : List (Nat × Nat) → Array Bool → Bool
  | [], listed => Region.ready md ops listed == []
  | (i, k) :: L, listed =>
    (match k with
     | 0 => Region.free md ops listed i && (Region.ready md ops listed).contains i
     | 1 => Region.free md ops listed i && (Region.ready md ops listed).contains i && (List.range ops.size).all fun j => calm j || listed.getD j false || waitsB md ops ops.size j i
     | 2 => (Region.ready md ops listed == [i]) && calm i
     | _ => (Region.ready md ops listed == [i]) && !calm i) && chkD md ops calm L (listed.setIfInBounds i true)
theorem wpAnyM_of_D (hsel : Region.noSelect ops = true) (hQ : ∀ c a d v w, Q (.panic c) (Act.put a d v) w → Q (.panic c) a w) : ∀ (L : List (Nat × Nat)) (listed : Array Bool) (a : Act) (w : World) (fuel : Nat),
    chkD md ops calm L listed = true → ClosedL md ops listed → wpD P ops Q L a w → L.length ≤ fuel → wpAnyM P md ops Q calm fuel listed a w
  | [], listed, a, w, fuel, hk, _, h, _ => by
    have hr : Region.ready md ops listed = [] := by simpa [chkD] using hk
    cases fuel with
    | zero => exact ⟨hr, h⟩
    | succ fuel => exact ⟨fun _ => h, by rw [hr]; simp⟩
  | (i, k) :: L, listed, a, w, 0, _, _, _, hf => by simp at hf
  | (i, k) :: L, listed, a, w, fuel + 1, hk, hcl, h, hf => by
    simp only [List.length_cons, Nat.add_le_add_iff_right] at hf
    unfold chkD at hk
    rw [Bool.and_eq_true] at hk
    obtain ⟨hk1, hk2⟩ := hk
    have single : Region.ready md ops listed = [i] → wpOp P ops Q i (fun a' w' => (calm i = true → Mod [] w w') ∧ wpAnyM P md ops Q calm fuel (listed.setIfInBounds i true) a' w') a w → wpAnyM P md ops Q calm (fuel + 1) listed a w := fun hr hw =>
      ⟨fun h0 => (by rw [hr] at h0; cases h0), by rw [hr]; simpa using hw⟩
    match k with
    | 0 =>
      simp only [Bool.and_eq_true] at hk1
      obtain ⟨o, v, ho, hy, hrest⟩ := h
      have hri : i ∈ Region.ready md ops listed := by simpa using hk1.2
      exact wpAnyM_first (C := fun _ _ => True) (listed := listed) ho (Region.noSelect_spec hsel) hQ (fun _ => trivial) (fun _ _ _ _ _ _ _ _ _ _ _ => trivial) fuel listed a w hcl (fun _ hk => hk) (Region.free_spec ho hk1.1) hri hy
        (wpAnyM_of_D hsel hQ L _ _ w fuel hk2 (hcl.set hri) hrest hf)
    | 1 =>
      simp only [Bool.and_eq_true] at hk1
      obtain ⟨o, v, ho, hy, hrest⟩ := h
      have hri : i ∈ Region.ready md ops listed := by simpa using hk1.1.2
      refine wpAnyM_first (C := fun w x => Mod [] w x) (listed := listed) ho (Region.noSelect_spec hsel) hQ (fun _ => Mod.refl _ _) (fun listed' j w1 w2 hcl' hext hiun hj hm x hx => ?_) fuel listed a w hcl (fun _ hk => hk) (Region.free_spec ho hk1.1.1) hri hy
        (wpAnyM_of_D hsel hQ L _ _ w fuel hk2 (hcl.set hri) hrest hf)
      have hall := List.all_eq_true.1 hk1.2
      obtain ⟨hjun, oj, hoj, hje⟩ := mem_ready.1 hj
      have hj' := hall j (List.mem_range.2 (Array.getElem?_eq_some_iff.1 hoj).1)
      simp only [Bool.or_eq_true] at hj'
      rcases hj' with (hj' | hj') | hj'
      · exact (hm hj').seq hx
      · have := hext j hj'; rw [getD_unlisted hjun] at this; cases this
      · have := waits_listed hcl' _ j i hj' (fun o ho e he hb => by rw [hoj] at ho; cases ho; exact hje e he hb)
        rw [getD_unlisted hiun] at this; cases this
    | 2 =>
      simp only [Bool.and_eq_true, beq_iff_eq] at hk1
      have hri : i ∈ Region.ready md ops listed := by rw [hk1.1]; simp
      exact single hk1.1 (wpOp_mono (fun a' w' h' => ⟨fun _ => h'.1, wpAnyM_of_D hsel hQ L _ a' w' fuel hk2 (hcl.set hri) h'.2 hf⟩) h)
    | k + 3 =>
      simp only [Bool.and_eq_true, beq_iff_eq, Bool.not_eq_true'] at hk1
      have hri : i ∈ Region.ready md ops listed := by rw [hk1.1]; simp
      exact single hk1.1 (wpOp_mono (fun a' w' h' => ⟨fun hc => (by rw [hk1.2] at hc; cases hc), wpAnyM_of_D hsel hQ L _ a' w' fuel hk2 (hcl.set hri) h' hf⟩) h)
def chkR (ops : Array Oper) (L : List (Nat × Nat)) : Bool := Region.noSelect ops && (L.length ≤ ops.size : Bool) && chkD .any ops (calmIn L) L (Array.replicate ops.size false)
/-- A region that draws its order: one order serves. -/
theorem wp_region_drawn {id : Nat} {a : Act} {w : World} {l : List Oper} (L : List (Nat × Nat)) (hm : P.follows .mixedOrders = true) (hc : chkR l.toArray L = true) (hQ : ∀ c a d v w, Q (.panic c) (Act.put a d v) w → Q (.panic c) a w)
    (h : wpD P l.toArray Q L a w.drew) : (Code.region id l.toArray true).wp P Q a w := by
  simp only [chkR, Bool.and_eq_true] at hc
  have hl : L.length ≤ l.toArray.size := by simpa using hc.1.2
  refine wp_region_any hm (wpAny_of_M (calm := calmIn L) _ _ _ _ (wpAnyM_of_D hc.1.1 hQ L _ a _ _ hc.2 (fun j o _ hj => ?_) h hl))
  have : (Array.replicate l.toArray.size false).getD j false = false := by
    rw [Array.getD_eq_getD_getElem?, Array.getElem?_replicate]
    split <;> rfl
  rw [this] at hj; cases hj

variable {a : Act} {w : World} {i : Nat} {o : Oper} {L : List (Nat × Nat)}
theorem D_nil (h : Q .normal a w) : wpD P ops Q [] a w := h
theorem D_pure {v : Value} (ho : ops[i]? = some o) (hg : Region.wanted o (yielded ops a.tmps) = true) (hr : ∀ w, (execOp a.eval o).run P w = .ok (.value v) w) (h : wpD P ops Q L (a.put o.dst v) w) : wpD P ops Q ((i, 0) :: L) a w :=
  ⟨o, v, ho, .inl ⟨hg, fun w _ => hr w⟩, h⟩
theorem D_skip {k : Nat} (ho : ops[i]? = some o) (hg : Region.wanted o (yielded ops a.tmps) = false) (h : wpD P ops Q L (a.put o.dst undef) w) : wpD P ops Q ((i, k) :: L) a w := by
  match k with
  | 0 => exact ⟨o, undef, ho, .inr ⟨hg, rfl⟩, h⟩
  | 1 => exact ⟨o, undef, ho, .inr ⟨hg, rfl⟩, h⟩
  | 2 => simp only [wpD, wpOp, ho, hg]; exact ⟨Mod.refl _ _, h⟩
  | k + 3 => simp only [wpD, wpOp, ho, hg]; exact h
theorem D_load {v : Value} (ho : ops[i]? = some o) (hg : Region.wanted o (yielded ops a.tmps) = true) (hr : ∀ x, Mod [] w x → Gives P o a x v) (h : wpD P ops Q L (a.put o.dst v) w) : wpD P ops Q ((i, 1) :: L) a w :=
  ⟨o, v, ho, .inl ⟨hg, hr⟩, h⟩
theorem D_calm {R : Value → World → Prop} (ho : ops[i]? = some o) (hg : Region.wanted o (yielded ops a.tmps) = true) (hd : Does P o a w R) (h : ∀ v w', R v w' → Mod [] w w' ∧ wpD P ops Q L (a.put o.dst v) w') : wpD P ops Q ((i, 2) :: L) a w := by
  simp only [wpD, wpOp, ho, hg, if_true]
  exact .inl (hd.wp h)
theorem D_loud {R : Value → World → Prop} (ho : ops[i]? = some o) (hg : Region.wanted o (yielded ops a.tmps) = true) (hd : Does P o a w R) (h : ∀ v w', R v w' → wpD P ops Q L (a.put o.dst v) w') : wpD P ops Q ((i, 3) :: L) a w := by
  simp only [wpD, wpOp, ho, hg, if_true]
  exact .inl (hd.wp h)
theorem D_call {f : FuncId} {args : Array Value} (ho : ops[i]? = some o) (hg : Region.wanted o (yielded ops a.tmps) = true) (hr : (execOp a.eval o).run P w = .ok (.enter f args) w)
    (h : Calls P f args w (fun e w' => ∃ v, e = .returned v ∧ Mod [] w w' ∧ wpD P ops Q L (a.put o.dst v) w')) : wpD P ops Q ((i, 2) :: L) a w := by
  simp only [wpD, wpOp, ho, hg, if_true]
  refine .inl ?_
  unfold Oper.wp
  rw [hr, Oper.upon_enter]
  refine h.mono ?_
  rintro e w' ⟨v, rfl, h1⟩
  exact h1
theorem D_callLoud {f : FuncId} {args : Array Value} (ho : ops[i]? = some o) (hg : Region.wanted o (yielded ops a.tmps) = true) (hr : (execOp a.eval o).run P w = .ok (.enter f args) w)
    (h : Calls P f args w (fun e w' => ∃ v, e = .returned v ∧ wpD P ops Q L (a.put o.dst v) w')) : wpD P ops Q ((i, 3) :: L) a w := by
  simp only [wpD, wpOp, ho, hg, if_true]
  refine .inl ?_
  unfold Oper.wp
  rw [hr, Oper.upon_enter]
  refine h.mono ?_
  rintro e w' ⟨v, rfl, h1⟩
  exact h1
end
end Go.Proofs.YtnbaekjednmfjaaDoor
end

section
namespace Go.Proofs.YtnbaekjednmfjaaDoor
open Go.RowKit

/-- Fact number i of Γ is the box b. -/
class BoxAt (Γ : List Fact) (b : Nat) (cs : outParam (List Value)) (i : outParam Nat) : Prop where
  get : Γ[i]? = some (.box b cs)
instance (priority := high) BoxAt.here (Γ : List Fact) (b : Nat) (cs : List Value) : BoxAt (.box b cs :: Γ) b cs 0 := ⟨rfl⟩
instance (priority := low) BoxAt.there (f : Fact) (Γ : List Fact) (b : Nat) (cs : List Value) (i : Nat) [h : BoxAt Γ b cs i] : BoxAt (f :: Γ) b cs (i + 1) := ⟨by simpa using h.get⟩
/-- Fact number i of Γ says what lies at ad. -/
class CellsIn (Γ : List Fact) (ad : Addr) (cs : outParam (List Value)) (i : outParam Nat) : Prop where
  get : Γ[i]? = some (.at ad cs)
instance (priority := high) CellsIn.here (Γ : List Fact) (ad : Addr) (cs : List Value) : CellsIn (.at ad cs :: Γ) ad cs 0 := ⟨rfl⟩
instance (priority := low) CellsIn.there (f : Fact) (Γ : List Fact) (ad : Addr) (cs : List Value) (i : Nat) [h : CellsIn Γ ad cs i] : CellsIn (f :: Γ) ad cs (i + 1) := ⟨by simpa using h.get⟩
/-- Fact number i of Γ is a datum of one's own in the cells cs. -/
class OwnIn {α : Type} (Γ : List Fact) (e : Rep α) (cs : List Value) (x : outParam α) (i : outParam Nat) : Prop where
  get : Γ[i]? = some (.own e cs x)
instance (priority := high) OwnIn.here {α : Type} (Γ : List Fact) (e : Rep α) (cs : List Value) (x : α) : OwnIn (.own e cs x :: Γ) e cs x 0 := ⟨rfl⟩
instance (priority := low) OwnIn.there {α : Type} (f : Fact) (Γ : List Fact) (e : Rep α) (cs : List Value) (x : α) (i : Nat) [h : OwnIn Γ e cs x i] : OwnIn (f :: Γ) e cs x (i + 1) := ⟨by simpa using h.get⟩
/-- Fact number i of Γ is a datum that nobody writes in the cells cs. -/
class RoIn {α : Type} (Γ : List Fact) (e : Rep α) (cs : List Value) (x : outParam α) (i : outParam Nat) : Prop where
  get : Γ[i]? = some (.ro e cs x)
instance (priority := high) RoIn.here {α : Type} (Γ : List Fact) (e : Rep α) (cs : List Value) (x : α) : RoIn (.ro e cs x :: Γ) e cs x 0 := ⟨rfl⟩
instance (priority := low) RoIn.there {α : Type} (f : Fact) (Γ : List Fact) (e : Rep α) (cs : List Value) (x : α) (i : Nat) [h : RoIn Γ e cs x i] : RoIn (f :: Γ) e cs x (i + 1) := ⟨by simpa using h.get⟩
/-- Some fact of Γ reads as e in the cells cs. -/
class HasIn {α : Type} (Γ : List Fact) (e : Rep α) (cs : List Value) (x : outParam α) : Prop where
  has : ∀ {w0 w : World}, Sat w0 w Γ → ∃ F, e.has w F cs x
instance (priority := high) HasIn.own {α : Type} (Γ : List Fact) (e e' : Rep α) [Sub e' e] (cs : List Value) (x : α) : HasIn (.own e' cs x :: Γ) e cs x := ⟨fun h => h.readOwn e⟩
instance (priority := high) HasIn.ro {α : Type} (Γ : List Fact) (e e' : Rep α) [k : Sub e' e] (cs : List Value) (x : α) : HasIn (.ro e' cs x :: Γ) e cs x := ⟨fun h => let ⟨F, hF⟩ := h.readRo; ⟨F, k.imp hF⟩⟩
instance (priority := low) HasIn.there {α : Type} (f : Fact) (Γ : List Fact) (e : Rep α) (cs : List Value) (x : α) [h : HasIn Γ e cs x] : HasIn (f :: Γ) e cs x := ⟨fun h' => h.has h'.drop⟩

section
variable {P : Program} {o : Oper} {a : Act} {w w0 w' : World} {K : Act → World → Prop} {Q : Exit → Act → World → Prop} {ops : Array Oper} {rest : List Oper} {Γ : List Fact} {α : Type} {e : Rep α}
theorem Sat.has (e : Rep α) (cs : List Value) {x : α} (h : Sat w0 w Γ) [k : HasIn Γ e cs x] : ∃ F, e.has w F cs x := k.has h
theorem f_load {T : TypeId} {z : Value} {p : Operand} {b off i : Nat} {cs : List Value} {u : Value} (hS : Sat w0 w Γ) (ho : o.op = .load T p) (hp : a.eval p = .pointer (some ⟨b, off, none⟩)) [hi : BoxAt Γ b cs i] [hT : Ty P T z 1 false] (hu : cs[off]? = some u) : Gives P o a w u :=
  does_load i hS ho hp hi.get hu
theorem f_loadS {T : TypeId} {z : Value} {p : Operand} {b n i : Nat} {cs : List Value} (hS : Sat w0 w Γ) (ho : o.op = .load T p) (hp : a.eval p = .pointer (some ⟨b, 0, none⟩)) [hi : BoxAt Γ b cs i] [hT : Ty P T z n true] (hl : cs.length = n) : Gives P o a w (.agg cs.toArray) :=
  does_loadS i hS ho hp hi.get hl
theorem f_loadAt {T : TypeId} {z : Value} {p : Operand} {ad : Addr} {u : Value} {cs : List Value} {i : Nat} (hS : Sat w0 w Γ) (ho : o.op = .load T p) (hp : a.eval p = .pointer (some ad)) [hi : CellsIn Γ ad (u :: cs) i] [hT : Ty P T z 1 false] : Gives P o a w u :=
  does_loadAt i hS ho hp hi.get
theorem f_loadAtS {T : TypeId} {z : Value} {p : Operand} {ad : Addr} {n i : Nat} {cs : List Value} (hS : Sat w0 w Γ) (ho : o.op = .load T p) (hp : a.eval p = .pointer (some ad)) [hi : CellsIn Γ ad cs i] [hT : Ty P T z n true] (hl : cs.length = n) : Gives P o a w (.agg cs.toArray) :=
  does_loadAtS i hS ho hp hi.get hl
theorem f_loadAtF {T : TypeId} {z : Value} {p : Operand} {ad : Addr} {j i : Nat} {u : Value} {cs : List Value} (hS : Sat w0 w Γ) (ho : o.op = .load T p) (hp : a.eval p = .pointer (some ⟨ad.block, ad.off + (j + 1), none⟩)) [hi : CellsIn Γ ad cs i] [hT : Ty P T z 1 false] (hu : cs[j + 1]? = some u) : Gives P o a w u :=
  does_loadAtF i hS ho hp hi.get hu
theorem f_store {T : TypeId} {z : Value} {p x : Operand} {b off i : Nat} {cs : List Value} {u old : Value} (hS : Sat w0 w Γ) (ho : o.op = .store T p x) (hp : a.eval p = .pointer (some ⟨b, off, none⟩)) (hx : a.eval x = u) [hi : BoxAt Γ b cs i] [hT : Ty P T z 1 false] (hu : u.oneCell' = true) (hold : cs[off]? = some old) :
    Does P o a w (fun v w' => v = undef ∧ Sat w0 w' (Γ.set i (.box b (cs.set off u)))) := does_store i hS ho hp hx hi.get hu hold
theorem f_storeS {T : TypeId} {z : Value} {p x : Operand} {b n i : Nat} {cs : List Value} {us : Array Value} (hS : Sat w0 w Γ) (ho : o.op = .store T p x) (hp : a.eval p = .pointer (some ⟨b, 0, none⟩)) (hx : a.eval x = .agg us) [hi : BoxAt Γ b cs i] [hT : Ty P T z n true] (h1' : us.toList.all (·.oneCell') = true) (hn : us.size = n) (hl : cs.length = n) :
    Does P o a w (fun v w' => v = undef ∧ Sat w0 w' (Γ.set i (.box b us.toList))) := does_storeS i hS ho hp hx hi.get h1' hn hl
theorem f_append {T E : TypeId} {z : Value} {by_ : Nat} {ag : Bool} {s x : Operand} {A : Option Addr} {n c m m' b sz i : Nat} {news : List Value} {xs ys : List α} (e : Rep α) (hS : Sat w0 w (.own (e.vec m) news ys :: .box b news :: Γ))
    (ho : o.op = .call { callee := .builtin .append, args := #[s, x], argTypes := #[T, T] }) (hs : a.eval s = .slice A n c) (hx : a.eval x = .slice (some ⟨b, 0, none⟩) m m')
    [hi : OwnIn Γ e.rows [.slice A n c] xs i] [hT : SlTy P T E] [hE : Ty P E z sz ag] [hB : ByTy P E by_] (hsz : sz = e.size) (hzs : z.cells.size = sz) (hby : by_ ≤ 100000) (h30 : n + m ≤ 1073741824) :
    Does P o a w (fun v w' => ∃ A' c', v = .slice A' (n + m) c' ∧ Sat w0 w' (Γ.set i (.own e.rows [.slice A' (n + m) c'] (xs ++ ys)))) := does_append i hS ho hs hx hi.get hsz hzs hby h30
theorem f_appendFlat {T E : TypeId} {z : Value} {by_ : Nat} {ag : Bool} {s x : Operand} {A A2 : Option Addr} {n c m c2 sz i : Nat} {xs ys : List α} (e e' : Rep α) [hf : Flat e' e] (hS : Sat w0 w Γ)
    (ho : o.op = .call { callee := .builtin .append, args := #[s, x], argTypes := #[T, T] }) (hs : a.eval s = .slice A n c) (hx : a.eval x = .slice A2 m c2) [hy : HasIn Γ e'.slice [.slice A2 m c2] ys]
    [hi : OwnIn Γ e.rows [.slice A n c] xs i] [hT : SlTy P T E] [hE : Ty P E z sz ag] [hB : ByTy P E by_] (hs' : e'.size = e.size) (hsz : sz = e.size) (hzs : z.cells.size = sz) (hby : by_ ≤ 100000) (h30 : n + m ≤ 1073741824) :
    Does P o a w (fun v w' => ∃ A' c', v = .slice A' (n + m) c' ∧ Sat w0 w' (Γ.set i (.own e.rows [.slice A' (n + m) c'] (xs ++ ys)))) := does_appendFlat i hS e' (hy.has hS) hs' ho hs hx hi.get hsz hzs hby h30
theorem f_appendRow {T E : TypeId} {z : Value} {by_ : Nat} {ag : Bool} {s x : Operand} {A A2 : Option Addr} {n c m c2 sz i : Nat} {xs ys : List α} (e : Rep α) (hS : Sat w0 w (.own e.rows [.slice A2 m c2] ys :: Γ))
    (ho : o.op = .call { callee := .builtin .append, args := #[s, x], argTypes := #[T, T] }) (hs : a.eval s = .slice A n c) (hx : a.eval x = .slice A2 m c2)
    [hi : OwnIn Γ e.rows [.slice A n c] xs i] [hT : SlTy P T E] [hE : Ty P E z sz ag] [hB : ByTy P E by_] (hsz : sz = e.size) (hzs : z.cells.size = sz) (hby : by_ ≤ 100000) (h30 : n + m ≤ 1073741824) :
    Does P o a w (fun v w' => ∃ A' c', v = .slice A' (n + m) c' ∧ Sat w0 w' (Γ.set i (.own e.rows [.slice A' (n + m) c'] (xs ++ ys)))) := does_appendRow i hS ho hs hx hi.get hsz hzs hby h30
theorem f_loadRow {T : TypeId} {z : Value} {p : Operand} {g off n c k i : Nat} {xs : List Int} {x : Int} (hS : Sat w0 w Γ) (ho : o.op = .load T p) (hp : a.eval p = .pointer (some ⟨g, off + k, none⟩)) [hi : OwnIn Γ Rep.int.rows [.slice (some ⟨g, off, none⟩) n c] xs i] [hT : Ty P T z 1 false] (hx : xs[k]? = some x) : Gives P o a w (.int .i64 x) := by
  obtain ⟨⟨u, Fu, hc, -, hu, -⟩, -⟩ := hS.rowCell i hi.get rfl hx
  simp only [List.cons.injEq, and_true] at hu
  subst hu
  unfold Gives execOp
  simp [ho, hp, run_load1 hT hc]
/-- A datum of one's own to the front. -/
theorem Sat.front (e : Rep α) (cs : List Value) {x : α} {i : Nat} (h : Sat w0 w Γ) [hi : OwnIn Γ e cs x i] : Sat w0 w (.own e cs x :: Γ.eraseIdx i) := h.pull i hi.get
theorem Sat.mark (e : Rep α) (cs : List Value) {x : α} {i : Nat} (h : Sat w0 w Γ) [hi : OwnIn Γ e cs x i] : ∃ F, e.has w F cs x ∧ Good w F ∧ ∀ w' x', e.has w' F cs x' → Good w' F → Mod F w w' → Sat w0 w' (Γ.set i (.own e cs x')) := h.markAt i hi.get
variable {n c k i : Nat}
/-- Element k of a slice that nobody writes, found by its header. -/
theorem Sat.elInt {xs : List Int} (A : Option Addr) (n c : Nat) (h : Sat w0 w Γ) [hi : RoIn Γ Rep.int.slice [.slice A n c] xs i] {x : Int} (hx : xs[k]? = some x) : ∃ ad, A = some ad ∧ I64 x ∧ Sat w0 w (.at (ad.add k) [.int .i64 x] :: Γ) := h.elemInt i hi.get hx
theorem Sat.elBool {xs : List Bool} (A : Option Addr) (n c : Nat) (h : Sat w0 w Γ) [hi : RoIn Γ Rep.bool.slice [.slice A n c] xs i] {x : Bool} (hx : xs[k]? = some x) : ∃ ad, A = some ad ∧ Sat w0 w (.at (ad.add k) [.bool x] :: Γ) := h.elemBool i hi.get hx
theorem Sat.elStr {xs : List ByteArray} (A : Option Addr) (n c : Nat) (h : Sat w0 w Γ) [hi : RoIn Γ Rep.str.slice [.slice A n c] xs i] {x : ByteArray} (hx : xs[k]? = some x) : ∃ ad, A = some ad ∧ x.size ≤ maxLen ∧ Sat w0 w (.at (ad.add k) [.string x] :: Γ) := h.elemStr i hi.get hx
theorem Sat.elU8 {xs : List UInt8} (A : Option Addr) (n c : Nat) (h : Sat w0 w Γ) [hi : RoIn Γ Rep.u8.slice [.slice A n c] xs i] {x : UInt8} (hx : xs[k]? = some x) : ∃ ad, A = some ad ∧ Sat w0 w (.at (ad.add k) [.int .u8 x.toNat] :: Γ) := h.elemU8 i hi.get hx
theorem Sat.elSlice {xs : List (List α)} (e : Rep α) (A : Option Addr) (n c : Nat) (h : Sat w0 w Γ) [hi : RoIn Γ e.slice.slice [.slice A n c] xs i] {x : List α} (hx : xs[k]? = some x) :
    ∃ ad A' c', A = some ad ∧ x.length ≤ c' ∧ c' ≤ maxLen ∧ Sat w0 w (.at (ad.add k) [.slice A' x.length c'] :: .ro e.slice [.slice A' x.length c'] x :: Γ) := h.elemSlice i hi.get hx
theorem Sat.el {xs : List α} (e : Rep α) (A : Option Addr) (n c : Nat) (h : Sat w0 w Γ) [hi : RoIn Γ e.slice [.slice A n c] xs i] {x : α} (hx : xs[k]? = some x) :
    ∃ ad ck, A = some ad ∧ ck.length = e.size ∧ Sat w0 w (.at (ad.add (k * e.size)) ck :: .ro e ck x :: Γ) := h.elem i hi.get hx
end
end Go.Proofs.YtnbaekjednmfjaaDoor
end

section
namespace Go.Proofs.YtnbaekjednmfjaaDoor
open Go.RowKit

/-- What lies at an address, as a datum. -/
def Rep.cellR (ad : Addr) : Rep (List Value) where
  size := 0
  has w F cs x := cs = [] ∧ F = [ad.block] ∧ ad.block < w.heap.size ∧ CellsAt w ad x
  len h := by rw [h.1]; rfl
  keep := by
    rintro w w' F cs x ⟨h1, rfl, h3, h4⟩ hk
    have hb : w'.heap[ad.block]? = w.heap[ad.block]? := hk _ (by simp)
    refine ⟨h1, rfl, ?_, h4.keep hb⟩
    rw [Array.getElem?_eq_getElem h3] at hb
    exact (Array.getElem?_eq_some_iff.1 hb).1
  lt h := by
    obtain ⟨_, rfl, h3, _⟩ := h
    simpa using h3
  one h := by rw [h.1]; simp
theorem Sat.argAt {w0 w : World} {Γ : List Fact} {F : List Nat} {ad : Addr} {cs : List Value} (h : Sat w0 w Γ) (hx : (Rep.cellR ad).has w0 F [] cs) : Sat w0 w (.at ad cs :: Γ) := by
  obtain ⟨R, O, ⟨O1, O2, rfl, ⟨rfl, F', ⟨_, rfl, _, hc⟩, hR⟩, k2⟩, h2, h3, h4, h5⟩ := h.arg hx
  exact ⟨R, _, ⟨[], O2, rfl, ⟨rfl, hR _ (by simp), hc⟩, k2⟩, h2, h3, h4, h5⟩
theorem Sat.boxR {w0 w : World} {Γ : List Fact} {b i : Nat} {cs : List Value} (h : Sat w0 w Γ) (hi : Γ[i]? = some (.box b cs)) : (Rep.cellR ⟨b, 0, none⟩).has w [b] [] cs := by
  have h1 := h.pull i hi
  refine ⟨rfl, rfl, ?_, fun j u hu => ?_⟩
  · obtain ⟨R, O, ⟨O1, O2, rfl, ⟨rfl, t, k1⟩, k2⟩, _⟩ := h1
    exact (Array.getElem?_eq_some_iff.1 k1).1
  · have := h1.cellAt hu
    rw [show Addr.add ⟨b, 0, none⟩ j = ⟨b, j, none⟩ by by_cases hj : j = 0 <;> simp [Addr.add, hj]]
    exact this

theorem cellR_of {w : World} {b o : Nat} {u : Value} (h : w.cell? ⟨b, o, none⟩ = some u) : (Rep.cellR ⟨b, o, none⟩).has w [b] [] [u] := by
  refine ⟨rfl, rfl, World.block_lt_of_cell? _ _ h, fun j v hv => ?_⟩
  match j, hv with
  | 0, hv =>
    simp only [List.getElem?_cons_zero, Option.some.injEq] at hv
    subst hv
    simpa [Addr.add] using h
  | j + 1, hv => simp at hv
section
variable {P : Program} {o : Oper} {a : Act} {w0 w : World} {Γ : List Fact} {α : Type}
theorem f_slice {T E : TypeId} {z : Value} {ag : Bool} {x : Operand} {lo hi : Option Operand} {A : Option Addr} {n c sz i : Nat} {xs : List α} (e : Rep α) (l h : Nat) (hS : Sat w0 w Γ) (ho : o.op = .slice T x lo hi none) (hx : a.eval x = .slice A n c) [hi' : RoIn Γ e.slice [.slice A n c] xs i]
    (hlo : BoundIs a lo 0 l) (hhi : BoundIs a hi n h) (h1 : l ≤ h) (h2 : h ≤ n) [hT : SlTy P T E] [hE : Ty P E z sz ag] (hsz : sz = e.size) :
    Does P o a w (fun v w' => ∃ A' c', v = .slice A' (h - l) c' ∧ w' = w ∧ Sat w0 w (.ro e.slice [.slice A' (h - l) c'] ((xs.take h).drop l) :: Γ)) := does_slice i hS ho hx hi'.get hlo hhi h1 h2 hsz
theorem ints_cells {w : World} : ∀ {xs : List Int} {F ces}, Rep.int.all w F ces xs → ces = xs.map (Value.int .i64)
  | [], _, _, h => h.2
  | _ :: _, _, _, ⟨_, _, _, _, _, e, ⟨_, e2, _⟩, h⟩ => by rw [e, e2, ints_cells h]; rfl
/-- All cells of a slice of ints that is not empty. -/
theorem Sat.cellsInt {A : Option Addr} {n c : Nat} {x : Int} {xs : List Int} (h : Sat w0 w Γ) (i : Nat) (hi : Γ[i]? = some (.ro Rep.int.slice [.slice A n c] (x :: xs))) :
    ∃ ad, A = some ad ∧ Sat w0 w (.at ad ((x :: xs).map (Value.int .i64)) :: Γ) := by
  obtain ⟨R, O, ⟨O1, O2, rfl, ⟨rfl, F, hF, hR⟩, k2⟩, k3, k4, k5, k6⟩ := h.pull i hi
  obtain ⟨a', n', cap', ces, F', hv, h1, h2, h3, h4, h5⟩ := id hF
  simp only [List.cons.injEq, Value.slice.injEq, and_true] at hv
  obtain ⟨rfl, rfl, rfl⟩ := hv
  rcases h5 with ⟨h0, _⟩ | ⟨ad, rfl, rfl, hb, hc⟩
  · rw [h0] at h1; cases h1
  rw [ints_cells h4] at hc
  refine ⟨ad, rfl, ?_⟩
  have hS2 : Sat w0 w (.at ad ((x :: xs).map (Value.int .i64)) :: .ro Rep.int.slice [.slice (some ad) n c] (x :: xs) :: Γ.eraseIdx i) :=
    ⟨R, O2, ⟨[], O2, rfl, ⟨rfl, hR _ (by simp), hc⟩, [], O2, rfl, ⟨rfl, _, hF, hR⟩, k2⟩, k3, k4, k5, k6⟩
  exact hS2.perm ((perm_erase i hi).symm.cons _)
end
end Go.Proofs.YtnbaekjednmfjaaDoor
end

section
namespace Go.Proofs.YtnbaekjednmfjaaDoor
open Go.RowKit

class MapTy (P : Program) (T : TypeId) (K E : outParam TypeId) : Prop where
  und : P.underlying T = some (.map K E)
class IntTy (P : Program) (T : TypeId) : Prop where
  und : P.underlying T = some (.int .i64)
/-- Fact number i of Γ is the set r. -/
class SetAt (Γ : List Fact) (r : Nat) (ks : outParam (List Int)) (i : outParam Nat) : Prop where
  get : Γ[i]? = some (.set r ks)
instance (priority := high) SetAt.here (Γ : List Fact) (r : Nat) (ks : List Int) : SetAt (.set r ks :: Γ) r ks 0 := ⟨rfl⟩
instance (priority := low) SetAt.there (f : Fact) (Γ : List Fact) (r : Nat) (ks : List Int) (i : Nat) [h : SetAt Γ r ks i] : SetAt (f :: Γ) r ks (i + 1) := ⟨by simpa using h.get⟩

section
variable {k : Int}
theorem findNow_no : ∀ (es : List MapEntry) (ks : List Int) (i : Nat), es.map (fun e => (e.key, e.val)) = ks.map (fun k => (Value.int .i64 k, Value.bool true)) → ks.contains k = false → Instr.findNow (.int .i64) (.int .i64 k) es i = some none
  | [], _, _, _, _ => rfl
  | e :: es, [], _, h, _ => by simp at h
  | e :: es, x :: ks, i, h, hc => by
    simp only [List.map_cons, List.cons.injEq, Prod.mk.injEq] at h
    simp only [List.contains_cons, Bool.or_eq_false_iff] at hc
    unfold Instr.findNow
    rw [h.1.1]
    simp only [Instr.sameNow, if_true, hc.1]
    exact findNow_no es ks (i + 1) h.2 hc.2
theorem findNow_yes : ∀ (es : List MapEntry) (ks : List Int) (i : Nat), es.map (fun e => (e.key, e.val)) = ks.map (fun k => (Value.int .i64 k, Value.bool true)) → ks.contains k = true → ∃ j, Instr.findNow (.int .i64) (.int .i64 k) es i = some (some (j, .bool true))
  | [], [], _, _, hc => by simp at hc
  | [], x :: ks, _, h, _ => by simp at h
  | e :: es, [], _, h, _ => by simp at h
  | e :: es, x :: ks, i, h, hc => by
    simp only [List.map_cons, List.cons.injEq, Prod.mk.injEq] at h
    unfold Instr.findNow
    rw [h.1.1]
    simp only [Instr.sameNow, if_true]
    cases hkx : (k == x)
    · simp only [List.contains_cons, hkx, Bool.false_or] at hc
      exact findNow_yes es ks (i + 1) h.2 hc
    · exact ⟨i, by rw [h.1.2]⟩
end

section
variable {P : Program} {o : Oper} {a : Act} {w w0 : World} {Γ : List Fact}
theorem Good.consO {w : World} {F : List Nat} (h : Good w F) (o : Obj) (hp : Plain o) : Good (w.alloc o) (w.heap.size :: F) := by
  refine ⟨List.nodup_cons.2 ⟨fun hg => Nat.lt_irrefl _ (h.lt _ hg), h.1⟩, fun g hg => ?_⟩
  rcases List.mem_cons.1 hg with rfl | hg
  · exact ⟨o, heap_alloc_new w _, hp⟩
  · obtain ⟨o', hh, hp'⟩ := h.2 g hg
    exact ⟨o', by rw [Below.heap_alloc _ _ _ (h.lt g hg)]; exact hh, hp'⟩
theorem f_makeMap {T : TypeId} (hS : Sat w0 w Γ) (ho : o.op = .makeMap T none) :
    Does P o a w (fun v w' => ∃ r, v = .map (some r) ∧ Sat w0 w' (.set r [] :: Γ) ∧ Mod [] w w') := by
  refine ⟨_, _, ⟨w.heap.size, rfl, ?_, Mod.alloc0 w (.map #[] 0)⟩, .inl ?_⟩
  · exact Sat.steps (Γ1 := []) (Γ' := [.set w.heap.size []]) hS fun R O hO _ _ _ => by
      cases hO
      exact ⟨[w.heap.size], ⟨[w.heap.size], [], by simp, ⟨rfl, #[], 0, heap_alloc_new w _, rfl⟩, rfl⟩, (Good.nil w).consO _ trivial, by simp, Mod.alloc0 _ _⟩
  · unfold execOp
    simp only [ho]
    rfl
theorem run_checkKey {K : TypeId} (hK : IntTy P K) (b : Bool) (k : Int) : (Instr.checkKey b 10000 K (.int .i64 k)).run P w = .ok () w := by
  rw [show (10000 : Nat) = 9999 + 1 from rfl]
  generalize 9999 = n
  unfold Instr.checkKey
  rw [Sem.run_bind, run_underlying hK.und]
  rfl
theorem run_findKey {K : TypeId} (hK : IntTy P K) {k : Int} {es : List MapEntry} {X : Option (Nat × Value)} (hf : Instr.findNow (.int .i64) (.int .i64 k) es 0 = some X) : (Instr.findKey K (.int .i64 k) es).run P w = .ok X w := by
  unfold Instr.findKey
  rw [Sem.run_bind, run_underlying hK.und, Result.andThen_ok, hf]
  rfl
theorem run_getMap {r : Nat} {es : Array MapEntry} {c : Nat} (hr : w.heap[r]? = some (.map es c)) : (getObj r).run P w = .ok (.map es c) w := by
  unfold getObj
  simp [Sem.run, hr]
theorem run_setLookup {T K E : TypeId} (hT : MapTy P T K E) (hK : IntTy P K) {n : Nat} {ag : Bool} (hE : Ty P E (.bool false) n ag) {r : Nat} {entries : Array MapEntry} {clock : Nat} {ks : List Int} (hr : w.heap[r]? = some (.map entries clock))
    (he : entries.toList.map (fun e => (e.key, e.val)) = ks.map (fun k => (Value.int .i64 k, Value.bool true))) (k : Int) : (Instr.lookup T (.map (some r)) (.int .i64 k) false).run P w = .ok (.bool (ks.contains k)) w := by
  obtain ⟨i, d, hi, hz, _, _, _⟩ := hE.parts
  cases hc : ks.contains k
  · have hf := findNow_no entries.toList ks 0 he hc
    unfold Instr.lookup
    simp only [Sem.run_bind, run_underlying hT.und, Result.andThen_ok, run_getMap hr, run_checkKey hK, run_findKey hK hf, Sem.run_pure, zeroValue, typeInfo]
    simp [hi, hz]
  · obtain ⟨j, hf⟩ := findNow_yes entries.toList ks 0 he hc
    unfold Instr.lookup
    simp only [Sem.run_bind, run_underlying hT.und, Result.andThen_ok, run_getMap hr, run_checkKey hK, run_findKey hK hf, Sem.run_pure]
    simp
theorem f_lookup {T K E : TypeId} {n : Nat} {ag : Bool} {x ix : Operand} {r i : Nat} {ks : List Int} {k : Int} (hS : Sat w0 w Γ) (ho : o.op = .lookup T x ix false) (hx : a.eval x = .map (some r)) (hix : a.eval ix = .int .i64 k)
    [hi : SetAt Γ r ks i] [hT : MapTy P T K E] [hK : IntTy P K] [hE : Ty P E (.bool false) n ag] {b : Bool} (hb : ks.contains k = b) : Gives P o a w (.bool b) := by
  subst hb
  obtain ⟨R, O, ⟨O1, O2, rfl, ⟨rfl, entries, clock, hr, he⟩, _⟩, _⟩ := hS.pull i hi.get
  unfold Gives execOp
  simp only [ho, hx, hix, Sem.run_bind, run_setLookup hT hK hE hr he k, Result.andThen_ok]
  rfl
theorem f_insert {T K E : TypeId} {x ix y : Operand} {r i : Nat} {ks : List Int} {k : Int} (hS : Sat w0 w Γ) (ho : o.op = .mapUpdate T x ix y) (hx : a.eval x = .map (some r)) (hix : a.eval ix = .int .i64 k) (hy : a.eval y = .bool true)
    [hi : SetAt Γ r ks i] [hT : MapTy P T K E] [hK : IntTy P K] (hc : ks.contains k = false) : Does P o a w (fun v w' => v = undef ∧ Sat w0 w' (Γ.set i (.set r (ks ++ [k])))) := by
  obtain ⟨R, O, hO, hG, hR, hRl, hfin⟩ := Sat.opened (Γ1 := [.set r ks]) (hS.pull i hi.get)
  obtain ⟨O1, O2, rfl, ⟨rfl, entries, clock, hr, he⟩, rfl⟩ := hO
  have hf := findNow_no entries.toList ks 0 he hc
  have hlt : r < w.heap.size := (Array.getElem?_eq_some_iff.1 hr).1
  let w' : World := { w with heap := w.heap.setIfInBounds r (.map (entries.push { key := .int .i64 k, val := .bool true, born := clock }) (clock + 1)) }
  have hr' : w'.heap[r]? = some (.map (entries.push { key := .int .i64 k, val := .bool true, born := clock }) (clock + 1)) := by simp [w', hlt]
  have hm : Mod [r] w w' := ⟨rfl, rfl, rfl, by simp [w'], fun g hg hn => by
    have : r ≠ g := by rintro rfl; exact hn (by simp)
    simp [w', Array.getElem?_setIfInBounds, this]⟩
  have hgd : ∀ g ∈ [r], ∃ o, w'.heap[g]? = some o ∧ Plain o := by
    intro g hg
    rw [List.mem_singleton.1 hg]
    exact ⟨_, hr', True.intro⟩
  refine ⟨undef, w', ⟨rfl, Sat.perm (hfin w' [.set r (ks ++ [k])] [r] ⟨[r], [], by simp, ⟨rfl, _, _, hr', ?_⟩, rfl⟩ ⟨by simp, hgd⟩ (fun g hg => .inl (by simpa using hg)) (hm.mono (fun g hg _ => by simpa using hg))) (perm_set i hi.get)⟩, .inr ⟨?_, rfl⟩⟩
  · simp [he]
  · unfold execOp
    simp only [ho, hx, hix, hy]
    unfold Instr.mapUpdate
    simp only [Sem.run_bind, run_underlying hT.und, Result.andThen_ok, run_getMap hr, run_checkKey hK, run_findKey hK hf, Sem.run_pure]
    simp [setObj, Sem.run, hr, w']
theorem f_lenSet {T : TypeId} {K E : TypeId} {x : Operand} {r i : Nat} {ks : List Int} (hS : Sat w0 w Γ) (ho : o.op = .call { callee := .builtin .len, args := #[x], argTypes := #[T] }) (hx : a.eval x = .map (some r)) [hi : SetAt Γ r ks i] [hT : MapTy P T K E] :
    Gives P o a w (.int .i64 (ks.length : Int)) := by
  obtain ⟨R, O, ⟨O1, O2, rfl, ⟨rfl, entries, clock, hr, he⟩, _⟩, _⟩ := hS.pull i hi.get
  have hl : entries.size = ks.length := by have := congrArg List.length he; simpa using this
  unfold Gives execOp
  simp [ho, hx, resolve, invoke, builtin, Builtin.len_, run_underlying hT.und, getObj, Sem.run, hr, hl, goInt]
end
end Go.Proofs.YtnbaekjednmfjaaDoor
end

section
namespace Go.Proofs.YtnbaekjednmfjaaDoor
open Go.RowKit
theorem Sat.resultCell {P : Program} {w0 w : World} {Γ : List Fact} {fn : Func} {tmps : Array Value} {t : Tmp} {T : TypeId} {z : Value} {n b i : Nat} {cs : List Value} (hS : Sat w0 w Γ) (h : fn.results = #[.cell t T]) (ht : tmps.getD t undef = .pointer (some ⟨b, 0, none⟩))
    [hi : BoxAt Γ b cs i] [hT : Ty P T z n true] (hl : cs.length = n) : (results fn tmps).run P w = .ok (.agg cs.toArray) w := by
  have hc := hS.boxCells hi.get
  have hv : (loadVar T ⟨b, 0, none⟩).run P w = .ok (.agg cs.toArray) w := by
    subst hl
    simp [loadVar, run_isAgg hT, run_sizeOf hT, run_loadCells_list w _ cs hc]
  have ht' : tmps[t]?.getD undef = .pointer (some ⟨b, 0, none⟩) := by simpa using ht
  simp [results, h, ht', asAddr, hv]
end Go.Proofs.YtnbaekjednmfjaaDoor
end

section
namespace Go.Proofs.YtnbaekjednmfjaaDoor
open Go.RowKit

section
variable {P : Program} {o : Oper} {a : Act} {w w0 : World} {Γ : List Fact}
theorem sub_get {cs us : List Value} {off n j : Nat} {u : Value} (hu : (cs.drop off).take n = us) (hj : us[j]? = some u) : cs[off + j]? = some u := by
  subst hu
  have hl : j < n := by
    obtain ⟨h, _⟩ := List.getElem?_eq_some_iff.1 hj
    have := List.length_take_le n (cs.drop off)
    omega
  rw [List.getElem?_take_of_lt hl, List.getElem?_drop] at hj
  exact hj
theorem f_loadSub {T : TypeId} {z : Value} {p : Operand} {b off n i : Nat} {cs us : List Value} (hS : Sat w0 w Γ) (ho : o.op = .load T p) (hp : a.eval p = .pointer (some ⟨b, off, none⟩)) [hi : BoxAt Γ b cs i] [hT : Ty P T z n true] (hu : (cs.drop off).take n = us) (hl : us.length = n) :
    Gives P o a w (.agg us.toArray) := by
  have hc : CellsAt w ⟨b, off, none⟩ us := fun j u hj => by
    have h := hS.boxCells hi.get (off + j) u (sub_get hu hj)
    rw [Addr.add_lit, Nat.zero_add] at h
    rw [Addr.add_lit]
    exact h
  unfold Gives execOp
  simp [ho, hp, run_loadS hT hl hc]
theorem f_loadAtSub {T : TypeId} {z : Value} {p : Operand} {ad : Addr} {j n i : Nat} {cs us : List Value} (hS : Sat w0 w Γ) (ho : o.op = .load T p) (hp : a.eval p = .pointer (some ⟨ad.block, ad.off + (j + 1), none⟩)) [hi : CellsIn Γ ad cs i] [hT : Ty P T z n true] (hu : (cs.drop (j + 1)).take n = us) (hl : us.length = n) :
    Gives P o a w (.agg us.toArray) := by
  have hc : CellsAt w ⟨ad.block, ad.off + (j + 1), none⟩ us := fun j' u hj => by
    have h := CellsAt.nth (hS.atCells hi.get) (j + j') (u := u) (by rw [show j + j' + 1 = j + 1 + j' by omega]; exact sub_get hu hj)
    rw [Addr.add_lit, show ad.off + (j + 1) + j' = ad.off + (j + j' + 1) by omega]
    exact h
  unfold Gives execOp
  simp [ho, hp, run_loadS hT hl hc]
theorem f_storeSub {T : TypeId} {z : Value} {p x : Operand} {b off n i : Nat} {cs : List Value} {us : Array Value} (hS : Sat w0 w Γ) (ho : o.op = .store T p x) (hp : a.eval p = .pointer (some ⟨b, off, none⟩)) (hx : a.eval x = .agg us) [hi : BoxAt Γ b cs i] [hT : Ty P T z n true] (h1' : us.toList.all (·.oneCell') = true) (hn : us.size = n) (hl : off + n ≤ cs.length) :
    Does P o a w (fun v w' => v = undef ∧ Sat w0 w' (Γ.set i (.box b (cs.take off ++ us.toList ++ cs.drop (off + us.toList.length))))) := by
  have h1 : ∀ u ∈ us.toList, u.oneCell' = true := List.all_eq_true.1 h1'
  have hp' := hS.pull i hi.get
  have hr := run_storeN (w := w) (g := b) (o := off) (v := .agg us) hT hn h1 (by intro j hj; rw [hp'.cellAt (List.getElem?_eq_getElem (by omega))]; rfl) (fun j => hp'.frozenAt j)
  have hs := setCells_box us.toList off w b cs hp' (by simp; omega)
  refine ⟨undef, _, ⟨rfl, hs.perm (perm_set i hi.get)⟩, .inr ⟨?_, rfl⟩⟩
  unfold execOp
  simp only [ho, hp, hx, Sem.run_bind, hr, Result.andThen_ok]
  rfl
end
end Go.Proofs.YtnbaekjednmfjaaDoor
end
