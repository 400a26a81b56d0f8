/- Regions that draw their order, by types: each operation yields a value of its type, whatever came before it; a type outlasts whatever leaves all blocks but br alone. No function of the program occurs here. -/
import Derived.Test.YtnbaekjednmfjaaDoorFind
import Derived.Test.YtnbaekjednmfjaaDoorIn
section
namespace Go.Proofs.YtnbaekjednmfjaaDoor
open Go.RowKit

def dstOf (l : List Oper) (j : Nat) : Option Nat := (l[j]?).bind (·.dst)
def putAll (v : Nat → Value) : List Oper → Nat → Act → Act
  | [], _, a => a
  | o :: l, i, a => putAll v l (i + 1) (a.put o.dst (v i))
def isBase (l : List Oper) (k : Nat) : Bool := l.all fun o => o.dst != some k
/-- The types of what an operation waits for. -/
def HdL (l : List Oper) (T : Nat → Value → World → Prop) (a : Act) (w : World) : List Edge → Prop
  | [] => True
  | e :: r => (Region.binds .any e = true → match dstOf l e.on with
      | some d => T e.on (a.eval (.tmp d)) w
      | none => True) ∧ HdL l T a w r
def OpT (P : Program) (l : List Oper) (Q : Exit → Act → World → Prop) (a0 : Act) (br : Nat) (T : Nat → Value → World → Prop) (J : Nat → World → Prop) (i : Nat) (o : Oper) : Prop :=
  ∀ n a w, (∀ k, isBase l k = true → a.eval (.tmp k) = a0.eval (.tmp k)) → HdL l T a w o.after.toList → J n w → n < l.length →
    ∀ K : Act → World → Prop, (∀ v w', T i v w' → Mod [br] w w' → J (n + 1) w' → K (a.put o.dst v) w') → o.wp P a w K Q
def OpsOk (P : Program) (l : List Oper) (Q : Exit → Act → World → Prop) (a0 : Act) (br : Nat) (T : Nat → Value → World → Prop) (J : Nat → World → Prop) : List Oper → Nat → Prop
  | [], _ => True
  | o :: r, i => OpT P l Q a0 br T J i o ∧ OpsOk P l Q a0 br T J r (i + 1)
def edgesBack : List Oper → Nat → Bool
  | [], _ => true
  | o :: r, i => (o.after.toList.all fun e => !Region.binds .any e || decide (e.on < i)) && edgesBack r (i + 1)
def dstsApart : List Oper → Bool
  | [] => true
  | o :: r => (match o.dst with
      | some d => isBase r d
      | none => true) && dstsApart r
def chkT (n : Nat) (l : List Oper) : Bool := (l.all fun o => o.guard.isNone && (match o.dst with
      | some d => decide (d < n)
      | none => true)) && edgesBack l 0 && dstsApart l

section
variable {P : Program} {l : List Oper} {Q : Exit → Act → World → Prop} {a0 : Act} {br : Nat} {T : Nat → Value → World → Prop} {J : Nat → World → Prop} {v : Nat → Value}
theorem OpsOk.get : ∀ {r : List Oper} {i j : Nat} {o : Oper}, OpsOk P l Q a0 br T J r i → r[j]? = some o → OpT P l Q a0 br T J (i + j) o
  | [], _, _, _, _, h => by simp at h
  | o' :: r, i, 0, o, h, e => by simp at e; subst e; exact h.1
  | o' :: r, i, j + 1, o, h, e => by
    have := OpsOk.get (j := j) h.2 (by simpa using e)
    rwa [show i + 1 + j = i + (j + 1) by omega] at this
theorem edgesBack_get : ∀ {r : List Oper} {i j : Nat} {o : Oper}, edgesBack r i = true → r[j]? = some o → ∀ e ∈ o.after, Region.binds .any e = true → e.on < i + j
  | [], _, _, _, _, h => by simp at h
  | o' :: r, i, 0, o, h, e => by
    simp at e; subst e
    intro e he hb
    unfold edgesBack at h
    rw [Bool.and_eq_true] at h
    have := List.all_eq_true.1 h.1 e (by simpa using he)
    rw [hb] at this
    simpa using this
  | o' :: r, i, j + 1, o, h, e => by
    unfold edgesBack at h
    rw [Bool.and_eq_true] at h
    intro e' he hb
    have := edgesBack_get (j := j) h.2 (by simpa using e) e' he hb
    omega
theorem apart_get : ∀ {r : List Oper} {i j d : Nat}, dstsApart r = true → dstOf r i = some d → dstOf r j = some d → i = j
  | [], _, _, _, _, h, _ => by simp [dstOf] at h
  | o :: r, 0, 0, _, _, _, _ => rfl
  | o :: r, 0, j + 1, d, h, h1, h2 => by
    exfalso
    unfold dstsApart at h
    rw [Bool.and_eq_true] at h
    have e1 : o.dst = some d := by simpa [dstOf] using h1
    have h2' : dstOf r j = some d := by simpa [dstOf] using h2
    rw [e1] at h
    have h3 := h.1
    dsimp only at h3
    unfold dstOf at h2'
    obtain ⟨o2, ho2, hd2⟩ := Option.bind_eq_some_iff.1 h2'
    have := List.all_eq_true.1 h3 o2 (List.mem_of_getElem? ho2)
    rw [hd2] at this
    simp at this
  | o :: r, i + 1, 0, d, h, h1, h2 => by
    exfalso
    unfold dstsApart at h
    rw [Bool.and_eq_true] at h
    have e1 : o.dst = some d := by simpa [dstOf] using h2
    have h2' : dstOf r i = some d := by simpa [dstOf] using h1
    rw [e1] at h
    have h3 := h.1
    dsimp only at h3
    unfold dstOf at h2'
    obtain ⟨o2, ho2, hd2⟩ := Option.bind_eq_some_iff.1 h2'
    have := List.all_eq_true.1 h3 o2 (List.mem_of_getElem? ho2)
    rw [hd2] at this
    simp at this
  | o :: r, i + 1, j + 1, d, h, h1, h2 => by
    unfold dstsApart at h
    rw [Bool.and_eq_true] at h
    have := apart_get (r := r) (i := i) (j := j) h.2 (by simpa [dstOf] using h1) (by simpa [dstOf] using h2)
    omega
theorem put_size (a : Act) (d : Option Nat) (u : Value) : (a.put d u).tmps.size = a.tmps.size := by cases d <;> simp [Act.put]
theorem put_defers (a : Act) (d : Option Nat) (u : Value) : (a.put d u).defers = a.defers := by cases d <;> rfl
theorem put_ne (a : Act) {d : Option Nat} {k : Nat} (u : Value) (h : d ≠ some k) : (a.put d u).tmps[k]? = a.tmps[k]? := by
  cases d with
  | none => rfl
  | some d =>
    have : d ≠ k := fun e => h (by rw [e])
    simp [Act.put, Array.getElem?_setIfInBounds, this]
theorem put_eq (a : Act) {k : Nat} (u : Value) (h : k < a.tmps.size) : (a.put (some k) u).tmps[k]? = some u := by simp [Act.put, h]
theorem putAll_none : ∀ (l : List Oper) (i : Nat) (a : Act) (k : Nat), isBase l k = true → (putAll v l i a).tmps[k]? = a.tmps[k]?
  | [], _, _, _, _ => rfl
  | o :: l, i, a, k, h => by
    simp only [isBase, List.all_cons, Bool.and_eq_true, bne_iff_ne, ne_eq] at h
    show (putAll v l (i + 1) (a.put o.dst (v i))).tmps[k]? = _
    rw [putAll_none l (i + 1) _ k h.2, put_ne _ _ h.1]
theorem putAll_some : ∀ (l : List Oper) (i : Nat) (a : Act) (j k : Nat), dstsApart l = true → dstOf l j = some k → k < a.tmps.size → (putAll v l i a).tmps[k]? = some (v (i + j))
  | [], _, _, _, _, _, h, _ => by simp [dstOf] at h
  | o :: l, i, a, 0, k, ha, h, hk => by
    unfold dstsApart at ha
    rw [Bool.and_eq_true] at ha
    have e1 : o.dst = some k := by simpa [dstOf] using h
    rw [e1] at ha
    show (putAll v l (i + 1) (a.put o.dst (v i))).tmps[k]? = _
    rw [putAll_none l (i + 1) _ k ha.1, e1, put_eq _ _ hk]
    rfl
  | o :: l, i, a, j + 1, k, ha, h, hk => by
    unfold dstsApart at ha
    rw [Bool.and_eq_true] at ha
    show (putAll v l (i + 1) (a.put o.dst (v i))).tmps[k]? = _
    rw [putAll_some l (i + 1) _ j k ha.2 (by simpa [dstOf] using h) (by rw [put_size]; exact hk)]
    congr 2
    omega
theorem putAll_size : ∀ (l : List Oper) (i : Nat) (a : Act), (putAll v l i a).tmps.size = a.tmps.size
  | [], _, _ => rfl
  | o :: l, i, a => by show (putAll v l (i + 1) (a.put o.dst (v i))).tmps.size = _; rw [putAll_size l, put_size]
theorem putAll_defers : ∀ (l : List Oper) (i : Nat) (a : Act), (putAll v l i a).defers = a.defers
  | [], _, _ => rfl
  | o :: l, i, a => by show (putAll v l (i + 1) (a.put o.dst (v i))).defers = _; rw [putAll_defers l, put_defers]

structure RInv (l : List Oper) (a0 : Act) (T : Nat → Value → World → Prop) (v : Nat → Value) (listed : Array Bool) (a : Act) (w : World) : Prop where
  typ : ∀ j, listed.getD j false = true → T j (v j) w
  defers : a.defers = a0.defers
  size : a.tmps.size = a0.tmps.size
  got : ∀ j k, dstOf l j = some k → listed.getD j false = true → k < a0.tmps.size → a.tmps[k]? = some (v j)
  old : ∀ k, (∀ j, dstOf l j = some k → listed.getD j false = false) → a.tmps[k]? = a0.tmps[k]?
theorem act_ext {a b : Act} (h1 : a.defers = b.defers) (h2 : a.tmps.size = b.tmps.size) (h3 : ∀ k, k < b.tmps.size → a.tmps[k]? = b.tmps[k]?) : a = b := by
  obtain ⟨t1, d1⟩ := a
  obtain ⟨t2, d2⟩ := b
  simp only at h1 h2 h3
  subst h1
  congr 1
  apply Array.ext_getElem?
  intro k
  rcases Nat.lt_or_ge k t2.size with h | h
  · exact h3 k h
  · rw [Array.getElem?_eq_none h, Array.getElem?_eq_none (by omega)]
theorem chkT_parts {n : Nat} (h : chkT n l = true) : (∀ o ∈ l, o.guard = none ∧ ∀ d, o.dst = some d → d < n) ∧ edgesBack l 0 = true ∧ dstsApart l = true := by
  simp only [chkT, Bool.and_eq_true] at h
  refine ⟨fun o ho => ?_, h.1.2, h.2⟩
  have := List.all_eq_true.1 h.1.1 o ho
  rw [Bool.and_eq_true] at this
  refine ⟨by simpa using this.1, fun d hd => ?_⟩
  have h2 := this.2
  rw [hd] at h2
  simpa using h2
/-- Where nothing is left to come up, all has come up. -/
theorem all_listed (hb : edgesBack l 0 = true) {listed : Array Bool} (hsz : listed.size = l.length) (hr : Region.ready .any l.toArray listed = []) : ∀ j, j < l.length → listed.getD j false = true := by
  intro j
  induction j using Nat.strongRecOn with
  | ind j ih =>
    intro hj
    cases hl : listed.getD j false
    case true => rfl
    case false =>
      exfalso
      have hm : j ∈ Region.ready .any l.toArray listed := by
        refine mem_ready.2 ⟨?_, l[j], by simp [hj], fun e he hbd => ?_⟩
        · simpa [hsz, hj] using hl
        · have := edgesBack_get hb (List.getElem?_eq_getElem hj) e he hbd
          exact ih e.on (by omega) (by omega)
      rw [hr] at hm
      cases hm
theorem ready_none {listed : Array Bool} (h : listed.toList.count false = 0) : Region.ready .any l.toArray listed = [] := by
  unfold Region.ready
  rw [List.filter_eq_nil_iff]
  intro i _ hi
  simp only [Bool.and_eq_true, Bool.not_eq_true'] at hi
  have h1 := hi.1
  have hlt : i < listed.size := by
    rcases Nat.lt_or_ge i listed.size with h' | h'
    · exact h'
    · simp [Array.getElem?_eq_none h'] at h1
  have h2 : listed[i] = false := by simpa [hlt] using h1
  have := List.count_eq_zero.1 h
  exact this (by rw [← h2]; simp)
theorem wpAny_typed (hc : chkT a0.tmps.size l = true) (stab : ∀ j v w w', Mod [br] w w' → T j v w → T j v w') (hops : OpsOk P l Q a0 br T J l 0)
    (hend : ∀ v w' n, (∀ j, j < l.length → T j (v j) w') → n ≤ l.length → J n w' → Q .normal (putAll v l 0 a0) w') :
    ∀ (fuel : Nat) (n : Nat) (v : Nat → Value) (listed : Array Bool) (a : Act) (w : World), RInv l a0 T v listed a w → listed.size = l.length → J n w → n + fuel = l.length → listed.toList.count false = fuel →
      wpAny P .any l.toArray Q fuel listed a w := by
  obtain ⟨hg, hb, hd⟩ := chkT_parts hc
  have fin : ∀ (n : Nat) (v : Nat → Value) (listed : Array Bool) (a : Act) (w : World), RInv l a0 T v listed a w → listed.size = l.length → J n w → n ≤ l.length → Region.ready .any l.toArray listed = [] → Q .normal a w := by
    intro n v listed a w hI hsz hJ hn hr
    have hall := all_listed hb hsz hr
    have ha : a = putAll v l 0 a0 := by
      refine act_ext (by rw [hI.defers, putAll_defers]) (by rw [hI.size, putAll_size]) (fun k hk => ?_)
      rw [putAll_size] at hk
      cases hbs : isBase l k
      case true =>
        rw [putAll_none l 0 a0 k hbs]
        refine hI.old k (fun j hj => ?_)
        exfalso
        unfold dstOf at hj
        obtain ⟨o, ho, hdo⟩ := Option.bind_eq_some_iff.1 hj
        have := List.all_eq_true.1 hbs o (List.mem_of_getElem? ho)
        rw [hdo] at this
        simp at this
      case false =>
        obtain ⟨o, ho, hdo⟩ := List.all_eq_false.1 hbs
        obtain ⟨j, hj, rfl⟩ := List.getElem_of_mem ho
        have hdj : dstOf l j = some k := by
          unfold dstOf
          rw [List.getElem?_eq_getElem hj]
          simpa using hdo
        rw [putAll_some l 0 a0 j k hd hdj hk, Nat.zero_add]
        exact hI.got j k hdj (hall j hj) hk
    rw [ha]
    exact hend v w n (fun j hj => hI.typ j (hall j hj)) hn hJ
  intro fuel
  induction fuel with
  | zero => intro n v listed a w hI hsz hJ hn h0; exact ⟨ready_none h0, fin n v listed a w hI hsz hJ (by omega) (ready_none h0)⟩
  | succ fuel ih =>
    intro n v listed a w hI hsz hJ hn hcnt
    refine ⟨fin n v listed a w hI hsz hJ (by omega), fun i hi => ?_⟩
    obtain ⟨hun, o, ho, haft⟩ := mem_ready.1 hi
    have ho' : l[i]? = some o := by simpa using ho
    have hil : i < l.length := (List.getElem?_eq_some_iff.1 ho').1
    obtain ⟨hgd, hds⟩ := hg o (List.mem_of_getElem? ho')
    have hop := hops.get ho'
    rw [Nat.zero_add] at hop
    have hstep := hop n a w (fun k hk => by
        show a.tmps.getD k undef = a0.tmps.getD k undef
        rw [Array.getD_eq_getD_getElem?, Array.getD_eq_getD_getElem?, hI.old k (fun j hj => by
          exfalso
          unfold dstOf at hj
          obtain ⟨o2, ho2, hdo⟩ := Option.bind_eq_some_iff.1 hj
          have := List.all_eq_true.1 hk o2 (List.mem_of_getElem? ho2)
          rw [hdo] at this
          simp at this)])
      (by
        have key : ∀ r : List Edge, (∀ e ∈ r, e ∈ o.after) → HdL l T a w r := by
          intro r
          induction r with
          | nil => intro _; trivial
          | cons e r ihr =>
            intro hr
            refine ⟨fun hbd => ?_, ihr (fun e he => hr e (by simp [he]))⟩
            have hl := haft e (hr e (by simp)) hbd
            cases hde : dstOf l e.on with
            | none => trivial
            | some d =>
              have hdl : d < a0.tmps.size := by
                unfold dstOf at hde
                obtain ⟨o2, ho2, hdo⟩ := Option.bind_eq_some_iff.1 hde
                exact (hg o2 (List.mem_of_getElem? ho2)).2 d hdo
              have := hI.got e.on d hde hl hdl
              show T e.on (a.tmps.getD d undef) w
              rw [Array.getD_eq_getD_getElem?, this]
              exact hI.typ e.on hl
        exact key o.after.toList (fun e he => by simpa using he)) hJ (by omega)
    unfold wpOp
    rw [ho]
    have hw : Region.wanted o (yielded l.toArray a.tmps) = true := by unfold Region.wanted; rw [hgd]
    dsimp only
    rw [if_pos hw]
    refine .inl (hstep _ (fun u w' hT hM hJ' => ?_))
    have hlen' : (listed.setIfInBounds i true).size = l.length := by simpa using hsz
    have hget : ∀ j, (listed.setIfInBounds i true).getD j false = true → j = i ∨ (j ≠ i ∧ listed.getD j false = true) := by
      intro j hj
      by_cases hji : i = j
      · exact .inl hji.symm
      · rw [getD_set_ne false hji] at hj
        exact .inr ⟨fun e => hji e.symm, hj⟩
    have hiset : (listed.setIfInBounds i true).getD i false = true := by simp [hsz, hil]
    have hI' : RInv l a0 T (fun j => if j = i then u else v j) (listed.setIfInBounds i true) (a.put o.dst u) w' := by
      refine ⟨fun j hj => ?_, by rw [put_defers, hI.defers], by rw [put_size, hI.size], fun j k hjk hj hk => ?_, fun k hk => ?_⟩
      · rcases hget j hj with rfl | ⟨hne, hj⟩
        · rw [if_pos rfl]; exact hT
        · rw [if_neg hne]; exact stab j _ _ _ hM (hI.typ j hj)
      · rcases hget j hj with rfl | ⟨hne, hj⟩
        · rw [if_pos rfl]
          have hok : o.dst = some k := by
            unfold dstOf at hjk
            rw [ho'] at hjk
            simpa using hjk
          rw [hok]
          exact put_eq a u (by rw [hI.size]; exact hk)
        · rw [if_neg hne]
          have hnk : o.dst ≠ some k := fun e => hne (apart_get hd hjk (by unfold dstOf; rw [ho']; simpa using e))
          rw [put_ne a u hnk]
          exact hI.got j k hjk hj hk
      · have hnk : o.dst ≠ some k := fun e => by
          have := hk i (by unfold dstOf; rw [ho']; simpa using e)
          rw [hiset] at this
          cases this
        rw [put_ne a u hnk]
        refine hI.old k (fun j hj => ?_)
        have h1 := hk j hj
        by_cases hji : i = j
        · subst hji; rw [hiset] at h1; cases h1
        · rw [getD_set_ne false hji] at h1; exact h1
    refine ih (n + 1) _ _ _ _ hI' hlen' hJ' (by omega) ?_
    have hli : listed[i]'(by omega) = false := by simpa [hsz, hil] using hun
    rw [Array.toList_setIfInBounds, List.count_set (by simpa [hsz] using hil)]
    simp [hli, hcnt]
/-- A region that draws its order, by types. -/
theorem wp_region_typed {id : Nat} {w : World} (br : Nat) (T : Nat → Value → World → Prop) (J : Nat → World → Prop) (hm : P.follows .mixedOrders = true) (hc : chkT a0.tmps.size l = true) (stab : ∀ j v w w', Mod [br] w w' → T j v w → T j v w') (h0 : J 0 w.drew)
    (hops : OpsOk P l Q a0 br T J l 0) (hend : ∀ v w' n, (∀ j, j < l.length → T j (v j) w') → n ≤ l.length → J n w' → Q .normal (putAll v l 0 a0) w') : (Code.region id l.toArray true).wp P Q a0 w := by
  refine wp_region_any hm ?_
  have hsz : l.toArray.size = l.length := by simp
  rw [hsz]
  have hno : ∀ j, (Array.replicate l.length false).getD j false = false := fun j => by
    rw [Array.getD_eq_getD_getElem?, Array.getElem?_replicate]
    split <;> rfl
  exact wpAny_typed hc stab hops hend l.length 0 (fun _ => undef) _ a0 _ ⟨fun j hj => (by rw [hno] at hj; cases hj), rfl, rfl, fun j k _ hj _ => (by rw [hno] at hj; cases hj), fun _ _ => rfl⟩ (by simp) h0 (by omega) (by simp [List.count_replicate])
end
end Go.Proofs.YtnbaekjednmfjaaDoor
end

section
namespace Go.Proofs.YtnbaekjednmfjaaDoor
open Go.RowKit

abbrev Typ := Value → World → Prop
def TI (lo hi : Int) : Typ := fun v _ => ∃ x : Int, v = .int .i64 x ∧ lo ≤ x ∧ x ≤ hi
def TX (u : Value) : Typ := fun v _ => v = u
def TB : Typ := fun v _ => ∃ b, v = .bool b
def TS : Typ := fun v _ => ∃ s : ByteArray, v = .string s ∧ s.size ≤ 100
def TAny : Typ := fun _ _ => True
/-- A slice of n elements of one cell, in a block that is not br. -/
def TSl (br n : Nat) (τ : Typ) : Typ := fun v w => ∃ b, v = .slice (some ⟨b, 0, none⟩) n n ∧ b ≠ br ∧ b < w.heap.size ∧ ∀ j, j < n → ∃ u, w.cell? ⟨b, j, none⟩ = some u ∧ τ u w
/-- The address of a cell that is not in br. -/
def TP (br : Nat) (τ : Typ) : Typ := fun v w => ∃ b o, v = .pointer (some ⟨b, o, none⟩) ∧ b ≠ br ∧ b < w.heap.size ∧ ∃ u, w.cell? ⟨b, o, none⟩ = some u ∧ τ u w
class Stab (br : Nat) (τ : Typ) : Prop where
  stab : ∀ v w w', Mod [br] w w' → τ v w → τ v w'
instance (br : Nat) (lo hi : Int) : Stab br (TI lo hi) := ⟨fun _ _ _ _ h => h⟩
instance (br : Nat) (u : Value) : Stab br (TX u) := ⟨fun _ _ _ _ h => h⟩
instance (br : Nat) : Stab br TB := ⟨fun _ _ _ _ h => h⟩
instance (br : Nat) : Stab br TS := ⟨fun _ _ _ _ h => h⟩
instance (br : Nat) : Stab br TAny := ⟨fun _ _ _ _ h => h⟩
instance (br n : Nat) (τ : Typ) [h : Stab br τ] : Stab br (TSl br n τ) := ⟨fun v w w' hm ⟨b, e, hb, hl, hc⟩ => ⟨b, e, hb, Nat.lt_of_lt_of_le hl hm.size, fun j hj => by
  obtain ⟨u, h1, h2⟩ := hc j hj
  exact ⟨u, by rw [hm.cell (p := ⟨b, j, none⟩) hl (by simpa using hb)]; exact h1, h.stab u w w' hm h2⟩⟩⟩
instance (br : Nat) (τ : Typ) [h : Stab br τ] : Stab br (TP br τ) := ⟨fun v w w' hm ⟨b, o, e, hb, hl, u, h1, h2⟩ => ⟨b, o, e, hb, Nat.lt_of_lt_of_le hl hm.size, u, by rw [hm.cell (p := ⟨b, o, none⟩) hl (by simpa using hb)]; exact h1, h.stab u w w' hm h2⟩⟩
/-- All types of a list outlast. -/
class StabL (br : Nat) (Ts : List Typ) : Prop where
  all : ∀ j v w w', Mod [br] w w' → (Ts.getD j TAny) v w → (Ts.getD j TAny) v w'
instance (br : Nat) : StabL br [] := ⟨fun _ _ _ _ _ h => h⟩
instance (br : Nat) (τ : Typ) (Ts : List Typ) [h : Stab br τ] [k : StabL br Ts] : StabL br (τ :: Ts) := ⟨fun j v w w' hm hv => by
  cases j with
  | zero => exact h.stab v w w' hm hv
  | succ j => exact k.all j v w w' hm (by simpa using hv)⟩

/-- After m operations of a region the reader has gone K places on at most for each. -/
def RdJ (br : Nat) (A : Option Addr) (n c p K : Nat) (m : Nat) (w : World) : Prop := ∃ p', p' ≤ p + K * m ∧ Rd br A n c p' w
theorem RdJ.up {br : Nat} {A : Option Addr} {n c p K m : Nat} {w : World} (h : RdJ br A n c p K m w) : RdJ br A n c p K (m + 1) w := by
  obtain ⟨p', h1, h2⟩ := h
  exact ⟨p', by rw [Nat.mul_add]; omega, h2⟩

def HdE (l : List Oper) (Ts : List Typ) (ρ : Operand → Value) (w : World) : List Edge → Prop
  | [] => True
  | e :: r => (Region.binds .any e = true → match dstOf l e.on with
      | some d => (Ts.getD e.on TAny) (ρ (.tmp d)) w
      | none => True) ∧ HdE l Ts ρ w r
/-- What an operation comes to. -/
def Out (P : Program) (br : Nat) (J : Nat → World → Prop) (ρ : Operand → Value) (o : Oper) (n : Nat) (w : World) (τ : Typ) : Prop :=
  (∃ v w', (execOp ρ o).run P w = .ok (.value v) w' ∧ τ v w' ∧ Mod [br] w w' ∧ J (n + 1) w') ∨
  (∃ f args, (execOp ρ o).run P w = .ok (.enter f args) w ∧ Calls P f args w (fun e w' => ∃ v, e = .returned v ∧ τ v w' ∧ Mod [br] w w' ∧ J (n + 1) w'))
def OpE (P : Program) (l : List Oper) (a0 : Act) (br : Nat) (Ts : List Typ) (J : Nat → World → Prop) (i : Nat) (o : Oper) : Prop :=
  ∀ n (ρ : Operand → Value) w, (∀ v, ρ (.const v) = v) → (∀ f, ρ (.func f) = .func (.func f) #[] #[]) → (∀ k, isBase l k = true → ρ (.tmp k) = a0.eval (.tmp k)) → HdE l Ts ρ w o.after.toList → J n w → n < l.length →
    Out P br J ρ o n w (Ts.getD i TAny)
def OpsE (P : Program) (l : List Oper) (a0 : Act) (br : Nat) (Ts : List Typ) (J : Nat → World → Prop) : List Oper → Nat → Prop
  | [], _ => True
  | o :: r, i => OpE P l a0 br Ts J i o ∧ OpsE P l a0 br Ts J r (i + 1)
section
variable {P : Program} {l : List Oper} {Q : Exit → Act → World → Prop} {a0 : Act} {br : Nat} {Ts : List Typ} {J : Nat → World → Prop}
theorem OpT_of_E {i : Nat} {o : Oper} (h : OpE P l a0 br Ts J i o) : OpT P l Q a0 br (fun j => Ts.getD j TAny) J i o := by
  intro n a w hb hd hJ hn K hK
  have hd' : ∀ r, HdL l (fun j => Ts.getD j TAny) a w r → HdE l Ts a.eval w r := by
    intro r
    induction r with
    | nil => exact id
    | cons e r ih => exact fun hh => ⟨hh.1, ih hh.2⟩
  unfold Oper.wp
  rcases h n a.eval w (fun _ => rfl) (fun _ => rfl) hb (hd' _ hd) hJ hn with ⟨v, w', h1, h2, h3, h4⟩ | ⟨f, args, h1, h2⟩
  · rw [h1, Oper.upon_value]
    exact hK v w' h2 h3 h4
  · rw [h1, Oper.upon_enter]
    refine h2.mono ?_
    rintro e w' ⟨v, rfl, k2, k3, k4⟩
    exact hK v w' k2 k3 k4
theorem OpsOk_of_E : ∀ {r : List Oper} {i : Nat}, OpsE P l a0 br Ts J r i → OpsOk P l Q a0 br (fun j => Ts.getD j TAny) J r i
  | [], _, _ => trivial
  | _ :: _, _, h => ⟨OpT_of_E h.1, OpsOk_of_E h.2⟩
/-- A region that draws its order and reads from a code. -/
theorem wp_region_rd {id : Nat} {w : World} {A : Option Addr} {nr cr p : Nat} (br K : Nat) (Ts : List Typ) [hst : StabL br Ts] (hR : Rd br A nr cr p w) (hm : P.follows .mixedOrders = true) (hc : chkT a0.tmps.size l = true)
    (hops : OpsE P l a0 br Ts (fun m w' => RdJ br A nr cr p K m w' ∧ Mod [br] w w') l 0)
    (hend : ∀ v w' p', (∀ j, j < l.length → (Ts.getD j TAny) (v j) w') → p' ≤ p + K * l.length → Rd br A nr cr p' w' → Mod [br] w w' → Q .normal (putAll v l 0 a0) w') : (Code.region id l.toArray true).wp P Q a0 w := by
  refine wp_region_typed br (fun j => Ts.getD j TAny) (fun m w' => RdJ br A nr cr p K m w' ∧ Mod [br] w w') hm hc (fun j v w w' h1 h2 => hst.all j v w w' h1 h2) ⟨⟨p, by omega, hR.mod (Mod.drew (Mod.refl _ _))⟩, Mod.drew (Mod.refl _ _)⟩ (OpsOk_of_E hops) (fun v w' n h1 h2 h3 => ?_)
  obtain ⟨⟨p', h4, h5⟩, h6⟩ := h3
  exact hend v w' p' h1 (Nat.le_trans h4 (by have := Nat.mul_le_mul_left K h2; omega)) h5 h6
variable {ρ : Operand → Value} {o : Oper} {n : Nat} {w w0 : World} {τ : Typ} {A : Option Addr} {nr cr p K : Nat}
theorem E_val {v : Value} (hr : (execOp ρ o).run P w = .ok (.value v) w) (hT : τ v w) (hJ : RdJ br A nr cr p K n w ∧ Mod [br] w0 w) : Out P br (fun m w' => RdJ br A nr cr p K m w' ∧ Mod [br] w0 w') ρ o n w τ :=
  .inl ⟨v, w, hr, hT, Mod.refl _ _, hJ.1.up, hJ.2⟩
theorem E_move {x : Operand} (ho : o.op = .move x) (hT : τ (ρ x) w) (hJ : RdJ br A nr cr p K n w ∧ Mod [br] w0 w) : Out P br (fun m w' => RdJ br A nr cr p K m w' ∧ Mod [br] w0 w') ρ o n w τ :=
  E_val (by unfold execOp; simp [ho]) hT hJ
theorem E_assign {x : Operand} (ho : o.op = .assign x) (hT : τ (ρ x) w) (hJ : RdJ br A nr cr p K n w ∧ Mod [br] w0 w) : Out P br (fun m w' => RdJ br A nr cr p K m w' ∧ Mod [br] w0 w') ρ o n w τ :=
  E_val (by unfold execOp; simp [ho]) hT hJ
/-- A call that reads on. -/
theorem E_call {f : FuncId} {args : Array Value} (hr : (execOp ρ o).run P w = .ok (.enter f args) w) (hJ : RdJ br A nr cr p K n w ∧ Mod [br] w0 w)
    (hc : ∀ p', p' ≤ p + K * n → Rd br A nr cr p' w → Calls P f args w (fun e w' => ∃ v, e = .returned v ∧ τ v w' ∧ Mod [br] w w' ∧ ∃ p2, p2 ≤ p' + K ∧ Rd br A nr cr p2 w')) : Out P br (fun m w' => RdJ br A nr cr p K m w' ∧ Mod [br] w0 w') ρ o n w τ := by
  obtain ⟨⟨p', h1, h2⟩, h3⟩ := hJ
  refine .inr ⟨f, args, hr, (hc p' h1 h2).mono ?_⟩
  rintro e w' ⟨v, rfl, k1, k2, p2, k3, k4⟩
  exact ⟨v, rfl, k1, k2, ⟨p2, by rw [Nat.mul_add]; omega, k4⟩, h3.seq k2⟩
theorem run_call {f : FuncId} {args : Array Operand} {ts : Array TypeId} (hf : ρ (.func f) = .func (.func f) #[] #[]) (ho : o.op = .call { callee := .value (.func f), args := args, argTypes := ts })
    (hc : (callFunc f (args.map ρ)).run P w = .ok (.enter f (args.map ρ)) w) : (execOp ρ o).run P w = .ok (.enter f (args.map ρ)) w := by
  unfold execOp
  simp only [ho, resolve, hf, go_sem]
  simpa [go_sem, invoke] using hc
theorem E_load {T : TypeId} {x : Operand} {z : Value} [hT : Ty P T z 1 false] (ho : o.op = .load T x) (hx : TP br τ (ρ x) w) (hJ : RdJ br A nr cr p K n w ∧ Mod [br] w0 w) : Out P br (fun m w' => RdJ br A nr cr p K m w' ∧ Mod [br] w0 w') ρ o n w τ := by
  obtain ⟨b, of, e, hb, hl, u, h1, h2⟩ := hx
  refine E_val (v := u) ?_ h2 hJ
  unfold execOp
  simp [ho, e, run_load1 hT h1]
theorem E_build {T E : TypeId} {len : Nat} {parts : Array (Nat × Operand)} {cs : List Value} {X : Result Value} (ho : o.op = .buildSlice T len parts) (hrX : (Instr.buildSlice T len (parts.map fun (i, x) => (i, ρ x))).run P w = X)
    (hX : X = .ok (.slice (some ⟨w.heap.size, 0, none⟩) len len) (w.alloc (.cells cs.toArray E))) [hst : Stab br τ] (hcs : ∀ j, j < len → ∃ u, cs[j]? = some u ∧ τ u w) (hJ : RdJ br A nr cr p K n w ∧ Mod [br] w0 w) : Out P br (fun m w' => RdJ br A nr cr p K m w' ∧ Mod [br] w0 w') ρ o n w (TSl br len τ) := by
  have hbr : br < w.heap.size := by
    obtain ⟨⟨p', h1, ⟨_, _, t, hb⟩, _⟩, _⟩ := hJ
    exact (Array.getElem?_eq_some_iff.1 hb).1
  obtain ⟨⟨p', h1, h2⟩, h3⟩ := hJ
  have hM := Mod.alloc0 w (.cells cs.toArray E)
  refine .inl ⟨_, _, ?_, ⟨w.heap.size, rfl, by omega, by simp, fun j hj => ?_⟩, hM.mono (by simp), RdJ.up ⟨p', h1, h2.mod hM⟩, h3.seq (hM.mono (by simp))⟩
  · unfold execOp
    simp only [ho, Sem.run_bind, hrX.trans hX, Result.andThen_ok]
    rfl
  · obtain ⟨u, hu, ht⟩ := hcs j hj
    refine ⟨u, ?_, hst.stab u _ _ (hM.mono (by simp)) ht⟩
    rw [cell_of_row _ _ _ cs.toArray E (0, 0) (heap_alloc_new w _)]
    simpa using hu
end
end Go.Proofs.YtnbaekjednmfjaaDoor
end

section
namespace Go.Proofs.YtnbaekjednmfjaaDoor
open Go.RowKit

/-- A new slice of one to three names. -/
def TNm (br base : Nat) : Typ := fun v w => ∃ b n, v = .slice (some ⟨b, 0, none⟩) n n ∧ 1 ≤ n ∧ n ≤ 3 ∧ b ≠ br ∧ base ≤ b ∧ ∃ (cs : List Value) (t : TypeId), w.heap[b]? = some (.cells cs.toArray t (0, 0)) ∧ cs.length = n ∧ ∀ u ∈ cs, ∃ s : ByteArray, u = .string s ∧ s.size ≤ 100
instance (br base : Nat) : Stab br (TNm br base) := ⟨fun v w w' hm ⟨b, n, e, h1, h3, hb, hl, cs, t, hh, hc⟩ =>
  ⟨b, n, e, h1, h3, hb, hl, cs, t, (hm.block b (Array.getElem?_eq_some_iff.1 hh).1 (by simpa using hb)).trans hh, hc⟩⟩
section
variable {P : Program} {br : Nat} {ρ : Operand → Value} {o : Oper} {n : Nat} {w w0 : World} {A : Option Addr} {nr cr p K : Nat}
theorem E_buildNm {T E : TypeId} {len : Nat} {parts : Array (Nat × Operand)} {cs : List Value} {X : Result Value} (ho : o.op = .buildSlice T len parts) (hrX : (Instr.buildSlice T len (parts.map fun (i, x) => (i, ρ x))).run P w = X)
    (hX : X = .ok (.slice (some ⟨w.heap.size, 0, none⟩) len len) (w.alloc (.cells cs.toArray E))) (hl : cs.length = len) (h1 : 1 ≤ len) (h3 : len ≤ 3) (hcs : ∀ u ∈ cs, ∃ s : ByteArray, u = .string s ∧ s.size ≤ 100) (hJ : RdJ br A nr cr p K n w ∧ Mod [br] w0 w) : Out P br (fun m w' => RdJ br A nr cr p K m w' ∧ Mod [br] w0 w') ρ o n w (TNm br w0.heap.size) := by
  have hbr : br < w.heap.size := by
    obtain ⟨⟨p', h1, ⟨_, _, t, hb⟩, _⟩, _⟩ := hJ
    exact (Array.getElem?_eq_some_iff.1 hb).1
  obtain ⟨⟨p', k1, k2⟩, k3⟩ := hJ
  have hM := Mod.alloc0 w (.cells cs.toArray E)
  refine .inl ⟨_, _, ?_, ⟨w.heap.size, len, rfl, h1, h3, by omega, k3.size, cs, E, heap_alloc_new w _, hl, hcs⟩, hM.mono (by simp), RdJ.up ⟨p', k1, k2.mod hM⟩, k3.seq (hM.mono (by simp))⟩
  unfold execOp
  simp only [ho, Sem.run_bind, hrX.trans hX, Result.andThen_ok]
  rfl
theorem names_row {cs : List Value} (h : ∀ u ∈ cs, ∃ s : ByteArray, u = .string s ∧ s.size ≤ 100) (w : World) : ∃ ns : List ByteArray, ns.length = cs.length ∧ Rep.str.all w [] cs ns := by
  induction cs with
  | nil => exact ⟨[], rfl, rfl, rfl⟩
  | cons u cs ih =>
    obtain ⟨ns, hl, ha⟩ := ih (fun u hu => h u (by simp [hu]))
    obtain ⟨s, rfl, hs⟩ := h u (by simp)
    exact ⟨s :: ns, by simp [hl], [], [], [_], cs, rfl, rfl, ⟨rfl, rfl, Nat.le_trans hs (by decide)⟩, ha⟩
theorem TNm.new {v : Value} (h : TNm br w0.heap.size v w) : ∃ ns : List ByteArray, 1 ≤ ns.length ∧ ns.length ≤ 3 ∧ NewIn Rep.str.rows w0 w [v] ns := by
  obtain ⟨b, n, rfl, h1, h3, hb, hl, cs, t, hh, hcl, hc⟩ := h
  obtain ⟨ns, hnl, ha⟩ := names_row hc w
  refine ⟨ns, by omega, by omega, [b], RowHas.whole hh (by simpa using ha) (by omega) (by unfold maxLen; omega), ⟨by simp, fun g hg => ?_⟩, fun g hg => by rw [List.mem_singleton.1 hg]; exact hl⟩
  rw [List.mem_singleton.1 hg]
  exact ⟨_, hh, rfl⟩
end
set_option maxHeartbeats 4000000 in
set_option maxRecDepth 10000 in
theorem spec_l20Names (w0 : World) (br : Nat) (A : Option Addr) (nr cr p : Nat) (kind : Int) (hk0 : 0 ≤ kind) (hk2 : kind ≤ 2) (hrd : Rd br A nr cr p w0) (hp : p ≤ 900000000) :
    Calls Tryd.prog 40 #[.pointer (some ⟨br, 0, none⟩), .int .i64 kind] w0 fun e w' => ∃ v ns, e = .returned v ∧ (1 ≤ ns.length ∧ ns.length ≤ 3) ∧ NewIn Rep.str.rows w0 w' [v] ns ∧ (∃ p', p' ≤ p + 100 ∧ Rd br A nr cr p' w') ∧ Mod [br] w0 w' := by
  go_enter Tryd.func40, Tryd.ntmps40
  go_wp2_with fail
  refine wp_region_rd br 1 [TNm br w0.heap.size, TNm br w0.heap.size, TNm br w0.heap.size, TNm br w0.heap.size, TNm br w0.heap.size, TNm br w0.heap.size, TSl br 6 (TNm br w0.heap.size), TSl br 3 (TI (0) (3)), TX (.pointer (some ⟨br, 0, none⟩)), TI (0) (2), TP br (TI (0) (3)), TI (0) (3), TSl br 2 (TI (2) (4)), TX (.pointer (some ⟨br, 0, none⟩)), TI (0) (1), TP br (TI (2) (4)), TI (2) (4), TSl br 3 (TI (0) (5)), TI (0) (2), TP br (TI (0) (5)), TI (0) (5), TP br (TNm br w0.heap.size), TNm br w0.heap.size, TNm br w0.heap.size] hrd (by kernel_rfl) (by kernel_rfl) ⟨?_, ?_, ?_, ?_, ?_, ?_, ?_, ?_, ?_, ?_, ?_, ?_, ?_, ?_, ?_, ?_, ?_, ?_, ?_, ?_, ?_, ?_, ?_, ?_, trivial⟩ ?_
  · intro n ρ w hc hf hb hd hJ hn
    refine E_buildNm (cs := ?_) rfl (by simp only [List.map_toArray, List.map_cons, List.map_nil, hc]; go_simp; rfl) rfl rfl (by decide) (by decide) ?_ hJ
    intro u hu
    simp only [List.mem_cons, List.not_mem_nil, or_false] at hu
    rcases hu with rfl | rfl <;> exact ⟨_, rfl, by decide⟩
  · intro n ρ w hc hf hb hd hJ hn
    refine E_buildNm (cs := ?_) rfl (by simp only [List.map_toArray, List.map_cons, List.map_nil, hc]; go_simp; rfl) rfl rfl (by decide) (by decide) ?_ hJ
    intro u hu
    simp only [List.mem_cons, List.not_mem_nil, or_false] at hu
    rcases hu with rfl | rfl | rfl <;> exact ⟨_, rfl, by decide⟩
  · intro n ρ w hc hf hb hd hJ hn
    refine E_buildNm (cs := ?_) rfl (by simp only [List.map_toArray, List.map_cons, List.map_nil, hc]; go_simp; rfl) rfl rfl (by decide) (by decide) ?_ hJ
    intro u hu
    simp only [List.mem_cons, List.not_mem_nil, or_false] at hu
    rcases hu with rfl | rfl <;> exact ⟨_, rfl, by decide⟩
  · intro n ρ w hc hf hb hd hJ hn
    refine E_buildNm (cs := ?_) rfl (by simp only [List.map_toArray, List.map_cons, List.map_nil, hc]; go_simp; rfl) rfl rfl (by decide) (by decide) ?_ hJ
    intro u hu
    simp only [List.mem_cons, List.not_mem_nil, or_false] at hu
    rcases hu with rfl <;> exact ⟨_, rfl, by decide⟩
  · intro n ρ w hc hf hb hd hJ hn
    refine E_buildNm (cs := ?_) rfl (by simp only [List.map_toArray, List.map_cons, List.map_nil, hc]; go_simp; rfl) rfl rfl (by decide) (by decide) ?_ hJ
    intro u hu
    simp only [List.mem_cons, List.not_mem_nil, or_false] at hu
    rcases hu with rfl | rfl | rfl <;> exact ⟨_, rfl, by decide⟩
  · intro n ρ w hc hf hb hd hJ hn
    refine E_buildNm (cs := ?_) rfl (by simp only [List.map_toArray, List.map_cons, List.map_nil, hc]; go_simp; rfl) rfl rfl (by decide) (by decide) ?_ hJ
    intro u hu
    simp only [List.mem_cons, List.not_mem_nil, or_false] at hu
    rcases hu with rfl | rfl <;> exact ⟨_, rfl, by decide⟩
  · intro n ρ w hc hf hb hd hJ hn
    obtain ⟨b0, n0, e0, h0⟩ : TNm br w0.heap.size (ρ (.tmp 5)) w := hd.1 rfl
    obtain ⟨b1, n1, e1, h1⟩ : TNm br w0.heap.size (ρ (.tmp 6)) w := hd.2.1 rfl
    obtain ⟨b2, n2, e2, h2⟩ : TNm br w0.heap.size (ρ (.tmp 7)) w := hd.2.2.1 rfl
    obtain ⟨b3, n3, e3, h3⟩ : TNm br w0.heap.size (ρ (.tmp 8)) w := hd.2.2.2.1 rfl
    obtain ⟨b4, n4, e4, h4⟩ : TNm br w0.heap.size (ρ (.tmp 9)) w := hd.2.2.2.2.1 rfl
    obtain ⟨b5, n5, e5, h5⟩ : TNm br w0.heap.size (ρ (.tmp 10)) w := hd.2.2.2.2.2.1 rfl
    refine E_build (cs := ?_) rfl (by simp only [List.map_toArray, List.map_cons, List.map_nil, hc, e0, e1, e2, e3, e4, e5]; go_simp; rfl) rfl ?_ hJ
    intro j hj
    match j, hj with
    | 0, _ => exact ⟨_, rfl, b0, n0, rfl, h0⟩
    | 1, _ => exact ⟨_, rfl, b1, n1, rfl, h1⟩
    | 2, _ => exact ⟨_, rfl, b2, n2, rfl, h2⟩
    | 3, _ => exact ⟨_, rfl, b3, n3, rfl, h3⟩
    | 4, _ => exact ⟨_, rfl, b4, n4, rfl, h4⟩
    | 5, _ => exact ⟨_, rfl, b5, n5, rfl, h5⟩
    | j + 6, hj => omega
  · intro n ρ w hc hf hb hd hJ hn
    refine E_build (cs := ?_) rfl (by simp only [List.map_toArray, List.map_cons, List.map_nil, hc]; go_simp; rfl) rfl ?_ hJ
    intro j hj
    match j, hj with
    | 0, _ => exact ⟨_, rfl, _, rfl, by omega, by omega⟩
    | 1, _ => exact ⟨_, rfl, _, rfl, by omega, by omega⟩
    | 2, _ => exact ⟨_, rfl, _, rfl, by omega, by omega⟩
    | j + 3, hj => omega
  · intro n ρ w hc hf hb hd hJ hn
    exact E_move rfl (hb 0 rfl) hJ
  · intro n ρ w hc hf hb hd hJ hn
    have e0 : ρ (.tmp 13) = .pointer (some ⟨br, 0, none⟩) := hd.1 rfl
    refine E_call (run_call (hf _) rfl (by simp only [List.map_toArray, List.map_cons, List.map_nil, hc, e0]; go_simp)) hJ (fun p2 hp2 hr2 => ?_)
    simp only [List.map_toArray, List.map_cons, List.map_nil, hc, e0]
    refine (spec_pick _ _ _ _ _ _ _ hr2 (by have hn2 : n < 24 := hn; omega) (by omega)).mono ?_
    rintro e w' ⟨⟨x, rfl, h1, h2, h3⟩, h4, h5⟩
    exact ⟨_, rfl, ⟨x, rfl, by omega, by omega⟩, h5, _, by omega, h4⟩
  · intro n ρ w hc hf hb hd hJ hn
    obtain ⟨b0, e0, nb0, hl0, hc0⟩ : TSl br 3 (TI (0) (3)) (ρ (.tmp 12)) w := hd.1 rfl
    obtain ⟨x1, e1, l1, u1⟩ : TI (0) (2) (ρ (.tmp 14)) w := hd.2.1 rfl
    obtain ⟨k1, rfl⟩ : ∃ k : Nat, x1 = k := ⟨x1.toNat, by omega⟩
    obtain ⟨u, hu, ht⟩ := hc0 k1 (by omega)
    refine E_val (v := .pointer (some ⟨b0, k1, none⟩)) ?_ ⟨b0, k1, rfl, nb0, hl0, u, hu, ht⟩ hJ
    unfold execOp; simp only [e0, e1]; go_simp
    first | done | (intro hh; exact absurd hh (by omega))
  · intro n ρ w hc hf hb hd hJ hn
    exact E_load rfl (hd.1 rfl) hJ
  · intro n ρ w hc hf hb hd hJ hn
    refine E_build (cs := ?_) rfl (by simp only [List.map_toArray, List.map_cons, List.map_nil, hc]; go_simp; rfl) rfl ?_ hJ
    intro j hj
    match j, hj with
    | 0, _ => exact ⟨_, rfl, _, rfl, by omega, by omega⟩
    | 1, _ => exact ⟨_, rfl, _, rfl, by omega, by omega⟩
    | j + 2, hj => omega
  · intro n ρ w hc hf hb hd hJ hn
    exact E_move rfl (hb 0 rfl) hJ
  · intro n ρ w hc hf hb hd hJ hn
    have e0 : ρ (.tmp 18) = .pointer (some ⟨br, 0, none⟩) := hd.1 rfl
    refine E_call (run_call (hf _) rfl (by simp only [List.map_toArray, List.map_cons, List.map_nil, hc, e0]; go_simp)) hJ (fun p2 hp2 hr2 => ?_)
    simp only [List.map_toArray, List.map_cons, List.map_nil, hc, e0]
    refine (spec_pick _ _ _ _ _ _ _ hr2 (by have hn2 : n < 24 := hn; omega) (by omega)).mono ?_
    rintro e w' ⟨⟨x, rfl, h1, h2, h3⟩, h4, h5⟩
    exact ⟨_, rfl, ⟨x, rfl, by omega, by omega⟩, h5, _, by omega, h4⟩
  · intro n ρ w hc hf hb hd hJ hn
    obtain ⟨b0, e0, nb0, hl0, hc0⟩ : TSl br 2 (TI (2) (4)) (ρ (.tmp 17)) w := hd.1 rfl
    obtain ⟨x1, e1, l1, u1⟩ : TI (0) (1) (ρ (.tmp 19)) w := hd.2.1 rfl
    obtain ⟨k1, rfl⟩ : ∃ k : Nat, x1 = k := ⟨x1.toNat, by omega⟩
    obtain ⟨u, hu, ht⟩ := hc0 k1 (by omega)
    refine E_val (v := .pointer (some ⟨b0, k1, none⟩)) ?_ ⟨b0, k1, rfl, nb0, hl0, u, hu, ht⟩ hJ
    unfold execOp; simp only [e0, e1]; go_simp
    first | done | (intro hh; exact absurd hh (by omega))
  · intro n ρ w hc hf hb hd hJ hn
    exact E_load rfl (hd.1 rfl) hJ
  · intro n ρ w hc hf hb hd hJ hn
    obtain ⟨x0, e0, l0, u0⟩ : TI (0) (3) (ρ (.tmp 16)) w := hd.1 rfl
    obtain ⟨x1, e1, l1, u1⟩ : TI (2) (4) (ρ (.tmp 21)) w := hd.2.1 rfl
    refine E_build (cs := ?_) rfl (by simp only [List.map_toArray, List.map_cons, List.map_nil, hc, e0, e1]; go_simp; rfl) rfl ?_ hJ
    intro j hj
    match j, hj with
    | 0, _ => exact ⟨_, rfl, _, rfl, by omega, by omega⟩
    | 1, _ => exact ⟨_, rfl, _, rfl, by omega, by omega⟩
    | 2, _ => exact ⟨_, rfl, _, rfl, by omega, by omega⟩
    | j + 3, hj => omega
  · intro n ρ w hc hf hb hd hJ hn
    exact E_move rfl ⟨kind, hb 1 rfl, hk0, hk2⟩ hJ
  · intro n ρ w hc hf hb hd hJ hn
    obtain ⟨b0, e0, nb0, hl0, hc0⟩ : TSl br 3 (TI (0) (5)) (ρ (.tmp 22)) w := hd.1 rfl
    obtain ⟨x1, e1, l1, u1⟩ : TI (0) (2) (ρ (.tmp 23)) w := hd.2.1 rfl
    obtain ⟨k1, rfl⟩ : ∃ k : Nat, x1 = k := ⟨x1.toNat, by omega⟩
    obtain ⟨u, hu, ht⟩ := hc0 k1 (by omega)
    refine E_val (v := .pointer (some ⟨b0, k1, none⟩)) ?_ ⟨b0, k1, rfl, nb0, hl0, u, hu, ht⟩ hJ
    unfold execOp; simp only [e0, e1]; go_simp
    first | done | (intro hh; exact absurd hh (by omega))
  · intro n ρ w hc hf hb hd hJ hn
    exact E_load rfl (hd.1 rfl) hJ
  · intro n ρ w hc hf hb hd hJ hn
    obtain ⟨b0, e0, nb0, hl0, hc0⟩ : TSl br 6 (TNm br w0.heap.size) (ρ (.tmp 11)) w := hd.1 rfl
    obtain ⟨x1, e1, l1, u1⟩ : TI (0) (5) (ρ (.tmp 25)) w := hd.2.1 rfl
    obtain ⟨k1, rfl⟩ : ∃ k : Nat, x1 = k := ⟨x1.toNat, by omega⟩
    obtain ⟨u, hu, ht⟩ := hc0 k1 (by omega)
    refine E_val (v := .pointer (some ⟨b0, k1, none⟩)) ?_ ⟨b0, k1, rfl, nb0, hl0, u, hu, ht⟩ hJ
    unfold execOp; simp only [e0, e1]; go_simp
    first | done | (intro hh; exact absurd hh (by omega))
  · intro n ρ w hc hf hb hd hJ hn
    exact E_load rfl (hd.1 rfl) hJ
  · intro n ρ w hc hf hb hd hJ hn
    exact E_assign rfl (hd.1 rfl) hJ
  intro v w' p' hT hp' hr' hM
  obtain ⟨ns, h1, h3, hN⟩ := TNm.new (hT 23 (by decide))
  simp only [putAll, Act.put, List.setIfInBounds_toArray, List.set_cons_zero, List.set_cons_succ]
  go_wp2_with fail
  go_ret
  exact ⟨_, ns, rfl, ⟨h1, h3⟩, hN, ⟨p', by have h : p' ≤ p + 1 * 24 := hp'; omega, hr'⟩, hM⟩
end Go.Proofs.YtnbaekjednmfjaaDoor
end

section
namespace Go.Proofs.YtnbaekjednmfjaaDoor
open Go.RowKit



























































































































































end Go.Proofs.YtnbaekjednmfjaaDoor
end
