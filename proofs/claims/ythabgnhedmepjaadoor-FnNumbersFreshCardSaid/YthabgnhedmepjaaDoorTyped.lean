/- Regions that draw their order, by types: each operation yields a value of its type, whatever came before it; a type outlasts whatever leaves all blocks but br alone. No function of the program occurs here. -/
import Derived.Test.YthabgnhedmepjaaDoorDraw
namespace Go.Proofs.YthabgnhedmepjaaDoor
open Go.RowKit

def dstOf (l : List Oper) (j : Nat) : Option Nat := (l[j]?).bind (·.dst)
def putAll (v : Nat → Value) : List Oper → Nat → Act → Act
  | [], _, a => a
  | o :: l, i, a => putAll v l (i + 1) (a.put o.dst (v i))
def isBase (l : List Oper) (k : Nat) : Bool := l.all fun o => o.dst != some k
/-- The types of what an operation waits for. -/
def HdL (l : List Oper) (T : Nat → Value → World → Prop) (a : Act) (w : World) : List Edge → Prop
  | [] => True
  | e :: r => (Region.binds .any e = true → match dstOf l e.on with
      | some d => T e.on (a.eval (.tmp d)) w
      | none => True) ∧ HdL l T a w r
def OpT (P : Program) (l : List Oper) (Q : Exit → Act → World → Prop) (a0 : Act) (br : Nat) (T : Nat → Value → World → Prop) (J : Nat → World → Prop) (i : Nat) (o : Oper) : Prop :=
  ∀ n a w, (∀ k, isBase l k = true → a.eval (.tmp k) = a0.eval (.tmp k)) → HdL l T a w o.after.toList → J n w → n < l.length →
    ∀ K : Act → World → Prop, (∀ v w', T i v w' → Mod [br] w w' → J (n + 1) w' → K (a.put o.dst v) w') → o.wp P a w K Q
def OpsOk (P : Program) (l : List Oper) (Q : Exit → Act → World → Prop) (a0 : Act) (br : Nat) (T : Nat → Value → World → Prop) (J : Nat → World → Prop) : List Oper → Nat → Prop
  | [], _ => True
  | o :: r, i => OpT P l Q a0 br T J i o ∧ OpsOk P l Q a0 br T J r (i + 1)
def edgesBack : List Oper → Nat → Bool
  | [], _ => true
  | o :: r, i => (o.after.toList.all fun e => !Region.binds .any e || decide (e.on < i)) && edgesBack r (i + 1)
def dstsApart : List Oper → Bool
  | [] => true
  | o :: r => (match o.dst with
      | some d => isBase r d
      | none => true) && dstsApart r
def chkT (n : Nat) (l : List Oper) : Bool := (l.all fun o => o.guard.isNone && (match o.dst with
      | some d => decide (d < n)
      | none => true)) && edgesBack l 0 && dstsApart l

section
variable {P : Program} {l : List Oper} {Q : Exit → Act → World → Prop} {a0 : Act} {br : Nat} {T : Nat → Value → World → Prop} {J : Nat → World → Prop} {v : Nat → Value}
theorem OpsOk.get : ∀ {r : List Oper} {i j : Nat} {o : Oper}, OpsOk P l Q a0 br T J r i → r[j]? = some o → OpT P l Q a0 br T J (i + j) o
  | [], _, _, _, _, h => by simp at h
  | o' :: r, i, 0, o, h, e => by simp at e; subst e; exact h.1
  | o' :: r, i, j + 1, o, h, e => by
    have := OpsOk.get (j := j) h.2 (by simpa using e)
    rwa [show i + 1 + j = i + (j + 1) by omega] at this
theorem edgesBack_get : ∀ {r : List Oper} {i j : Nat} {o : Oper}, edgesBack r i = true → r[j]? = some o → ∀ e ∈ o.after, Region.binds .any e = true → e.on < i + j
  | [], _, _, _, _, h => by simp at h
  | o' :: r, i, 0, o, h, e => by
    simp at e; subst e
    intro e he hb
    unfold edgesBack at h
    rw [Bool.and_eq_true] at h
    have := List.all_eq_true.1 h.1 e (by simpa using he)
    rw [hb] at this
    simpa using this
  | o' :: r, i, j + 1, o, h, e => by
    unfold edgesBack at h
    rw [Bool.and_eq_true] at h
    intro e' he hb
    have := edgesBack_get (j := j) h.2 (by simpa using e) e' he hb
    omega
theorem apart_get : ∀ {r : List Oper} {i j d : Nat}, dstsApart r = true → dstOf r i = some d → dstOf r j = some d → i = j
  | [], _, _, _, _, h, _ => by simp [dstOf] at h
  | o :: r, 0, 0, _, _, _, _ => rfl
  | o :: r, 0, j + 1, d, h, h1, h2 => by
    exfalso
    unfold dstsApart at h
    rw [Bool.and_eq_true] at h
    have e1 : o.dst = some d := by simpa [dstOf] using h1
    have h2' : dstOf r j = some d := by simpa [dstOf] using h2
    rw [e1] at h
    have h3 := h.1
    dsimp only at h3
    unfold dstOf at h2'
    obtain ⟨o2, ho2, hd2⟩ := Option.bind_eq_some_iff.1 h2'
    have := List.all_eq_true.1 h3 o2 (List.mem_of_getElem? ho2)
    rw [hd2] at this
    simp at this
  | o :: r, i + 1, 0, d, h, h1, h2 => by
    exfalso
    unfold dstsApart at h
    rw [Bool.and_eq_true] at h
    have e1 : o.dst = some d := by simpa [dstOf] using h2
    have h2' : dstOf r i = some d := by simpa [dstOf] using h1
    rw [e1] at h
    have h3 := h.1
    dsimp only at h3
    unfold dstOf at h2'
    obtain ⟨o2, ho2, hd2⟩ := Option.bind_eq_some_iff.1 h2'
    have := List.all_eq_true.1 h3 o2 (List.mem_of_getElem? ho2)
    rw [hd2] at this
    simp at this
  | o :: r, i + 1, j + 1, d, h, h1, h2 => by
    unfold dstsApart at h
    rw [Bool.and_eq_true] at h
    have := apart_get (r := r) (i := i) (j := j) h.2 (by simpa [dstOf] using h1) (by simpa [dstOf] using h2)
    omega
theorem put_size (a : Act) (d : Option Nat) (u : Value) : (a.put d u).tmps.size = a.tmps.size := by cases d <;> simp [Act.put]
theorem put_defers (a : Act) (d : Option Nat) (u : Value) : (a.put d u).defers = a.defers := by cases d <;> rfl
theorem put_ne (a : Act) {d : Option Nat} {k : Nat} (u : Value) (h : d ≠ some k) : (a.put d u).tmps[k]? = a.tmps[k]? := by
  cases d with
  | none => rfl
  | some d =>
    have : d ≠ k := fun e => h (by rw [e])
    simp [Act.put, Array.getElem?_setIfInBounds, this]
theorem put_eq (a : Act) {k : Nat} (u : Value) (h : k < a.tmps.size) : (a.put (some k) u).tmps[k]? = some u := by simp [Act.put, h]
theorem putAll_none : ∀ (l : List Oper) (i : Nat) (a : Act) (k : Nat), isBase l k = true → (putAll v l i a).tmps[k]? = a.tmps[k]?
  | [], _, _, _, _ => rfl
  | o :: l, i, a, k, h => by
    simp only [isBase, List.all_cons, Bool.and_eq_true, bne_iff_ne, ne_eq] at h
    show (putAll v l (i + 1) (a.put o.dst (v i))).tmps[k]? = _
    rw [putAll_none l (i + 1) _ k h.2, put_ne _ _ h.1]
theorem putAll_some : ∀ (l : List Oper) (i : Nat) (a : Act) (j k : Nat), dstsApart l = true → dstOf l j = some k → k < a.tmps.size → (putAll v l i a).tmps[k]? = some (v (i + j))
  | [], _, _, _, _, _, h, _ => by simp [dstOf] at h
  | o :: l, i, a, 0, k, ha, h, hk => by
    unfold dstsApart at ha
    rw [Bool.and_eq_true] at ha
    have e1 : o.dst = some k := by simpa [dstOf] using h
    rw [e1] at ha
    show (putAll v l (i + 1) (a.put o.dst (v i))).tmps[k]? = _
    rw [putAll_none l (i + 1) _ k ha.1, e1, put_eq _ _ hk]
    rfl
  | o :: l, i, a, j + 1, k, ha, h, hk => by
    unfold dstsApart at ha
    rw [Bool.and_eq_true] at ha
    show (putAll v l (i + 1) (a.put o.dst (v i))).tmps[k]? = _
    rw [putAll_some l (i + 1) _ j k ha.2 (by simpa [dstOf] using h) (by rw [put_size]; exact hk)]
    congr 2
    omega
theorem putAll_size : ∀ (l : List Oper) (i : Nat) (a : Act), (putAll v l i a).tmps.size = a.tmps.size
  | [], _, _ => rfl
  | o :: l, i, a => by show (putAll v l (i + 1) (a.put o.dst (v i))).tmps.size = _; rw [putAll_size l, put_size]
theorem putAll_defers : ∀ (l : List Oper) (i : Nat) (a : Act), (putAll v l i a).defers = a.defers
  | [], _, _ => rfl
  | o :: l, i, a => by show (putAll v l (i + 1) (a.put o.dst (v i))).defers = _; rw [putAll_defers l, put_defers]

structure RInv (l : List Oper) (a0 : Act) (T : Nat → Value → World → Prop) (v : Nat → Value) (listed : Array Bool) (a : Act) (w : World) : Prop where
  typ : ∀ j, listed.getD j false = true → T j (v j) w
  defers : a.defers = a0.defers
  size : a.tmps.size = a0.tmps.size
  got : ∀ j k, dstOf l j = some k → listed.getD j false = true → k < a0.tmps.size → a.tmps[k]? = some (v j)
  old : ∀ k, (∀ j, dstOf l j = some k → listed.getD j false = false) → a.tmps[k]? = a0.tmps[k]?
theorem act_ext {a b : Act} (h1 : a.defers = b.defers) (h2 : a.tmps.size = b.tmps.size) (h3 : ∀ k, k < b.tmps.size → a.tmps[k]? = b.tmps[k]?) : a = b := by
  obtain ⟨t1, d1⟩ := a
  obtain ⟨t2, d2⟩ := b
  simp only at h1 h2 h3
  subst h1
  congr 1
  apply Array.ext_getElem?
  intro k
  rcases Nat.lt_or_ge k t2.size with h | h
  · exact h3 k h
  · rw [Array.getElem?_eq_none h, Array.getElem?_eq_none (by omega)]
theorem chkT_parts {n : Nat} (h : chkT n l = true) : (∀ o ∈ l, o.guard = none ∧ ∀ d, o.dst = some d → d < n) ∧ edgesBack l 0 = true ∧ dstsApart l = true := by
  simp only [chkT, Bool.and_eq_true] at h
  refine ⟨fun o ho => ?_, h.1.2, h.2⟩
  have := List.all_eq_true.1 h.1.1 o ho
  rw [Bool.and_eq_true] at this
  refine ⟨by simpa using this.1, fun d hd => ?_⟩
  have h2 := this.2
  rw [hd] at h2
  simpa using h2
/-- Where nothing is left to come up, all has come up. -/
theorem all_listed (hb : edgesBack l 0 = true) {listed : Array Bool} (hsz : listed.size = l.length) (hr : Region.ready .any l.toArray listed = []) : ∀ j, j < l.length → listed.getD j false = true := by
  intro j
  induction j using Nat.strongRecOn with
  | ind j ih =>
    intro hj
    cases hl : listed.getD j false
    case true => rfl
    case false =>
      exfalso
      have hm : j ∈ Region.ready .any l.toArray listed := by
        refine mem_ready.2 ⟨?_, l[j], by simp [hj], fun e he hbd => ?_⟩
        · simpa [hsz, hj] using hl
        · have := edgesBack_get hb (List.getElem?_eq_getElem hj) e he hbd
          exact ih e.on (by omega) (by omega)
      rw [hr] at hm
      cases hm
theorem ready_none {listed : Array Bool} (h : listed.toList.count false = 0) : Region.ready .any l.toArray listed = [] := by
  unfold Region.ready
  rw [List.filter_eq_nil_iff]
  intro i _ hi
  simp only [Bool.and_eq_true, Bool.not_eq_true'] at hi
  have h1 := hi.1
  have hlt : i < listed.size := by
    rcases Nat.lt_or_ge i listed.size with h' | h'
    · exact h'
    · simp [Array.getElem?_eq_none h'] at h1
  have h2 : listed[i] = false := by simpa [hlt] using h1
  have := List.count_eq_zero.1 h
  exact this (by rw [← h2]; simp)
theorem wpAny_typed (hc : chkT a0.tmps.size l = true) (stab : ∀ j v w w', Mod [br] w w' → T j v w → T j v w') (hops : OpsOk P l Q a0 br T J l 0)
    (hend : ∀ v w' n, (∀ j, j < l.length → T j (v j) w') → n ≤ l.length → J n w' → Q .normal (putAll v l 0 a0) w') :
    ∀ (fuel : Nat) (n : Nat) (v : Nat → Value) (listed : Array Bool) (a : Act) (w : World), RInv l a0 T v listed a w → listed.size = l.length → J n w → n + fuel = l.length → listed.toList.count false = fuel →
      wpAny P .any l.toArray Q fuel listed a w := by
  obtain ⟨hg, hb, hd⟩ := chkT_parts hc
  have fin : ∀ (n : Nat) (v : Nat → Value) (listed : Array Bool) (a : Act) (w : World), RInv l a0 T v listed a w → listed.size = l.length → J n w → n ≤ l.length → Region.ready .any l.toArray listed = [] → Q .normal a w := by
    intro n v listed a w hI hsz hJ hn hr
    have hall := all_listed hb hsz hr
    have ha : a = putAll v l 0 a0 := by
      refine act_ext (by rw [hI.defers, putAll_defers]) (by rw [hI.size, putAll_size]) (fun k hk => ?_)
      rw [putAll_size] at hk
      cases hbs : isBase l k
      case true =>
        rw [putAll_none l 0 a0 k hbs]
        refine hI.old k (fun j hj => ?_)
        exfalso
        unfold dstOf at hj
        obtain ⟨o, ho, hdo⟩ := Option.bind_eq_some_iff.1 hj
        have := List.all_eq_true.1 hbs o (List.mem_of_getElem? ho)
        rw [hdo] at this
        simp at this
      case false =>
        obtain ⟨o, ho, hdo⟩ := List.all_eq_false.1 hbs
        obtain ⟨j, hj, rfl⟩ := List.getElem_of_mem ho
        have hdj : dstOf l j = some k := by
          unfold dstOf
          rw [List.getElem?_eq_getElem hj]
          simpa using hdo
        rw [putAll_some l 0 a0 j k hd hdj hk, Nat.zero_add]
        exact hI.got j k hdj (hall j hj) hk
    rw [ha]
    exact hend v w n (fun j hj => hI.typ j (hall j hj)) hn hJ
  intro fuel
  induction fuel with
  | zero => intro n v listed a w hI hsz hJ hn h0; exact ⟨ready_none h0, fin n v listed a w hI hsz hJ (by omega) (ready_none h0)⟩
  | succ fuel ih =>
    intro n v listed a w hI hsz hJ hn hcnt
    refine ⟨fin n v listed a w hI hsz hJ (by omega), fun i hi => ?_⟩
    obtain ⟨hun, o, ho, haft⟩ := mem_ready.1 hi
    have ho' : l[i]? = some o := by simpa using ho
    have hil : i < l.length := (List.getElem?_eq_some_iff.1 ho').1
    obtain ⟨hgd, hds⟩ := hg o (List.mem_of_getElem? ho')
    have hop := hops.get ho'
    rw [Nat.zero_add] at hop
    have hstep := hop n a w (fun k hk => by
        show a.tmps.getD k undef = a0.tmps.getD k undef
        rw [Array.getD_eq_getD_getElem?, Array.getD_eq_getD_getElem?, hI.old k (fun j hj => by
          exfalso
          unfold dstOf at hj
          obtain ⟨o2, ho2, hdo⟩ := Option.bind_eq_some_iff.1 hj
          have := List.all_eq_true.1 hk o2 (List.mem_of_getElem? ho2)
          rw [hdo] at this
          simp at this)])
      (by
        have key : ∀ r : List Edge, (∀ e ∈ r, e ∈ o.after) → HdL l T a w r := by
          intro r
          induction r with
          | nil => intro _; trivial
          | cons e r ihr =>
            intro hr
            refine ⟨fun hbd => ?_, ihr (fun e he => hr e (by simp [he]))⟩
            have hl := haft e (hr e (by simp)) hbd
            cases hde : dstOf l e.on with
            | none => trivial
            | some d =>
              have hdl : d < a0.tmps.size := by
                unfold dstOf at hde
                obtain ⟨o2, ho2, hdo⟩ := Option.bind_eq_some_iff.1 hde
                exact (hg o2 (List.mem_of_getElem? ho2)).2 d hdo
              have := hI.got e.on d hde hl hdl
              show T e.on (a.tmps.getD d undef) w
              rw [Array.getD_eq_getD_getElem?, this]
              exact hI.typ e.on hl
        exact key o.after.toList (fun e he => by simpa using he)) hJ (by omega)
    unfold wpOp
    rw [ho]
    have hw : Region.wanted o (yielded l.toArray a.tmps) = true := by unfold Region.wanted; rw [hgd]
    dsimp only
    rw [if_pos hw]
    refine .inl (hstep _ (fun u w' hT hM hJ' => ?_))
    have hlen' : (listed.setIfInBounds i true).size = l.length := by simpa using hsz
    have hget : ∀ j, (listed.setIfInBounds i true).getD j false = true → j = i ∨ (j ≠ i ∧ listed.getD j false = true) := by
      intro j hj
      by_cases hji : i = j
      · exact .inl hji.symm
      · rw [getD_set_ne false hji] at hj
        exact .inr ⟨fun e => hji e.symm, hj⟩
    have hiset : (listed.setIfInBounds i true).getD i false = true := by simp [hsz, hil]
    have hI' : RInv l a0 T (fun j => if j = i then u else v j) (listed.setIfInBounds i true) (a.put o.dst u) w' := by
      refine ⟨fun j hj => ?_, by rw [put_defers, hI.defers], by rw [put_size, hI.size], fun j k hjk hj hk => ?_, fun k hk => ?_⟩
      · rcases hget j hj with rfl | ⟨hne, hj⟩
        · rw [if_pos rfl]; exact hT
        · rw [if_neg hne]; exact stab j _ _ _ hM (hI.typ j hj)
      · rcases hget j hj with rfl | ⟨hne, hj⟩
        · rw [if_pos rfl]
          have hok : o.dst = some k := by
            unfold dstOf at hjk
            rw [ho'] at hjk
            simpa using hjk
          rw [hok]
          exact put_eq a u (by rw [hI.size]; exact hk)
        · rw [if_neg hne]
          have hnk : o.dst ≠ some k := fun e => hne (apart_get hd hjk (by unfold dstOf; rw [ho']; simpa using e))
          rw [put_ne a u hnk]
          exact hI.got j k hjk hj hk
      · have hnk : o.dst ≠ some k := fun e => by
          have := hk i (by unfold dstOf; rw [ho']; simpa using e)
          rw [hiset] at this
          cases this
        rw [put_ne a u hnk]
        refine hI.old k (fun j hj => ?_)
        have h1 := hk j hj
        by_cases hji : i = j
        · subst hji; rw [hiset] at h1; cases h1
        · rw [getD_set_ne false hji] at h1; exact h1
    refine ih (n + 1) _ _ _ _ hI' hlen' hJ' (by omega) ?_
    have hli : listed[i]'(by omega) = false := by simpa [hsz, hil] using hun
    rw [Array.toList_setIfInBounds, List.count_set (by simpa [hsz] using hil)]
    simp [hli, hcnt]
/-- A region that draws its order, by types. -/
theorem wp_region_typed {id : Nat} {w : World} (br : Nat) (T : Nat → Value → World → Prop) (J : Nat → World → Prop) (hm : P.follows .mixedOrders = true) (hc : chkT a0.tmps.size l = true) (stab : ∀ j v w w', Mod [br] w w' → T j v w → T j v w') (h0 : J 0 w.drew)
    (hops : OpsOk P l Q a0 br T J l 0) (hend : ∀ v w' n, (∀ j, j < l.length → T j (v j) w') → n ≤ l.length → J n w' → Q .normal (putAll v l 0 a0) w') : (Code.region id l.toArray true).wp P Q a0 w := by
  refine wp_region_any hm ?_
  have hsz : l.toArray.size = l.length := by simp
  rw [hsz]
  have hno : ∀ j, (Array.replicate l.length false).getD j false = false := fun j => by
    rw [Array.getD_eq_getD_getElem?, Array.getElem?_replicate]
    split <;> rfl
  exact wpAny_typed hc stab hops hend l.length 0 (fun _ => undef) _ a0 _ ⟨fun j hj => (by rw [hno] at hj; cases hj), rfl, rfl, fun j k _ hj _ => (by rw [hno] at hj; cases hj), fun _ _ => rfl⟩ (by simp) h0 (by omega) (by simp [List.count_replicate])
end
end Go.Proofs.YthabgnhedmepjaaDoor
