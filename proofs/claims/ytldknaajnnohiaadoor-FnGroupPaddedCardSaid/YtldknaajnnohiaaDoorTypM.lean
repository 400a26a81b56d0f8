/- Regions that draw their order, by types, where one operation stores into a block of its own. No function of the program occurs here. -/
import Derived.Test.YtldknaajnnohiaaDoorTyped
import Derived.Test.YtldknaajnnohiaaDoorNew
import Derived.Test.YtldknaajnnohiaaDoorTyped
import Derived.Test.YtldknaajnnohiaaDoorDrawB
namespace Go.Proofs.YtldknaajnnohiaaDoor
open Go.RowKit

section
variable {P : Program} {l : List Oper} {Q : Exit → Act → World → Prop} {a0 : Act} {M : Nat → World → World → Prop} {T : Nat → Value → World → Prop} {J : Nat → World → Prop} {v : Nat → Value}
def OpM (P : Program) (l : List Oper) (Q : Exit → Act → World → Prop) (a0 : Act) (M : Nat → World → World → Prop) (T : Nat → Value → World → Prop) (J : Nat → World → Prop) (i : Nat) (o : Oper) : Prop :=
  ∀ n a w, (∀ k, isBase l k = true → a.eval (.tmp k) = a0.eval (.tmp k)) → HdL l T a w o.after.toList → J n w → n < l.length →
    ∀ K : Act → World → Prop, (∀ v w', T i v w' → M i w w' → J (n + 1) w' → K (a.put o.dst v) w') → o.wp P a w K Q
def OpsM (P : Program) (l : List Oper) (Q : Exit → Act → World → Prop) (a0 : Act) (M : Nat → World → World → Prop) (T : Nat → Value → World → Prop) (J : Nat → World → Prop) : List Oper → Nat → Prop
  | [], _ => True
  | o :: r, i => OpM P l Q a0 M T J i o ∧ OpsM P l Q a0 M T J r (i + 1)
theorem OpsM.get : ∀ {r : List Oper} {i j : Nat} {o : Oper}, OpsM P l Q a0 M T J r i → r[j]? = some o → OpM P l Q a0 M T J (i + j) o
  | [], _, _, _, _, h => by simp at h
  | o' :: r, i, 0, o, h, e => by simp at e; subst e; exact h.1
  | o' :: r, i, j + 1, o, h, e => by
    have := OpsM.get (j := j) h.2 (by simpa using e)
    rwa [show i + 1 + j = i + (j + 1) by omega] at this
theorem wpAny_typM (hc : chkT a0.tmps.size l = true) (stab : ∀ i j v w w', j ≠ i → M i w w' → T j v w → T j v w') (hops : OpsM P l Q a0 M T J l 0)
    (hend : ∀ v w' n, (∀ j, j < l.length → T j (v j) w') → n ≤ l.length → J n w' → Q .normal (putAll v l 0 a0) w') :
    ∀ (fuel : Nat) (n : Nat) (v : Nat → Value) (listed : Array Bool) (a : Act) (w : World), RInv l a0 T v listed a w → listed.size = l.length → J n w → n + fuel = l.length → listed.toList.count false = fuel →
      wpAny P .any l.toArray Q fuel listed a w := by
  obtain ⟨hg, hb, hd⟩ := chkT_parts hc
  have fin : ∀ (n : Nat) (v : Nat → Value) (listed : Array Bool) (a : Act) (w : World), RInv l a0 T v listed a w → listed.size = l.length → J n w → n ≤ l.length → Region.ready .any l.toArray listed = [] → Q .normal a w := by
    intro n v listed a w hI hsz hJ hn hr
    have hall := all_listed hb hsz hr
    have ha : a = putAll v l 0 a0 := by
      refine act_ext (by rw [hI.defers, putAll_defers]) (by rw [hI.size, putAll_size]) (fun k hk => ?_)
      rw [putAll_size] at hk
      cases hbs : isBase l k
      case true =>
        rw [putAll_none l 0 a0 k hbs]
        refine hI.old k (fun j hj => ?_)
        exfalso
        unfold dstOf at hj
        obtain ⟨o, ho, hdo⟩ := Option.bind_eq_some_iff.1 hj
        have := List.all_eq_true.1 hbs o (List.mem_of_getElem? ho)
        rw [hdo] at this
        simp at this
      case false =>
        obtain ⟨o, ho, hdo⟩ := List.all_eq_false.1 hbs
        obtain ⟨j, hj, rfl⟩ := List.getElem_of_mem ho
        have hdj : dstOf l j = some k := by
          unfold dstOf
          rw [List.getElem?_eq_getElem hj]
          simpa using hdo
        rw [putAll_some l 0 a0 j k hd hdj hk, Nat.zero_add]
        exact hI.got j k hdj (hall j hj) hk
    rw [ha]
    exact hend v w n (fun j hj => hI.typ j (hall j hj)) hn hJ
  intro fuel
  induction fuel with
  | zero => intro n v listed a w hI hsz hJ hn h0; exact ⟨ready_none h0, fin n v listed a w hI hsz hJ (by omega) (ready_none h0)⟩
  | succ fuel ih =>
    intro n v listed a w hI hsz hJ hn hcnt
    refine ⟨fin n v listed a w hI hsz hJ (by omega), fun i hi => ?_⟩
    obtain ⟨hun, o, ho, haft⟩ := mem_ready.1 hi
    have ho' : l[i]? = some o := by simpa using ho
    have hil : i < l.length := (List.getElem?_eq_some_iff.1 ho').1
    obtain ⟨hgd, hds⟩ := hg o (List.mem_of_getElem? ho')
    have hop := hops.get ho'
    rw [Nat.zero_add] at hop
    have hstep := hop n a w (fun k hk => by
        show a.tmps.getD k undef = a0.tmps.getD k undef
        rw [Array.getD_eq_getD_getElem?, Array.getD_eq_getD_getElem?, hI.old k (fun j hj => by
          exfalso
          unfold dstOf at hj
          obtain ⟨o2, ho2, hdo⟩ := Option.bind_eq_some_iff.1 hj
          have := List.all_eq_true.1 hk o2 (List.mem_of_getElem? ho2)
          rw [hdo] at this
          simp at this)])
      (by
        have key : ∀ r : List Edge, (∀ e ∈ r, e ∈ o.after) → HdL l T a w r := by
          intro r
          induction r with
          | nil => intro _; trivial
          | cons e r ihr =>
            intro hr
            refine ⟨fun hbd => ?_, ihr (fun e he => hr e (by simp [he]))⟩
            have hl := haft e (hr e (by simp)) hbd
            cases hde : dstOf l e.on with
            | none => trivial
            | some d =>
              have hdl : d < a0.tmps.size := by
                unfold dstOf at hde
                obtain ⟨o2, ho2, hdo⟩ := Option.bind_eq_some_iff.1 hde
                exact (hg o2 (List.mem_of_getElem? ho2)).2 d hdo
              have := hI.got e.on d hde hl hdl
              show T e.on (a.tmps.getD d undef) w
              rw [Array.getD_eq_getD_getElem?, this]
              exact hI.typ e.on hl
        exact key o.after.toList (fun e he => by simpa using he)) hJ (by omega)
    unfold wpOp
    rw [ho]
    have hw : Region.wanted o (yielded l.toArray a.tmps) = true := by unfold Region.wanted; rw [hgd]
    dsimp only
    rw [if_pos hw]
    refine .inl (hstep _ (fun u w' hT hM hJ' => ?_))
    have hlen' : (listed.setIfInBounds i true).size = l.length := by simpa using hsz
    have hget : ∀ j, (listed.setIfInBounds i true).getD j false = true → j = i ∨ (j ≠ i ∧ listed.getD j false = true) := by
      intro j hj
      by_cases hji : i = j
      · exact .inl hji.symm
      · rw [getD_set_ne false hji] at hj
        exact .inr ⟨fun e => hji e.symm, hj⟩
    have hiset : (listed.setIfInBounds i true).getD i false = true := by simp [hsz, hil]
    have hI' : RInv l a0 T (fun j => if j = i then u else v j) (listed.setIfInBounds i true) (a.put o.dst u) w' := by
      refine ⟨fun j hj => ?_, by rw [put_defers, hI.defers], by rw [put_size, hI.size], fun j k hjk hj hk => ?_, fun k hk => ?_⟩
      · rcases hget j hj with rfl | ⟨hne, hj⟩
        · rw [if_pos rfl]; exact hT
        · rw [if_neg hne]; exact stab i j _ _ _ hne hM (hI.typ j hj)
      · rcases hget j hj with rfl | ⟨hne, hj⟩
        · rw [if_pos rfl]
          have hok : o.dst = some k := by
            unfold dstOf at hjk
            rw [ho'] at hjk
            simpa using hjk
          rw [hok]
          exact put_eq a u (by rw [hI.size]; exact hk)
        · rw [if_neg hne]
          have hnk : o.dst ≠ some k := fun e => hne (apart_get hd hjk (by unfold dstOf; rw [ho']; simpa using e))
          rw [put_ne a u hnk]
          exact hI.got j k hjk hj hk
      · have hnk : o.dst ≠ some k := fun e => by
          have := hk i (by unfold dstOf; rw [ho']; simpa using e)
          rw [hiset] at this
          cases this
        rw [put_ne a u hnk]
        refine hI.old k (fun j hj => ?_)
        have h1 := hk j hj
        by_cases hji : i = j
        · subst hji; rw [hiset] at h1; cases h1
        · rw [getD_set_ne false hji] at h1; exact h1
    refine ih (n + 1) _ _ _ _ hI' hlen' hJ' (by omega) ?_
    have hli : listed[i]'(by omega) = false := by simpa [hsz, hil] using hun
    rw [Array.toList_setIfInBounds, List.count_set (by simpa [hsz] using hil)]
    simp [hli, hcnt]
/-- A region that draws its order, by types. -/
theorem wp_region_typM {id : Nat} {w : World} (M : Nat → World → World → Prop) (T : Nat → Value → World → Prop) (J : Nat → World → Prop) (hm : P.follows .mixedOrders = true) (hc : chkT a0.tmps.size l = true) (stab : ∀ i j v w w', j ≠ i → M i w w' → T j v w → T j v w') (h0 : J 0 w.drew)
    (hops : OpsM P l Q a0 M T J l 0) (hend : ∀ v w' n, (∀ j, j < l.length → T j (v j) w') → n ≤ l.length → J n w' → Q .normal (putAll v l 0 a0) w') : (Code.region id l.toArray true).wp P Q a0 w := by
  refine wp_region_any hm ?_
  have hsz : l.toArray.size = l.length := by simp
  rw [hsz]
  have hno : ∀ j, (Array.replicate l.length false).getD j false = false := fun j => by
    rw [Array.getD_eq_getD_getElem?, Array.getElem?_replicate]
    split <;> rfl
  exact wpAny_typM hc stab hops hend l.length 0 (fun _ => undef) _ a0 _ ⟨fun j hj => (by rw [hno] at hj; cases hj), rfl, rfl, fun j k _ hj _ => (by rw [hno] at hj; cases hj), fun _ _ => rfl⟩ (by simp) h0 (by omega) (by simp [List.count_replicate])
end

/-! ### Types over new blocks, a reader in br, and one store into bz -/
class StabN (base : Nat) (τ : Typ) : Prop where
  stab : ∀ G v w w', (∀ g ∈ G, g < base) → Mod G w w' → τ v w → τ v w'
section
variable {base : Nat}
instance (lo hi : Int) : StabN base (TI lo hi) := ⟨fun _ _ _ _ _ _ h => h⟩
instance (u : Value) : StabN base (TX u) := ⟨fun _ _ _ _ _ _ h => h⟩
instance : StabN base TS := ⟨fun _ _ _ _ _ _ h => h⟩
instance : StabN base TAny := ⟨fun _ _ _ _ _ _ h => h⟩
/-- A new slice of n elements of one cell. -/
def TSn (base n : Nat) (τ : Typ) : Typ := fun v w => ∃ b, v = .slice (some ⟨b, 0, none⟩) n n ∧ base ≤ b ∧ b < w.heap.size ∧ ∀ j, j < n → ∃ u, w.cell? ⟨b, j, none⟩ = some u ∧ τ u w
def TPn (base : Nat) (τ : Typ) : Typ := fun v w => ∃ b o, v = .pointer (some ⟨b, o, none⟩) ∧ base ≤ b ∧ b < w.heap.size ∧ ∃ u, w.cell? ⟨b, o, none⟩ = some u ∧ τ u w
theorem new_notin {G : List Nat} {b : Nat} (hG : ∀ g ∈ G, g < base) (hb : base ≤ b) : b ∉ G := fun h => by have := hG b h; omega
instance (n : Nat) (τ : Typ) [h : StabN base τ] : StabN base (TSn base n τ) := ⟨fun G v w w' hG hm ⟨b, e, hb, hl, hc⟩ => ⟨b, e, hb, Nat.lt_of_lt_of_le hl hm.size, fun j hj => by
  obtain ⟨u, h1, h2⟩ := hc j hj
  exact ⟨u, by rw [hm.cell (p := ⟨b, j, none⟩) hl (new_notin hG hb)]; exact h1, h.stab G u w w' hG hm h2⟩⟩⟩
instance (τ : Typ) [h : StabN base τ] : StabN base (TPn base τ) := ⟨fun G v w w' hG hm ⟨b, o, e, hb, hl, u, h1, h2⟩ => ⟨b, o, e, hb, Nat.lt_of_lt_of_le hl hm.size, u, by rw [hm.cell (p := ⟨b, o, none⟩) hl (new_notin hG hb)]; exact h1, h.stab G u w w' hG hm h2⟩⟩
/-- A new slice of at most three texts, a literal. -/
def TNn (base : Nat) : Typ := fun v w => ∃ b n, v = .slice (some ⟨b, 0, none⟩) n n ∧ n ≤ 3 ∧ base ≤ b ∧ ∃ (cs : List Value) (t : TypeId), w.heap[b]? = some (.cells cs.toArray t (0, 0)) ∧ cs.length = n ∧ ∀ u ∈ cs, ∃ s : ByteArray, u = .string s ∧ s.size ≤ 100
instance : StabN base (TNn base) := ⟨fun G v w w' hG hm ⟨b, n, e, h3, hl, cs, t, hh, hc⟩ =>
  ⟨b, n, e, h3, hl, cs, t, (hm.block b (Array.getElem?_eq_some_iff.1 hh).1 (new_notin hG hl)).trans hh, hc⟩⟩
/-- A new empty slice. -/
def TE (base : Nat) : Typ := fun v w => ∃ b, v = .slice (some ⟨b, 0, none⟩) 0 0 ∧ base ≤ b ∧ ∃ t, w.heap[b]? = some (.cells #[] t (0, 0))
instance : StabN base (TE base) := ⟨fun G v w w' hG hm ⟨b, e, hl, t, hh⟩ => ⟨b, e, hl, t, (hm.block b (Array.getElem?_eq_some_iff.1 hh).1 (new_notin hG hl)).trans hh⟩⟩
/-- A new list of at most three texts. -/
def TRow (base : Nat) : Typ := fun v w => ∃ (ns : List ByteArray) (F : List Nat), ns.length ≤ 3 ∧ Rep.str.rows.has w F [v] ns ∧ Good w F ∧ ∀ g ∈ F, base ≤ g
instance : StabN base (TRow base) := ⟨fun G v w w' hG hm ⟨ns, F, h1, h2, h3, h4⟩ =>
  ⟨ns, F, h1, Rep.str.rows.keep h2 (fun g hg => hm.block g (h3.lt g hg) (new_notin hG (h4 g hg))), h3.mod hm (fun g hg => new_notin hG (h4 g hg)), h4⟩⟩
class StabNL (base : Nat) (Ts : List Typ) : Prop where
  all : ∀ G j v w w', (∀ g ∈ G, g < base) → Mod G w w' → (Ts.getD j TAny) v w → (Ts.getD j TAny) v w'
instance : StabNL base [] := ⟨fun _ _ _ _ _ _ _ h => h⟩
instance (τ : Typ) (Ts : List Typ) [h : StabN base τ] [k : StabNL base Ts] : StabNL base (τ :: Ts) := ⟨fun G j v w w' hG hm hv => by
  cases j with
  | zero => exact h.stab G v w w' hG hm hv
  | succ j => exact k.all G j v w w' hG hm (by simpa using hv)⟩
end
/-- The reader, its code apart from bz. -/
def RdZ (br bz : Nat) (A : Option Addr) (n c p : Nat) (w : World) : Prop :=
  (Rep.blk br).has w [br] [] [.slice A n c, .int .i64 p] ∧ ∃ F code, SliceHas Rep.u8 w F [.slice A n c] code ∧ ∀ g ∈ F, g ∉ [br, bz]
section
variable {br bz : Nat} {A : Option Addr} {n c p p' : Nat} {w w' : World}
theorem RdZ.rd (h : RdZ br bz A n c p w) : Rd br A n c p w := by
  obtain ⟨h1, F, code, h2, h3⟩ := h
  exact ⟨h1, F, code, h2, fun g hg hb => h3 g hg (by simp at hb; simp [hb])⟩
theorem RdZ.mod0 (h : RdZ br bz A n c p w) (hm : Mod [] w w') : RdZ br bz A n c p w' := by
  obtain ⟨h1, F, code, h2, h3⟩ := h
  exact ⟨(Rep.blk br).mod0 h1 hm, F, code, Rep.u8.slice.mod0 h2 hm, h3⟩
theorem RdZ.call (h : RdZ br bz A n c p w) (hm : Mod [br] w w') (hr : Rd br A n c p' w') : RdZ br bz A n c p' w' := by
  obtain ⟨h1, F, code, h2, h3⟩ := h
  exact ⟨hr.1, F, code, Rep.u8.slice.keep h2 (fun g hg => hm.block g (Rep.u8.slice.lt h2 g hg) (fun hb => h3 g hg (by simp at hb; simp [hb]))), h3⟩
theorem RdZ.store (h : RdZ br bz A n c p w) (hz : br ≠ bz) (hm : Mod [bz] w w') : RdZ br bz A n c p w' := by
  obtain ⟨h1, F, code, h2, h3⟩ := h
  refine ⟨(Rep.blk br).keep h1 (fun g hg => hm.block g ((Rep.blk br).lt h1 g hg) (fun hb => ?_)), F, code, Rep.u8.slice.keep h2 (fun g hg => hm.block g (Rep.u8.slice.lt h2 g hg) (fun hb => h3 g hg (by simp at hb; simp [hb]))), h3⟩
  simp at hg hb
  exact hz (hg.symm.trans hb)
end
/-! ### The walk -/
def bzIs (bz : Nat) (cs : List Value) (w : World) : Prop := ∃ t, w.heap[bz]? = some (.cells cs.toArray t (0, 0))
theorem bzIs.keep {bz : Nat} {cs : List Value} {w w' : World} {G : List Nat} (h : bzIs bz cs w) (hm : Mod G w w') (hb : bz ∉ G) : bzIs bz cs w' := by
  obtain ⟨t, h⟩ := h
  exact ⟨t, (hm.block bz (Array.getElem?_eq_some_iff.1 h).1 hb).trans h⟩
def TM (Ts : List Typ) (s bz : Nat) (cs : List Value) (j : Nat) (v : Value) (w : World) : Prop := (Ts.getD j TAny) v w ∧ (j = s → bzIs bz cs w)
def MM (s br bz : Nat) (i : Nat) (w w' : World) : Prop := Mod (if i = s then [bz] else [br]) w w'
def JM (br bz : Nat) (A : Option Addr) (nr cr p K L : Nat) (w0 : World) (m : Nat) (w : World) : Prop := (∃ p', p' ≤ p + K * m ∧ RdZ br bz A nr cr p' w) ∧ Mod [br, bz] w0 w ∧ ∃ us : List Value, us.length = L ∧ bzIs bz us w
section
variable {P : Program} {l : List Oper} {Q : Exit → Act → World → Prop} {a0 : Act} {br bz s p K L nr cr : Nat} {A : Option Addr} {cs : List Value} {Ts : List Typ} {w0 : World}
theorem opM_E {i : Nat} {o : Oper} (his : i ≠ s) (hne : br ≠ bz) (h : ∀ n (ρ : Operand → Value) w, (∀ v, ρ (.const v) = v) → (∀ f, ρ (.func f) = .func (.func f) #[] #[]) → (∀ k, isBase l k = true → ρ (.tmp k) = a0.eval (.tmp k)) → HdE l Ts ρ w o.after.toList → RdJ br A nr cr p K n w ∧ Mod [br] w w → w0.heap.size ≤ w.heap.size → Mod [br, bz] w0 w → n < l.length →
    Out P br (fun m w' => RdJ br A nr cr p K m w' ∧ Mod [br] w w') ρ o n w (Ts.getD i TAny)) : OpM P l Q a0 (MM s br bz) (TM Ts s bz cs) (JM br bz A nr cr p K L w0) i o := by
  intro n a w hb hd hJ hn K' hK
  obtain ⟨⟨p', h1, h2⟩, h3, us, h4, h5⟩ := hJ
  have hd' : ∀ r, HdL l (TM Ts s bz cs) a w r → HdE l Ts a.eval w r := by
    intro r
    induction r with
    | nil => exact id
    | cons e r ih =>
      intro hh
      refine ⟨fun hbd => ?_, ih hh.2⟩
      have := hh.1 hbd
      cases hde : dstOf l e.on with
      | none => trivial
      | some d => rw [hde] at this; exact this.1
  have fin : ∀ v w', (Ts.getD i TAny) v w' → Mod [br] w w' → RdJ br A nr cr p K (n + 1) w' ∧ Mod [br] w w' → K' (a.put o.dst v) w' := by
    rintro v w' k1 k2 ⟨⟨p2, k3, k4⟩, k5⟩
    refine hK v w' ⟨k1, fun e => absurd e his⟩ (by unfold MM; rw [if_neg his]; exact k2) ⟨⟨p2, k3, h2.call k2 k4⟩, h3.seq (k2.mono (by intro g hg _; simp at hg; simp [hg])), us, h4, h5.keep k2 (by simp; exact fun e => hne e.symm)⟩
  unfold Oper.wp
  rcases h n a.eval w (fun _ => rfl) (fun _ => rfl) hb (hd' _ hd) ⟨⟨p', h1, h2.rd⟩, Mod.refl _ _⟩ h3.size h3 hn with ⟨v, w', k1, k2, k3, k4⟩ | ⟨f, args, k1, k2⟩
  · rw [k1, Oper.upon_value]
    exact fin v w' k2 k3 k4
  · rw [k1, Oper.upon_enter]
    refine k2.mono ?_
    rintro e w' ⟨v, rfl, k2, k3, k4⟩
    exact fin v w' k2 k3 k4
/-- The store. -/
theorem opM_store {o : Oper} {T : TypeId} {z : Value} {px vx : Operand} (hne : br ≠ bz) [hT : Ty P T z L true] (ho : o.op = .store T px vx) (h1' : cs.all (·.oneCell') = true) (hl : cs.length = L) (hTs : Ts.getD s TAny = TAny)
    (hp : ∀ (a : Act) w, (∀ k, isBase l k = true → a.eval (.tmp k) = a0.eval (.tmp k)) → HdL l (TM Ts s bz cs) a w o.after.toList → a.eval px = .pointer (some ⟨bz, 0, none⟩) ∧ a.eval vx = .agg cs.toArray) : OpM P l Q a0 (MM s br bz) (TM Ts s bz cs) (JM br bz A nr cr p K L w0) s o := by
  intro n a w hb hd hJ hn K' hK
  obtain ⟨⟨p', h1, h2⟩, h3, us, h4, t, h5⟩ := hJ
  obtain ⟨hp1, hp2⟩ := hp a w hb hd
  have hSb : Sat (bare w) w [.box bz us, .ro (Rep.frame w [bz]) [] ()] := Sat.enterBox ⟨rfl, rfl, t, h5⟩
  refine (does_storeS 0 hSb ho hp1 hp2 rfl (by simpa using h1') (by simp [hl]) (by omega)).wp ?_
  rintro v w' ⟨rfl, hS2⟩
  obtain ⟨⟨_, _, t2, k1⟩, k2⟩ := Sat.exitBox (Γ := []) (b := bz) (us := cs) (by simpa using hS2)
  refine hK _ w' ⟨by rw [hTs]; trivial, fun _ => ⟨t2, k1⟩⟩ (by unfold MM; rw [if_pos rfl]; exact k2) ⟨⟨p', by rw [Nat.mul_add]; omega, h2.store hne k2⟩, h3.seq (k2.mono (by intro g hg _; simp at hg; simp [hg])), cs, hl, t2, k1⟩
/-- A region that draws its order, reads from a code, and stores into bz. -/
theorem wp_region_rdM {id : Nat} {w : World} (br bz K s L : Nat) (cs : List Value) (Ts : List Typ) [hst : StabNL w.drew.heap.size Ts] (hR : RdZ br bz A nr cr p w) {us : List Value} (hu : us.length = L) (hz : bzIs bz us w) (hne : br ≠ bz) (hsl : s < l.length) (hm : P.follows .mixedOrders = true) (hc : chkT a0.tmps.size l = true)
    (hops : OpsM P l Q a0 (MM s br bz) (TM Ts s bz cs) (JM br bz A nr cr p K L w.drew) l 0)
    (hend : ∀ v w' p', (∀ j, j < l.length → (Ts.getD j TAny) (v j) w') → bzIs bz cs w' → p' ≤ p + K * l.length → RdZ br bz A nr cr p' w' → Mod [br, bz] w.drew w' → Q .normal (putAll v l 0 a0) w') : (Code.region id l.toArray true).wp P Q a0 w := by
  have hd : Mod [] w w.drew := Mod.drew (Mod.refl _ _)
  have hbr : br < w.drew.heap.size := by
    obtain ⟨⟨_, _, t, h⟩, _⟩ := hR
    exact (Array.getElem?_eq_some_iff.1 h).1
  have hbz : bz < w.drew.heap.size := by
    obtain ⟨t, h⟩ := hz
    exact (Array.getElem?_eq_some_iff.1 h).1
  refine wp_region_typM (MM s br bz) (TM Ts s bz cs) (JM br bz A nr cr p K L w.drew) hm hc ?_ ⟨⟨p, by omega, hR.mod0 hd⟩, Mod.refl _ _, us, hu, hz.keep hd (by simp)⟩ hops ?_
  · intro i j v w1 w2 hji hM hT
    refine ⟨hst.all (if i = s then [bz] else [br]) j v w1 w2 (fun g hg => ?_) hM hT.1, fun e => ?_⟩
    · split at hg <;> (simp at hg; subst hg; assumption)
    · subst e
      unfold MM at hM
      rw [if_neg (fun e => hji e.symm)] at hM
      exact (hT.2 rfl).keep hM (by simp; exact fun e => hne e.symm)
  · intro v w' n h1 h2 ⟨⟨p', h3, h4⟩, h5, _⟩
    exact hend v w' p' (fun j hj => (h1 j hj).1) ((h1 s hsl).2 rfl) (Nat.le_trans h3 (by have := Nat.mul_le_mul_left K h2; omega)) h4 h5
variable {ρ : Operand → Value} {o : Oper} {n base : Nat} {w : World} {τ : Typ}
theorem M_load {T : TypeId} {x : Operand} {z : Value} [hT : Ty P T z 1 false] (ho : o.op = .load T x) (hx : TPn base τ (ρ x) w) (hJ : RdJ br A nr cr p K n w ∧ Mod [br] w0 w) : Out P br (fun m w' => RdJ br A nr cr p K m w' ∧ Mod [br] w0 w') ρ o n w τ := by
  obtain ⟨b, of, e, hb, hl, u, h1, h2⟩ := hx
  refine E_val (v := u) ?_ h2 hJ
  unfold execOp
  simp [ho, e, run_load1 hT h1]
theorem M_build {T E : TypeId} {len : Nat} {parts : Array (Nat × Operand)} {cs : List Value} {X : Result Value} (ho : o.op = .buildSlice T len parts) (hrX : (Instr.buildSlice T len (parts.map fun (i, x) => (i, ρ x))).run P w = X)
    (hX : X = .ok (.slice (some ⟨w.heap.size, 0, none⟩) len len) (w.alloc (.cells cs.toArray E))) [hst : StabN base τ] (hcs : ∀ j, j < len → ∃ u, cs[j]? = some u ∧ τ u w) (hbase : base ≤ w.heap.size) (hJ : RdJ br A nr cr p K n w ∧ Mod [br] w0 w) : Out P br (fun m w' => RdJ br A nr cr p K m w' ∧ Mod [br] w0 w') ρ o n w (TSn base len τ) := by
  obtain ⟨⟨p', h1, h2⟩, h3⟩ := hJ
  have hM := Mod.alloc0 w (.cells cs.toArray E)
  refine .inl ⟨_, _, ?_, ⟨w.heap.size, rfl, hbase, by simp, fun j hj => ?_⟩, hM.mono (by simp), RdJ.up ⟨p', h1, h2.mod hM⟩, h3.seq (hM.mono (by simp))⟩
  · unfold execOp
    simp only [ho, Sem.run_bind, hrX.trans hX, Result.andThen_ok]
    rfl
  · obtain ⟨u, hu, ht⟩ := hcs j hj
    refine ⟨u, ?_, hst.stab [] u _ _ (by simp) hM ht⟩
    rw [cell_of_row _ _ _ cs.toArray E (0, 0) (heap_alloc_new w _)]
    simpa using hu
/-- A load of what lies in a variable of one's own. -/
theorem M_loadS {T : TypeId} {z : Value} {x : Operand} {b i j k : Nat} {us us1 us2 : List Value} {Γ : List Fact} {wq wr : World} (hS : Sat wq wr Γ) (hM : Mod [br, bz] wr w) [hi : BoxAt Γ b us i] [hj : BoxAt Γ br us1 j] [hk : BoxAt Γ bz us2 k] (hij : i ≠ j ∧ i ≠ k) [hT : Ty P T z n true] {n' : Nat} (hl : us.length = n) (ho : o.op = .load T x) (hx : ρ x = .pointer (some ⟨b, 0, none⟩)) (hJ : RdJ br A nr cr p K n' w ∧ Mod [br] w0 w) : Out P br (fun m w' => RdJ br A nr cr p K m w' ∧ Mod [br] w0 w') ρ o n' w (TX (.agg us.toArray)) := by
  have hne := hS.boxNe hi.get hj.get hij.1
  have hne2 := hS.boxNe hi.get hk.get hij.2
  have hlt : b < wr.heap.size := by
    obtain ⟨R, O, ⟨O1, O2, rfl, ⟨rfl, t, hb⟩, _⟩, _⟩ := hS.pull i hi.get
    exact (Array.getElem?_eq_some_iff.1 hb).1
  have hc : ∀ k u, us[k]? = some u → w.cell? ((⟨b, 0, none⟩ : Addr).add k) = some u := fun k u hu =>
    (hM.cell (p := (⟨b, 0, none⟩ : Addr).add k) (by rw [add_block]; exact hlt) (by rw [add_block]; simp only [List.mem_cons, List.not_mem_nil, or_false, not_or]; exact ⟨hne, hne2⟩)).trans (hS.boxCells hi.get k u hu)
  refine E_val (v := .agg us.toArray) ?_ rfl hJ
  unfold execOp
  simp [ho, hx, run_loadS hT hl hc]
end
/-- What a call holds, the reader and a variable in front: both can be changed. -/
theorem Sat.rdZ {w0 w : World} {br bz : Nat} {A : Option Addr} {n c p : Nat} {us : List Value} {code : List UInt8} {Γ : List Fact} (h : Sat w0 w (.box br [.slice A n c, .int .i64 ((p : Nat) : Int)] :: .box bz us :: .ro Rep.u8.slice [.slice A n c] code :: Γ)) :
    RdZ br bz A n c p w ∧ bzIs bz us w ∧ br ≠ bz ∧ ∀ (w' : World) (p' : Nat) (cs : List Value) {β : Type} (d : Rep β) (ds : List Value) (y : β), RdZ br bz A n c p' w' → bzIs bz cs w' → Mod [br, bz] w w' → (∃ F, d.has w' F ds y ∧ Good w' F ∧ ∀ g ∈ F, w.heap.size ≤ g) →
      Sat w0 w' (.own d ds y :: .box br [.slice A n c, .int .i64 ((p' : Nat) : Int)] :: .box bz cs :: .ro Rep.u8.slice [.slice A n c] code :: Γ) := by
  obtain ⟨R, O, hO, hG, hR, hRl, hfin⟩ := Sat.opened (Γ1 := [.box br [.slice A n c, .int .i64 ((p : Nat) : Int)], .box bz us]) h
  obtain ⟨O1, O2, rfl, ⟨rfl, t, hb⟩, O3, O4, rfl, ⟨rfl, t', hz⟩, rfl⟩ := hO
  have hne : br ≠ bz := by
    intro e
    subst e
    have := hG.1
    simp at this
  have hro : ∃ F, SliceHas Rep.u8 w F [.slice A n c] code ∧ ∀ g ∈ F, g ∉ [br, bz] := by
    obtain ⟨R2, O', ⟨P1, P2, rfl, ⟨rfl, _, _⟩, P3, P4, rfl, ⟨rfl, _, _⟩, P5, P6, rfl, ⟨rfl, F, hF, hFR⟩, _⟩, _, h3, _⟩ := h
    refine ⟨F, hF, fun g hg hgb => ?_⟩
    have hm : g ∈ [br] ++ ([bz] ++ ([] ++ P6)) := by
      simp at hgb ⊢
      rcases hgb with h | h <;> simp [h]
    exact (h3 g hm).1 (hFR g hg)
  obtain ⟨F0, hF0, hF1⟩ := hro
  refine ⟨⟨⟨rfl, rfl, t, hb⟩, F0, code, hF0, hF1⟩, ⟨t', hz⟩, hne, fun w' p' cs {β} d ds y hr hzz hm hn => ?_⟩
  obtain ⟨⟨_, _, t3, hb3⟩, _⟩ := hr
  obtain ⟨t4, hz4⟩ := hzz
  obtain ⟨G, hd, hGG, hnew⟩ := hn
  have hbl : br < w.heap.size := (Array.getElem?_eq_some_iff.1 hb).1
  have hzl : bz < w.heap.size := (Array.getElem?_eq_some_iff.1 hz).1
  refine hfin w' [.own d ds y, .box br [.slice A n c, .int .i64 ((p' : Nat) : Int)], .box bz cs] (G ++ [br, bz]) ⟨G, [br, bz], rfl, hd, [br], [bz], rfl, ⟨rfl, t3, hb3⟩, [bz], [], rfl, ⟨rfl, t4, hz4⟩, rfl⟩ (hGG.append ⟨by simpa using hne, fun g hg => ?_⟩ (fun g hg hgb => ?_)) (fun g hg => ?_) (hm.mono (fun g hg _ => by simpa using hg))
  · simp at hg
    rcases hg with rfl | rfl
    · exact ⟨_, hb3, rfl⟩
    · exact ⟨_, hz4, rfl⟩
  · have := hnew g hg
    simp at hgb
    rcases hgb with rfl | rfl <;> omega
  · rcases List.mem_append.1 hg with h' | h'
    · exact .inr (hnew g h')
    · exact .inl (by simpa using h')
end Go.Proofs.YtldknaajnnohiaaDoor
