/- Types of what draws yield, and the rules of regions that draw their order, by types (a reader in block br). -/
import Derived.Test.YthabgnhedmepjaaDoorTyped
import Derived.Test.YthabgnhedmepjaaDoorRdr
namespace Go.Proofs.YthabgnhedmepjaaDoor
open Go.RowKit

abbrev Typ := Value → World → Prop
def TI (lo hi : Int) : Typ := fun v _ => ∃ x : Int, v = .int .i64 x ∧ lo ≤ x ∧ x ≤ hi
def TX (u : Value) : Typ := fun v _ => v = u
def TB : Typ := fun v _ => ∃ b, v = .bool b
def TS : Typ := fun v _ => ∃ s : ByteArray, v = .string s ∧ s.size ≤ 100
def TAny : Typ := fun _ _ => True
/-- A slice of n elements of one cell, in a block that is not br. -/
def TSl (br n : Nat) (τ : Typ) : Typ := fun v w => ∃ b, v = .slice (some ⟨b, 0, none⟩) n n ∧ b ≠ br ∧ b < w.heap.size ∧ ∀ j, j < n → ∃ u, w.cell? ⟨b, j, none⟩ = some u ∧ τ u w
/-- The address of a cell that is not in br. -/
def TP (br : Nat) (τ : Typ) : Typ := fun v w => ∃ b o, v = .pointer (some ⟨b, o, none⟩) ∧ b ≠ br ∧ b < w.heap.size ∧ ∃ u, w.cell? ⟨b, o, none⟩ = some u ∧ τ u w
class Stab (br : Nat) (τ : Typ) : Prop where
  stab : ∀ v w w', Mod [br] w w' → τ v w → τ v w'
instance (br : Nat) (lo hi : Int) : Stab br (TI lo hi) := ⟨fun _ _ _ _ h => h⟩
instance (br : Nat) (u : Value) : Stab br (TX u) := ⟨fun _ _ _ _ h => h⟩
instance (br : Nat) : Stab br TB := ⟨fun _ _ _ _ h => h⟩
instance (br : Nat) : Stab br TS := ⟨fun _ _ _ _ h => h⟩
instance (br : Nat) : Stab br TAny := ⟨fun _ _ _ _ h => h⟩
instance (br n : Nat) (τ : Typ) [h : Stab br τ] : Stab br (TSl br n τ) := ⟨fun v w w' hm ⟨b, e, hb, hl, hc⟩ => ⟨b, e, hb, Nat.lt_of_lt_of_le hl hm.size, fun j hj => by
  obtain ⟨u, h1, h2⟩ := hc j hj
  exact ⟨u, by rw [hm.cell (p := ⟨b, j, none⟩) hl (by simpa using hb)]; exact h1, h.stab u w w' hm h2⟩⟩⟩
instance (br : Nat) (τ : Typ) [h : Stab br τ] : Stab br (TP br τ) := ⟨fun v w w' hm ⟨b, o, e, hb, hl, u, h1, h2⟩ => ⟨b, o, e, hb, Nat.lt_of_lt_of_le hl hm.size, u, by rw [hm.cell (p := ⟨b, o, none⟩) hl (by simpa using hb)]; exact h1, h.stab u w w' hm h2⟩⟩
/-- All types of a list outlast. -/
class StabL (br : Nat) (Ts : List Typ) : Prop where
  all : ∀ j v w w', Mod [br] w w' → (Ts.getD j TAny) v w → (Ts.getD j TAny) v w'
instance (br : Nat) : StabL br [] := ⟨fun _ _ _ _ _ h => h⟩
instance (br : Nat) (τ : Typ) (Ts : List Typ) [h : Stab br τ] [k : StabL br Ts] : StabL br (τ :: Ts) := ⟨fun j v w w' hm hv => by
  cases j with
  | zero => exact h.stab v w w' hm hv
  | succ j => exact k.all j v w w' hm (by simpa using hv)⟩

/-- After m operations of a region the reader has gone K places on at most for each. -/
def RdJ (br : Nat) (A : Option Addr) (n c p K : Nat) (m : Nat) (w : World) : Prop := ∃ p', p' ≤ p + K * m ∧ Rd br A n c p' w
theorem RdJ.up {br : Nat} {A : Option Addr} {n c p K m : Nat} {w : World} (h : RdJ br A n c p K m w) : RdJ br A n c p K (m + 1) w := by
  obtain ⟨p', h1, h2⟩ := h
  exact ⟨p', by rw [Nat.mul_add]; omega, h2⟩

def HdE (l : List Oper) (Ts : List Typ) (ρ : Operand → Value) (w : World) : List Edge → Prop
  | [] => True
  | e :: r => (Region.binds .any e = true → match dstOf l e.on with
      | some d => (Ts.getD e.on TAny) (ρ (.tmp d)) w
      | none => True) ∧ HdE l Ts ρ w r
/-- What an operation comes to. -/
def Out (P : Program) (br : Nat) (J : Nat → World → Prop) (ρ : Operand → Value) (o : Oper) (n : Nat) (w : World) (τ : Typ) : Prop :=
  (∃ v w', (execOp ρ o).run P w = .ok (.value v) w' ∧ τ v w' ∧ Mod [br] w w' ∧ J (n + 1) w') ∨
  (∃ f args, (execOp ρ o).run P w = .ok (.enter f args) w ∧ Calls P f args w (fun e w' => ∃ v, e = .returned v ∧ τ v w' ∧ Mod [br] w w' ∧ J (n + 1) w'))
def OpE (P : Program) (l : List Oper) (a0 : Act) (br : Nat) (Ts : List Typ) (J : Nat → World → Prop) (i : Nat) (o : Oper) : Prop :=
  ∀ n (ρ : Operand → Value) w, (∀ v, ρ (.const v) = v) → (∀ f, ρ (.func f) = .func (.func f) #[] #[]) → (∀ k, isBase l k = true → ρ (.tmp k) = a0.eval (.tmp k)) → HdE l Ts ρ w o.after.toList → J n w → n < l.length →
    Out P br J ρ o n w (Ts.getD i TAny)
def OpsE (P : Program) (l : List Oper) (a0 : Act) (br : Nat) (Ts : List Typ) (J : Nat → World → Prop) : List Oper → Nat → Prop
  | [], _ => True
  | o :: r, i => OpE P l a0 br Ts J i o ∧ OpsE P l a0 br Ts J r (i + 1)
section
variable {P : Program} {l : List Oper} {Q : Exit → Act → World → Prop} {a0 : Act} {br : Nat} {Ts : List Typ} {J : Nat → World → Prop}
theorem OpT_of_E {i : Nat} {o : Oper} (h : OpE P l a0 br Ts J i o) : OpT P l Q a0 br (fun j => Ts.getD j TAny) J i o := by
  intro n a w hb hd hJ hn K hK
  have hd' : ∀ r, HdL l (fun j => Ts.getD j TAny) a w r → HdE l Ts a.eval w r := by
    intro r
    induction r with
    | nil => exact id
    | cons e r ih => exact fun hh => ⟨hh.1, ih hh.2⟩
  unfold Oper.wp
  rcases h n a.eval w (fun _ => rfl) (fun _ => rfl) hb (hd' _ hd) hJ hn with ⟨v, w', h1, h2, h3, h4⟩ | ⟨f, args, h1, h2⟩
  · rw [h1, Oper.upon_value]
    exact hK v w' h2 h3 h4
  · rw [h1, Oper.upon_enter]
    refine h2.mono ?_
    rintro e w' ⟨v, rfl, k2, k3, k4⟩
    exact hK v w' k2 k3 k4
theorem OpsOk_of_E : ∀ {r : List Oper} {i : Nat}, OpsE P l a0 br Ts J r i → OpsOk P l Q a0 br (fun j => Ts.getD j TAny) J r i
  | [], _, _ => trivial
  | _ :: _, _, h => ⟨OpT_of_E h.1, OpsOk_of_E h.2⟩
/-- A region that draws its order and reads from a code. -/
theorem wp_region_rd {id : Nat} {w : World} {A : Option Addr} {nr cr p : Nat} (br K : Nat) (Ts : List Typ) [hst : StabL br Ts] (hR : Rd br A nr cr p w) (hm : P.follows .mixedOrders = true) (hc : chkT a0.tmps.size l = true)
    (hops : OpsE P l a0 br Ts (fun m w' => RdJ br A nr cr p K m w' ∧ Mod [br] w w') l 0)
    (hend : ∀ v w' p', (∀ j, j < l.length → (Ts.getD j TAny) (v j) w') → p' ≤ p + K * l.length → Rd br A nr cr p' w' → Mod [br] w w' → Q .normal (putAll v l 0 a0) w') : (Code.region id l.toArray true).wp P Q a0 w := by
  refine wp_region_typed br (fun j => Ts.getD j TAny) (fun m w' => RdJ br A nr cr p K m w' ∧ Mod [br] w w') hm hc (fun j v w w' h1 h2 => hst.all j v w w' h1 h2) ⟨⟨p, by omega, hR.mod (Mod.drew (Mod.refl _ _))⟩, Mod.drew (Mod.refl _ _)⟩ (OpsOk_of_E hops) (fun v w' n h1 h2 h3 => ?_)
  obtain ⟨⟨p', h4, h5⟩, h6⟩ := h3
  exact hend v w' p' h1 (Nat.le_trans h4 (by have := Nat.mul_le_mul_left K h2; omega)) h5 h6
variable {ρ : Operand → Value} {o : Oper} {n : Nat} {w w0 : World} {τ : Typ} {A : Option Addr} {nr cr p K : Nat}
theorem E_val {v : Value} (hr : (execOp ρ o).run P w = .ok (.value v) w) (hT : τ v w) (hJ : RdJ br A nr cr p K n w ∧ Mod [br] w0 w) : Out P br (fun m w' => RdJ br A nr cr p K m w' ∧ Mod [br] w0 w') ρ o n w τ :=
  .inl ⟨v, w, hr, hT, Mod.refl _ _, hJ.1.up, hJ.2⟩
theorem E_move {x : Operand} (ho : o.op = .move x) (hT : τ (ρ x) w) (hJ : RdJ br A nr cr p K n w ∧ Mod [br] w0 w) : Out P br (fun m w' => RdJ br A nr cr p K m w' ∧ Mod [br] w0 w') ρ o n w τ :=
  E_val (by unfold execOp; simp [ho]) hT hJ
theorem E_assign {x : Operand} (ho : o.op = .assign x) (hT : τ (ρ x) w) (hJ : RdJ br A nr cr p K n w ∧ Mod [br] w0 w) : Out P br (fun m w' => RdJ br A nr cr p K m w' ∧ Mod [br] w0 w') ρ o n w τ :=
  E_val (by unfold execOp; simp [ho]) hT hJ
/-- A call that reads on. -/
theorem E_call {f : FuncId} {args : Array Value} (hr : (execOp ρ o).run P w = .ok (.enter f args) w) (hJ : RdJ br A nr cr p K n w ∧ Mod [br] w0 w)
    (hc : ∀ p', p' ≤ p + K * n → Rd br A nr cr p' w → Calls P f args w (fun e w' => ∃ v, e = .returned v ∧ τ v w' ∧ Mod [br] w w' ∧ ∃ p2, p2 ≤ p' + K ∧ Rd br A nr cr p2 w')) : Out P br (fun m w' => RdJ br A nr cr p K m w' ∧ Mod [br] w0 w') ρ o n w τ := by
  obtain ⟨⟨p', h1, h2⟩, h3⟩ := hJ
  refine .inr ⟨f, args, hr, (hc p' h1 h2).mono ?_⟩
  rintro e w' ⟨v, rfl, k1, k2, p2, k3, k4⟩
  exact ⟨v, rfl, k1, k2, ⟨p2, by rw [Nat.mul_add]; omega, k4⟩, h3.seq k2⟩
theorem run_call {f : FuncId} {args : Array Operand} {ts : Array TypeId} (hf : ρ (.func f) = .func (.func f) #[] #[]) (ho : o.op = .call { callee := .value (.func f), args := args, argTypes := ts })
    (hc : (callFunc f (args.map ρ)).run P w = .ok (.enter f (args.map ρ)) w) : (execOp ρ o).run P w = .ok (.enter f (args.map ρ)) w := by
  unfold execOp
  simp only [ho, resolve, hf, go_sem]
  simpa [go_sem, invoke] using hc
theorem E_load {T : TypeId} {x : Operand} {z : Value} [hT : Ty P T z 1 false] (ho : o.op = .load T x) (hx : TP br τ (ρ x) w) (hJ : RdJ br A nr cr p K n w ∧ Mod [br] w0 w) : Out P br (fun m w' => RdJ br A nr cr p K m w' ∧ Mod [br] w0 w') ρ o n w τ := by
  obtain ⟨b, of, e, hb, hl, u, h1, h2⟩ := hx
  refine E_val (v := u) ?_ h2 hJ
  unfold execOp
  simp [ho, e, run_load1 hT h1]
theorem E_build {T E : TypeId} {len : Nat} {parts : Array (Nat × Operand)} {cs : List Value} {X : Result Value} (ho : o.op = .buildSlice T len parts) (hrX : (Instr.buildSlice T len (parts.map fun (i, x) => (i, ρ x))).run P w = X)
    (hX : X = .ok (.slice (some ⟨w.heap.size, 0, none⟩) len len) (w.alloc (.cells cs.toArray E))) [hst : Stab br τ] (hcs : ∀ j, j < len → ∃ u, cs[j]? = some u ∧ τ u w) (hJ : RdJ br A nr cr p K n w ∧ Mod [br] w0 w) : Out P br (fun m w' => RdJ br A nr cr p K m w' ∧ Mod [br] w0 w') ρ o n w (TSl br len τ) := by
  have hbr : br < w.heap.size := by
    obtain ⟨⟨p', h1, ⟨_, _, t, hb⟩, _⟩, _⟩ := hJ
    exact (Array.getElem?_eq_some_iff.1 hb).1
  obtain ⟨⟨p', h1, h2⟩, h3⟩ := hJ
  have hM := Mod.alloc0 w (.cells cs.toArray E)
  refine .inl ⟨_, _, ?_, ⟨w.heap.size, rfl, by omega, by simp, fun j hj => ?_⟩, hM.mono (by simp), RdJ.up ⟨p', h1, h2.mod hM⟩, h3.seq (hM.mono (by simp))⟩
  · unfold execOp
    simp only [ho, Sem.run_bind, hrX.trans hX, Result.andThen_ok]
    rfl
  · obtain ⟨u, hu, ht⟩ := hcs j hj
    refine ⟨u, ?_, hst.stab u _ _ (hM.mono (by simp)) ht⟩
    rw [cell_of_row _ _ _ cs.toArray E (0, 0) (heap_alloc_new w _)]
    simpa using hu
end
end Go.Proofs.YthabgnhedmepjaaDoor
