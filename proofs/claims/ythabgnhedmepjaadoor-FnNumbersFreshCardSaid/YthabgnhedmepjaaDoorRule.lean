/- Rules of the walk: what single operations do to what a call holds in memory (Sat). No function of the program occurs here. -/
import Derived.Test.YthabgnhedmepjaaDoorRow
import Derived.Tactics
import Derived.Orders
namespace Go.Proofs.YthabgnhedmepjaaDoor
open Go.RowKit

/-! ### Types, as the rules ask for them -/
def isAggD : TypeDesc → Bool
  | .struct _ | .array _ _ => true
  | _ => false
/-- Type T: its zero value, its cells, whether it is a struct or an array. -/
class Ty (P : Program) (T : TypeId) (z : outParam Value) (n : outParam Nat) (agg : outParam Bool) : Prop where
  info : (P.info? T).map (fun i => (i.zero, i.size)) = some (some z, n)
  agg : (P.underlying T).map isAggD = some agg
/-- Type T is a slice of E. -/
class SlTy (P : Program) (T : TypeId) (E : outParam TypeId) : Prop where
  und : P.underlying T = some (.slice E)
/-- How many bytes type T has. -/
class ByTy (P : Program) (T : TypeId) (b : outParam Nat) : Prop where
  bytes : (P.info? T).map (·.bytes) = some b

/-! ### Runs -/
section
variable {P : Program} {w : World} {T : TypeId} {z : Value} {n : Nat} {b : Bool}
theorem Ty.parts (h : Ty P T z n b) : ∃ i d, P.info? T = some i ∧ i.zero = some z ∧ i.size = n ∧ P.underlying T = some d ∧ isAggD d = b := by
  have h1 := h.info
  have h2 := h.agg
  cases hi : P.info? T with
  | none => rw [hi] at h1; cases h1
  | some i =>
    rw [hi] at h1
    simp only [Option.map_some, Option.some.injEq, Prod.mk.injEq] at h1
    cases hu : P.underlying T with
    | none => rw [hu] at h2; cases h2
    | some d => exact ⟨i, d, rfl, h1.1, h1.2, rfl, by rw [hu] at h2; simpa using h2⟩
theorem run_isAgg (h : Ty P T z n b) (w : World) : (isAgg T).run P w = .ok b w := by
  obtain ⟨i, d, _, _, _, hu, hd⟩ := h.parts
  subst hd
  unfold isAgg
  simp only [Sem.run_bind, run_underlying hu, Result.andThen_ok]
  cases d <;> rfl
theorem run_sizeOf (h : Ty P T z n b) (w : World) : (sizeOf T).run P w = .ok n w := by
  obtain ⟨i, d, hi, _, hn, _, _⟩ := h.parts
  simp [sizeOf, typeInfo, hi, hn]
theorem run_load1 (h : Ty P T z 1 false) {ad : Addr} {u : Value} (hc : w.cell? ad = some u) : (Instr.loadAt T (.pointer (some ad))).run P w = .ok u w := by
  simp [Instr.loadAt, Instr.sureAddr, loadVar, run_isAgg h, load, Sem.run, hc]
theorem run_loadS (h : Ty P T z n true) {ad : Addr} {us : List Value} (hl : us.length = n) (hc : CellsAt w ad us) : (Instr.loadAt T (.pointer (some ad))).run P w = .ok (.agg us.toArray) w := by
  subst hl
  simp [Instr.loadAt, Instr.sureAddr, loadVar, run_isAgg h, run_sizeOf h, run_loadCells_list w ad us hc]
theorem run_storeN (h : Ty P T z n b) {g o : Nat} {v : Value} (hn : v.cells.size = n) (h1 : ∀ u ∈ v.cells.toList, u.oneCell' = true) (hc : ∀ j, j < n → (w.cell? ⟨g, o + j, none⟩).isSome = true) (hf : ∀ j, w.frozen? ⟨g, j, none⟩ = false) :
    (Instr.storeAt T (.pointer (some ⟨g, o, none⟩)) v).run P w = .ok () (w.setCells g o v.cells.toList) := by
  have hst := run_storeCells_cells (P := P) g o v.cells.toList 0 w (by simpa [hn] using hc) (fun j _ => hf _) h1
  simp only [Nat.add_zero] at hst
  simp [Instr.storeAt, Instr.sureAddr, storeVar, run_sizeOf h, hn, hst]
end

/-- A goal at which the walk stands still. -/
def Held (p : Prop) : Prop := p
theorem Held.out {p : Prop} (h : Held p) : p := h

/-! ### One operation -/
/-- Operation o, in frame a and world w, yields a value and a world as R says. -/
def Does (P : Program) (o : Oper) (a : Act) (w : World) (R : Value → World → Prop) : Prop :=
  ∃ v w', R v w' ∧ ((execOp a.eval o).run P w = .ok (.value v) w' ∨ ((execOp a.eval o).run P w = .ok .skip w' ∧ v = undef))
section
variable {P : Program} {o : Oper} {a : Act} {w w0 w' : World} {R : Value → World → Prop} {K : Act → World → Prop} {Q : Exit → Act → World → Prop} {ops : Array Oper} {rest : List Oper} {Γ : List Fact}
theorem Does.wp (h : Does P o a w R) (hk : ∀ v w', R v w' → K (a.put o.dst v) w') : o.wp P a w K Q := by
  obtain ⟨v, w', hr, h1 | ⟨h1, rfl⟩⟩ := h
  · unfold Oper.wp; rw [h1]; exact hk _ _ hr
  · unfold Oper.wp; rw [h1]; exact hk _ _ hr
theorem Does.list (h : Does P o a w R) (hg : Region.wanted o (yielded ops a.tmps) = true) (hk : ∀ v w', R v w' → wpList P ops Q rest (a.put o.dst v) w') : wpList P ops Q (o :: rest) a w :=
  wpList_step fun _ hK => by rw [if_pos hg]; exact h.wp fun v w' hr => hK _ _ (hk v w' hr)

/-- Operation o yields u and leaves the world as it is. -/
def Gives (P : Program) (o : Oper) (a : Act) (w : World) (u : Value) : Prop := (execOp a.eval o).run P w = .ok (.value u) w
theorem Gives.list {u : Value} (h : Gives P o a w u) (hg : Region.wanted o (yielded ops a.tmps) = true) (hk : wpList P ops Q rest (a.put o.dst u) w) : wpList P ops Q (o :: rest) a w :=
  wpList_step fun _ hK => by rw [if_pos hg]; unfold Oper.wp; rw [h]; exact hK _ _ hk

/-! ### Loads -/
theorem Sat.boxCells {b : Nat} {cs : List Value} (h : Sat w0 w Γ) {i : Nat} (hi : Γ[i]? = some (.box b cs)) : CellsAt w ⟨b, 0, none⟩ cs := fun j u hj => by
  rw [Addr.add_lit, Nat.zero_add]; exact (h.pull i hi).cellAt hj
theorem Sat.atCells {ad : Addr} {cs : List Value} (h : Sat w0 w Γ) {i : Nat} (hi : Γ[i]? = some (.at ad cs)) : CellsAt w ad cs := by
  obtain ⟨R, O, ⟨O1, O2, rfl, ⟨rfl, _, hc⟩, _⟩, _⟩ := h.pull i hi
  exact hc
theorem does_load {T : TypeId} {z : Value} {p : Operand} {b off : Nat} {cs : List Value} {u : Value} (i : Nat) (hS : Sat w0 w Γ) (ho : o.op = .load T p) (hp : a.eval p = .pointer (some ⟨b, off, none⟩)) (hi : Γ[i]? = some (.box b cs)) [hT : Ty P T z 1 false] (hu : cs[off]? = some u) :
    Gives P o a w u :=
  by unfold Gives execOp; simp [ho, hp, run_load1 hT ((hS.pull i hi).cellAt hu)]
theorem does_loadS {T : TypeId} {z : Value} {p : Operand} {b n : Nat} {cs : List Value} (i : Nat) (hS : Sat w0 w Γ) (ho : o.op = .load T p) (hp : a.eval p = .pointer (some ⟨b, 0, none⟩)) (hi : Γ[i]? = some (.box b cs)) [hT : Ty P T z n true] (hl : cs.length = n) :
    Gives P o a w (.agg cs.toArray) :=
  by unfold Gives execOp; simp [ho, hp, run_loadS hT hl (hS.boxCells hi)]
theorem does_loadAt {T : TypeId} {z : Value} {p : Operand} {ad : Addr} {u : Value} {cs : List Value} (i : Nat) (hS : Sat w0 w Γ) (ho : o.op = .load T p) (hp : a.eval p = .pointer (some ad)) (hi : Γ[i]? = some (.at ad (u :: cs))) [hT : Ty P T z 1 false] :
    Gives P o a w u := by
  have h0 := hS.atCells hi 0 u rfl
  rw [show ad.add 0 = ad by simp [Addr.add]] at h0
  exact by unfold Gives execOp; simp [ho, hp, run_load1 hT h0]
theorem does_loadAtS {T : TypeId} {z : Value} {p : Operand} {ad : Addr} {n : Nat} {cs : List Value} (i : Nat) (hS : Sat w0 w Γ) (ho : o.op = .load T p) (hp : a.eval p = .pointer (some ad)) (hi : Γ[i]? = some (.at ad cs)) [hT : Ty P T z n true] (hl : cs.length = n) :
    Gives P o a w (.agg cs.toArray) :=
  by unfold Gives execOp; simp [ho, hp, run_loadS hT hl (hS.atCells hi)]
/-- A field of an element: the address as the walk writes it. -/
theorem does_loadAtF {T : TypeId} {z : Value} {p : Operand} {ad : Addr} {j : Nat} {u : Value} {cs : List Value} (i : Nat) (hS : Sat w0 w Γ) (ho : o.op = .load T p) (hp : a.eval p = .pointer (some ⟨ad.block, ad.off + (j + 1), none⟩)) (hi : Γ[i]? = some (.at ad cs)) [hT : Ty P T z 1 false] (hu : cs[j + 1]? = some u) :
    Gives P o a w u :=
  by unfold Gives execOp; simp [ho, hp, run_load1 hT (CellsAt.nth (hS.atCells hi) j hu)]

/-! ### Stores -/
theorem setCells_one (w : World) (g o : Nat) (u : Value) : w.setCells g o [u] = w.setCell ⟨g, o, none⟩ u := rfl
theorem oneCell_cells {u : Value} (h : u.oneCell' = true) : u.cells = #[u] := by cases u <;> first | rfl | (simp [Value.oneCell'] at h)
theorem does_store {T : TypeId} {z : Value} {p x : Operand} {b off : Nat} {cs : List Value} {u : Value} (i : Nat) (hS : Sat w0 w Γ) (ho : o.op = .store T p x) (hp : a.eval p = .pointer (some ⟨b, off, none⟩)) (hx : a.eval x = u) (hi : Γ[i]? = some (.box b cs)) [hT : Ty P T z 1 false] (hu : u.oneCell' = true) {old : Value} (hold : cs[off]? = some old) :
    Does P o a w (fun v w' => v = undef ∧ Sat w0 w' (Γ.set i (.box b (cs.set off u)))) := by
  have hl : off < cs.length := (List.getElem?_eq_some_iff.1 hold).1
  have hp' := hS.pull i hi
  have hc := oneCell_cells hu
  have hr := run_storeN (w := w) (g := b) (o := off) (v := u) hT (by rw [hc]; rfl) (by rw [hc]; simpa using hu) (by intro j hj; obtain rfl : j = 0 := by omega
                                                                                                                    simp [hp'.cellAt (List.getElem?_eq_getElem hl)]) (fun j => hp'.frozenAt j)
  rw [hc] at hr
  refine ⟨undef, w.setCell ⟨b, off, none⟩ u, ⟨rfl, (hp'.setCell hl u).perm (perm_set i hi)⟩, .inr ⟨?_, rfl⟩⟩
  unfold execOp
  simp only [ho, hp, hx, Sem.run_bind, hr, Result.andThen_ok]
  rfl
theorem setCells_box : ∀ (us : List Value) (o : Nat) (w : World) (b : Nat) (cs : List Value), Sat w0 w (.box b cs :: Γ) → o + us.length ≤ cs.length → Sat w0 (w.setCells b o us) (.box b (cs.take o ++ us ++ cs.drop (o + us.length)) :: Γ)
  | [], o, w, b, cs, h, hl => by simpa [World.setCells] using h
  | u :: us, o, w, b, cs, h, hl => by
    simp only [List.length_cons] at hl
    have h1 := setCells_box us (o + 1) _ b _ (h.setCell (j := o) (by omega) u) (by rw [List.length_set]; omega)
    have e : (cs.set o u).take (o + 1) ++ us ++ (cs.set o u).drop (o + 1 + us.length) = cs.take o ++ (u :: us) ++ cs.drop (o + (u :: us).length) := by
      rw [List.drop_set_of_lt (by omega), List.take_succ_eq_append_getElem (by rw [List.length_set]; omega), List.getElem_set_self, List.take_set_of_le (Nat.le_refl _)]
      rw [show o + 1 + us.length = o + (u :: us).length by rw [List.length_cons]; omega]
      simp only [List.append_assoc, List.cons_append, List.nil_append]
    rw [e] at h1
    exact h1
theorem does_storeS {T : TypeId} {z : Value} {p x : Operand} {b n : Nat} {cs : List Value} {us : Array Value} (i : Nat) (hS : Sat w0 w Γ) (ho : o.op = .store T p x) (hp : a.eval p = .pointer (some ⟨b, 0, none⟩)) (hx : a.eval x = .agg us) (hi : Γ[i]? = some (.box b cs)) [hT : Ty P T z n true] (h1' : us.toList.all (·.oneCell') = true) (hn : us.size = n) (hl : cs.length = n) :
    Does P o a w (fun v w' => v = undef ∧ Sat w0 w' (Γ.set i (.box b us.toList))) := by
  have h1 : ∀ u ∈ us.toList, u.oneCell' = true := List.all_eq_true.1 h1'
  have hp' := hS.pull i hi
  have hr := run_storeN (w := w) (g := b) (o := 0) (v := .agg us) hT hn h1 (by intro j hj; rw [Nat.zero_add, hp'.cellAt (List.getElem?_eq_getElem (by omega))]; rfl) (fun j => hp'.frozenAt j)
  have hs := setCells_box us.toList 0 w b cs hp' (by simp; omega)
  have e : cs.take 0 ++ us.toList ++ cs.drop (0 + us.toList.length) = us.toList := by
    rw [List.take_zero, List.nil_append, List.drop_eq_nil_of_le (by simp; omega), List.append_nil]
  rw [e] at hs
  refine ⟨undef, _, ⟨rfl, hs.perm (perm_set i hi)⟩, .inr ⟨?_, rfl⟩⟩
  unfold execOp
  simp only [ho, hp, hx, Sem.run_bind, hr, Result.andThen_ok]
  rfl

/-! ### New blocks -/
theorem does_alloc {T : TypeId} {z : Value} {n : Nat} {ag : Bool} {cs : List Value} (hS : Sat w0 w Γ) (ho : o.op = .alloc T) [hT : Ty P T z n ag] (hc : z.cells = cs.toArray) :
    Does P o a w (fun v w' => ∃ b, v = .pointer (some ⟨b, 0, none⟩) ∧ Sat w0 w' (.box b cs :: Γ) ∧ Mod [] w w') := by
  obtain ⟨i, d, hi, hz, _, _, _⟩ := hT.parts
  refine ⟨_, _, ⟨w.heap.size, rfl, hS.alloc cs.toArray T, Mod.alloc0 _ _⟩, .inl ?_⟩
  unfold execOp
  simp [ho, Instr.alloc, zeroValue, typeInfo, hi, hz, newVar, newRow, hc]
theorem does_box {T : TypeId} {x : Operand} {u : Value} {cs : List Value} (hS : Sat w0 w Γ) (ho : o.op = .box T x) (hx : a.eval x = u) (hc : u.cells = cs.toArray) :
    Does P o a w (fun v w' => ∃ b, v = .pointer (some ⟨b, 0, none⟩) ∧ Sat w0 w' (.box b cs :: Γ) ∧ Mod [] w w') := by
  refine ⟨_, _, ⟨w.heap.size, rfl, hS.alloc cs.toArray T, Mod.alloc0 _ _⟩, .inl ?_⟩
  unfold execOp
  simp [ho, hx, Instr.box, newVar, newRow, hc]
theorem does_buildSlice {T E : TypeId} {len : Nat} {parts : Array (Nat × Operand)} {cs : List Value} {X : Result Value} (hS : Sat w0 w Γ) (ho : o.op = .buildSlice T len parts)
    (hrX : (Instr.buildSlice T len (parts.map fun (i, x) => (i, a.eval x))).run P w = X) (hX : X = .ok (.slice (some ⟨w.heap.size, 0, none⟩) len len) (w.alloc (.cells cs.toArray E))) :
    Does P o a w (fun v w' => ∃ b, v = .slice (some ⟨b, 0, none⟩) len len ∧ Sat w0 w' (.box b cs :: Γ) ∧ Mod [] w w') := by
  have hr := hrX.trans hX
  refine ⟨_, _, ⟨w.heap.size, rfl, hS.alloc cs.toArray E, Mod.alloc0 _ _⟩, .inl ?_⟩
  unfold execOp
  simp only [ho, Sem.run_bind, hr, Result.andThen_ok]
  rfl
end
end Go.Proofs.YthabgnhedmepjaaDoor
