/- Sets of numbers (map[int]bool) that a call makes: rules of the walk. No function of the program occurs here. -/
import Derived.Test.YthabgnhedmepjaaDoorFind
namespace Go.Proofs.YthabgnhedmepjaaDoor
open Go.RowKit

class MapTy (P : Program) (T : TypeId) (K E : outParam TypeId) : Prop where
  und : P.underlying T = some (.map K E)
class IntTy (P : Program) (T : TypeId) : Prop where
  und : P.underlying T = some (.int .i64)
/-- Fact number i of Γ is the set r. -/
class SetAt (Γ : List Fact) (r : Nat) (ks : outParam (List Int)) (i : outParam Nat) : Prop where
  get : Γ[i]? = some (.set r ks)
instance (priority := high) SetAt.here (Γ : List Fact) (r : Nat) (ks : List Int) : SetAt (.set r ks :: Γ) r ks 0 := ⟨rfl⟩
instance (priority := low) SetAt.there (f : Fact) (Γ : List Fact) (r : Nat) (ks : List Int) (i : Nat) [h : SetAt Γ r ks i] : SetAt (f :: Γ) r ks (i + 1) := ⟨by simpa using h.get⟩

section
variable {k : Int}
theorem findNow_no : ∀ (es : List MapEntry) (ks : List Int) (i : Nat), es.map (fun e => (e.key, e.val)) = ks.map (fun k => (Value.int .i64 k, Value.bool true)) → ks.contains k = false → Instr.findNow (.int .i64) (.int .i64 k) es i = some none
  | [], _, _, _, _ => rfl
  | e :: es, [], _, h, _ => by simp at h
  | e :: es, x :: ks, i, h, hc => by
    simp only [List.map_cons, List.cons.injEq, Prod.mk.injEq] at h
    simp only [List.contains_cons, Bool.or_eq_false_iff] at hc
    unfold Instr.findNow
    rw [h.1.1]
    simp only [Instr.sameNow, if_true, hc.1]
    exact findNow_no es ks (i + 1) h.2 hc.2
theorem findNow_yes : ∀ (es : List MapEntry) (ks : List Int) (i : Nat), es.map (fun e => (e.key, e.val)) = ks.map (fun k => (Value.int .i64 k, Value.bool true)) → ks.contains k = true → ∃ j, Instr.findNow (.int .i64) (.int .i64 k) es i = some (some (j, .bool true))
  | [], [], _, _, hc => by simp at hc
  | [], x :: ks, _, h, _ => by simp at h
  | e :: es, [], _, h, _ => by simp at h
  | e :: es, x :: ks, i, h, hc => by
    simp only [List.map_cons, List.cons.injEq, Prod.mk.injEq] at h
    unfold Instr.findNow
    rw [h.1.1]
    simp only [Instr.sameNow, if_true]
    cases hkx : (k == x)
    · simp only [List.contains_cons, hkx, Bool.false_or] at hc
      exact findNow_yes es ks (i + 1) h.2 hc
    · exact ⟨i, by rw [h.1.2]⟩
end

section
variable {P : Program} {o : Oper} {a : Act} {w w0 : World} {Γ : List Fact}
theorem Good.consO {w : World} {F : List Nat} (h : Good w F) (o : Obj) (hp : Plain o) : Good (w.alloc o) (w.heap.size :: F) := by
  refine ⟨List.nodup_cons.2 ⟨fun hg => Nat.lt_irrefl _ (h.lt _ hg), h.1⟩, fun g hg => ?_⟩
  rcases List.mem_cons.1 hg with rfl | hg
  · exact ⟨o, heap_alloc_new w _, hp⟩
  · obtain ⟨o', hh, hp'⟩ := h.2 g hg
    exact ⟨o', by rw [Below.heap_alloc _ _ _ (h.lt g hg)]; exact hh, hp'⟩
theorem f_makeMap {T : TypeId} (hS : Sat w0 w Γ) (ho : o.op = .makeMap T none) :
    Does P o a w (fun v w' => ∃ r, v = .map (some r) ∧ Sat w0 w' (.set r [] :: Γ) ∧ Mod [] w w') := by
  refine ⟨_, _, ⟨w.heap.size, rfl, ?_, Mod.alloc0 w (.map #[] 0)⟩, .inl ?_⟩
  · exact Sat.steps (Γ1 := []) (Γ' := [.set w.heap.size []]) hS fun R O hO _ _ _ => by
      cases hO
      exact ⟨[w.heap.size], ⟨[w.heap.size], [], by simp, ⟨rfl, #[], 0, heap_alloc_new w _, rfl⟩, rfl⟩, (Good.nil w).consO _ trivial, by simp, Mod.alloc0 _ _⟩
  · unfold execOp
    simp only [ho]
    rfl
theorem run_checkKey {K : TypeId} (hK : IntTy P K) (b : Bool) (k : Int) : (Instr.checkKey b 10000 K (.int .i64 k)).run P w = .ok () w := by
  rw [show (10000 : Nat) = 9999 + 1 from rfl]
  generalize 9999 = n
  unfold Instr.checkKey
  rw [Sem.run_bind, run_underlying hK.und]
  rfl
theorem run_findKey {K : TypeId} (hK : IntTy P K) {k : Int} {es : List MapEntry} {X : Option (Nat × Value)} (hf : Instr.findNow (.int .i64) (.int .i64 k) es 0 = some X) : (Instr.findKey K (.int .i64 k) es).run P w = .ok X w := by
  unfold Instr.findKey
  rw [Sem.run_bind, run_underlying hK.und, Result.andThen_ok, hf]
  rfl
theorem run_getMap {r : Nat} {es : Array MapEntry} {c : Nat} (hr : w.heap[r]? = some (.map es c)) : (getObj r).run P w = .ok (.map es c) w := by
  unfold getObj
  simp [Sem.run, hr]
theorem run_setLookup {T K E : TypeId} (hT : MapTy P T K E) (hK : IntTy P K) {n : Nat} {ag : Bool} (hE : Ty P E (.bool false) n ag) {r : Nat} {entries : Array MapEntry} {clock : Nat} {ks : List Int} (hr : w.heap[r]? = some (.map entries clock))
    (he : entries.toList.map (fun e => (e.key, e.val)) = ks.map (fun k => (Value.int .i64 k, Value.bool true))) (k : Int) : (Instr.lookup T (.map (some r)) (.int .i64 k) false).run P w = .ok (.bool (ks.contains k)) w := by
  obtain ⟨i, d, hi, hz, _, _, _⟩ := hE.parts
  cases hc : ks.contains k
  · have hf := findNow_no entries.toList ks 0 he hc
    unfold Instr.lookup
    simp only [Sem.run_bind, run_underlying hT.und, Result.andThen_ok, run_getMap hr, run_checkKey hK, run_findKey hK hf, Sem.run_pure, zeroValue, typeInfo]
    simp [hi, hz]
  · obtain ⟨j, hf⟩ := findNow_yes entries.toList ks 0 he hc
    unfold Instr.lookup
    simp only [Sem.run_bind, run_underlying hT.und, Result.andThen_ok, run_getMap hr, run_checkKey hK, run_findKey hK hf, Sem.run_pure]
    simp
theorem f_lookup {T K E : TypeId} {n : Nat} {ag : Bool} {x ix : Operand} {r i : Nat} {ks : List Int} {k : Int} (hS : Sat w0 w Γ) (ho : o.op = .lookup T x ix false) (hx : a.eval x = .map (some r)) (hix : a.eval ix = .int .i64 k)
    [hi : SetAt Γ r ks i] [hT : MapTy P T K E] [hK : IntTy P K] [hE : Ty P E (.bool false) n ag] {b : Bool} (hb : ks.contains k = b) : Gives P o a w (.bool b) := by
  subst hb
  obtain ⟨R, O, ⟨O1, O2, rfl, ⟨rfl, entries, clock, hr, he⟩, _⟩, _⟩ := hS.pull i hi.get
  unfold Gives execOp
  simp only [ho, hx, hix, Sem.run_bind, run_setLookup hT hK hE hr he k, Result.andThen_ok]
  rfl
theorem f_insert {T K E : TypeId} {x ix y : Operand} {r i : Nat} {ks : List Int} {k : Int} (hS : Sat w0 w Γ) (ho : o.op = .mapUpdate T x ix y) (hx : a.eval x = .map (some r)) (hix : a.eval ix = .int .i64 k) (hy : a.eval y = .bool true)
    [hi : SetAt Γ r ks i] [hT : MapTy P T K E] [hK : IntTy P K] (hc : ks.contains k = false) : Does P o a w (fun v w' => v = undef ∧ Sat w0 w' (Γ.set i (.set r (ks ++ [k])))) := by
  obtain ⟨R, O, hO, hG, hR, hRl, hfin⟩ := Sat.opened (Γ1 := [.set r ks]) (hS.pull i hi.get)
  obtain ⟨O1, O2, rfl, ⟨rfl, entries, clock, hr, he⟩, rfl⟩ := hO
  have hf := findNow_no entries.toList ks 0 he hc
  have hlt : r < w.heap.size := (Array.getElem?_eq_some_iff.1 hr).1
  let w' : World := { w with heap := w.heap.setIfInBounds r (.map (entries.push { key := .int .i64 k, val := .bool true, born := clock }) (clock + 1)) }
  have hr' : w'.heap[r]? = some (.map (entries.push { key := .int .i64 k, val := .bool true, born := clock }) (clock + 1)) := by simp [w', hlt]
  have hm : Mod [r] w w' := ⟨rfl, rfl, rfl, by simp [w'], fun g hg hn => by
    have : r ≠ g := by rintro rfl; exact hn (by simp)
    simp [w', Array.getElem?_setIfInBounds, this]⟩
  have hgd : ∀ g ∈ [r], ∃ o, w'.heap[g]? = some o ∧ Plain o := by
    intro g hg
    rw [List.mem_singleton.1 hg]
    exact ⟨_, hr', True.intro⟩
  refine ⟨undef, w', ⟨rfl, Sat.perm (hfin w' [.set r (ks ++ [k])] [r] ⟨[r], [], by simp, ⟨rfl, _, _, hr', ?_⟩, rfl⟩ ⟨by simp, hgd⟩ (fun g hg => .inl (by simpa using hg)) (hm.mono (fun g hg _ => by simpa using hg))) (perm_set i hi.get)⟩, .inr ⟨?_, rfl⟩⟩
  · simp [he]
  · unfold execOp
    simp only [ho, hx, hix, hy]
    unfold Instr.mapUpdate
    simp only [Sem.run_bind, run_underlying hT.und, Result.andThen_ok, run_getMap hr, run_checkKey hK, run_findKey hK hf, Sem.run_pure]
    simp [setObj, Sem.run, hr, w']
theorem f_lenSet {T : TypeId} {K E : TypeId} {x : Operand} {r i : Nat} {ks : List Int} (hS : Sat w0 w Γ) (ho : o.op = .call { callee := .builtin .len, args := #[x], argTypes := #[T] }) (hx : a.eval x = .map (some r)) [hi : SetAt Γ r ks i] [hT : MapTy P T K E] :
    Gives P o a w (.int .i64 (ks.length : Int)) := by
  obtain ⟨R, O, ⟨O1, O2, rfl, ⟨rfl, entries, clock, hr, he⟩, _⟩, _⟩ := hS.pull i hi.get
  have hl : entries.size = ks.length := by have := congrArg List.length he; simpa using this
  unfold Gives execOp
  simp [ho, hx, resolve, invoke, builtin, Builtin.len_, run_underlying hT.und, getObj, Sem.run, hr, hl, goInt]
end
end Go.Proofs.YthabgnhedmepjaaDoor
