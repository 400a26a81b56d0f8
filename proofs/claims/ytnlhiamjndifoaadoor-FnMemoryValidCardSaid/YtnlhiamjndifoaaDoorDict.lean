/- Maps with numbers for keys (map[int]T, T of one cell) that a call makes: a datum of one's own, and rules of the walk. No function of the program occurs here. -/
import Derived.Test.YtnlhiamjndifoaaDoorFind
namespace Go.Proofs.YtnlhiamjndifoaaDoor
open Go.RowKit

def dGet (l : List (Int × Value)) (k : Int) : Option Value := (l.find? (fun e => e.1 == k)).map (·.2)
def dPut (l : List (Int × Value)) (k : Int) (v : Value) : List (Int × Value) :=
  match l.findIdx? (fun e => e.1 == k) with
  | some i => l.modify i (fun e => (e.1, v))
  | none => l ++ [(k, v)]
def kvOf (e : MapEntry) : Value × Value := (e.key, e.val)
def kvV (e : Int × Value) : Value × Value := (.int .i64 e.1, e.2)
def Rep.dict : Rep (List (Int × Value)) where
  size := 1
  has w F cs x := ∃ r entries clock, F = [r] ∧ cs = [.map (some r)] ∧ w.heap[r]? = some (.map entries clock) ∧ entries.toList.map kvOf = x.map kvV
  len h := by obtain ⟨r, es, c, _, rfl, _⟩ := h; rfl
  keep := by
    rintro w w' F cs x ⟨r, es, c, rfl, rfl, h1, h2⟩ hk
    exact ⟨r, es, c, rfl, rfl, by rw [hk r (by simp)]; exact h1, h2⟩
  lt h := by
    obtain ⟨r, es, c, rfl, _, h1, _⟩ := h
    intro g hg
    rw [List.mem_singleton.1 hg]
    exact (Array.getElem?_eq_some_iff.1 h1).1
  one h := by obtain ⟨r, es, c, _, rfl, _⟩ := h; simp [Value.oneCell']

section
variable {k : Int}
theorem find_dict : ∀ (es : List MapEntry) (l : List (Int × Value)) (i : Nat), es.map kvOf = l.map kvV →
    (Instr.findNow (.int .i64) (.int .i64 k) es i = some none ∧ l.findIdx? (fun e => e.1 == k) = none ∧ dGet l k = none) ∨
    ∃ j v, Instr.findNow (.int .i64) (.int .i64 k) es i = some (some (i + j, v)) ∧ l.findIdx? (fun e => e.1 == k) = some j ∧ dGet l k = some v ∧ (es[j]?.map (·.key)) = some (.int .i64 k)
  | [], [], _, _ => .inl ⟨rfl, rfl, rfl⟩
  | [], _ :: _, _, h => by simp at h
  | _ :: _, [], _, h => by simp at h
  | e :: es, x :: l, i, h => by
    simp only [List.map_cons, List.cons.injEq, kvOf, kvV, Prod.mk.injEq] at h
    cases hkx : (x.1 == k)
    · have hkx' : (k == x.1) = false := by
        rw [beq_eq_false_iff_ne] at hkx ⊢
        exact fun hh => hkx hh.symm
      have hf : Instr.findNow (.int .i64) (.int .i64 k) (e :: es) i = Instr.findNow (.int .i64) (.int .i64 k) es (i + 1) := by
        conv => lhs; unfold Instr.findNow
        rw [h.1.1]
        simp only [Instr.sameNow, if_true, hkx']
      rw [hf]
      have hg : dGet (x :: l) k = dGet l k := by simp [dGet, List.find?_cons, hkx]
      rcases find_dict es l (i + 1) h.2 with ⟨a, b, c⟩ | ⟨j, v, a, b, c, d⟩
      · exact .inl ⟨a, by simp [List.findIdx?_cons, hkx, b], by rw [hg, c]⟩
      · exact .inr ⟨j + 1, v, by rw [a, Nat.add_assoc, Nat.add_comm 1 j], by simp [List.findIdx?_cons, hkx, b], by rw [hg, c], by simpa using d⟩
    · have he : x.1 = k := by simpa using hkx
      refine .inr ⟨0, x.2, ?_, by simp [List.findIdx?_cons, hkx], by simp [dGet, List.find?_cons, hkx], by simp [h.1.1, he]⟩
      unfold Instr.findNow
      rw [h.1.1, he]
      simp [Instr.sameNow, h.1.2]
end
theorem dGet_put (l : List (Int × Value)) (k : Int) (v : Value) (k' : Int) : dGet (dPut l k v) k' = if k' = k then some v else dGet l k' := by
  unfold dPut
  split
  · rename_i i hi
    obtain ⟨hlt, hp, hn⟩ := List.findIdx?_eq_some_iff_getElem.1 hi
    clear hi
    induction l generalizing i with
    | nil => simp at hlt
    | cons x l ih =>
      cases i with
      | zero =>
        have hx : x.1 = k := by simpa using hp
        by_cases hk : k' = k
        · subst hk; simp [dGet, List.modify, hx]
        · rw [if_neg hk]
          have : (x.1 == k') = false := by rw [hx]; simpa using fun h => hk h.symm
          simp [dGet, List.modify, List.find?_cons, this]
      | succ i =>
        have h0 : (x.1 == k) = false := by have := hn 0 (by omega); simpa using this
        have := ih i (by simpa using hlt) (by simpa using hp) (fun j hj => by have := hn (j + 1) (by omega); simpa using this)
        rw [List.modify_succ_cons]
        by_cases hx : x.1 = k'
        · have hk : ¬ k' = k := by rintro rfl; simp [hx] at h0
          rw [if_neg hk]
          simp [dGet, List.find?_cons, hx]
        · have hx' : (x.1 == k') = false := by simpa using hx
          unfold dGet at this ⊢
          rw [List.find?_cons, hx', List.find?_cons, hx']
          exact this
  · rename_i hi
    have hno : l.find? (fun e => e.1 == k) = none := by
      rw [List.find?_eq_none]
      intro x hx
      have := List.findIdx?_eq_none_iff.1 hi x hx
      simpa using this
    unfold dGet
    rw [List.find?_append]
    by_cases hk : k' = k
    · subst hk
      rw [hno]
      simp
    · have : ((k, v).1 == k') = false := by simpa using fun h => hk h.symm
      rw [if_neg hk, List.find?_cons, this]
      simp

section
variable {P : Program} {o : Oper} {a : Act} {w w0 : World} {Γ : List Fact}
theorem f_makeDict {T : TypeId} (hS : Sat w0 w Γ) (ho : o.op = .makeMap T none) :
    Does P o a w (fun v w' => ∃ r, v = .map (some r) ∧ Sat w0 w' (.own Rep.dict [.map (some r)] [] :: Γ) ∧ Mod [] w w') := by
  refine ⟨_, _, ⟨w.heap.size, rfl, ?_, Mod.alloc0 w (.map #[] 0)⟩, .inl ?_⟩
  · exact Sat.steps (Γ1 := []) (Γ' := [.own Rep.dict [.map (some w.heap.size)] []]) hS fun R O hO _ _ _ => by
      cases hO
      exact ⟨[w.heap.size], ⟨[w.heap.size], [], by simp, ⟨_, #[], 0, rfl, rfl, heap_alloc_new w _, rfl⟩, rfl⟩, (Good.nil w).consO _ trivial, by simp, Mod.alloc0 _ _⟩
  · unfold execOp
    simp only [ho]
    rfl
theorem run_dictLookup {T K E : TypeId} (hT : MapTy P T K E) (hK : IntTy P K) {z : Value} {n : Nat} {ag : Bool} (hE : Ty P E z n ag) {r : Nat} {entries : Array MapEntry} {clock : Nat} {kvs : List (Int × Value)} (hr : w.heap[r]? = some (.map entries clock))
    (he : entries.toList.map kvOf = kvs.map kvV) (k : Int) : (Instr.lookup T (.map (some r)) (.int .i64 k) false).run P w = .ok ((dGet kvs k).getD z) w := by
  obtain ⟨i, d, hi, hz, _, _, _⟩ := hE.parts
  rcases find_dict (k := k) entries.toList kvs 0 he with ⟨hf, _, hg⟩ | ⟨j, v, hf, _, hg, _⟩
  · rw [hg]
    unfold Instr.lookup
    simp only [Sem.run_bind, run_underlying hT.und, Result.andThen_ok, run_getMap hr, run_checkKey hK, run_findKey hK hf, Sem.run_pure, zeroValue, typeInfo]
    simp [hi, hz]
  · rw [hg]
    unfold Instr.lookup
    simp only [Sem.run_bind, run_underlying hT.und, Result.andThen_ok, run_getMap hr, run_checkKey hK, run_findKey hK hf, Sem.run_pure]
    simp
theorem f_get {T K E : TypeId} {z : Value} {n : Nat} {ag : Bool} {x ix : Operand} {r i : Nat} {kvs : List (Int × Value)} {k : Int} {u : Value} (hS : Sat w0 w Γ) (ho : o.op = .lookup T x ix false) (hx : a.eval x = .map (some r)) (hix : a.eval ix = .int .i64 k)
    [hi : OwnIn Γ Rep.dict [.map (some r)] kvs i] [hT : MapTy P T K E] [hK : IntTy P K] [hE : Ty P E z n ag] (hb : (dGet kvs k).getD z = u) : Gives P o a w u := by
  subst hb
  obtain ⟨R, O, ⟨O1, O2, rfl, ⟨r', entries, clock, rfl, hr', hr, he⟩, _⟩, _⟩ := hS.pull i hi.get
  simp only [List.cons.injEq, Value.map.injEq, Option.some.injEq, and_true] at hr'
  subst hr'
  unfold Gives execOp
  simp only [ho, hx, hix, Sem.run_bind, run_dictLookup hT hK hE hr he k, Result.andThen_ok]
  rfl
theorem f_put {T K E : TypeId} {x ix y : Operand} {r i : Nat} {kvs : List (Int × Value)} {k : Int} {u : Value} (hS : Sat w0 w Γ) (ho : o.op = .mapUpdate T x ix y) (hx : a.eval x = .map (some r)) (hix : a.eval ix = .int .i64 k) (hy : a.eval y = u)
    [hi : OwnIn Γ Rep.dict [.map (some r)] kvs i] [hT : MapTy P T K E] [hK : IntTy P K] : Does P o a w (fun v w' => v = undef ∧ Sat w0 w' (Γ.set i (.own Rep.dict [.map (some r)] (dPut kvs k u)))) := by
  obtain ⟨R, O, hO, hG, hR, hRl, hfin⟩ := Sat.opened (Γ1 := [.own Rep.dict [.map (some r)] kvs]) (hS.pull i hi.get)
  obtain ⟨O1, O2, rfl, ⟨r', entries, clock, rfl, hr', hr, he⟩, rfl⟩ := hO
  simp only [List.cons.injEq, Value.map.injEq, Option.some.injEq, and_true] at hr'
  subst hr'
  have hlt : r < w.heap.size := (Array.getElem?_eq_some_iff.1 hr).1
  have key : ∀ (es' : Array MapEntry) (c' : Nat), es'.toList.map kvOf = (dPut kvs k u).map kvV →
      Sat w0 { w with heap := w.heap.setIfInBounds r (.map es' c') } (Γ.set i (.own Rep.dict [.map (some r)] (dPut kvs k u))) := by
    intro es' c' he'
    let w' : World := { w with heap := w.heap.setIfInBounds r (.map es' c') }
    have hr2 : w'.heap[r]? = some (.map es' c') := by simp [w', hlt]
    have hm : Mod [r] w w' := ⟨rfl, rfl, rfl, by simp [w'], fun g hg hn => by
      have : r ≠ g := by rintro rfl; exact hn (by simp)
      simp [w', Array.getElem?_setIfInBounds, this]⟩
    have hgd : ∀ g ∈ [r], ∃ o, w'.heap[g]? = some o ∧ Plain o := by
      intro g hg
      rw [List.mem_singleton.1 hg]
      exact ⟨_, hr2, True.intro⟩
    exact Sat.perm (hfin w' [.own Rep.dict [.map (some r)] (dPut kvs k u)] [r] ⟨[r], [], by simp, ⟨r, es', c', rfl, rfl, hr2, he'⟩, rfl⟩ ⟨by simp, hgd⟩ (fun g hg => .inl (by simpa using hg)) (hm.mono (fun g hg _ => by simpa using hg))) (perm_set i hi.get)
  rcases find_dict (k := k) entries.toList kvs 0 he with ⟨hf, hn, _⟩ | ⟨j, v, hf, hn, _, hkey⟩
  · refine ⟨undef, _, ⟨rfl, key (entries.push { key := .int .i64 k, val := u, born := clock }) (clock + 1) ?_⟩, .inr ⟨?_, rfl⟩⟩
    · unfold dPut
      rw [hn]
      simp [he, kvOf, kvV]
    · unfold execOp
      simp only [ho, hx, hix, hy]
      unfold Instr.mapUpdate
      simp only [Sem.run_bind, run_underlying hT.und, Result.andThen_ok, run_getMap hr, run_checkKey hK, run_findKey hK hf, Sem.run_pure]
      simp [setObj, Sem.run, hr]
  · refine ⟨undef, _, ⟨rfl, key (entries.modify j fun e => { e with key := .int .i64 k, val := u }) clock ?_⟩, .inr ⟨?_, rfl⟩⟩
    · unfold dPut
      rw [hn]
      show (entries.modify j _).toList.map kvOf = (kvs.modify j (fun e => (e.1, u))).map kvV
      rw [Array.toList_modify]
      apply List.ext_getElem?
      intro q
      have hq := congrArg (fun l : List (Value × Value) => l[q]?) he
      simp only [List.getElem?_map, List.getElem?_modify] at hq ⊢
      by_cases hjq : j = q
      · subst hjq
        cases h1 : entries.toList[j]? with
        | none =>
          rw [h1] at hq
          cases h2 : kvs[j]? with
          | none => simp
          | some y => rw [h2] at hq; simp at hq
        | some x =>
          rw [h1] at hq hkey
          cases h2 : kvs[j]? with
          | none => rw [h2] at hq; simp at hq
          | some y =>
            rw [h2] at hq
            simp only [Option.map_some, Option.some.injEq, kvOf, kvV, Prod.mk.injEq] at hq hkey
            simp [kvOf, kvV, ← hq.1, hkey]
      · simpa [hjq] using hq
    · unfold execOp
      simp only [ho, hx, hix, hy]
      unfold Instr.mapUpdate
      simp only [Sem.run_bind, run_underlying hT.und, Result.andThen_ok, run_getMap hr, run_checkKey hK, run_findKey hK hf, Sem.run_pure]
      have hk2 : (entries[0 + j]?.map (·.key)).getD (.int .i64 k) = .int .i64 k := by
        rw [Nat.zero_add, ← Array.getElem?_toList, hkey]
        rfl
      rw [hk2]
      simp [Instr.keyThatStays, Instr.sameBits, setObj, Sem.run, hr]
end
end Go.Proofs.YtnlhiamjndifoaaDoor
