/- PathsFor: plain laws. No function of the program occurs here. -/
import Derived.Test.YtnlhiamjndifoaaDoorLeaf
import Derived.Test.YtnlhiamjndifoaaDoorDict
namespace Go.Proofs.YtnlhiamjndifoaaDoor
open Go.RowKit

def useOk (u : UseD) : Bool := inB u.1 0 7 && inB u.2.2.2 0 3
/-- The leaf of an address when i uses are done. -/
def leafNow (m : MemoryD) (us : List UseD) (i : Nat) (a : Int) : Int := (us.take i).foldl (fun acc u => if u.1 = a then u.2.2.2 else acc) (leafOf m a)
def pathsTo (m : MemoryD) (us : List UseD) (k : Nat) : List Int := (List.range k).flatMap fun i => pathOfF (leafNow m us i (((us[i]?).map (·.1)).getD 0))
def pathsFor (m : MemoryD) (us : List UseD) : List Int := if memOk m && decide (us.length ≤ 40) && us.all useOk then pathsTo m us us.length else []
section
variable {m : MemoryD} {us : List UseD} {k : Nat} {u : UseD} {a : Int}
theorem leafNow_succ (hu : us[k]? = some u) : leafNow m us (k + 1) a = if u.1 = a then u.2.2.2 else leafNow m us k a := by
  obtain ⟨h, rfl⟩ := List.getElem?_eq_some_iff.1 hu
  unfold leafNow
  rw [List.take_succ_eq_append_getElem h, List.foldl_append]
  rfl
theorem leafNow_zero : leafNow m us 0 a = leafOf m a := by simp [leafNow]
theorem pathsTo_succ (hu : us[k]? = some u) : pathsTo m us (k + 1) = pathsTo m us k ++ pathOfF (leafNow m us k u.1) := by
  unfold pathsTo
  rw [List.range_succ, List.flatMap_append]
  simp [hu]
theorem pathsTo_len : (pathsTo m us k).length ≤ 3 * k := by
  induction k with
  | zero => simp [pathsTo]
  | succ k ih =>
    unfold pathsTo at ih ⊢
    rw [List.range_succ, List.flatMap_append, List.length_append]
    have : (pathOfF (leafNow m us k (((us[k]?).map (·.1)).getD 0))).length ≤ 3 := by unfold pathOfF pathF; split <;> simp
    simp only [List.flatMap_cons, List.flatMap_nil, List.append_nil]
    omega
theorem pathsFor_mem (h : memOk m = false) : pathsFor m us = [] := by unfold pathsFor; rw [h]; simp
theorem pathsFor_len (h : ¬ us.length ≤ 40) : pathsFor m us = [] := by unfold pathsFor; rw [decide_eq_false h]; simp
theorem pathsFor_use (hu : us[k]? = some u) (h : useOk u = false) : pathsFor m us = [] := by
  unfold pathsFor
  rw [show us.all useOk = false from List.all_eq_false.2 ⟨u, List.mem_of_getElem? hu, by simp [h]⟩]
  simp
theorem pathsFor_ok (h1 : memOk m = true) (h2 : us.length ≤ 40) (h3 : us.all useOk = true) : pathsFor m us = pathsTo m us us.length := by
  unfold pathsFor
  rw [h1, h3, decide_eq_true h2]
  rfl
theorem pathsFor_le : (pathsFor m us).length ≤ 120 := by
  unfold pathsFor
  split
  · rename_i h
    simp only [Bool.and_eq_true, decide_eq_true_eq] at h
    have := pathsTo_len (m := m) (us := us) (k := us.length)
    omega
  · simp
/-- What the table of leaves holds when the blocks are all laid in. -/
theorem dict_leaf {d : List (Int × Value)} (hm : memOk m = true) (hd : ∀ b ∈ memAll m, dGet d b.1 = some (.int .i64 b.2.2)) (ha : inB a 0 7 = true) (hex : (memAll m).any (isAt a) = true) : dGet d a = some (.int .i64 (leafOf m a)) := by
  obtain ⟨b0, hb0, hp0⟩ := List.any_eq_true.1 hex
  cases hf : (memAll m).find? (isAt a) with
  | none => exact absurd hp0 (List.find?_eq_none.1 hf b0 hb0)
  | some b =>
    have hb := List.mem_of_find?_eq_some hf
    have hp := List.find?_some hf
    have he : b.1 = a := by simpa [isAt] using hp
    have := hd b hb
    rw [he] at this
    rw [this]
    unfold leafOf
    rw [hm, hf]
    rfl
/-- A block more in the table. -/
theorem dict_step {d : List (Int × Value)} {q : Nat} {b : BlockD} (hn : (addrs (memAll m)).Nodup) (hb : (memAll m)[q]? = some b) (hd : ∀ x ∈ (memAll m).take q, dGet d x.1 = some (.int .i64 x.2.2)) :
    ∀ x ∈ (memAll m).take (q + 1), dGet (dPut d b.1 (.int .i64 b.2.2)) x.1 = some (.int .i64 x.2.2) := by
  intro x hx
  obtain ⟨hq, hbe⟩ := List.getElem?_eq_some_iff.1 hb
  rw [List.take_succ_eq_append_getElem hq, hbe, List.mem_append, List.mem_singleton] at hx
  rw [dGet_put]
  rcases hx with hx | rfl
  · by_cases he : x.1 = b.1
    · exfalso
      refine not_nodup (l := addrs (memAll m)) (k := q) (x := b.1) (by simp [addrs, List.getElem?_map, hb]) ?_ hn
      rw [List.contains_iff_mem, ← he]
      unfold addrs
      rw [← List.map_take]
      exact List.mem_map.2 ⟨x, hx, rfl⟩
    · rw [if_neg he]
      exact hd x hx
  · rw [if_pos rfl]
/-- A use more in the table. -/
theorem dict_use {d : List (Int × Value)} (hu : us[k]? = some u) (hd : ∀ a, inB a 0 7 = true → dGet d a = some (.int .i64 (leafNow m us k a))) :
    ∀ a, inB a 0 7 = true → dGet (dPut d u.1 (.int .i64 u.2.2.2)) a = some (.int .i64 (leafNow m us (k + 1) a)) := by
  intro a ha
  rw [dGet_put, leafNow_succ hu]
  by_cases he : a = u.1
  · rw [if_pos he, if_pos he.symm]
  · rw [if_neg he, if_neg (fun h => he h.symm)]
    exact hd a ha
end
end Go.Proofs.YtnlhiamjndifoaaDoor
