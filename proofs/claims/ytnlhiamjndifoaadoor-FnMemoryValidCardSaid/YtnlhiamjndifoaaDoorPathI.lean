/- PathsFor: contract of the program's function. -/
import Derived.Test.YtnlhiamjndifoaaDoorPathL
import Derived.Test.YtnlhiamjndifoaaDoorLeafI
namespace Go.Proofs.YtnlhiamjndifoaaDoor
open Go.RowKit

theorem leafOf_bd {m : MemoryD} {a : Int} (hm : memOk m = true) (ha : inB a 0 7 = true) : 0 ≤ leafOf m a ∧ leafOf m a ≤ 3 := by
  have hex := mem_has hm ha
  obtain ⟨b0, hb0, hp0⟩ := List.any_eq_true.1 hex
  cases hf : (memAll m).find? (isAt a) with
  | none => exact absurd hp0 (List.find?_eq_none.1 hf b0 hb0)
  | some b =>
    have hb := List.mem_of_find?_eq_some hf
    unfold leafOf
    rw [hm, hf]
    unfold memOk at hm
    simp only [Bool.and_eq_true] at hm
    have h1 := List.all_eq_true.1 hm.1.1.2 b hb
    unfold blockOk at h1
    simp only [Bool.and_eq_true] at h1
    exact inB_of h1.2
theorem leafNow_bd {m : MemoryD} {us : List UseD} {a : Int} (hm : memOk m = true) (ha : inB a 0 7 = true) : ∀ k, (us.take k).all useOk = true → 0 ≤ leafNow m us k a ∧ leafNow m us k a ≤ 3
  | 0, _ => by rw [leafNow_zero]; exact leafOf_bd hm ha
  | k + 1, h => by
    by_cases hk : k < us.length
    · rw [List.take_succ_eq_append_getElem hk, List.all_append, Bool.and_eq_true] at h
      rw [leafNow_succ (List.getElem?_eq_getElem hk)]
      split
      · have h2 : useOk us[k] = true := by simpa using h.2
        unfold useOk at h2
        rw [Bool.and_eq_true] at h2
        exact inB_of h2.2
      · exact leafNow_bd hm ha k h.1
    · have e : us.take (k + 1) = us.take k := by rw [List.take_of_length_le (by omega), List.take_of_length_le (by omega)]
      have h2 := leafNow_bd hm ha k (by rw [← e]; exact h)
      unfold leafNow at h2 ⊢
      rw [e]
      exact h2
theorem memOk_nodup {m : MemoryD} (hm : memOk m = true) : (addrs (memAll m)).Nodup := by
  unfold memOk at hm
  simp only [Bool.and_eq_true, decide_eq_true_eq] at hm
  exact hm.1.2






















































































































end Go.Proofs.YtnlhiamjndifoaaDoor
