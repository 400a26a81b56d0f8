/- LeafOf: the program's side. -/
import Derived.Test.YtnlhiamjndifoaaDoorLeaf
import Derived.Test.YtnlhiamjndifoaaDoorFind
namespace Go.Proofs.YtnlhiamjndifoaaDoor
open Go.RowKit

theorem leafOf_far {m : MemoryD} {a : Int} (h : memOk m = true) (ha : inB a 0 7 = false) : leafOf m a = -1 := by
  refine leafOf_no ?_
  rw [List.any_eq_false]
  intro b hb hba
  unfold memOk at h
  simp only [Bool.and_eq_true] at h
  have h1 := List.all_eq_true.1 h.1.1.2 b hb
  unfold blockOk at h1
  simp only [Bool.and_eq_true] at h1
  have he : b.1 = a := by simpa [isAt] using hba
  rw [he] at h1
  rw [h1.1.1] at ha
  cases ha
/-- In a good memory each address has a block. -/
theorem mem_has {m : MemoryD} {a : Int} (h : memOk m = true) (ha : inB a 0 7 = true) : (memAll m).any (isAt a) = true := by
  unfold memOk at h
  simp only [Bool.and_eq_true, decide_eq_true_eq] at h
  obtain ⟨⟨⟨_, hb⟩, hn⟩, hl⟩ := h
  have hbd : ∀ x ∈ addrs (memAll m), 0 ≤ x ∧ x ≤ 7 := by
    intro x hx
    obtain ⟨b, hb2, rfl⟩ := List.mem_map.1 hx
    have := List.all_eq_true.1 hb b hb2
    unfold blockOk at this
    simp only [Bool.and_eq_true] at this
    exact inB_of this.1.1
  obtain ⟨a0, a7⟩ := inB_of ha
  have hc := (counts_iff hbd).2 ⟨hn, by rw [addrs_len]; exact hl⟩ a.toNat (by omega)
  rw [show ((a.toNat : Nat) : Int) = a by omega] at hc
  have hm : a ∈ addrs (memAll m) := List.count_pos_iff.1 (by omega)
  obtain ⟨b, hb1, hb2⟩ := List.mem_map.1 hm
  exact List.any_eq_true.2 ⟨b, hb1, by simp [isAt, hb2]⟩



























































































end Go.Proofs.YtnlhiamjndifoaaDoor
