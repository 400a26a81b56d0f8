/- CatalogValid: contracts. Turned from XShp. -/
import Derived.Test.YtldknaajnnohiaaDoorTab
import Derived.Test.YtldknaajnnohiaaDoorFind
section
namespace Go.Proofs.YtldknaajnnohiaaDoor
open Go.RowKit

def nmOk (x : NamedD) : Bool := nameOk x.1 && tableOk x.2
def nmNames (l : List NamedD) : List ByteArray := l.map (fun s => s.1)
def catOk (l : List NamedD) : Bool := l.all nmOk && (decide (nmNames l).Nodup && decide (l.length ≤ 4))
section
variable {l : List NamedD} {k : Nat}
theorem nmNames_len : (nmNames l).length = l.length := by simp [nmNames]
theorem nmNames_get (h : k < l.length) : (nmNames l)[k]'(by rw [nmNames_len]; exact h) = l[k].1 := by simp [nmNames]
theorem catOk_bad (h : k < l.length) (h1 : nmOk l[k] = false) : catOk l = false := by
  unfold catOk
  rw [show l.all nmOk = false from List.all_eq_false.2 ⟨l[k], List.getElem_mem h, by simp [h1]⟩]
  rfl
theorem catOk_dup (h : k < l.length) (h1 : hasS ((nmNames l).take k) l[k].1 = true) : catOk l = false := by
  unfold catOk
  rw [decide_eq_false]
  · simp
  · intro hn
    have hk : k < (nmNames l).length := by rw [nmNames_len]; exact h
    have hn' : ((nmNames l).take k ++ (nmNames l).drop k).Nodup := by rw [List.take_append_drop]; exact hn
    have hm : l[k].1 ∈ (nmNames l).drop k := List.mem_drop_iff_getElem.2 ⟨0, by omega, by simp [nmNames]⟩
    exact (List.nodup_append.1 hn').2.2 _ (hasS_mem.1 h1) _ hm rfl
theorem nmNodup_succ (h : k < l.length) (h0 : ((nmNames l).take k).Nodup) (h1 : hasS ((nmNames l).take k) l[k].1 = false) : ((nmNames l).take (k + 1)).Nodup := by
  have hk : k < (nmNames l).length := by rw [nmNames_len]; exact h
  exact nodup_succ hk h0 (by rw [nmNames_get h]; exact h1)
theorem cat_succ (h : k < l.length) (h0 : (l.take k).all nmOk = true) (h1 : nmOk l[k] = true) : (l.take (k + 1)).all nmOk = true := by
  rw [List.take_succ_eq_append_getElem h, List.all_append, h0]
  simp [h1]
theorem catOk_end (h : l.length ≤ k) (h0 : (l.take k).all nmOk = true) (h1 : ((nmNames l).take k).Nodup) : catOk l = decide (l.length ≤ 4) := by
  rw [List.take_of_length_le h] at h0
  rw [List.take_of_length_le (by rw [nmNames_len]; exact h)] at h1
  unfold catOk
  rw [h0, decide_eq_true h1]
  rfl
theorem nmHit {x : ByteArray} {j : Nat} (h : j < l.length) (hjk : j < k) (h2 : l[j].1 = x) : hasS ((nmNames l).take k) x = true := by
  have hj : j < (nmNames l).length := by rw [nmNames_len]; exact h
  exact hasS_take_hit hj hjk (by rw [nmNames_get h]; exact h2)
theorem nmMiss {x : ByteArray} {j : Nat} (h : j < l.length) (h1 : hasS ((nmNames l).take j) x = false) (h2 : l[j].1 ≠ x) : hasS ((nmNames l).take (j + 1)) x = false := by
  have hj : j < (nmNames l).length := by rw [nmNames_len]; exact h
  exact hasS_succ_f hj h1 (by rw [nmNames_get h]; exact h2)
theorem nmCol_hit {x : ByteArray} (h : k < l.length) (hn : hasS ((nmNames l).take k) x = false) (hp : l[k].1 = x) : colOf (nmNames l) x = k := by
  have hk : k < (nmNames l).length := by rw [nmNames_len]; exact h
  exact colOf_hit hk hn (by rw [nmNames_get h]; exact hp)
theorem nmCol_at (h : k < l.length) : colOf (nmNames l) l[k].1 = k ↔ hasS ((nmNames l).take k) l[k].1 = false := by
  constructor
  · intro hc
    unfold colOf at hc
    split at hc
    · rename_i i hi
      obtain ⟨hil, hp, hn⟩ := List.findIdx?_eq_some_iff_getElem.1 hi
      have : i = k := by omega
      subst this
      rw [hasS_not]
      intro hm
      obtain ⟨j, hj, he⟩ := List.mem_take_iff_getElem.1 hm
      exact hn j (by omega) (eqB_t he)
    · omega
  · intro hn
    exact nmCol_hit h hn rfl
end

/-! ### The program's side -/






































































end Go.Proofs.YtldknaajnnohiaaDoor
end

section
namespace Go.Proofs.YtldknaajnnohiaaDoor
open Go.RowKit































































































































































end Go.Proofs.YtldknaajnnohiaaDoor
end
