/- TableValid: contracts. -/
import Derived.Test.YtnlhiamjndifoaaDoorCol
import Derived.Test.YtnlhiamjndifoaaDoorSatT
import Derived.Test.YtnlhiamjndifoaaDoorFuncs
import Derived.Test.YtnlhiamjndifoaaDoorFind
section
namespace Go.Proofs.YtnlhiamjndifoaaDoor
open Go.RowKit

section
variable {α : Type} {p : α → Bool} {l : List α} {k : Nat}
theorem all_bad (h : k < l.length) (h1 : p l[k] = false) : l.all p = false := List.all_eq_false.2 ⟨l[k], List.getElem_mem h, by simp [h1]⟩
theorem all_succ (h : k < l.length) (h0 : (l.take k).all p = true) (h1 : p l[k] = true) : (l.take (k + 1)).all p = true := by
  rw [List.take_succ_eq_append_getElem h, List.all_append, h0]
  simp [h1]
theorem all_end (h : l.length ≤ k) (h0 : (l.take k).all p = true) : l.all p = true := by rwa [List.take_of_length_le h] at h0
end
def fitRow (n : Nat) (r : List Int) : Bool := decide (r.length = n) && !r.any notValue
def tableOk (t : TableD) : Bool := namesOk t.1 && (decide (t.2.length ≤ 16) && t.2.all (fitRow t.1.length))
theorem fitRow_len {n : Nat} {r : List Int} (h : r.length ≠ n) : fitRow n r = false := by unfold fitRow; rw [decide_eq_false h]; rfl
theorem fitRow_any {n : Nat} {r : List Int} (h : r.any notValue = true) : fitRow n r = false := by unfold fitRow; rw [h]; simp
theorem fitRow_ok {n : Nat} {r : List Int} (h1 : r.length = n) (h2 : r.any notValue = false) : fitRow n r = true := by unfold fitRow; rw [decide_eq_true h1, h2]; rfl
theorem tableOk_n {ns : List ByteArray} {rows : List (List Int)} (h : namesOk ns = false) : tableOk (ns, rows) = false := by unfold tableOk; rw [h]; rfl
theorem tableOk_l {ns : List ByteArray} {rows : List (List Int)} (h : ¬rows.length ≤ 16) : tableOk (ns, rows) = false := by unfold tableOk; rw [decide_eq_false h]; simp
theorem tableOk_r {ns : List ByteArray} {rows : List (List Int)} (h : rows.all (fitRow ns.length) = false) : tableOk (ns, rows) = false := by unfold tableOk; rw [h]; simp
theorem tableOk_t {ns : List ByteArray} {rows : List (List Int)} (h1 : namesOk ns = true) (h2 : rows.length ≤ 16) : tableOk (ns, rows) = rows.all (fitRow ns.length) := by unfold tableOk; rw [h1, decide_eq_true h2]; rfl
theorem tableOk_s {ns : List ByteArray} {rows : List (List Int)} (h1 : namesOk ns = true) (h2 : rows.all (fitRow ns.length) = true) : tableOk (ns, rows) = decide (rows.length ≤ 16) := by unfold tableOk; rw [h1, h2]; simp

/-! ### The program's side -/































































































































































end Go.Proofs.YtnlhiamjndifoaaDoor
end

section
namespace Go.Proofs.YtnlhiamjndifoaaDoor
open Go.RowKit

def nmOk (x : NamedD) : Bool := nameOk x.1 && tableOk x.2
def nmNames (l : List NamedD) : List ByteArray := l.map (fun s => s.1)
def catOk (l : List NamedD) : Bool := l.all nmOk && (decide (nmNames l).Nodup && decide (l.length ≤ 4))
section
variable {l : List NamedD} {k : Nat}
theorem nmNames_len : (nmNames l).length = l.length := by simp [nmNames]
theorem nmNames_get (h : k < l.length) : (nmNames l)[k]'(by rw [nmNames_len]; exact h) = l[k].1 := by simp [nmNames]
theorem catOk_bad (h : k < l.length) (h1 : nmOk l[k] = false) : catOk l = false := by
  unfold catOk
  rw [show l.all nmOk = false from List.all_eq_false.2 ⟨l[k], List.getElem_mem h, by simp [h1]⟩]
  rfl
theorem catOk_dup (h : k < l.length) (h1 : hasS ((nmNames l).take k) l[k].1 = true) : catOk l = false := by
  unfold catOk
  rw [decide_eq_false]
  · simp
  · intro hn
    have hk : k < (nmNames l).length := by rw [nmNames_len]; exact h
    have hn' : ((nmNames l).take k ++ (nmNames l).drop k).Nodup := by rw [List.take_append_drop]; exact hn
    have hm : l[k].1 ∈ (nmNames l).drop k := List.mem_drop_iff_getElem.2 ⟨0, by omega, by simp [nmNames]⟩
    exact (List.nodup_append.1 hn').2.2 _ (hasS_mem.1 h1) _ hm rfl
theorem nmNodup_succ (h : k < l.length) (h0 : ((nmNames l).take k).Nodup) (h1 : hasS ((nmNames l).take k) l[k].1 = false) : ((nmNames l).take (k + 1)).Nodup := by
  have hk : k < (nmNames l).length := by rw [nmNames_len]; exact h
  exact nodup_succ hk h0 (by rw [nmNames_get h]; exact h1)
theorem cat_succ (h : k < l.length) (h0 : (l.take k).all nmOk = true) (h1 : nmOk l[k] = true) : (l.take (k + 1)).all nmOk = true := by
  rw [List.take_succ_eq_append_getElem h, List.all_append, h0]
  simp [h1]
theorem catOk_end (h : l.length ≤ k) (h0 : (l.take k).all nmOk = true) (h1 : ((nmNames l).take k).Nodup) : catOk l = decide (l.length ≤ 4) := by
  rw [List.take_of_length_le h] at h0
  rw [List.take_of_length_le (by rw [nmNames_len]; exact h)] at h1
  unfold catOk
  rw [h0, decide_eq_true h1]
  rfl
theorem nmHit {x : ByteArray} {j : Nat} (h : j < l.length) (hjk : j < k) (h2 : l[j].1 = x) : hasS ((nmNames l).take k) x = true := by
  have hj : j < (nmNames l).length := by rw [nmNames_len]; exact h
  exact hasS_take_hit hj hjk (by rw [nmNames_get h]; exact h2)
theorem nmMiss {x : ByteArray} {j : Nat} (h : j < l.length) (h1 : hasS ((nmNames l).take j) x = false) (h2 : l[j].1 ≠ x) : hasS ((nmNames l).take (j + 1)) x = false := by
  have hj : j < (nmNames l).length := by rw [nmNames_len]; exact h
  exact hasS_succ_f hj h1 (by rw [nmNames_get h]; exact h2)
theorem nmCol_hit {x : ByteArray} (h : k < l.length) (hn : hasS ((nmNames l).take k) x = false) (hp : l[k].1 = x) : colOf (nmNames l) x = k := by
  have hk : k < (nmNames l).length := by rw [nmNames_len]; exact h
  exact colOf_hit hk hn (by rw [nmNames_get h]; exact hp)
theorem nmCol_at (h : k < l.length) : colOf (nmNames l) l[k].1 = k ↔ hasS ((nmNames l).take k) l[k].1 = false := by
  constructor
  · intro hc
    unfold colOf at hc
    split at hc
    · rename_i i hi
      obtain ⟨hil, hp, hn⟩ := List.findIdx?_eq_some_iff_getElem.1 hi
      have : i = k := by omega
      subst this
      rw [hasS_not]
      intro hm
      obtain ⟨j, hj, he⟩ := List.mem_take_iff_getElem.1 hm
      exact hn j (by omega) (eqB_t he)
    · omega
  · intro hn
    exact nmCol_hit h hn rfl
end

/-! ### The program's side -/






































































end Go.Proofs.YtnlhiamjndifoaaDoor
end

section
namespace Go.Proofs.YtnlhiamjndifoaaDoor
open Go.RowKit































































































































































end Go.Proofs.YtnlhiamjndifoaaDoor
end

section
namespace Go.Proofs.YtnlhiamjndifoaaDoor
open Go.RowKit

def TSmall (t : TableD) : Prop := t.1.length ≤ 1048576 ∧ t.2.length ≤ 1048576 ∧ ∀ r ∈ t.2, r.length ≤ 1048576
def LSmall (l : List NamedD) : Prop := l.length ≤ 1048576 ∧ ∀ x ∈ l, TSmall x.2





























































end Go.Proofs.YtnlhiamjndifoaaDoor
end
