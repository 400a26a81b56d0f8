/- TableValid: contracts. -/
import Derived.Test.YthabgnhedmepjaaDoorCol
import Derived.Test.YthabgnhedmepjaaDoorSatT
import Derived.Test.YthabgnhedmepjaaDoorFuncs
namespace Go.Proofs.YthabgnhedmepjaaDoor
open Go.RowKit

section
variable {α : Type} {p : α → Bool} {l : List α} {k : Nat}
theorem all_bad (h : k < l.length) (h1 : p l[k] = false) : l.all p = false := List.all_eq_false.2 ⟨l[k], List.getElem_mem h, by simp [h1]⟩
theorem all_succ (h : k < l.length) (h0 : (l.take k).all p = true) (h1 : p l[k] = true) : (l.take (k + 1)).all p = true := by
  rw [List.take_succ_eq_append_getElem h, List.all_append, h0]
  simp [h1]
theorem all_end (h : l.length ≤ k) (h0 : (l.take k).all p = true) : l.all p = true := by rwa [List.take_of_length_le h] at h0
end
def fitRow (n : Nat) (r : List Int) : Bool := decide (r.length = n) && !r.any notValue
def tableOk (t : TableD) : Bool := namesOk t.1 && (decide (t.2.length ≤ 16) && t.2.all (fitRow t.1.length))
theorem fitRow_len {n : Nat} {r : List Int} (h : r.length ≠ n) : fitRow n r = false := by unfold fitRow; rw [decide_eq_false h]; rfl
theorem fitRow_any {n : Nat} {r : List Int} (h : r.any notValue = true) : fitRow n r = false := by unfold fitRow; rw [h]; simp
theorem fitRow_ok {n : Nat} {r : List Int} (h1 : r.length = n) (h2 : r.any notValue = false) : fitRow n r = true := by unfold fitRow; rw [decide_eq_true h1, h2]; rfl
theorem tableOk_n {ns : List ByteArray} {rows : List (List Int)} (h : namesOk ns = false) : tableOk (ns, rows) = false := by unfold tableOk; rw [h]; rfl
theorem tableOk_l {ns : List ByteArray} {rows : List (List Int)} (h : ¬rows.length ≤ 16) : tableOk (ns, rows) = false := by unfold tableOk; rw [decide_eq_false h]; simp
theorem tableOk_r {ns : List ByteArray} {rows : List (List Int)} (h : rows.all (fitRow ns.length) = false) : tableOk (ns, rows) = false := by unfold tableOk; rw [h]; simp
theorem tableOk_t {ns : List ByteArray} {rows : List (List Int)} (h1 : namesOk ns = true) (h2 : rows.length ≤ 16) : tableOk (ns, rows) = rows.all (fitRow ns.length) := by unfold tableOk; rw [h1, decide_eq_true h2]; rfl
theorem tableOk_s {ns : List ByteArray} {rows : List (List Int)} (h1 : namesOk ns = true) (h2 : rows.all (fitRow ns.length) = true) : tableOk (ns, rows) = decide (rows.length ≤ 16) := by unfold tableOk; rw [h1, h2]; simp

/-! ### The program's side -/































































































































































end Go.Proofs.YthabgnhedmepjaaDoor
