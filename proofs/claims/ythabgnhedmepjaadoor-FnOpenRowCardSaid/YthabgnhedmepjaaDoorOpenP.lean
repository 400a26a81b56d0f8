/- OpenRow: when the row is opened (plain laws). -/
import Derived.Test.YthabgnhedmepjaaDoorOpenD
namespace Go.Proofs.YthabgnhedmepjaaDoor
open Go.RowKit

section
variable {key : Int} {s : SealedD} {m : Nat}
def openOk (key : Int) (s : SealedD) : Bool := inB key 0 1000000 && inB s.1 0 1000000000 && inB s.2.1.length 2 7 && !s.2.1.any cellBad
theorem openI_bad (h : openOk key s = false) : openI key s = ([], false, false) := by unfold openI; unfold openOk at h; rw [h]; rfl
theorem openI_ok (h : openOk key s = true) (hm : s.2.1.length = m + 1) :
    openI key s = if sealRowF key s.1 (rowOfPlain ((plainTo key s.1 s.2.1 (m + 1)).take m)) (plainCell key s.1 s.2.1 m == 1) = s then (rowOfPlain ((plainTo key s.1 s.2.1 (m + 1)).take m), plainCell key s.1 s.2.1 m == 1, true) else ([], false, false) := by
  unfold openI
  unfold openOk at h
  rw [h, hm]
  have e : (plainTo key s.1 s.2.1 (m + 1)).getD m 0 = plainCell key s.1 s.2.1 m := by
    simp [plainTo, List.getD_eq_getElem?_getD]
  simp only [if_true, Nat.add_sub_cancel, e]
theorem take_plain (cells : List Int) : (plainTo key s.1 cells (m + 1)).take m = plainTo key s.1 cells m := by
  rw [plainTo_succ, List.take_left' (plainTo_len _ _ _ _)]
theorem openOk_parts (h : openOk key s = true) : inB key 0 1000000 = true ∧ inB s.1 0 1000000000 = true ∧ inB s.2.1.length 2 7 = true ∧ s.2.1.any cellBad = false := by
  unfold openOk at h
  simp only [Bool.and_eq_true, Bool.not_eq_true'] at h
  exact ⟨h.1.1.1, h.1.1.2, h.1.2, h.2⟩
theorem cell_bd (h : s.2.1.any cellBad = false) {k : Nat} (hk : k < s.2.1.length) : 0 ≤ s.2.1[k] ∧ s.2.1[k] ≤ 200002 := by
  have := List.any_eq_false.1 h _ (List.getElem_mem hk)
  exact inB_of (by simpa [cellBad] using this)
theorem plain_back (h : s.2.1.any cellBad = false) {k : Nat} (hk : k < s.2.1.length) : (plainCell key s.1 s.2.1 k + streamF key s.1 k) % 200003 = s.2.1[k] := by
  obtain ⟨b0, b1⟩ := cell_bd h hk
  obtain ⟨t0, t1⟩ := streamF_bd key s.1 k
  have e : plainCell key s.1 s.2.1 k = (s.2.1[k] - streamF key s.1 k) % 200003 := by simp [plainCell, List.getD_eq_getElem?_getD, hk]
  rw [e]; omega
theorem row_ok (hm : s.2.1.length = m + 1) (hl : inB s.2.1.length 2 7 = true) : rowOk (rowOfPlain (plainTo key s.1 s.2.1 m)) = true ↔ ∀ k, k < m → plainCell key s.1 s.2.1 k ≤ 200000 := by
  obtain ⟨l0, l1⟩ := inB_of hl
  unfold rowOk
  have e1 : inB (rowOfPlain (plainTo key s.1 s.2.1 m)).length 1 6 = true := inB_true (by simp only [rowOfPlain, List.length_map, plainTo_len]; omega)
  rw [e1]
  simp only [Bool.true_and, Bool.not_eq_true', List.any_eq_false, rowOfPlain, plainTo, List.map_map, List.mem_map, List.mem_range, Function.comp]
  constructor
  · intro h k hk
    have := h _ ⟨k, hk, rfl⟩
    have := inB_of (by simpa [notValue] using this)
    omega
  · rintro h x ⟨k, hk, rfl⟩
    have h1 := h k hk
    have h2 := plainCell_bd key s.1 s.2.1 k
    rw [notValue, inB_true (by omega)]; simp
theorem sealed_back (hb : s.2.1.any cellBad = false) (hm : s.2.1.length = m + 1) (hx : plainCell key s.1 s.2.1 m ≤ 1) :
    sealedCells key s.1 (rowOfPlain (plainTo key s.1 s.2.1 m)) (plainCell key s.1 s.2.1 m == 1) = s.2.1 := by
  have hlen : (rowOfPlain (plainTo key s.1 s.2.1 m)).length = m := by simp [rowOfPlain, plainTo_len]
  apply List.ext_getElem?
  intro k
  unfold sealedCells
  rw [hlen]
  rcases Nat.lt_trichotomy k m with h | h | h
  · rw [List.getElem?_append_left (by rw [cellsTo_len]; exact h)]
    have hk : k < s.2.1.length := by omega
    rw [List.getElem?_eq_getElem hk, ← plain_back (key := key) hb hk]
    simp only [cellsTo, List.getElem?_map, List.getElem?_range h, Option.map_some, sealCell]
    have e : (rowOfPlain (plainTo key s.1 s.2.1 m)).getD k 0 = plainCell key s.1 s.2.1 k - 100000 := by
      simp [rowOfPlain, plainTo, List.getD_eq_getElem?_getD, h]
    rw [e]
    congr 2; omega
  · subst h
    rw [List.getElem?_append_right (by rw [cellsTo_len]; exact Nat.le_refl _), cellsTo_len, Nat.sub_self]
    have hk : k < s.2.1.length := by omega
    rw [List.getElem?_eq_getElem hk, ← plain_back (key := key) hb hk]
    simp only [List.getElem?_cons_zero, markCell, hlen]
    have h0 := (plainCell_bd key s.1 s.2.1 k).1
    congr 2
    rcases (by omega : plainCell key s.1 s.2.1 k = 0 ∨ plainCell key s.1 s.2.1 k = 1) with h | h <;> rw [h] <;> rfl
  · rw [List.getElem?_eq_none (by simp only [List.length_append, cellsTo_len, List.length_singleton]; omega), List.getElem?_eq_none (by omega)]
theorem mark_back (hb : s.2.1.any cellBad = false) (hm : s.2.1.length = m + 1) (h : sealedCells key s.1 (rowOfPlain (plainTo key s.1 s.2.1 m)) (plainCell key s.1 s.2.1 m == 1) = s.2.1) : plainCell key s.1 s.2.1 m ≤ 1 := by
  have hlen : (rowOfPlain (plainTo key s.1 s.2.1 m)).length = m := by simp [rowOfPlain, plainTo_len]
  have hk : m < s.2.1.length := by omega
  have h1 : (sealedCells key s.1 (rowOfPlain (plainTo key s.1 s.2.1 m)) (plainCell key s.1 s.2.1 m == 1))[m]? = some s.2.1[m] := by rw [h]; exact List.getElem?_eq_getElem hk
  unfold sealedCells at h1
  rw [hlen, List.getElem?_append_right (by rw [cellsTo_len]; exact Nat.le_refl _), cellsTo_len, Nat.sub_self] at h1
  simp only [List.getElem?_cons_zero, markCell, hlen, Option.some.injEq] at h1
  have h2 := plain_back (key := key) hb hk
  obtain ⟨t0, t1⟩ := streamF_bd key s.1 m
  obtain ⟨p0, p1⟩ := plainCell_bd key s.1 s.2.1 m
  by_cases hx : plainCell key s.1 s.2.1 m = 1
  · omega
  · have e : (plainCell key s.1 s.2.1 m == 1) = false := by simpa using hx
    rw [e] at h1
    simp only [cond_false] at h1
    omega
/-- The row is opened if the tag is right and every cell is a value, the last one a mark. -/
theorem openI_yes (h : openOk key s = true) (hm : s.2.1.length = m + 1) (ht : s.2.2 = tagF key s.1 s.2.1) (hv : ∀ k, k < m → plainCell key s.1 s.2.1 k ≤ 200000) (hx : plainCell key s.1 s.2.1 m ≤ 1) :
    openI key s = (rowOfPlain (plainTo key s.1 s.2.1 m), plainCell key s.1 s.2.1 m == 1, true) := by
  obtain ⟨h1, h2, h3, h4⟩ := openOk_parts h
  rw [openI_ok h hm, take_plain]
  rw [if_pos]
  have hr := (row_ok (key := key) hm h3).2 hv
  unfold sealRowF sealOk
  rw [h1, h2, hr, sealed_back h4 hm hx, ← ht]
  rfl
theorem openI_no (h : openOk key s = true) (hm : s.2.1.length = m + 1) (hn : s.2.2 ≠ tagF key s.1 s.2.1 ∨ (∃ k, k < m ∧ 200000 < plainCell key s.1 s.2.1 k) ∨ 1 < plainCell key s.1 s.2.1 m) : openI key s = ([], false, false) := by
  obtain ⟨h1, h2, h3, h4⟩ := openOk_parts h
  rw [openI_ok h hm, take_plain, if_neg]
  intro he
  unfold sealRowF sealOk at he
  rw [h1, h2] at he
  cases hr : rowOk (rowOfPlain (plainTo key s.1 s.2.1 m))
  · rw [hr] at he
    have := congrArg (fun x : SealedD => x.2.1.length) he
    simp at this
    omega
  · rw [hr] at he
    simp only [Bool.true_and, if_true] at he
    have e2 : sealedCells key s.1 (rowOfPlain (plainTo key s.1 s.2.1 m)) (plainCell key s.1 s.2.1 m == 1) = s.2.1 := congrArg (fun x : SealedD => x.2.1) he
    have e3 := congrArg (fun x : SealedD => x.2.2) he
    simp only at e3
    rw [e2] at e3
    rcases hn with h | ⟨k, hk, h⟩ | h
    · exact h e3.symm
    · have := (row_ok (key := key) hm h3).1 hr k hk; omega
    · have := mark_back h4 hm e2; omega
end
end Go.Proofs.YthabgnhedmepjaaDoor
