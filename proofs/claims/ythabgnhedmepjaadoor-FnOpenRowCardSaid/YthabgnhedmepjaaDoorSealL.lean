/- Sealed rows and opened rows (plain laws). -/
import Derived.Test.YthabgnhedmepjaaDoorOpenP
namespace Go.Proofs.YthabgnhedmepjaaDoor
open Go.RowKit

theorem tagStep_bd (t c : Int) : 0 ≤ tagStep t c ∧ tagStep t c ≤ 200002 := by unfold tagStep; omega
theorem tagStep_injL {t1 t2 c : Int} (a0 : 0 ≤ t1) (a1 : t1 ≤ 200002) (b0 : 0 ≤ t2) (b1 : t2 ≤ 200002) (h : tagStep t1 c = tagStep t2 c) : t1 = t2 := by unfold tagStep at h; omega
theorem tagStep_injR {t c1 c2 : Int} (a0 : 0 ≤ c1) (a1 : c1 ≤ 200002) (b0 : 0 ≤ c2) (b1 : c2 ≤ 200002) (h : tagStep t c1 = tagStep t c2) : c1 = c2 := by unfold tagStep at h; omega
theorem fold_inj : ∀ (cs : List Int) (t1 t2 : Int), 0 ≤ t1 → t1 ≤ 200002 → 0 ≤ t2 → t2 ≤ 200002 → cs.foldl tagStep t1 = cs.foldl tagStep t2 → t1 = t2
  | [], _, _, _, _, _, _, h => h
  | c :: cs, t1, t2, a0, a1, b0, b1, h => by
    have h1 := tagStep_bd t1 c
    have h2 := tagStep_bd t2 c
    exact tagStep_injL a0 a1 b0 b1 (fold_inj cs _ _ h1.1 h1.2 h2.1 h2.2 h)
theorem set_split (cells : List Int) (k : Nat) (x : Int) (hk : k < cells.length) : cells.set k x = cells.take k ++ x :: cells.drop (k + 1) := by
  rw [List.set_eq_take_append_cons_drop, if_pos hk]
theorem get_split (cells : List Int) (k : Nat) (hk : k < cells.length) : cells = cells.take k ++ cells[k] :: cells.drop (k + 1) := by
  have h := set_split cells k cells[k] hk
  rw [List.set_getElem_self] at h
  exact h
theorem tag_set {key number : Int} {cells : List Int} {k : Nat} {x : Int} (hk : k < cells.length) (a0 : 0 ≤ cells[k]) (a1 : cells[k] ≤ 200002) (b0 : 0 ≤ x) (b1 : x ≤ 200002) (h : tagF key number (cells.set k x) = tagF key number cells) : x = cells[k] := by
  have e1 : tagF key number (cells.set k x) = (cells.drop (k + 1)).foldl tagStep (tagStep (tagF key number (cells.take k)) x) := by
    rw [set_split _ _ _ hk]; unfold tagF; rw [List.foldl_append, List.foldl_cons]
  have e2 : tagF key number cells = (cells.drop (k + 1)).foldl tagStep (tagStep (tagF key number (cells.take k)) cells[k]) := by
    conv => lhs; rw [get_split cells k hk]
    unfold tagF; rw [List.foldl_append, List.foldl_cons]
  rw [e1, e2] at h
  have h1 := tagStep_bd (tagF key number (cells.take k)) x
  have h2 := tagStep_bd (tagF key number (cells.take k)) cells[k]
  exact tagStep_injR b0 b1 a0 a1 (fold_inj _ _ _ h1.1 h1.2 h2.1 h2.2 h)
theorem openI_true {key : Int} {s : SealedD} (h : (openI key s).2.2 = true) : sealRowF key s.1 (openI key s).1 (openI key s).2.1 = s := by
  unfold openI at h ⊢
  split at h <;> rename_i h1
  · dsimp only at h ⊢
    split at h <;> rename_i h2
    · rw [if_pos h1, if_pos h2]; exact h2
    · cases h
  · cases h
theorem open_bad {key number : Int} {row : List Int} {real : Bool} {k : Nat} {x : Int} (hk : k < (sealedCells key number row real).length) (b0 : 0 ≤ x) (b1 : x ≤ 200002) (hx : x ≠ (sealedCells key number row real)[k]) :
    (openI key (number, (sealedCells key number row real).set k x, tagF key number (sealedCells key number row real))).2.2 = false := by
  rw [← Bool.not_eq_true]
  intro h
  have h1 := openI_true h
  have hb := sealedCells_bd key number row real k hk
  generalize sealedCells key number row real = cells at *
  generalize (openI key (number, cells.set k x, tagF key number cells)).1 = r at h1
  generalize (openI key (number, cells.set k x, tagF key number cells)).2.1 = b at h1
  unfold sealRowF at h1
  split at h1
  · simp only [Prod.mk.injEq, true_and] at h1
    obtain ⟨h2, h3⟩ := h1
    rw [h2] at h3
    exact hx (tag_set hk hb.1 hb.2 b0 b1 h3)
  · simp only [Prod.mk.injEq] at h1
    have := congrArg List.length h1.2.1
    simp at this
    omega
theorem sealOk_parts {key number : Int} {row : List Int} (h : sealOk key number row = true) : inB key 0 1000000 = true ∧ inB number 0 1000000000 = true ∧ inB row.length 1 6 = true ∧ row.any notValue = false := by
  unfold sealOk rowOk at h
  simp only [Bool.and_eq_true, Bool.not_eq_true'] at h
  exact ⟨h.1.1, h.1.2, h.2.1, h.2.2⟩
theorem sealed_len (key number : Int) (row : List Int) (real : Bool) : (sealedCells key number row real).length = row.length + 1 := by simp [sealedCells, cellsTo]
theorem sealed_get {key number : Int} {row : List Int} {real : Bool} {k : Nat} (hk : k < row.length) : (sealedCells key number row real).getD k 0 = sealCell key number row k := by
  unfold sealedCells
  rw [List.getD_eq_getElem?_getD, List.getElem?_append_left (by rw [cellsTo_len]; exact hk)]
  simp [cellsTo, hk]
theorem sealed_last {key number : Int} {row : List Int} {real : Bool} : (sealedCells key number row real).getD row.length 0 = markCell key number row real := by
  unfold sealedCells
  rw [List.getD_eq_getElem?_getD, List.getElem?_append_right (by rw [cellsTo_len]; exact Nat.le_refl _), cellsTo_len]
  simp
theorem open_seal {key number : Int} {row : List Int} {real : Bool} (h : sealOk key number row = true) : openI key (number, sealedCells key number row real, tagF key number (sealedCells key number row real)) = (row, real, true) := by
  obtain ⟨h1, h2, h3, h4⟩ := sealOk_parts h
  obtain ⟨l0, l1⟩ := inB_of h3
  have hlen := sealed_len key number row real
  have hbd := sealedCells_bd key number row real
  have hok : openOk key (number, sealedCells key number row real, tagF key number (sealedCells key number row real)) = true := by
    unfold openOk
    rw [h1, h2, inB_true (by simp only [hlen]; omega)]
    simp only [Bool.true_and, Bool.not_eq_true', List.any_eq_false]
    intro x hx
    obtain ⟨j, hj, rfl⟩ := List.mem_iff_getElem.1 hx
    rw [cellBad, inB_true (hbd j hj)]
    simp
  rw [openI_ok hok (m := row.length) hlen, take_plain]
  dsimp only
  have hm : (plainCell key number (sealedCells key number row real) row.length == 1) = real := by
    unfold plainCell
    rw [sealed_last]
    unfold markCell
    have := streamF_bd key number row.length
    cases real
    · simp only [cond_false]
      have e : ((0 + streamF key number row.length) % 200003 - streamF key number row.length) % 200003 = 0 := by omega
      rw [e]; rfl
    · simp only [cond_true]
      have e : ((1 + streamF key number row.length) % 200003 - streamF key number row.length) % 200003 = 1 := by omega
      rw [e]; rfl
  have hr : rowOfPlain (plainTo key number (sealedCells key number row real) row.length) = row := by
    apply List.ext_getElem?
    intro k
    by_cases hk : k < row.length
    · have e1 : (rowOfPlain (plainTo key number (sealedCells key number row real) row.length))[k]? = some (plainCell key number (sealedCells key number row real) k - 100000) := by
        simp [rowOfPlain, plainTo, hk]
      have e2 := value_of h4 hk
      have e3 := streamF_bd key number k
      rw [e1, List.getElem?_eq_getElem hk]
      congr 1
      unfold plainCell
      rw [sealed_get hk]
      unfold sealCell
      rw [show row.getD k 0 = row[k] by simp [List.getD_eq_getElem?_getD, hk]]
      omega
    · rw [List.getElem?_eq_none (by simp only [rowOfPlain, List.length_map, plainTo_len]; omega), List.getElem?_eq_none (by omega)]
  rw [hm, hr, if_pos (allOk h1 h2 h3 h4)]
theorem seal_cells {key number : Int} {row : List Int} {real : Bool} (h : (sealRowF key number row real).2.1 ≠ []) : sealOk key number row = true := by
  unfold sealRowF at h
  split at h
  · assumption
  · exact absurd rfl h
theorem sealRowF_ok {key number : Int} {row : List Int} {real : Bool} (h : sealOk key number row = true) : sealRowF key number row real = (number, sealedCells key number row real, tagF key number (sealedCells key number row real)) := by
  unfold sealRowF; rw [if_pos h]
theorem sealRowF_no {key number : Int} {row : List Int} {real : Bool} (h : sealOk key number row = false) : sealRowF key number row real = (0, [], 0) := by
  unfold sealRowF; rw [if_neg (by rw [h]; simp)]
theorem seal_inj {key number : Int} {row other : List Int} {real mark : Bool} (h : sealOk key number row = true) (h' : sealOk key number other = true) :
    sealedCells key number row real = sealedCells key number other mark ↔ row = other ∧ real = mark := by
  constructor
  · intro he
    have h1 := open_seal (real := real) h
    have h2 := open_seal (real := mark) h'
    rw [he, h2] at h1
    simp only [Prod.mk.injEq, and_true] at h1
    exact ⟨h1.1.symm, h1.2.symm⟩
  · rintro ⟨rfl, rfl⟩; rfl
end Go.Proofs.YthabgnhedmepjaaDoor
