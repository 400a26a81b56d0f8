/- What OpenRow computes. -/
import Derived.Test.YtnlhiamjndifoaaDoorSealD
section
namespace Go.Proofs.YtnlhiamjndifoaaDoor
open Go.RowKit

def plainCell (key number : Int) (cells : List Int) (k : Nat) : Int := (cells.getD k 0 - streamF key number k) % 200003
def plainTo (key number : Int) (cells : List Int) (k : Nat) : List Int := (List.range k).map (plainCell key number cells)
theorem plainTo_succ (key number : Int) (cells : List Int) (k : Nat) : plainTo key number cells (k + 1) = plainTo key number cells k ++ [plainCell key number cells k] := by simp [plainTo, List.range_succ]
theorem plainTo_len (key number : Int) (cells : List Int) (k : Nat) : (plainTo key number cells k).length = k := by simp [plainTo]
theorem plainCell_bd (key number : Int) (cells : List Int) (k : Nat) : 0 ≤ plainCell key number cells k ∧ plainCell key number cells k ≤ 200002 := by unfold plainCell; omega
def cellBad (c : Int) : Bool := !inB c 0 200002
def rowOfPlain (p : List Int) : List Int := p.map (fun n => n - 100000)
/-- OpenRow as the program computes it. -/
def openI (key : Int) (s : SealedD) : List Int × Bool × Bool :=
  if inB key 0 1000000 && inB s.1 0 1000000000 && inB s.2.1.length 2 7 && !s.2.1.any cellBad then
    let p := plainTo key s.1 s.2.1 s.2.1.length
    let row := rowOfPlain (p.take (s.2.1.length - 1))
    let real := p.getD (s.2.1.length - 1) 0 == 1
    if sealRowF key s.1 row real = s then (row, real, true) else ([], false, false)
  else ([], false, false)
end Go.Proofs.YtnlhiamjndifoaaDoor
end

section
namespace Go.Proofs.YtnlhiamjndifoaaDoor
open Go.RowKit

section
variable {key : Int} {s : SealedD} {m : Nat}
def openOk (key : Int) (s : SealedD) : Bool := inB key 0 1000000 && inB s.1 0 1000000000 && inB s.2.1.length 2 7 && !s.2.1.any cellBad
theorem openI_bad (h : openOk key s = false) : openI key s = ([], false, false) := by unfold openI; unfold openOk at h; rw [h]; rfl
theorem openI_ok (h : openOk key s = true) (hm : s.2.1.length = m + 1) :
    openI key s = if sealRowF key s.1 (rowOfPlain ((plainTo key s.1 s.2.1 (m + 1)).take m)) (plainCell key s.1 s.2.1 m == 1) = s then (rowOfPlain ((plainTo key s.1 s.2.1 (m + 1)).take m), plainCell key s.1 s.2.1 m == 1, true) else ([], false, false) := by
  unfold openI
  unfold openOk at h
  rw [h, hm]
  have e : (plainTo key s.1 s.2.1 (m + 1)).getD m 0 = plainCell key s.1 s.2.1 m := by
    simp [plainTo, List.getD_eq_getElem?_getD]
  simp only [if_true, Nat.add_sub_cancel, e]
theorem take_plain (cells : List Int) : (plainTo key s.1 cells (m + 1)).take m = plainTo key s.1 cells m := by
  rw [plainTo_succ, List.take_left' (plainTo_len _ _ _ _)]
theorem openOk_parts (h : openOk key s = true) : inB key 0 1000000 = true ∧ inB s.1 0 1000000000 = true ∧ inB s.2.1.length 2 7 = true ∧ s.2.1.any cellBad = false := by
  unfold openOk at h
  simp only [Bool.and_eq_true, Bool.not_eq_true'] at h
  exact ⟨h.1.1.1, h.1.1.2, h.1.2, h.2⟩
theorem cell_bd (h : s.2.1.any cellBad = false) {k : Nat} (hk : k < s.2.1.length) : 0 ≤ s.2.1[k] ∧ s.2.1[k] ≤ 200002 := by
  have := List.any_eq_false.1 h _ (List.getElem_mem hk)
  exact inB_of (by simpa [cellBad] using this)
theorem plain_back (h : s.2.1.any cellBad = false) {k : Nat} (hk : k < s.2.1.length) : (plainCell key s.1 s.2.1 k + streamF key s.1 k) % 200003 = s.2.1[k] := by
  obtain ⟨b0, b1⟩ := cell_bd h hk
  obtain ⟨t0, t1⟩ := streamF_bd key s.1 k
  have e : plainCell key s.1 s.2.1 k = (s.2.1[k] - streamF key s.1 k) % 200003 := by simp [plainCell, List.getD_eq_getElem?_getD, hk]
  rw [e]; omega
theorem row_ok (hm : s.2.1.length = m + 1) (hl : inB s.2.1.length 2 7 = true) : rowOk (rowOfPlain (plainTo key s.1 s.2.1 m)) = true ↔ ∀ k, k < m → plainCell key s.1 s.2.1 k ≤ 200000 := by
  obtain ⟨l0, l1⟩ := inB_of hl
  unfold rowOk
  have e1 : inB (rowOfPlain (plainTo key s.1 s.2.1 m)).length 1 6 = true := inB_true (by simp only [rowOfPlain, List.length_map, plainTo_len]; omega)
  rw [e1]
  simp only [Bool.true_and, Bool.not_eq_true', List.any_eq_false, rowOfPlain, plainTo, List.map_map, List.mem_map, List.mem_range, Function.comp]
  constructor
  · intro h k hk
    have := h _ ⟨k, hk, rfl⟩
    have := inB_of (by simpa [notValue] using this)
    omega
  · rintro h x ⟨k, hk, rfl⟩
    have h1 := h k hk
    have h2 := plainCell_bd key s.1 s.2.1 k
    rw [notValue, inB_true (by omega)]; simp
theorem sealed_back (hb : s.2.1.any cellBad = false) (hm : s.2.1.length = m + 1) (hx : plainCell key s.1 s.2.1 m ≤ 1) :
    sealedCells key s.1 (rowOfPlain (plainTo key s.1 s.2.1 m)) (plainCell key s.1 s.2.1 m == 1) = s.2.1 := by
  have hlen : (rowOfPlain (plainTo key s.1 s.2.1 m)).length = m := by simp [rowOfPlain, plainTo_len]
  apply List.ext_getElem?
  intro k
  unfold sealedCells
  rw [hlen]
  rcases Nat.lt_trichotomy k m with h | h | h
  · rw [List.getElem?_append_left (by rw [cellsTo_len]; exact h)]
    have hk : k < s.2.1.length := by omega
    rw [List.getElem?_eq_getElem hk, ← plain_back (key := key) hb hk]
    simp only [cellsTo, List.getElem?_map, List.getElem?_range h, Option.map_some, sealCell]
    have e : (rowOfPlain (plainTo key s.1 s.2.1 m)).getD k 0 = plainCell key s.1 s.2.1 k - 100000 := by
      simp [rowOfPlain, plainTo, List.getD_eq_getElem?_getD, h]
    rw [e]
    congr 2; omega
  · subst h
    rw [List.getElem?_append_right (by rw [cellsTo_len]; exact Nat.le_refl _), cellsTo_len, Nat.sub_self]
    have hk : k < s.2.1.length := by omega
    rw [List.getElem?_eq_getElem hk, ← plain_back (key := key) hb hk]
    simp only [List.getElem?_cons_zero, markCell, hlen]
    have h0 := (plainCell_bd key s.1 s.2.1 k).1
    congr 2
    rcases (by omega : plainCell key s.1 s.2.1 k = 0 ∨ plainCell key s.1 s.2.1 k = 1) with h | h <;> rw [h] <;> rfl
  · rw [List.getElem?_eq_none (by simp only [List.length_append, cellsTo_len, List.length_singleton]; omega), List.getElem?_eq_none (by omega)]
theorem mark_back (hb : s.2.1.any cellBad = false) (hm : s.2.1.length = m + 1) (h : sealedCells key s.1 (rowOfPlain (plainTo key s.1 s.2.1 m)) (plainCell key s.1 s.2.1 m == 1) = s.2.1) : plainCell key s.1 s.2.1 m ≤ 1 := by
  have hlen : (rowOfPlain (plainTo key s.1 s.2.1 m)).length = m := by simp [rowOfPlain, plainTo_len]
  have hk : m < s.2.1.length := by omega
  have h1 : (sealedCells key s.1 (rowOfPlain (plainTo key s.1 s.2.1 m)) (plainCell key s.1 s.2.1 m == 1))[m]? = some s.2.1[m] := by rw [h]; exact List.getElem?_eq_getElem hk
  unfold sealedCells at h1
  rw [hlen, List.getElem?_append_right (by rw [cellsTo_len]; exact Nat.le_refl _), cellsTo_len, Nat.sub_self] at h1
  simp only [List.getElem?_cons_zero, markCell, hlen, Option.some.injEq] at h1
  have h2 := plain_back (key := key) hb hk
  obtain ⟨t0, t1⟩ := streamF_bd key s.1 m
  obtain ⟨p0, p1⟩ := plainCell_bd key s.1 s.2.1 m
  by_cases hx : plainCell key s.1 s.2.1 m = 1
  · omega
  · have e : (plainCell key s.1 s.2.1 m == 1) = false := by simpa using hx
    rw [e] at h1
    simp only [cond_false] at h1
    omega
/-- The row is opened if the tag is right and every cell is a value, the last one a mark. -/
theorem openI_yes (h : openOk key s = true) (hm : s.2.1.length = m + 1) (ht : s.2.2 = tagF key s.1 s.2.1) (hv : ∀ k, k < m → plainCell key s.1 s.2.1 k ≤ 200000) (hx : plainCell key s.1 s.2.1 m ≤ 1) :
    openI key s = (rowOfPlain (plainTo key s.1 s.2.1 m), plainCell key s.1 s.2.1 m == 1, true) := by
  obtain ⟨h1, h2, h3, h4⟩ := openOk_parts h
  rw [openI_ok h hm, take_plain]
  rw [if_pos]
  have hr := (row_ok (key := key) hm h3).2 hv
  unfold sealRowF sealOk
  rw [h1, h2, hr, sealed_back h4 hm hx, ← ht]
  rfl
theorem openI_no (h : openOk key s = true) (hm : s.2.1.length = m + 1) (hn : s.2.2 ≠ tagF key s.1 s.2.1 ∨ (∃ k, k < m ∧ 200000 < plainCell key s.1 s.2.1 k) ∨ 1 < plainCell key s.1 s.2.1 m) : openI key s = ([], false, false) := by
  obtain ⟨h1, h2, h3, h4⟩ := openOk_parts h
  rw [openI_ok h hm, take_plain, if_neg]
  intro he
  unfold sealRowF sealOk at he
  rw [h1, h2] at he
  cases hr : rowOk (rowOfPlain (plainTo key s.1 s.2.1 m))
  · rw [hr] at he
    have := congrArg (fun x : SealedD => x.2.1.length) he
    simp at this
    omega
  · rw [hr] at he
    simp only [Bool.true_and, if_true] at he
    have e2 : sealedCells key s.1 (rowOfPlain (plainTo key s.1 s.2.1 m)) (plainCell key s.1 s.2.1 m == 1) = s.2.1 := congrArg (fun x : SealedD => x.2.1) he
    have e3 := congrArg (fun x : SealedD => x.2.2) he
    simp only at e3
    rw [e2] at e3
    rcases hn with h | ⟨k, hk, h⟩ | h
    · exact h e3.symm
    · have := (row_ok (key := key) hm h3).1 hr k hk; omega
    · have := mark_back h4 hm e2; omega
end
end Go.Proofs.YtnlhiamjndifoaaDoor
end

section
namespace Go.Proofs.YtnlhiamjndifoaaDoor
open Go.RowKit

theorem tagStep_bd (t c : Int) : 0 ≤ tagStep t c ∧ tagStep t c ≤ 200002 := by unfold tagStep; omega
theorem tagStep_injL {t1 t2 c : Int} (a0 : 0 ≤ t1) (a1 : t1 ≤ 200002) (b0 : 0 ≤ t2) (b1 : t2 ≤ 200002) (h : tagStep t1 c = tagStep t2 c) : t1 = t2 := by unfold tagStep at h; omega
theorem tagStep_injR {t c1 c2 : Int} (a0 : 0 ≤ c1) (a1 : c1 ≤ 200002) (b0 : 0 ≤ c2) (b1 : c2 ≤ 200002) (h : tagStep t c1 = tagStep t c2) : c1 = c2 := by unfold tagStep at h; omega
theorem fold_inj : ∀ (cs : List Int) (t1 t2 : Int), 0 ≤ t1 → t1 ≤ 200002 → 0 ≤ t2 → t2 ≤ 200002 → cs.foldl tagStep t1 = cs.foldl tagStep t2 → t1 = t2
  | [], _, _, _, _, _, _, h => h
  | c :: cs, t1, t2, a0, a1, b0, b1, h => by
    have h1 := tagStep_bd t1 c
    have h2 := tagStep_bd t2 c
    exact tagStep_injL a0 a1 b0 b1 (fold_inj cs _ _ h1.1 h1.2 h2.1 h2.2 h)
theorem set_split (cells : List Int) (k : Nat) (x : Int) (hk : k < cells.length) : cells.set k x = cells.take k ++ x :: cells.drop (k + 1) := by
  rw [List.set_eq_take_append_cons_drop, if_pos hk]
theorem get_split (cells : List Int) (k : Nat) (hk : k < cells.length) : cells = cells.take k ++ cells[k] :: cells.drop (k + 1) := by
  have h := set_split cells k cells[k] hk
  rw [List.set_getElem_self] at h
  exact h
theorem tag_set {key number : Int} {cells : List Int} {k : Nat} {x : Int} (hk : k < cells.length) (a0 : 0 ≤ cells[k]) (a1 : cells[k] ≤ 200002) (b0 : 0 ≤ x) (b1 : x ≤ 200002) (h : tagF key number (cells.set k x) = tagF key number cells) : x = cells[k] := by
  have e1 : tagF key number (cells.set k x) = (cells.drop (k + 1)).foldl tagStep (tagStep (tagF key number (cells.take k)) x) := by
    rw [set_split _ _ _ hk]; unfold tagF; rw [List.foldl_append, List.foldl_cons]
  have e2 : tagF key number cells = (cells.drop (k + 1)).foldl tagStep (tagStep (tagF key number (cells.take k)) cells[k]) := by
    conv => lhs; rw [get_split cells k hk]
    unfold tagF; rw [List.foldl_append, List.foldl_cons]
  rw [e1, e2] at h
  have h1 := tagStep_bd (tagF key number (cells.take k)) x
  have h2 := tagStep_bd (tagF key number (cells.take k)) cells[k]
  exact tagStep_injR b0 b1 a0 a1 (fold_inj _ _ _ h1.1 h1.2 h2.1 h2.2 h)
theorem openI_true {key : Int} {s : SealedD} (h : (openI key s).2.2 = true) : sealRowF key s.1 (openI key s).1 (openI key s).2.1 = s := by
  unfold openI at h ⊢
  split at h <;> rename_i h1
  · dsimp only at h ⊢
    split at h <;> rename_i h2
    · rw [if_pos h1, if_pos h2]; exact h2
    · cases h
  · cases h
theorem open_bad {key number : Int} {row : List Int} {real : Bool} {k : Nat} {x : Int} (hk : k < (sealedCells key number row real).length) (b0 : 0 ≤ x) (b1 : x ≤ 200002) (hx : x ≠ (sealedCells key number row real)[k]) :
    (openI key (number, (sealedCells key number row real).set k x, tagF key number (sealedCells key number row real))).2.2 = false := by
  rw [← Bool.not_eq_true]
  intro h
  have h1 := openI_true h
  have hb := sealedCells_bd key number row real k hk
  generalize sealedCells key number row real = cells at *
  generalize (openI key (number, cells.set k x, tagF key number cells)).1 = r at h1
  generalize (openI key (number, cells.set k x, tagF key number cells)).2.1 = b at h1
  unfold sealRowF at h1
  split at h1
  · simp only [Prod.mk.injEq, true_and] at h1
    obtain ⟨h2, h3⟩ := h1
    rw [h2] at h3
    exact hx (tag_set hk hb.1 hb.2 b0 b1 h3)
  · simp only [Prod.mk.injEq] at h1
    have := congrArg List.length h1.2.1
    simp at this
    omega
theorem sealOk_parts {key number : Int} {row : List Int} (h : sealOk key number row = true) : inB key 0 1000000 = true ∧ inB number 0 1000000000 = true ∧ inB row.length 1 6 = true ∧ row.any notValue = false := by
  unfold sealOk rowOk at h
  simp only [Bool.and_eq_true, Bool.not_eq_true'] at h
  exact ⟨h.1.1, h.1.2, h.2.1, h.2.2⟩
theorem sealed_len (key number : Int) (row : List Int) (real : Bool) : (sealedCells key number row real).length = row.length + 1 := by simp [sealedCells, cellsTo]
theorem sealed_get {key number : Int} {row : List Int} {real : Bool} {k : Nat} (hk : k < row.length) : (sealedCells key number row real).getD k 0 = sealCell key number row k := by
  unfold sealedCells
  rw [List.getD_eq_getElem?_getD, List.getElem?_append_left (by rw [cellsTo_len]; exact hk)]
  simp [cellsTo, hk]
theorem sealed_last {key number : Int} {row : List Int} {real : Bool} : (sealedCells key number row real).getD row.length 0 = markCell key number row real := by
  unfold sealedCells
  rw [List.getD_eq_getElem?_getD, List.getElem?_append_right (by rw [cellsTo_len]; exact Nat.le_refl _), cellsTo_len]
  simp
theorem open_seal {key number : Int} {row : List Int} {real : Bool} (h : sealOk key number row = true) : openI key (number, sealedCells key number row real, tagF key number (sealedCells key number row real)) = (row, real, true) := by
  obtain ⟨h1, h2, h3, h4⟩ := sealOk_parts h
  obtain ⟨l0, l1⟩ := inB_of h3
  have hlen := sealed_len key number row real
  have hbd := sealedCells_bd key number row real
  have hok : openOk key (number, sealedCells key number row real, tagF key number (sealedCells key number row real)) = true := by
    unfold openOk
    rw [h1, h2, inB_true (by simp only [hlen]; omega)]
    simp only [Bool.true_and, Bool.not_eq_true', List.any_eq_false]
    intro x hx
    obtain ⟨j, hj, rfl⟩ := List.mem_iff_getElem.1 hx
    rw [cellBad, inB_true (hbd j hj)]
    simp
  rw [openI_ok hok (m := row.length) hlen, take_plain]
  dsimp only
  have hm : (plainCell key number (sealedCells key number row real) row.length == 1) = real := by
    unfold plainCell
    rw [sealed_last]
    unfold markCell
    have := streamF_bd key number row.length
    cases real
    · simp only [cond_false]
      have e : ((0 + streamF key number row.length) % 200003 - streamF key number row.length) % 200003 = 0 := by omega
      rw [e]; rfl
    · simp only [cond_true]
      have e : ((1 + streamF key number row.length) % 200003 - streamF key number row.length) % 200003 = 1 := by omega
      rw [e]; rfl
  have hr : rowOfPlain (plainTo key number (sealedCells key number row real) row.length) = row := by
    apply List.ext_getElem?
    intro k
    by_cases hk : k < row.length
    · have e1 : (rowOfPlain (plainTo key number (sealedCells key number row real) row.length))[k]? = some (plainCell key number (sealedCells key number row real) k - 100000) := by
        simp [rowOfPlain, plainTo, hk]
      have e2 := value_of h4 hk
      have e3 := streamF_bd key number k
      rw [e1, List.getElem?_eq_getElem hk]
      congr 1
      unfold plainCell
      rw [sealed_get hk]
      unfold sealCell
      rw [show row.getD k 0 = row[k] by simp [List.getD_eq_getElem?_getD, hk]]
      omega
    · rw [List.getElem?_eq_none (by simp only [rowOfPlain, List.length_map, plainTo_len]; omega), List.getElem?_eq_none (by omega)]
  rw [hm, hr, if_pos (allOk h1 h2 h3 h4)]
theorem seal_cells {key number : Int} {row : List Int} {real : Bool} (h : (sealRowF key number row real).2.1 ≠ []) : sealOk key number row = true := by
  unfold sealRowF at h
  split at h
  · assumption
  · exact absurd rfl h
theorem sealRowF_ok {key number : Int} {row : List Int} {real : Bool} (h : sealOk key number row = true) : sealRowF key number row real = (number, sealedCells key number row real, tagF key number (sealedCells key number row real)) := by
  unfold sealRowF; rw [if_pos h]
theorem sealRowF_no {key number : Int} {row : List Int} {real : Bool} (h : sealOk key number row = false) : sealRowF key number row real = (0, [], 0) := by
  unfold sealRowF; rw [if_neg (by rw [h]; simp)]
theorem seal_inj {key number : Int} {row other : List Int} {real mark : Bool} (h : sealOk key number row = true) (h' : sealOk key number other = true) :
    sealedCells key number row real = sealedCells key number other mark ↔ row = other ∧ real = mark := by
  constructor
  · intro he
    have h1 := open_seal (real := real) h
    have h2 := open_seal (real := mark) h'
    rw [he, h2] at h1
    simp only [Prod.mk.injEq, and_true] at h1
    exact ⟨h1.1.symm, h1.2.symm⟩
  · rintro ⟨rfl, rfl⟩; rfl
end Go.Proofs.YtnlhiamjndifoaaDoor
end
