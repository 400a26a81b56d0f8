/- What SealRow computes. -/
import Derived.Test.YtnlhiamjndifoaaDoorApp
import Derived.Test.YtnlhiamjndifoaaDoorLaw
import Derived.Test.YtnlhiamjndifoaaDoorShapes
import Derived.Test.YtnlhiamjndifoaaDoorStream
import Derived.Test.YtnlhiamjndifoaaDoorFuncs
import Derived.Deep.RegionLaw
namespace Go.Proofs.YtnlhiamjndifoaaDoor
open Go.RowKit

def sealCell (key number : Int) (row : List Int) (k : Nat) : Int := (row.getD k 0 + 100000 + streamF key number k) % 200003
def cellsTo (key number : Int) (row : List Int) (k : Nat) : List Int := (List.range k).map (sealCell key number row)
def markCell (key number : Int) (row : List Int) (real : Bool) : Int := (cond real 1 0 + streamF key number row.length) % 200003
def sealedCells (key number : Int) (row : List Int) (real : Bool) : List Int := cellsTo key number row row.length ++ [markCell key number row real]
def tagStep (t c : Int) : Int := (31 * t + c + 7) % 200003
def tagF (key number : Int) (cells : List Int) : Int := cells.foldl tagStep (streamF key number 99)
def rowOk (row : List Int) : Bool := inB row.length 1 6 && !row.any notValue
def sealOk (key number : Int) (row : List Int) : Bool := inB key 0 1000000 && inB number 0 1000000000 && rowOk row
def sealRowF (key number : Int) (row : List Int) (real : Bool) : SealedD := if sealOk key number row then (number, sealedCells key number row real, tagF key number (sealedCells key number row real)) else (0, [], 0)
theorem cellsTo_succ (key number : Int) (row : List Int) (k : Nat) : cellsTo key number row (k + 1) = cellsTo key number row k ++ [sealCell key number row k] := by simp [cellsTo, List.range_succ]
theorem cellsTo_len (key number : Int) (row : List Int) (k : Nat) : (cellsTo key number row k).length = k := by simp [cellsTo]
theorem mod_bd {n : Int} (h : 0 ≤ n) : 0 ≤ n % 200003 ∧ n % 200003 ≤ 200002 := by omega
theorem tagF_succ (key number : Int) (cells : List Int) (k : Nat) (h : k < cells.length) : tagF key number (cells.take (k + 1)) = tagStep (tagF key number (cells.take k)) cells[k] := by
  unfold tagF; rw [List.take_succ_eq_append_getElem h, List.foldl_append]; rfl
theorem value_of {row : List Int} (h : row.any notValue = false) {k : Nat} (hk : k < row.length) : -100000 ≤ row[k] ∧ row[k] ≤ 100000 := by
  have := List.any_eq_false.1 h _ (List.getElem_mem hk)
  exact inB_of (by simpa [notValue] using this)
theorem notOk_key {key number : Int} {row : List Int} {real : Bool} (h : inB key 0 1000000 = false) : sealRowF key number row real = (0, [], 0) := by unfold sealRowF sealOk; rw [h]; rfl
theorem notOk_num {key number : Int} {row : List Int} {real : Bool} (h : inB number 0 1000000000 = false) : sealRowF key number row real = (0, [], 0) := by unfold sealRowF sealOk; rw [h]; simp
theorem notOk_len {key number : Int} {row : List Int} {real : Bool} (h : inB row.length 1 6 = false) : sealRowF key number row real = (0, [], 0) := by unfold sealRowF sealOk rowOk; rw [h]; simp
theorem notOk_any {key number : Int} {row : List Int} {real : Bool} (h : row.any notValue = true) : sealRowF key number row real = (0, [], 0) := by unfold sealRowF sealOk rowOk; rw [h]; simp
theorem allOk {key number : Int} {row : List Int} {real : Bool} (h1 : inB key 0 1000000 = true) (h2 : inB number 0 1000000000 = true) (h3 : inB row.length 1 6 = true) (h4 : row.any notValue = false) :
    sealRowF key number row real = (number, sealedCells key number row real, tagF key number (sealedCells key number row real)) := by unfold sealRowF sealOk rowOk; rw [h1, h2, h3, h4]; rfl
theorem Fresh.zeroSealed (w w' : World) (h : Mod [] w w') : Fresh rSealed w w' [.int .i64 0, .slice none 0 0, .int .i64 0] ((0, [], 0) : SealedD) :=
  ⟨[], rSealed_mk i64_zero (SliceHas.nil _) i64_zero, Good.nil _, by simp, h⟩

theorem app_below {B : Nat} {w W w1 : World} {v : Value} (hM : Mod [] w W) (hB : B ≤ w.heap.size) (hg : W.grownBy w1 v.ownBlock) (hb : ∀ g, v.ownBlock = some g → B ≤ g) : Below B w w1 :=
  ⟨hg.os.trans hM.os, hg.tape.trans hM.tape, hg.output.trans hM.output, Nat.le_trans hM.size hg.size |> Nat.le_trans (by omega), fun g hl => (hg.block g (by have := hM.size; omega) (fun e => by have := hb g e.symm; omega)).trans (hM.block g (by omega) (by simp))⟩
theorem below_rules {B : Nat} {w w' : World} (h : Below B w w') : (∀ b o, b < B → w'.cell? ⟨b, o, none⟩ = w.cell? ⟨b, o, none⟩) ∧ (∀ b o, b < B → w'.frozen? ⟨b, o, none⟩ = w.frozen? ⟨b, o, none⟩) :=
  ⟨fun b o hb => World.cell?_of_block (a := ⟨b, o, none⟩) (h.block b hb), fun b o hb => World.frozen?_of_block (h.block b hb)⟩

theorem new_cell {w : World} {arr : Array Value} {t : TypeId} {j : Nat} {u : Value} (h : arr[j]? = some u) : (w.alloc (.cells arr t)).cell? ⟨w.heap.size, j, none⟩ = some u := by
  rw [cell_of_row _ _ _ arr t (0, 0) (heap_alloc_new w _)]; exact h
theorem new_frozen {w : World} {arr : Array Value} {t : TypeId} (o : Nat) : (w.alloc (.cells arr t)).frozen? ⟨w.heap.size, o, none⟩ = false := by
  unfold World.frozen?
  rw [heap_alloc_new]
  simp

theorem ival {a b : Int} (h : a = b) : [Value.int .i64 a] = [.int .i64 b] := by rw [h]
theorem wrapMod {a b : Int} {c : Int} (h0 : -100000 ≤ a) (h1 : a ≤ 100000) (b0 : 0 ≤ b) (b1 : b ≤ 200002) (h : c = (a + 100000 + b) % 200003) : (IntKind.i64.wrap (IntKind.i64.wrap (a + 100000) + b)).tmod 200003 = c := by
  have e1 : IntKind.i64.wrap (a + 100000) = a + 100000 := IntWalk.i64_in _ (by omega)
  rw [e1]
  have e2 : IntKind.i64.wrap (a + 100000 + b) = a + 100000 + b := IntWalk.i64_in _ (by omega)
  rw [e2, Int.tmod_eq_emod_of_nonneg (by omega), h]

theorem wrapMark0 {b : Int} {c : Int} (b0 : 0 ≤ b) (b1 : b ≤ 200002) (h : c = b % 200003) : (IntKind.i64.wrap b).tmod 200003 = c := by
  have e1 : IntKind.i64.wrap b = b := IntWalk.i64_in _ (by omega)
  rw [e1, Int.tmod_eq_emod_of_nonneg (by omega), h]
theorem sealedCells_bd (key number : Int) (row : List Int) (real : Bool) : ∀ (j : Nat) (hj : j < (sealedCells key number row real).length), 0 ≤ (sealedCells key number row real)[j] ∧ (sealedCells key number row real)[j] ≤ 200002 := by
  intro j hj
  have hm := List.getElem_mem hj
  generalize (sealedCells key number row real)[j] = c at hm
  simp only [sealedCells, cellsTo, List.mem_append, List.mem_map, List.mem_singleton] at hm
  rcases hm with ⟨k, _, rfl⟩ | rfl
  · simp only [sealCell]; omega
  · simp only [markCell]; omega
theorem tagF_bd (key number : Int) (cells : List Int) : 0 ≤ tagF key number cells ∧ tagF key number cells ≤ 200002 := by
  unfold tagF
  have h0 := streamF_bd key number 99
  generalize streamF key number 99 = t at h0
  induction cells generalizing t with
  | nil => exact h0
  | cons c cs ih => exact ih (tagStep t c) (by simp only [tagStep]; omega)
theorem wrapMark {m b : Int} {c : Int} (h0 : 0 ≤ m) (h1 : m ≤ 1) (b0 : 0 ≤ b) (b1 : b ≤ 200002) (h : c = (m + b) % 200003) : (IntKind.i64.wrap (m + b)).tmod 200003 = c := by
  have e1 : IntKind.i64.wrap (m + b) = m + b := IntWalk.i64_in _ (by omega)
  rw [e1, Int.tmod_eq_emod_of_nonneg (by omega), h]

end Go.Proofs.YtnlhiamjndifoaaDoor
