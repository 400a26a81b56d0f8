/- Texts: numbers, words joined; strings.Join and strconv.Itoa as calls of this program. -/
import Derived.Test.YteafnieapifnnaaDoorShelf
import Derived.Test.YteafnieapifnnaaDoorMkDefsT
import Derived.Test.YteafnieapifnnaaDoorCol
namespace Go.Proofs.YteafnieapifnnaaDoor
open Go.RowKit

def bOf (l : List UInt8) : ByteArray := ⟨l.toArray⟩
theorem bOf_list (l : List UInt8) : (bOf l).data.toList = l := by unfold bOf; exact List.toList_toArray
theorem bOf_size (l : List UInt8) : (bOf l).size = l.length := by unfold bOf; rfl
theorem bOf_app (a b : List UInt8) : bOf (a ++ b) = bOf a ++ bOf b := by
  apply ByteArray.ext
  rw [ByteArray.data_append]
  show (a ++ b).toArray = a.toArray ++ b.toArray
  simp
theorem bOf_of (b : ByteArray) : bOf b.data.toList = b := by unfold bOf; rw [Array.toArray_toList]
/-- The decimal text of a number in -100000 .. 100000. -/
def numT (n : Int) : ByteArray := if inB n (-100000) 100000 then bOf (Lib.itoa n) else bOf []
/-- Words with a separator between them. -/
def bJoin (xs : List ByteArray) (sep : ByteArray) : ByteArray := bOf (Lib.join (xs.map (·.data.toList)) sep.data.toList)
theorem bJoin_nil (sep : ByteArray) : bJoin [] sep = bOf [] := rfl
theorem bJoin_one (x sep : ByteArray) : bJoin [x] sep = x := by unfold bJoin; rw [List.map_cons, List.map_nil, Lib.join_one, bOf_of]
theorem joinTail_snoc (sep y : List UInt8) (r : List (List UInt8)) : Lib.joinTail sep (r ++ [y]) = Lib.joinTail sep r ++ (sep ++ y) := by unfold Lib.joinTail; simp
theorem bJoin_snoc {xs : List ByteArray} (y sep : ByteArray) (h : xs ≠ []) : bJoin (xs ++ [y]) sep = bJoin xs sep ++ sep ++ y := by
  cases xs with
  | nil => exact absurd rfl h
  | cons x r =>
    unfold bJoin
    rw [List.cons_append, List.map_cons, List.map_cons, List.map_append, List.map_cons, List.map_nil, Lib.join_cons, Lib.join_cons, joinTail_snoc, ← List.append_assoc, ← List.append_assoc, bOf_app, bOf_app, bOf_of, bOf_of]
theorem decDigits_pos (u : Nat) : Lib.decDigits u ≠ [] := by
  rw [Lib.decDigits]
  split <;> simp
theorem itoa_pos (n : Int) : Lib.itoa n ≠ [] := by
  unfold Lib.itoa
  split
  · simp
  · exact decDigits_pos _
theorem decDigits_len : ∀ (k u : Nat), u < 10 ^ (k + 1) → (Lib.decDigits u).length ≤ k + 1
  | 0, u, h => by rw [Lib.decDigits, dif_pos (by simpa using h)]; simp
  | k + 1, u, h => by
    rw [Lib.decDigits]
    split
    · simp
    · rw [List.length_append]
      have := decDigits_len k (u / 10) (by rw [Nat.pow_succ] at h; omega)
      simp only [List.length_singleton]
      omega
theorem numT_size (n : Int) : (numT n).size ≤ 7 := by
  unfold numT
  split
  · rename_i h
    simp only [inB, Bool.and_eq_true, decide_eq_true_eq] at h
    rw [bOf_size]
    unfold Lib.itoa
    split
    · have := decDigits_len 5 n.natAbs (by omega)
      simp only [List.length_cons]
      omega
    · have := decDigits_len 5 n.toNat (by omega)
      omega
  · rw [bOf_size]; simp
theorem numT_empty {n : Int} (h : inB n (-100000) 100000 = false) : numT n = bOf [] := by unfold numT; rw [h]; rfl
theorem numT_pos {n : Int} (h : inB n (-100000) 100000 = true) : 0 < (numT n).size := by
  unfold numT
  rw [h, if_pos rfl, bOf_size]
  exact List.length_pos_iff.2 (itoa_pos n)

section
variable {w : World} {F : List Nat} {A : Option Addr} {n c : Nat} {xs : List ByteArray}
theorem strs_cells' {w : World} : ∀ {xs : List ByteArray} {F ces}, Rep.str.all w F ces xs → ces = xs.map Value.string
  | [], _, _, h => h.2
  | _ :: _, _, _, ⟨_, _, _, _, _, e, ⟨_, e2, _⟩, h⟩ => by rw [e, e2, strs_cells' h]; rfl
theorem strs_at (h : SliceHas Rep.str w F [.slice A n c] xs) (hn : 0 < n) : ∃ bk o, A = some ⟨bk, o, none⟩ ∧ bk < w.heap.size ∧ xs.length = n ∧ n ≤ c ∧ ∀ (j : Nat) x, xs[j]? = some x → w.cell? ⟨bk, o + j, none⟩ = some (.string x) := by
  obtain ⟨a', n', cap', ces, F', hv, h1, h2, h3, h4, h5⟩ := h
  simp only [List.cons.injEq, Value.slice.injEq, and_true] at hv
  obtain ⟨rfl, rfl, rfl⟩ := hv
  rcases h5 with ⟨h0, _⟩ | ⟨ad, rfl, rfl, hb, hc⟩
  · omega
  have hce := strs_cells' h4
  subst hce
  have hcell : ∀ (j : Nat) x, xs[j]? = some x → w.cell? (ad.add j) = some (.string x) := fun j x hx => hc j _ (by rw [List.getElem?_map, hx]; rfl)
  obtain ⟨bk, o, sp⟩ := ad
  have hsp : sp = none := by
    have h0 := hcell 0 xs[0] (List.getElem?_eq_getElem (by omega))
    unfold Addr.add World.cell? at h0
    simp only [if_true] at h0
    cases sp with
    | none => rfl
    | some s =>
      exfalso
      split at h0
      · simp at h0
      · cases h0
  subst hsp
  refine ⟨bk, o, rfl, hb, h1, h2, fun j x hx => ?_⟩
  have k := hcell j x hx
  rw [Addr.add_lit] at k
  exact k
end
/-- strings.Join. -/
theorem join_w (w : World) (F : List Nat) (A : Option Addr) (c : Nat) (xs : List ByteArray) (sep : ByteArray) (hx : SliceHas Rep.str w F [.slice A xs.length c] xs) (hN : xs.length ≤ 1000000) (hl : (bJoin xs sep).size ≤ 1000000000) :
    Calls Tryd.prog 50 #[.slice A xs.length c, .string sep] w fun e w' => e = .returned (.string (bJoin xs sep)) ∧ Mod [] w w' := by
  rcases Nat.eq_zero_or_pos xs.length with h0 | hp
  · have hxs := List.length_eq_zero_iff.1 h0
    subst hxs
    exact (kit_Join_none A c sep w).mono fun e w' ⟨h1, h2⟩ => ⟨h1, h2 ▸ Mod.refl _ _⟩
  · obtain ⟨bk, o, rfl, hb, _, hc, hcell⟩ := strs_at hx hp
    refine (kit_Join bk o c xs sep w hcell hb (by omega) hc (by rw [bJoin, bOf_size] at hl; omega)).mono fun e w' ⟨h1, h2⟩ => ⟨h1, h2.os, h2.tape, h2.output, h2.size, fun g hg _ => h2.block g hg⟩
/-- The table that strconv.Itoa reads. -/
def TabOk (w : World) : Prop := Lib.TabIs Tryd.prog w "internal/strconv.uint64pow10" .u64 Lib.pow10Tab
theorem itoa_small (w : World) (n : Int) (h0 : 0 ≤ n) (h1 : n < 100) :
    Calls Tryd.prog 53 #[.int .i64 n] w fun e w' => e = .returned (.string (numT n)) ∧ Mod [] w w' := by
  obtain ⟨k, rfl⟩ : ∃ k : Nat, n = k := ⟨n.toNat, by omega⟩
  refine (kit_Itoa_small k (by omega) w).mono fun e w' ⟨h2, h3⟩ => ⟨?_, h3 ▸ Mod.refl _ _⟩
  rw [h2]
  unfold numT Lib.itoa
  rw [if_pos (by simp only [inB, Bool.and_eq_true, decide_eq_true_eq]; omega), if_neg (by omega)]
  rfl
theorem itoa_w (w : World) (n : Int) (ht : TabOk w) (hn : inB n (-100000) 100000 = true) :
    Calls Tryd.prog 53 #[.int .i64 n] w fun e w' => e = .returned (.string (numT n)) ∧ Mod [] w w' := by
  have h := hn
  simp only [inB, Bool.and_eq_true, decide_eq_true_eq] at h
  refine (kit_Itoa n (by omega) (by omega) w ht).mono fun e w' ⟨h2, k, os, h3⟩ => ⟨?_, ?_⟩
  · rw [h2]
    unfold numT
    rw [if_pos hn]
    rfl
  · subst h3
    refine ⟨rfl, rfl, rfl, ?_, fun g hg _ => ?_⟩
    · show w.heap.size ≤ (w.heap ++ os).size
      rw [Array.size_append]
      omega
    · show (w.heap ++ os)[g]? = w.heap[g]?
      exact Array.getElem?_append_left hg
end Go.Proofs.YteafnieapifnnaaDoor
