/- MemoryValid: plain laws. No function of the program occurs here. -/
import Derived.Test.YtnlhiamjndifoaaDoorSatT
import Derived.Test.YtnlhiamjndifoaaDoorMem
import Derived.Test.YtnlhiamjndifoaaDoorSTp
namespace Go.Proofs.YtnlhiamjndifoaaDoor
open Go.RowKit

def pathF' (leaf : Int) : List Int := [0, 1 + leaf / 2, 3 + leaf]
def onB (k leaf : Int) : Bool := inB leaf 0 3 && (pathF' leaf).contains k
def memAll (m : MemoryD) : List BlockD := m.2 ++ m.1.flatten
def blockOk (b : BlockD) : Bool := inB b.1 0 7 && inB b.2.1 (-100000) 100000 && inB b.2.2 0 3
def bucketOk (k : Nat) (bs : List BlockD) : Bool := decide (bs.length ≤ 2) && bs.all fun b => onB k b.2.2
def bucketsTo (m : MemoryD) (k : Nat) : Bool := (List.range k).all fun j => bucketOk j (m.1.getD j [])
def addrs (l : List BlockD) : List Int := l.map (·.1)
def memOk (m : MemoryD) : Bool := decide (m.1.length = 7) && bucketsTo m m.1.length && (memAll m).all blockOk && decide (addrs (memAll m)).Nodup && decide ((memAll m).length = 8)
def R8 : List Int := [0, 1, 2, 3, 4, 5, 6, 7]
section
variable {l : List Int}
theorem mem_R8 {x : Int} : x ∈ R8 ↔ 0 ≤ x ∧ x ≤ 7 := by
  simp only [R8, List.mem_cons, List.not_mem_nil, or_false]; omega
theorem counts_iff (hb : ∀ x ∈ l, 0 ≤ x ∧ x ≤ 7) : (∀ a : Nat, a < 8 → l.count (a : Int) = 1) ↔ l.Nodup ∧ l.length = 8 := by
  have hsub : l ⊆ R8 := fun x hx => mem_R8.2 (hb x hx)
  constructor
  · intro h
    have hnd : l.Nodup := List.nodup_iff_count.2 fun a => by
      by_cases ha : a ∈ l
      · obtain ⟨h0, h7⟩ := hb a ha
        have := h a.toNat (by omega)
        rw [show ((a.toNat : Nat) : Int) = a by omega] at this
        omega
      · rw [List.count_eq_zero.2 ha]; omega
    have h1 := hnd.length_le_of_subset hsub
    have h2 := (show R8.Nodup by decide).length_le_of_subset (l₂ := l) (fun x hx => by
      obtain ⟨h0, h7⟩ := mem_R8.1 hx
      have := h x.toNat (by omega)
      rw [show ((x.toNat : Nat) : Int) = x by omega] at this
      exact List.count_pos_iff.1 (by omega))
    have e : R8.length = 8 := rfl
    exact ⟨hnd, by omega⟩
  · rintro ⟨hnd, hl⟩ a ha
    have h1 := List.nodup_iff_count.1 hnd (a : Int)
    by_cases hm : (a : Int) ∈ l
    · have := List.count_pos_iff.2 hm; omega
    · have h2 := hnd.length_le_of_subset (l₂ := R8.erase (a : Int)) (fun x hx => by
        refine (List.mem_erase_of_ne ?_).2 (hsub hx)
        rintro rfl; exact hm hx)
      rw [List.length_erase_of_mem (mem_R8.2 (by omega))] at h2
      have e : R8.length = 8 := rfl
      omega
end
section
variable {m : MemoryD} {k : Nat}
theorem bucketsTo_succ : bucketsTo m (k + 1) = (bucketsTo m k && bucketOk k (m.1.getD k [])) := by
  unfold bucketsTo
  rw [List.range_succ, List.all_append]
  simp
theorem bucketsTo_mono {n : Nat} (h : bucketsTo m n = true) (hk : k < n) : bucketOk k (m.1.getD k []) = true := by
  unfold bucketsTo at h
  exact List.all_eq_true.1 h k (by simpa using hk)
theorem memOk_bucket (hk : k < m.1.length) (h : bucketOk k m.1[k] = false) : memOk m = false := by
  unfold memOk
  cases hb : bucketsTo m m.1.length
  · simp
  · have := bucketsTo_mono hb hk
    rw [show m.1.getD k [] = m.1[k] by simp [List.getD_eq_getElem?_getD, hk]] at this
    rw [this] at h; simp at h
theorem memOk_block {b : BlockD} (hk : (memAll m)[k]? = some b) (h : blockOk b = false) : memOk m = false := by
  unfold memOk
  have : (memAll m).all blockOk = false := by
    rw [List.all_eq_false]
    exact ⟨b, List.mem_of_getElem? hk, by simp [h]⟩
  rw [this]; simp
theorem memOk_len (h : m.1.length ≠ 7) : memOk m = false := by unfold memOk; simp [h]
theorem memOk_dup {b : BlockD} (hk : (memAll m)[k]? = some b) (h : ((addrs (memAll m)).take k).contains b.1 = true) : memOk m = false := by
  unfold memOk
  have : decide (addrs (memAll m)).Nodup = false := decide_eq_false (not_nodup (k := k) (by simp [addrs, List.getElem?_map, hk]) h)
  rw [this]; simp
theorem memOk_count (hb : (memAll m).all blockOk = true) (a : Nat) (ha : a < 8) (h : (addrs (memAll m)).count (a : Int) ≠ 1) : memOk m = false := by
  unfold memOk
  have hbd : ∀ x ∈ addrs (memAll m), 0 ≤ x ∧ x ≤ 7 := by
    intro x hx
    obtain ⟨b, hb2, rfl⟩ := List.mem_map.1 hx
    have := List.all_eq_true.1 hb b hb2
    unfold blockOk at this
    simp only [Bool.and_eq_true] at this
    exact inB_of this.1.1
  have hn : ¬ ((addrs (memAll m)).Nodup ∧ (addrs (memAll m)).length = 8) := fun hh => h ((counts_iff hbd).2 hh a ha)
  by_cases h1 : (addrs (memAll m)).Nodup
  · have : ¬ (memAll m).length = 8 := by rw [← show (addrs (memAll m)).length = (memAll m).length by simp [addrs]]; exact fun e => hn ⟨h1, e⟩
    simp [this]
  · simp [h1]
theorem memOk_end (hbk : bucketsTo m m.1.length = true) (hb : (memAll m).all blockOk = true) (h : ∀ a : Nat, a < 8 → (addrs (memAll m)).count (a : Int) = 1) : memOk m = decide (m.1.length = 7) := by
  unfold memOk
  have hbd : ∀ x ∈ addrs (memAll m), 0 ≤ x ∧ x ≤ 7 := by
    intro x hx
    obtain ⟨b, hb2, rfl⟩ := List.mem_map.1 hx
    have := List.all_eq_true.1 hb b hb2
    unfold blockOk at this
    simp only [Bool.and_eq_true] at this
    exact inB_of this.1.1
  obtain ⟨h1, h2⟩ := (counts_iff hbd).1 h
  have h3 : (memAll m).length = 8 := by simpa [addrs] using h2
  simp [hbk, hb, h1, h3]
theorem memOk_endI (hl : m.1.length = 7) (hbk : bucketsTo m m.1.length = true) (hb : (memAll m).all blockOk = true) (hn : (addrs (memAll m)).Nodup) : memOk m = decide ((memAll m).length = 8) := by
  unfold memOk
  rw [decide_eq_true hl, hbk, hb, decide_eq_true hn]
  simp only [Bool.true_and]
/-- Blocks in order: the stash, then the buckets up to k. -/
def allTo (m : MemoryD) (k : Nat) : List BlockD := m.2 ++ (m.1.take k).flatten
theorem allTo_zero : allTo m 0 = m.2 := by simp [allTo]
theorem allTo_succ (hk : k < m.1.length) : allTo m (k + 1) = allTo m k ++ m.1[k] := by
  unfold allTo
  rw [List.take_succ_eq_append_getElem hk, List.flatten_append, ← List.append_assoc]
  simp only [List.flatten_cons, List.flatten_nil, List.append_nil]
theorem allTo_end (hk : m.1.length ≤ k) : allTo m k = memAll m := by unfold allTo memAll; rw [List.take_of_length_le hk]
theorem allTo_le : (allTo m k).length ≤ (memAll m).length := by
  have : m.1.flatten = (m.1.take k).flatten ++ (m.1.drop k).flatten := by rw [← List.flatten_append, List.take_append_drop]
  unfold allTo memAll
  rw [this]
  simp only [List.length_append]
  omega
end
/-- How often each address occurs among the first k blocks. -/
def seenTo (l : List BlockD) (k : Nat) : List Int := (List.range 8).map fun (a : Nat) => (((addrs l).take k).count (a : Int) : Int)
theorem seenTo_zero (l : List BlockD) : seenTo l 0 = List.replicate 8 0 := by simp only [seenTo, List.take_zero, List.count_nil]; rfl
theorem seenTo_get {l : List BlockD} {k a : Nat} (ha : a < 8) : (seenTo l k)[a]? = some ((((addrs l).take k).count (a : Int) : Nat) : Int) := by
  simp [seenTo, List.getElem?_map, ha]
theorem seenTo_succ {l : List BlockD} {k a : Nat} {b : BlockD} (hb : l[k]? = some b) (e : b.1 = (a : Int)) (ha : a < 8) : seenTo l (k + 1) = (seenTo l k).set a ((((addrs l).take k).count (a : Int) : Nat) + 1) := by
  have hx : (addrs l)[k]? = some (a : Int) := by simp [addrs, List.getElem?_map, hb, e]
  apply List.ext_getElem?
  intro j
  by_cases hj : j < 8
  · rw [seenTo_get hj, take_snoc hx, List.count_append]
    by_cases hja : j = a
    · subst hja
      rw [List.getElem?_set_self (by simp [seenTo, hj])]
      simp
    · rw [List.getElem?_set_ne (Ne.symm hja), seenTo_get hj]
      have : List.count (j : Int) [(a : Int)] = 0 := by rw [List.count_eq_zero]; simp; omega
      simp [this]
  · rw [List.getElem?_eq_none (by simp [seenTo]; omega), List.getElem?_eq_none (by simp [seenTo]; omega)]
theorem addrs_len (l : List BlockD) : (addrs l).length = l.length := by simp [addrs]
end Go.Proofs.YtnlhiamjndifoaaDoor
