/- Sorted padded tables: their rows by places (plain laws). -/
import Derived.Test.YtldknaajnnohiaaDoorSPl
import Derived.Test.YtldknaajnnohiaaDoorPdB
namespace Go.Proofs.YtldknaajnnohiaaDoor
open Go.RowKit

/-- What the row condition of PaddedValid says of one row. -/
def rowOkZ (n : Nat) (a : RowB) : Bool := padRow n a.2 a.1
theorem paddedOk_all4 {ns : List ByteArray} {rows : List (List Int)} {real : List Bool} (h : paddedOk (ns, rows, real) = true) : namesOk ns = true ∧ rows.length ≤ 256 ∧ real.length = rows.length ∧ ∀ (i : Nat) (hi : i < rows.length) (hj : i < real.length), padRow ns.length real[i] rows[i] = true := by
  unfold paddedOk at h
  simp only [Bool.and_eq_true, decide_eq_true_eq] at h
  refine ⟨h.1, h.2.1, h.2.2.1, fun i hi hj => ?_⟩
  have h3 := h.2.2.2
  unfold padRows at h3
  rw [List.all_eq_true] at h3
  have h4 := h3 i (List.mem_range.2 hi)
  unfold padAt at h4
  rw [List.getD_eq_getElem?_getD, List.getD_eq_getElem?_getD, List.getElem?_eq_getElem hi, List.getElem?_eq_getElem hj] at h4
  exact h4
theorem padded_zip {ns : List ByteArray} {rows : List (List Int)} {real : List Bool} (h : paddedOk (ns, rows, real) = true) : ∀ a ∈ rows.zip real, rowOkZ ns.length a = true := by
  intro a ha
  obtain ⟨i, hi, rfl⟩ := List.mem_iff_getElem.1 ha
  obtain ⟨_, _, h3, h4⟩ := paddedOk_all4 h
  rw [List.length_zip] at hi
  rw [List.getElem_zip]
  exact h4 i (by omega) (by omega)
theorem padded_of_zip {ns : List ByteArray} {Z : List RowB} (h1 : namesOk ns = true) (h2 : Z.length ≤ 256) (h : ∀ a ∈ Z, rowOkZ ns.length a = true) : paddedOk (ns, Z.map Prod.fst, Z.map Prod.snd) = true := by
  refine paddedOk_t h1 (by rw [List.length_map]; exact h2) (by rw [List.length_map, List.length_map]) ?_
  unfold padRows
  rw [List.all_eq_true]
  intro k hk
  rw [List.mem_range, List.length_map] at hk
  unfold padAt
  rw [List.getD_eq_getElem?_getD, List.getD_eq_getElem?_getD, List.getElem?_eq_getElem (by rw [List.length_map]; exact hk), List.getElem?_eq_getElem (by rw [List.length_map]; exact hk), List.getElem_map, List.getElem_map]
  exact h _ (List.getElem_mem hk)
theorem rowOkZ_zero {n : Nat} {r : List Int} (h : rowOkZ n (r, false) = true) : r = List.replicate n 0 := by
  unfold rowOkZ padRow at h
  simp only [Bool.and_eq_true, decide_eq_true_eq, Bool.not_eq_true', List.any_eq_false] at h
  rw [List.eq_replicate_iff]
  refine ⟨h.1, fun x hx => ?_⟩
  have h2 := h.2 x hx
  unfold padBad at h2
  simp only [Bool.or_eq_true, Bool.and_eq_true, Bool.not_eq_true', decide_eq_true_eq, not_or] at h2
  simpa using h2.2
theorem rowOkZ_len {n : Nat} {a : RowB} (h : rowOkZ n a = true) : a.1.length = n := by
  unfold rowOkZ padRow at h
  simp only [Bool.and_eq_true, decide_eq_true_eq] at h
  exact h.1
/-- A padded table, sorted. -/
def sortP (c : Int) (down : Bool) (p : PaddedD) : PaddedD := (p.1, (sortZ c down (p.2.1.zip p.2.2)).map Prod.fst, (sortZ c down (p.2.1.zip p.2.2)).map Prod.snd)
theorem sortP_ok {c : Int} {down : Bool} {p : PaddedD} (h : paddedOk p = true) : paddedOk (sortP c down p) = true := by
  obtain ⟨ns, rows, real⟩ := p
  obtain ⟨h1, h2, h3, _⟩ := paddedOk_all4 h
  refine padded_of_zip h1 (by rw [sortZ_len, List.length_zip]; dsimp only; omega) (fun a ha => padded_zip h a (sortZ_perm.mem_iff.1 ha))
theorem zip_parts {Z : List RowB} : (Z.map Prod.fst).zip (Z.map Prod.snd) = Z := by
  induction Z with
  | nil => rfl
  | cons a Z ih => simp only [List.map_cons, List.zip_cons_cons, ih]
theorem sortP_again {c : Int} {down : Bool} {p : PaddedD} : sortP c down (sortP c down p) = sortP c down p := by
  unfold sortP
  dsimp only
  rw [zip_parts]
  have e : sortZ c down (sortZ c down (p.2.1.zip p.2.2)) = sortZ c down (p.2.1.zip p.2.2) := (sortZ_eq (List.Perm.refl _) sortZ_sorted).symm
  rw [e]

/-! ### Places -/
def zAt (rows : List (List Int)) (real : List Bool) (x : Int) : RowB := (rows.zip real).getD x.toNat ([], false)
theorem zAt_get {rows : List (List Int)} {real : List Bool} {i : Nat} (h : i < rows.length) (h' : i < real.length) : zAt rows real (i : Int) = (rows[i], real[i]) := by
  unfold zAt
  rw [Int.toNat_natCast, List.getD_eq_getElem?_getD, List.getElem?_eq_getElem (by rw [List.length_zip]; omega), List.getElem_zip]; rfl
def iota (n : Nat) : List Int := (List.range n).map (fun i : Nat => (i : Int))
theorem iota_len {n : Nat} : (iota n).length = n := by unfold iota; rw [List.length_map, List.length_range]
theorem iota_mem {n : Nat} {x : Int} (h : x ∈ iota n) : ∃ i : Nat, x = (i : Int) ∧ i < n := by
  obtain ⟨i, hi, rfl⟩ := List.mem_map.1 h
  exact ⟨i, rfl, List.mem_range.1 hi⟩
def fillI (k n : Nat) : List Int := iota k ++ List.replicate (n - k) 0
theorem fillI_zero (n : Nat) : fillI 0 n = List.replicate n 0 := by unfold fillI iota; simp
theorem fillI_end (n : Nat) : fillI n n = iota n := by unfold fillI; simp
theorem fillI_len {k n : Nat} (h : k ≤ n) : (fillI k n).length = n := by unfold fillI; rw [List.length_append, iota_len, List.length_replicate]; omega
theorem fillI_set {k n : Nat} (h : k < n) : (fillI k n).set k (k : Int) = fillI (k + 1) n := by
  unfold fillI
  have e : n - k = (n - (k + 1)) + 1 := by omega
  rw [e, List.replicate_succ, List.set_append_right _ _ (by rw [iota_len]; omega), iota_len, Nat.sub_self, List.set_cons_zero]
  have e2 : iota (k + 1) = iota k ++ [(k : Int)] := by unfold iota; rw [List.range_succ, List.map_append]; rfl
  rw [e2, List.append_assoc]; rfl
/-- Whether place x stands before place y. -/
def ltI (c : Int) (down : Bool) (rows : List (List Int)) (real : List Bool) (x y : Int) : Bool := ltR c down (zAt rows real x) (zAt rows real y)
theorem sortP_places {c : Int} {down : Bool} {ns : List ByteArray} {rows : List (List Int)} {real : List Bool} {Y : List Int} (hl : real.length = rows.length) (hp : Y.Perm (iota rows.length)) (hs : Y.Pairwise (fun x y => ltI c down rows real y x = false)) :
    (ns, Y.map (fun x => (zAt rows real x).1), Y.map (fun x => (zAt rows real x).2)) = sortP c down (ns, rows, real) := by
  have hZ : (rows.zip real).length = rows.length := by rw [List.length_zip]; omega
  have h := sortZ_places (c := c) (down := down) (Z := rows.zip real) (Y := Y.map Int.toNat) ([], false) (by
    rw [hZ]
    have h1 := hp.map Int.toNat
    have e : (iota rows.length).map Int.toNat = List.range rows.length := by
      unfold iota; rw [List.map_map]
      have : (Int.toNat ∘ fun i : Nat => (i : Int)) = id := by funext i; simp
      rw [this, List.map_id]
    rw [e] at h1; exact h1) (by rw [List.pairwise_map]; exact hs)
  rw [List.map_map] at h
  have e1 : Y.map (fun x => (zAt rows real x).1) = (sortZ c down (rows.zip real)).map Prod.fst := by rw [← h, List.map_map]; rfl
  have e2 : Y.map (fun x => (zAt rows real x).2) = (sortZ c down (rows.zip real)).map Prod.snd := by rw [← h, List.map_map]; rfl
  unfold sortP
  rw [e1, e2]
end Go.Proofs.YtldknaajnnohiaaDoor
