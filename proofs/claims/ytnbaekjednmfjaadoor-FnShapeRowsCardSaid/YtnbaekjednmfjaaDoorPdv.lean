/- PaddedValid: the reference's contract. -/
import Derived.Test.YtnbaekjednmfjaaDoorCat
section
namespace Go.Proofs.YtnbaekjednmfjaaDoor
open Go.RowKit

theorem rng_succ {f : Nat → Bool} {k : Nat} (h0 : (List.range k).all f = true) (h1 : f k = true) : (List.range (k + 1)).all f = true := by
  rw [List.range_succ, List.all_append, h0]
  simp [h1]
theorem rng_bad {f : Nat → Bool} {n k : Nat} (hk : k < n) (h1 : f k = false) : (List.range n).all f = false :=
  List.all_eq_false.2 ⟨k, List.mem_range.2 hk, by simp [h1]⟩
def padBad (m : Bool) (x : Int) : Bool := !inB x (-100000) 100000 || (!m && decide (x ≠ 0))
def padRow (n : Nat) (m : Bool) (r : List Int) : Bool := decide (r.length = n) && !r.any (padBad m)
def padAt (n : Nat) (rows : List (List Int)) (real : List Bool) (k : Nat) : Bool := padRow n (real.getD k true) (rows.getD k [])
def padRows (n : Nat) (rows : List (List Int)) (real : List Bool) : Bool := (List.range rows.length).all (padAt n rows real)
def paddedOk (p : PaddedD) : Bool := namesOk p.1 && (decide (p.2.1.length ≤ 256) && (decide (p.2.2.length = p.2.1.length) && padRows p.1.length p.2.1 p.2.2))
section
variable {ns : List ByteArray} {rows : List (List Int)} {real : List Bool} {k : Nat}
theorem paddedOk_r (h : padRows ns.length rows real = false) : paddedOk (ns, rows, real) = false := by unfold paddedOk; rw [h]; simp
theorem paddedOk_n (h : namesOk ns = false) : paddedOk (ns, rows, real) = false := by unfold paddedOk; rw [h]; rfl
theorem paddedOk_l (h : ¬rows.length ≤ 256) : paddedOk (ns, rows, real) = false := by unfold paddedOk; rw [decide_eq_false h]; simp
theorem paddedOk_m (h : ¬real.length = rows.length) : paddedOk (ns, rows, real) = false := by unfold paddedOk; rw [decide_eq_false h]; simp
theorem paddedOk_t (h1 : namesOk ns = true) (h2 : rows.length ≤ 256) (h3 : real.length = rows.length) (h4 : padRows ns.length rows real = true) : paddedOk (ns, rows, real) = true := by
  unfold paddedOk; rw [h1, h4, decide_eq_true h2, decide_eq_true h3]; rfl
theorem padAt_of {r : List Int} {m : Bool} (hr : rows[k]? = some r) (hm : real.getD k true = m) : padAt ns.length rows real k = padRow ns.length m r := by
  unfold padAt; rw [hm, List.getD_eq_getElem?_getD, hr]; rfl
theorem padRow_len {m : Bool} {r : List Int} (h : r.length ≠ ns.length) : padRow ns.length m r = false := by unfold padRow; rw [decide_eq_false h]; rfl
theorem padRow_any {m : Bool} {r : List Int} (h : r.any (padBad m) = true) : padRow ns.length m r = false := by unfold padRow; rw [h]; simp
theorem padRow_ok {m : Bool} {r : List Int} (h1 : r.length = ns.length) (h2 : r.any (padBad m) = false) : padRow ns.length m r = true := by unfold padRow; rw [decide_eq_true h1, h2]; rfl
end





























































































































end Go.Proofs.YtnbaekjednmfjaaDoor
end

section
namespace Go.Proofs.YtnbaekjednmfjaaDoor
open Go.RowKit

def PSmall (p : PaddedD) : Prop := p.1.length ≤ 1048576 ∧ (p.2.1.length ≤ 1048576 ∧ ∀ r ∈ p.2.1, r.length ≤ 1048576) ∧ p.2.2.length ≤ 1048576













end Go.Proofs.YtnbaekjednmfjaaDoor
end

section
namespace Go.Proofs.YtnbaekjednmfjaaDoor
open Go.RowKit

theorem inB_f {n a b : Int} (h : ¬(a ≤ n ∧ n ≤ b)) : inB n a b = false := by
  cases h2 : inB n a b
  · rfl
  · exact absurd (inB_of h2) h
theorem inB_t {n a b : Int} (h1 : a ≤ n) (h2 : n ≤ b) : inB n a b = true := by
  unfold inB; simp [h1, h2]
theorem any_or {α : Type} {p q : α → Bool} (l : List α) : l.any (fun x => p x || q x) = (l.any p || l.any q) := by
  induction l with
  | nil => rfl
  | cons x l ih => simp only [List.any_cons, ih]; cases p x <;> cases q x <;> simp
theorem all_and {α : Type} {p q : α → Bool} (l : List α) : l.all (fun x => p x && q x) = (l.all p && l.all q) := by
  induction l with
  | nil => rfl
  | cons x l ih => simp only [List.all_cons, ih]; cases p x <;> cases q x <;> simp
theorem all_range {α : Type} {p : α → Bool} (l : List α) (d : α) : (List.range l.length).all (fun k => p (l.getD k d)) = l.all p := by
  have h : l = (List.range l.length).map (fun k => l.getD k d) := by
    apply List.ext_getElem
    · simp
    · intro k h1 h2; simp [List.getD_eq_getElem?_getD, List.getElem?_eq_getElem h1]
  conv => rhs; rw [h]
  rw [List.all_map]; rfl
theorem padBad_t : padBad true = notValue := by funext x; simp [padBad, notValue]
theorem padBad_f : padBad false = fun x => notValue x || notZero x := by
  funext x
  unfold padBad notValue notZero
  by_cases h : x = 0 <;> simp [h]
theorem padRow_fit {n : Nat} {m : Bool} {r : List Int} : padRow n m r = (fitRow n r && !(!m && r.any notZero)) := by
  unfold padRow fitRow
  cases m
  · rw [padBad_f, any_or]; cases r.any notValue <;> cases r.any notZero <;> simp
  · rw [padBad_t]; simp
def zeroAt (rows : List (List Int)) (real : List Bool) (k : Nat) : Bool := !(!(real.getD k true) && (rows.getD k []).any notZero)
theorem padRows_fit {n : Nat} {rows : List (List Int)} {real : List Bool} : padRows n rows real = (rows.all (fitRow n) && (List.range rows.length).all (zeroAt rows real)) := by
  have h : padAt n rows real = fun k => fitRow n (rows.getD k []) && zeroAt rows real k := by
    funext k; unfold padAt zeroAt; exact padRow_fit
  unfold padRows
  rw [h, all_and, all_range]
section
variable {ns : List ByteArray} {rows : List (List Int)} {real : List Bool} {k : Nat}
theorem paddedOk_fit (h : rows.all (fitRow ns.length) = false) : paddedOk (ns, rows, real) = false := paddedOk_r (by rw [padRows_fit, h]; rfl)
theorem paddedOk_zero (h1 : (List.range rows.length).all (zeroAt rows real) = false) : paddedOk (ns, rows, real) = false := paddedOk_r (by rw [padRows_fit, h1]; simp)
theorem paddedOk_all (h1 : namesOk ns = true) (h2 : rows.length ≤ 256) (h3 : real.length = rows.length) (h4 : rows.all (fitRow ns.length) = true) (h5 : (List.range rows.length).all (zeroAt rows real) = true) : paddedOk (ns, rows, real) = true := paddedOk_t h1 h2 h3 (by rw [padRows_fit, h4, h5]; rfl)
theorem zeroAt_of {r : List Int} {m : Bool} (hr : rows[k]? = some r) (hm : real[k]? = some m) : zeroAt rows real k = !(!m && r.any notZero) := by
  unfold zeroAt; rw [List.getD_eq_getElem?_getD, List.getD_eq_getElem?_getD, hr, hm]; rfl
end




















































































end Go.Proofs.YtnbaekjednmfjaaDoor
end
