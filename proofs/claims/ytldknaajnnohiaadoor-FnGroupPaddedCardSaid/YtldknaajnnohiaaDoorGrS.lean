/- Sorted padded tables: real rows stand first (plain laws). -/
import Derived.Test.YtldknaajnnohiaaDoorSPl
import Derived.Test.YtldknaajnnohiaaDoorCutI
import Derived.Test.YtldknaajnnohiaaDoorSrL
import Derived.Test.YtldknaajnnohiaaDoorPass
import Derived.Test.YtldknaajnnohiaaDoorSho
section
namespace Go.Proofs.YtldknaajnnohiaaDoor
open Go.RowKit

theorem bools_front : ∀ {l : List Bool}, l.Pairwise (fun a b => ¬(a = false ∧ b = true)) → l = List.replicate (l.countP id) true ++ List.replicate (l.length - l.countP id) false
  | [], _ => rfl
  | true :: l, h => by
    have ih := bools_front (List.pairwise_cons.1 h).2
    have hc : (true :: l).countP id = l.countP id + 1 := by rw [List.countP_cons]; rfl
    rw [hc, List.length_cons, Nat.add_sub_add_right, List.replicate_succ, List.cons_append, ← ih]
  | false :: l, h => by
    have h1 := (List.pairwise_cons.1 h).1
    have h2 : ∀ b ∈ l, b = false := fun b hb => by
      cases b
      · rfl
      · exact absurd ⟨rfl, rfl⟩ (h1 true hb)
    have hc0 : l.countP id = 0 := List.countP_eq_zero.2 (fun b hb => by rw [h2 b hb]; simp)
    have hc : (false :: l).countP id = 0 := by rw [List.countP_cons, hc0]; rfl
    have hl : l = List.replicate l.length false := List.eq_replicate_iff.2 ⟨rfl, h2⟩
    rw [hc, List.length_cons, Nat.sub_zero, List.replicate_zero, List.nil_append, List.replicate_succ, ← hl]
theorem sortP_front {c : Int} {down : Bool} {p : PaddedD} : (sortP c down p).2.2 = List.replicate ((sortP c down p).2.2.countP id) true ++ List.replicate ((sortP c down p).2.2.length - (sortP c down p).2.2.countP id) false := by
  refine bools_front ?_
  unfold sortP
  dsimp only
  rw [List.pairwise_map]
  refine (sortZ_sorted (c := c) (down := down)).imp ?_
  rintro ⟨a, ra⟩ ⟨b, rb⟩ h ⟨h1, h2⟩
  dsimp only at h1 h2
  subst h1 h2
  have h3 := ltR_real (c := c) (down := down) (a := (b, true)) (b := (a, false)) (by simp)
  rw [h] at h3
  cases h3
end Go.Proofs.YtldknaajnnohiaaDoor
end

section
namespace Go.Proofs.YtldknaajnnohiaaDoor
open Go.RowKit

/-- How many rows are real; -1 for a table that is none. -/
def realF (p : PaddedD) : Int := if paddedOk p then ((p.2.2.countP id : Nat) : Int) else -1
/-! ### Sorted again, cut -/
theorem sortF_ok {p : PaddedD} {col : ByteArray} {down : Bool} {q : PaddedD} {tr : List AccessD} (h : sortF p col down = (q, tr, true)) : paddedOk p = true ∧ q = sortP (colOf p.1 col) down p ∧ paddedOk q = true ∧ q.1 = p.1 ∧ sortOk p col = true := by
  cases hs : sortOk p col
  · rw [sortF_f hs] at h; cases h
  · rw [sortF_t hs] at h
    have hp : paddedOk p = true := by
      unfold sortOk at hs
      simp only [Bool.and_eq_true] at hs
      exact hs.1
    have hq : q = sortP (colOf p.1 col) down p := by cases h; rfl
    exact ⟨hp, hq, by rw [hq]; exact sortP_ok hp, by rw [hq]; rfl, rfl⟩
end Go.Proofs.YtldknaajnnohiaaDoor
end

section
namespace Go.Proofs.YtldknaajnnohiaaDoor
open Go.RowKit

section
variable (rows : List (List Int)) (real : List Bool) (kk vv : Nat)
def gCell (i c : Nat) : Int := (rows.getD i []).getD c 0
/-- The last row of its group. -/
def gLast (i : Nat) : Bool := real.getD i false && !(decide (i + 1 < rows.length) && (real.getD (i + 1) false && decide (gCell rows (i + 1) kk = gCell rows i kk)))
/-- How many rows of the group stand ahead of row i, and their sum. -/
def gSt : Nat → Int × Int
  | 0 => (0, 0)
  | i + 1 => if real.getD i false then (if gLast rows real kk i then (0, 0) else ((gSt i).1 + 1, (gSt i).2 + gCell rows i vv)) else gSt i
def gRow (i : Nat) : List Int := if gLast rows real kk i then [gCell rows i kk, (gSt rows real kk vv i).1 + 1, (gSt rows real kk vv i).2 + gCell rows i vv] else List.replicate 3 0
def gBad (i : Nat) : Bool := gLast rows real kk i && !inB ((gSt rows real kk vv i).2 + gCell rows i vv) (-100000) 100000
def gRows (n : Nat) : List (List Int) := (List.range n).map (gRow rows real kk vv)
def gMarks (n : Nat) : List Bool := (List.range n).map (gLast rows real kk)
def gOk : Bool := !(List.range rows.length).any (gBad rows real kk vv)
end
section
variable {rows : List (List Int)} {real : List Bool} {kk vv : Nat} {i k : Nat}
theorem gRows_succ : gRows rows real kk vv k ++ [gRow rows real kk vv k] = gRows rows real kk vv (k + 1) := by unfold gRows; rw [List.range_succ, List.map_append]; rfl
theorem gMarks_succ : gMarks rows real kk k ++ [gLast rows real kk k] = gMarks rows real kk (k + 1) := by unfold gMarks; rw [List.range_succ, List.map_append]; rfl
theorem gRow_f (h : gLast rows real kk k = false) : gRow rows real kk vv k = List.replicate 3 0 := by unfold gRow; rw [h]; rfl
theorem gRow_t {x y z : Int} (h : gLast rows real kk k = true) (hs : gSt rows real kk vv k = (x, y)) (hz : gCell rows k kk = z) : gRow rows real kk vv k = [z, x + 1, y + gCell rows k vv] := by unfold gRow; rw [h, hs, hz]; rfl
theorem gSt_n {x y : Int} (h : real.getD k false = false) (hs : gSt rows real kk vv k = (x, y)) : gSt rows real kk vv (k + 1) = (x, y) := by rw [gSt, h, hs]; rfl
theorem gSt_l {x y : Int} (h : gLast rows real kk k = true) : gSt rows real kk vv (k + 1) = (0, 0) := by
  have hr : real.getD k false = true := by unfold gLast at h; simp only [Bool.and_eq_true] at h; exact h.1
  rw [gSt, hr, h]; rfl
theorem gSt_s {x y : Int} (hr : real.getD k false = true) (h : gLast rows real kk k = false) (hs : gSt rows real kk vv k = (x, y)) : gSt rows real kk vv (k + 1) = (x + 1, y + gCell rows k vv) := by
  rw [gSt, hr, h, hs]; rfl
theorem gSt_bd (hv : ∀ i, -100000 ≤ gCell rows i vv ∧ gCell rows i vv ≤ 100000) : ∀ k, 0 ≤ (gSt rows real kk vv k).1 ∧ (gSt rows real kk vv k).1 ≤ k ∧ -(100000 * (k : Int)) ≤ (gSt rows real kk vv k).2 ∧ (gSt rows real kk vv k).2 ≤ 100000 * (k : Int) := by
  intro k
  induction k with
  | zero => simp [gSt]
  | succ k ih =>
    have := hv k
    rw [gSt]
    split
    · split
      · simp; omega
      · dsimp only; omega
    · omega
theorem gOk_f (hk : k < rows.length) (h : gBad rows real kk vv k = true) : gOk rows real kk vv = false := by
  unfold gOk
  rw [List.any_eq_true.2 ⟨k, List.mem_range.2 hk, h⟩]; rfl
end
def bCount : ByteArray := ⟨#[99, 111, 117, 110, 116]⟩
def bTotal : ByteArray := ⟨#[116, 111, 116, 97, 108]⟩
def gNames (g : ByteArray) : List ByteArray := [g, bCount, bTotal]
def gNam (ns : List ByteArray) (g s : ByteArray) : Bool := hasS ns g && (hasS ns s && (!eqB g bCount && !eqB g bTotal))
def gKey (p : PaddedD) (g : ByteArray) : Nat := (colOf p.1 g).toNat
def gSort (p : PaddedD) (g : ByteArray) : PaddedD := sortP (colOf p.1 g) false p
def gOut (p : PaddedD) (g s : ByteArray) : PaddedD := (gNames g, gRows (gSort p g).2.1 (gSort p g).2.2 (gKey p g) (gKey p s) p.2.1.length, gMarks (gSort p g).2.1 (gSort p g).2.2 (gKey p g) p.2.1.length)
/-- What GroupPadded returns. -/
def groupF (p : PaddedD) (g s : ByteArray) : PaddedD × List AccessD × Bool :=
  if paddedOk p && (gNam p.1 g s && gOk (gSort p g).2.1 (gSort p g).2.2 (gKey p g) (gKey p s)) then (gOut p g s, pairF (netF p.2.1.length) ++ passF p.2.1.length, true) else (zeroP, [], false)
section
variable {p : PaddedD} {g s : ByteArray}
theorem groupF_p (h : paddedOk p = false) : groupF p g s = (zeroP, [], false) := by unfold groupF; rw [h]; rfl
theorem groupF_n (h : gNam p.1 g s = false) : groupF p g s = (zeroP, [], false) := by unfold groupF; rw [h]; simp
theorem groupF_o (h : gOk (gSort p g).2.1 (gSort p g).2.2 (gKey p g) (gKey p s) = false) : groupF p g s = (zeroP, [], false) := by unfold groupF; rw [h]; simp
theorem groupF_t (h1 : paddedOk p = true) (h2 : gNam p.1 g s = true) (h3 : gOk (gSort p g).2.1 (gSort p g).2.2 (gKey p g) (gKey p s) = true) : groupF p g s = (gOut p g s, pairF (netF p.2.1.length) ++ passF p.2.1.length, true) := by unfold groupF; rw [h1, h2, h3]; rfl
end
theorem small5 : nameOk bCount = true := by decide +kernel
theorem small6 : nameOk bTotal = true := by decide +kernel
/-! ### Rows that are valid -/
theorem all_same {α : Type} {f g : α → Bool} : ∀ {l : List α}, (∀ x ∈ l, f x = g x) → l.all f = l.all g
  | [], _ => rfl
  | x :: l, h => by rw [List.all_cons, List.all_cons, h x (by simp), all_same (fun y hy => h y (by simp [hy]))]
section
variable {ns : List ByteArray} {rows : List (List Int)} {real : List Bool} {kk vv : Nat}
theorem padRow_cells {n : Nat} {m : Bool} {r : List Int} (h : padRow n m r = true) (c : Nat) : -100000 ≤ r.getD c 0 ∧ r.getD c 0 ≤ 100000 := by
  unfold padRow at h
  simp only [Bool.and_eq_true, decide_eq_true_eq, Bool.not_eq_true', List.any_eq_false] at h
  rw [List.getD_eq_getElem?_getD]
  by_cases hc : c < r.length
  · rw [List.getElem?_eq_getElem hc]
    have h2 := h.2 _ (List.getElem_mem hc)
    unfold padBad at h2
    simp only [Bool.or_eq_true, Bool.not_eq_true', not_or] at h2
    have h3 := h2.1
    simp only [Bool.not_eq_false] at h3
    exact inB_of h3
  · rw [List.getElem?_eq_none (by omega)]
    show -100000 ≤ (0 : Int) ∧ (0 : Int) ≤ 100000
    omega
theorem gCell_bd (h : paddedOk (ns, rows, real) = true) (i c : Nat) : -100000 ≤ gCell rows i c ∧ gCell rows i c ≤ 100000 := by
  obtain ⟨-, -, h3, h4⟩ := paddedOk_all4 h
  unfold gCell
  by_cases hi : i < rows.length
  · rw [show rows.getD i [] = rows[i] by rw [List.getD_eq_getElem?_getD, List.getElem?_eq_getElem hi]; rfl]
    exact padRow_cells (h4 i hi (by omega)) c
  · rw [show rows.getD i [] = [] by rw [List.getD_eq_getElem?_getD, List.getElem?_eq_none (by omega)]; rfl]
    show -100000 ≤ (0 : Int) ∧ (0 : Int) ≤ 100000
    omega
theorem gRow_pad (h : paddedOk (ns, rows, real) = true) {k : Nat} (hk : k < 256) : padRow 3 (gLast rows real kk k) (gRow rows real kk vv k) = !gBad rows real kk vv k := by
  obtain ⟨b1, b2, b3, b4⟩ := gSt_bd (rows := rows) (real := real) (kk := kk) (vv := vv) (fun i => gCell_bd h i vv) k
  obtain ⟨c1, c2⟩ := gCell_bd h k kk
  unfold gRow gBad
  cases hl : gLast rows real kk k
  · rfl
  · simp only [if_true, Bool.true_and, Bool.not_not]
    unfold padRow padBad
    simp only [List.length_cons, List.length_nil, List.any_cons, List.any_nil, Bool.not_true, Bool.false_and, Bool.or_false]
    rw [inB_true (n := gCell rows k kk) ⟨c1, c2⟩, inB_true (n := (gSt rows real kk vv k).1 + 1) ⟨by omega, by omega⟩]
    simp
theorem gNames_ok {g : ByteArray} (hg : nameOk g = true) : namesOk (gNames g) = (!eqB g bCount && !eqB g bTotal) := by
  unfold namesOk gNames
  have h1 : [g, bCount, bTotal].all nameOk = true := by simp [hg, small5, small6]
  have h2 : inB (([g, bCount, bTotal] : List ByteArray).length : Int) 1 6 = true := inB_true (by simp)
  rw [h1, h2]
  have h3 : bCount ≠ bTotal := by decide
  by_cases e1 : g = bCount
  · rw [eqB_t e1]; simp [e1]
  · by_cases e2 : g = bTotal
    · rw [eqB_t e2]; simp [e2]
    · rw [eqB_f e1, eqB_f e2]; simp [e1, e2, h3]
theorem gOut_ok (h : paddedOk (ns, rows, real) = true) {g : ByteArray} (hg : nameOk g = true) : paddedOk (gNames g, gRows rows real kk vv rows.length, gMarks rows real kk rows.length) = ((!eqB g bCount && !eqB g bTotal) && gOk rows real kk vv) := by
  obtain ⟨-, h256, -, -⟩ := paddedOk_all4 h
  unfold paddedOk
  dsimp only
  rw [gNames_ok hg]
  have h1 : (gRows rows real kk vv rows.length).length = rows.length := by simp [gRows]
  have h2 : (gMarks rows real kk rows.length).length = rows.length := by simp [gMarks]
  rw [h1, h2, decide_eq_true h256, decide_eq_true rfl]
  simp only [Bool.true_and]
  congr 1
  unfold padRows gOk
  rw [h1, show (gNames g).length = 3 from rfl, List.not_any_eq_all_not]
  refine all_same ?_
  intro k hk
  rw [List.mem_range] at hk
  unfold padAt
  have e1 : (gMarks rows real kk rows.length).getD k true = gLast rows real kk k := by
    unfold gMarks
    rw [List.getD_eq_getElem?_getD, List.getElem?_map, List.getElem?_range hk]; rfl
  have e2 : (gRows rows real kk vv rows.length).getD k [] = gRow rows real kk vv k := by
    unfold gRows
    rw [List.getD_eq_getElem?_getD, List.getElem?_map, List.getElem?_range hk]; rfl
  rw [e1, e2]
  exact gRow_pad h (by omega)
end
end Go.Proofs.YtldknaajnnohiaaDoor
end

section
namespace Go.Proofs.YtldknaajnnohiaaDoor
open Go.RowKit

set_option maxHeartbeats 1000000 in
theorem spec_l8Blank (w : World) (n : Nat) (hn : n ≤ 1000000) :
    Calls Tryd.prog 118 #[.int .i64 (n : Int)] w fun e w' => ∃ v, e = .returned v ∧ Fresh Rep.int.rows w w' [v] (List.replicate n 0) := by
  have hS : Sat w w [] := Sat.nil w
  go_enter Tryd.func118, Tryd.ntmps118
  go_wp2_with (first | ((with_reducible show wpList _ _ _ (⟨_, Op.makeSlice _ _ _, _, _, _, _⟩ :: _) _ _); refine Does.list (does_make (e := Rep.int) (n := n) (zx := 0) hS rfl rfl rfl rfl rfl (by decide) (fun _ => ⟨rfl, rfl, by unfold I64; omega⟩) (by decide) (by omega)) rfl ?_; clear hS; rintro _ wx ⟨bm, rfl, hS, _⟩; (simp only [Act.put, sA, sZ, sS])) | ((with_reducible show wpList _ _ _ (⟨_, Op.box _ _, _, _, _, _⟩ :: _) _ _); refine Does.list (does_box hS rfl rfl (by rfl)) rfl ?_; clear hS; rintro _ wx ⟨bo, rfl, hS, _⟩; (simp only [Act.put, sA, sZ, sS])) | ((with_reducible show wpList _ _ _ (⟨_, Op.load _ _, _, _, _, _⟩ :: _) _ _); (first | refine Gives.list (f_load hS rfl rfl (by rfl)) rfl ?_ | refine Gives.list (f_loadS hS rfl rfl (by rfl)) rfl ?_ | refine Gives.list (f_loadAt hS rfl rfl) rfl ?_ | refine Gives.list (f_loadAtS hS rfl rfl (by rfl)) rfl ?_ | refine Gives.list (f_loadAtF hS rfl rfl (by rfl)) rfl ?_); (simp only [Act.put, sA, sZ, sS])) | ((with_reducible show wpList _ _ _ (⟨_, Op.store _ _ _, _, _, _, _⟩ :: _) _ _); (first | refine Does.list (f_store hS rfl rfl rfl (by rfl) (by rfl)) rfl ?_ | refine Does.list (f_storeS hS rfl rfl rfl (by rfl) (by rfl) (by rfl)) rfl ?_); clear hS; rintro _ wx ⟨rfl, hS⟩; (simp only [sZ, sS] at hS); (simp only [Act.put, sA, sZ, sS])) | ((with_reducible show wpList _ _ _ (⟨_, Op.alloc _, _, _, _, _⟩ :: _) _ _); refine Does.list (does_alloc hS rfl (by rfl)) rfl ?_; clear hS; rintro _ wx ⟨ba, rfl, hS, _⟩; (simp only [Act.put, sA, sZ, sS])) | ((with_reducible show wpList _ _ _ (⟨_, Op.buildSlice _ _ _, _, _, _, _⟩ :: _) _ _); refine Does.list (does_buildSlice (X := ?_) (cs := ?_) (E := ?_) hS rfl ?_ ?_) rfl ?_; rotate_left 3; (go_simp; rfl); rfl; clear hS; rintro _ wx ⟨bx, rfl, hS, _⟩; (simp only [Act.put, sA, sZ, sS])))
  go_ret
  exact ⟨_, rfl, hS.result⟩
theorem spec_l8Blank3 (w : World) : Calls Tryd.prog 118 #[.int .i64 3] w fun e w' => ∃ v, e = .returned v ∧ Fresh Rep.int.rows w w' [v] (List.replicate 3 0) := spec_l8Blank w 3 (by decide)
theorem Sat.rowLit3o {w0 w : World} {Γ : List Fact} {b : Nat} {p q r : Int} (h : Sat w0 w (.box b [.int .i64 p, .int .i64 q, .int .i64 r] :: Γ)) (h1 : I64 p) (h2 : I64 q) (h3 : I64 r) : Sat w0 w (.own Rep.int.rows [.slice (some ⟨b, 0, none⟩) 3 3] [p, q, r] :: Γ) :=
  Sat.lit (m := 3) (h.flat (e := Rep.int.vec 3) (x := [p, q, r]) ⟨rfl, all_ints w [p, q, r] (by intro n hn; simp only [List.mem_cons, List.not_mem_nil, or_false] at hn; rcases hn with rfl | rfl | rfl <;> assumption)⟩) (by decide)
theorem colOf_neg {xs : List ByteArray} {x : ByteArray} : decide (colOf xs x < 0) = !hasS xs x := by
  rw [← colOf_has (xs := xs) (x := x)]
  by_cases h : colOf xs x < 0
  · rw [decide_eq_true h, decide_eq_false (by omega)]; rfl
  · rw [decide_eq_false h, decide_eq_true (by omega)]; rfl
/-- In a sorted table no real row stands behind one that is none. -/
theorem sortP_real {c : Int} {down : Bool} {p : PaddedD} {k : Nat} (h : (sortP c down p).2.2.getD (k + 1) false = true) : (sortP c down p).2.2.getD k false = true := by
  rw [sortP_front] at h ⊢
  generalize (sortP c down p).2.2.countP id = n at h ⊢
  generalize (sortP c down p).2.2.length - n = m at h ⊢
  rw [List.getD_eq_getElem?_getD] at h ⊢
  by_cases hk : k + 1 < n
  · rw [List.getElem?_append_left (by rw [List.length_replicate]; omega), List.getElem?_replicate, if_pos (by omega)]; rfl
  · rw [List.getElem?_append_right (by rw [List.length_replicate]; omega), List.getElem?_replicate] at h
    split at h <;> cases h
/-- What the reference's counts are: those of the program where a real row begins. -/
def gAdj (rows : List (List Int)) (kk k : Nat) : Bool := decide (0 < k) && !decide (gCell rows k kk = gCell rows (k - 1) kk)
def gInv (rows : List (List Int)) (real : List Bool) (kk vv k : Nat) (x y : Int) : Prop := real.getD k false = true → (if gAdj rows kk k then (0, 0) else (x, y)) = gSt rows real kk vv k
section
variable {rows : List (List Int)} {real : List Bool} {kk vv k : Nat} {x y a : Int}
theorem gInv_0 : gInv rows real kk vv 0 0 0 := fun _ => by unfold gAdj; rfl
theorem gInv_f (h0 : real.getD k false = false) (hf : real.getD (k + 1) false = true → real.getD k false = true) : gInv rows real kk vv (k + 1) x y := fun h => by have := hf h; rw [h0] at this; cases this
theorem gInv_t {X Y : Int} (h0 : real.getD k false = true) (hk : k + 1 < rows.length ∨ real.getD (k + 1) false = false) (hs : gSt rows real kk vv k = (X, Y)) (ha : gCell rows k vv = a) : gInv rows real kk vv (k + 1) (X + 1) (Y + a) := fun h => by
  have hlt : k + 1 < rows.length := by
    rcases hk with h1 | h1
    · exact h1
    · rw [h1] at h; cases h
  have e1 : gAdj rows kk (k + 1) = gLast rows real kk k := by
    unfold gAdj gLast
    rw [h0, h, decide_eq_true hlt, decide_eq_true (Nat.succ_pos k)]
    rfl
  rw [e1, gSt, h0]
  cases hl : gLast rows real kk k
  · simp [hs, ha]
  · rfl
end
end Go.Proofs.YtldknaajnnohiaaDoor
end
