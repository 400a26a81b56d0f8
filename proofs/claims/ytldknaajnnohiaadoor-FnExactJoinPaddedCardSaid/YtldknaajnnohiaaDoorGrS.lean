/- GroupPadded: the plain laws. -/
import Derived.Test.YtldknaajnnohiaaDoorReR
import Derived.Test.YtldknaajnnohiaaDoorPass
import Derived.Test.YtldknaajnnohiaaDoorSho
import Derived.Test.YtldknaajnnohiaaDoorSrL
section
namespace Go.Proofs.YtldknaajnnohiaaDoor
open Go.RowKit

section
variable (rows : List (List Int)) (real : List Bool) (kk vv : Nat)
def gCell (i c : Nat) : Int := (rows.getD i []).getD c 0
/-- The last row of its group. -/
def gLast (i : Nat) : Bool := real.getD i false && !(decide (i + 1 < rows.length) && (real.getD (i + 1) false && decide (gCell rows (i + 1) kk = gCell rows i kk)))
/-- How many rows of the group stand ahead of row i, and their sum. -/
def gSt : Nat → Int × Int
  | 0 => (0, 0)
  | i + 1 => if real.getD i false then (if gLast rows real kk i then (0, 0) else ((gSt i).1 + 1, (gSt i).2 + gCell rows i vv)) else gSt i
def gRow (i : Nat) : List Int := if gLast rows real kk i then [gCell rows i kk, (gSt rows real kk vv i).1 + 1, (gSt rows real kk vv i).2 + gCell rows i vv] else List.replicate 3 0
def gBad (i : Nat) : Bool := gLast rows real kk i && !inB ((gSt rows real kk vv i).2 + gCell rows i vv) (-100000) 100000
def gRows (n : Nat) : List (List Int) := (List.range n).map (gRow rows real kk vv)
def gMarks (n : Nat) : List Bool := (List.range n).map (gLast rows real kk)
def gOk : Bool := !(List.range rows.length).any (gBad rows real kk vv)
end
section
variable {rows : List (List Int)} {real : List Bool} {kk vv : Nat} {i k : Nat}
end
def bCount : ByteArray := ⟨#[99, 111, 117, 110, 116]⟩
def bTotal : ByteArray := ⟨#[116, 111, 116, 97, 108]⟩
def gNames (g : ByteArray) : List ByteArray := [g, bCount, bTotal]
def gNam (ns : List ByteArray) (g s : ByteArray) : Bool := hasS ns g && (hasS ns s && (!eqB g bCount && !eqB g bTotal))
def gKey (p : PaddedD) (g : ByteArray) : Nat := (colOf p.1 g).toNat
def gSort (p : PaddedD) (g : ByteArray) : PaddedD := sortP (colOf p.1 g) false p
def gOut (p : PaddedD) (g s : ByteArray) : PaddedD := (gNames g, gRows (gSort p g).2.1 (gSort p g).2.2 (gKey p g) (gKey p s) p.2.1.length, gMarks (gSort p g).2.1 (gSort p g).2.2 (gKey p g) p.2.1.length)
/-- What GroupPadded returns. -/
def groupF (p : PaddedD) (g s : ByteArray) : PaddedD × List AccessD × Bool :=
  if paddedOk p && (gNam p.1 g s && gOk (gSort p g).2.1 (gSort p g).2.2 (gKey p g) (gKey p s)) then (gOut p g s, pairF (netF p.2.1.length) ++ passF p.2.1.length, true) else (zeroP, [], false)
section
variable {p : PaddedD} {g s : ByteArray}
end
/-! ### Rows that are valid -/
section
variable {ns : List ByteArray} {rows : List (List Int)} {real : List Bool} {kk vv : Nat}
end
end Go.Proofs.YtldknaajnnohiaaDoor
end

section
namespace Go.Proofs.YtldknaajnnohiaaDoor
open Go.RowKit

set_option maxHeartbeats 1000000 in
theorem spec_l8Blank (w : World) (n : Nat) (hn : n ≤ 1000000) :
    Calls Tryd.prog 118 #[.int .i64 (n : Int)] w fun e w' => ∃ v, e = .returned v ∧ Fresh Rep.int.rows w w' [v] (List.replicate n 0) := by
  have hS : Sat w w [] := Sat.nil w
  go_enter Tryd.func118, Tryd.ntmps118
  go_wp2_with (first | ((with_reducible show wpList _ _ _ (⟨_, Op.makeSlice _ _ _, _, _, _, _⟩ :: _) _ _); refine Does.list (does_make (e := Rep.int) (n := n) (zx := 0) hS rfl rfl rfl rfl rfl (by decide) (fun _ => ⟨rfl, rfl, by unfold I64; omega⟩) (by decide) (by omega)) rfl ?_; clear hS; rintro _ wx ⟨bm, rfl, hS, _⟩; (simp only [Act.put, sA, sZ, sS])))
  go_ret
  exact ⟨_, rfl, hS.result⟩
theorem colOf_neg {xs : List ByteArray} {x : ByteArray} : decide (colOf xs x < 0) = !hasS xs x := by
  rw [← colOf_has (xs := xs) (x := x)]
  by_cases h : colOf xs x < 0
  · rw [decide_eq_true h, decide_eq_false (by omega)]; rfl
  · rw [decide_eq_false h, decide_eq_true (by omega)]; rfl
/-- What the reference's counts are: those of the program where a real row begins. -/
def gAdj (rows : List (List Int)) (kk k : Nat) : Bool := decide (0 < k) && !decide (gCell rows k kk = gCell rows (k - 1) kk)
def gInv (rows : List (List Int)) (real : List Bool) (kk vv k : Nat) (x y : Int) : Prop := real.getD k false = true → (if gAdj rows kk k then (0, 0) else (x, y)) = gSt rows real kk vv k
section
variable {rows : List (List Int)} {real : List Bool} {kk vv k : Nat} {x y a : Int}
end
end Go.Proofs.YtldknaajnnohiaaDoor
end
