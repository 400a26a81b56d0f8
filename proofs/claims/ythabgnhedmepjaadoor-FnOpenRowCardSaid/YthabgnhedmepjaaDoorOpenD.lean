/- What OpenRow computes. -/
import Derived.Test.YthabgnhedmepjaaDoorSealD
namespace Go.Proofs.YthabgnhedmepjaaDoor
open Go.RowKit

def plainCell (key number : Int) (cells : List Int) (k : Nat) : Int := (cells.getD k 0 - streamF key number k) % 200003
def plainTo (key number : Int) (cells : List Int) (k : Nat) : List Int := (List.range k).map (plainCell key number cells)
theorem plainTo_succ (key number : Int) (cells : List Int) (k : Nat) : plainTo key number cells (k + 1) = plainTo key number cells k ++ [plainCell key number cells k] := by simp [plainTo, List.range_succ]
theorem plainTo_len (key number : Int) (cells : List Int) (k : Nat) : (plainTo key number cells k).length = k := by simp [plainTo]
theorem plainCell_bd (key number : Int) (cells : List Int) (k : Nat) : 0 ≤ plainCell key number cells k ∧ plainCell key number cells k ≤ 200002 := by unfold plainCell; omega
def cellBad (c : Int) : Bool := !inB c 0 200002
def rowOfPlain (p : List Int) : List Int := p.map (fun n => n - 100000)
/-- OpenRow as the program computes it. -/
def openI (key : Int) (s : SealedD) : List Int × Bool × Bool :=
  if inB key 0 1000000 && inB s.1 0 1000000000 && inB s.2.1.length 2 7 && !s.2.1.any cellBad then
    let p := plainTo key s.1 s.2.1 s.2.1.length
    let row := rowOfPlain (p.take (s.2.1.length - 1))
    let real := p.getD (s.2.1.length - 1) 0 == 1
    if sealRowF key s.1 row real = s then (row, real, true) else ([], false, false)
  else ([], false, false)
end Go.Proofs.YthabgnhedmepjaaDoor
