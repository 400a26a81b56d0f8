/- Contracts of the streams. -/
import Derived.Test.YtnlhiamjndifoaaDoorMem
namespace Go.Proofs.YtnlhiamjndifoaaDoor
open Go.RowKit

def mix0 (key number at_ : Int) : Int := (7 * key + 13 * number + 29 * at_ + 11) % 2147483647
def mixTo (key number at_ : Int) : Nat → Int
  | 0 => mix0 key number at_
  | n + 1 => (48271 * mixTo key number at_ n + key + number + (n : Int)) % 2147483647
theorem mixTo_bd (key number at_ : Int) (n : Nat) : 0 ≤ mixTo key number at_ n ∧ mixTo key number at_ n ≤ 2147483646 := by
  cases n <;> simp only [mixTo, mix0] <;> omega
def mixF (key number at_ : Int) : Int := mixTo key number at_ 3
def streamF (key number at_ : Int) : Int := mixF key number at_ % 200003
theorem streamF_bd (key number at_ : Int) : 0 ≤ streamF key number at_ ∧ streamF key number at_ ≤ 200002 := by unfold streamF; omega
theorem val_int {a b : Int} (h : a = b) : Value.int .i64 a = .int .i64 b := by rw [h]

























































def streamAtF (key number at_ : Int) : Int := if inB key 0 1000000 && inB number 0 1000000000 && inB at_ 0 7 then streamF key number at_ else -1



































































end Go.Proofs.YtnlhiamjndifoaaDoor
