/- SealTable: the reference's contract. -/
import Derived.Test.YtnlhiamjndifoaaDoorPdv
import Derived.Test.YtnlhiamjndifoaaDoorSealS
section
namespace Go.Proofs.YtnlhiamjndifoaaDoor
open Go.RowKit

def sealAt (key first : Int) (rows : List (List Int)) (real : List Bool) (k : Nat) : SealedD := sealRowF key (first + (k : Int)) (rows.getD k []) (real.getD k true)
def lastAt (n : Nat) : Int := 1000000000 - ((n - 1 : Nat) : Int)
def sealTableF (key first : Int) (p : PaddedD) : List SealedD := if paddedOk p && (inB key 0 1000000 && inB first 0 (lastAt p.2.1.length)) then (List.range p.2.1.length).map (sealAt key first p.2.1 p.2.2) else []
theorem paddedOk_parts {ns : List ByteArray} {rows : List (List Int)} {real : List Bool} (h : paddedOk (ns, rows, real) = true) : rows.length ≤ 256 ∧ real.length = rows.length := by
  unfold paddedOk at h
  simp only [Bool.and_eq_true, decide_eq_true_eq] at h
  exact ⟨h.2.1, h.2.2.1⟩
theorem sealTableF_t {key first : Int} {ns : List ByteArray} {rows : List (List Int)} {real : List Bool} (h1 : paddedOk (ns, rows, real) = true) (h2 : inB key 0 1000000 = true) (h3 : inB first 0 (lastAt rows.length) = true) : sealTableF key first (ns, rows, real) = (List.range rows.length).map (sealAt key first rows real) := by
  unfold sealTableF
  rw [h1, h2]
  dsimp only
  rw [h3]
  rfl











































































end Go.Proofs.YtnlhiamjndifoaaDoor
end

section
namespace Go.Proofs.YtnlhiamjndifoaaDoor
open Go.RowKit

def SSmall (l : List SealedD) : Prop := l.length ≤ 1048576 ∧ ∀ s ∈ l, s.2.1.length ≤ 1048576















































end Go.Proofs.YtnlhiamjndifoaaDoor
end
