/- The program's struct types among a call's facts: opened into their fields, and made of them. -/
import Derived.Test.YtnbaekjednmfjaaDoorFind
import Derived.Test.YtnbaekjednmfjaaDoorShapes
namespace Go.Proofs.YtnbaekjednmfjaaDoor
open Go.RowKit

def oPair : Rep PairD := Rep.pair Rep.int (Rep.int)
instance : Sub oPair rPair := inferInstanceAs (Sub (Rep.pair Rep.int (Rep.int)) (Rep.pair Rep.int (Rep.int)))
instance : Flat rPair oPair := inferInstanceAs (Flat (Rep.pair Rep.int (Rep.int)) (Rep.pair Rep.int (Rep.int)))
instance : Flat oPair oPair := inferInstanceAs (Flat (Rep.pair Rep.int (Rep.int)) (Rep.pair Rep.int (Rep.int)))
theorem Sat.openRoPair {w0 w : World} {Γ : List Fact} {cs : List Value} {x : PairD} (h : Sat w0 w (.ro rPair cs x :: Γ)) :
    cs = [.int .i64 x.1, .int .i64 x.2] ∧ I64 x.1 ∧ I64 x.2 ∧ Sat w0 w (Γ) := by
  have h_ := Sat.splitRo h; clear h; obtain ⟨ca0, cb0, rfl, -, h⟩ := h_
  have h_ := Sat.roInt h; clear h; obtain ⟨rfl, i0, h⟩ := h_
  have h_ := Sat.roInt h; clear h; obtain ⟨rfl, i1, h⟩ := h_
  exact ⟨rfl, i0, i1, h⟩
theorem Sat.openOwnPair {w0 w : World} {Γ : List Fact} {cs : List Value} {x : PairD} (h : Sat w0 w (.own oPair cs x :: Γ)) :
    cs = [.int .i64 x.1, .int .i64 x.2] ∧ I64 x.1 ∧ I64 x.2 ∧ Sat w0 w (Γ) := by
  have h_ := Sat.split h; clear h; obtain ⟨ca0, cb0, rfl, -, h⟩ := h_
  have h_ := Sat.ownInt h; clear h; obtain ⟨rfl, i0, h⟩ := h_
  have h_ := Sat.ownInt h; clear h; obtain ⟨rfl, i1, h⟩ := h_
  exact ⟨rfl, i0, i1, h⟩
theorem Sat.mkPair {w0 w : World} {Γ : List Fact} {x0 : Int} (i0 : I64 x0) {x1 : Int} (i1 : I64 x1) (h : Sat w0 w (Γ)) : Sat w0 w (.own oPair [.int .i64 x0, .int .i64 x1] (x0, x1) :: Γ) := by
  replace h := h.int i1
  replace h := h.int i0
  replace h := Sat.pair h
  exact h
theorem Sat.cellsPair {w0 w : World} {Γ : List Fact} {cs : List Value} {x : PairD} (h : Sat w0 w Γ) (i : Nat) (hi : Γ[i]? = some (.own rPair cs x)) : cs = [.int .i64 x.1, .int .i64 x.2] := by
  obtain ⟨F, hF⟩ := (h.pull i hi).readOwn rPair
  obtain ⟨h, _, _, _⟩ := rPair_open hF
  exact h
theorem Sat.ocellsPair {w0 w : World} {Γ : List Fact} {cs : List Value} {x : PairD} (h : Sat w0 w Γ) (i : Nat) (hi : Γ[i]? = some (.own oPair cs x)) : cs = [.int .i64 x.1, .int .i64 x.2] := by
  obtain ⟨F, hF⟩ := (h.pull i hi).readOwn rPair
  obtain ⟨h, _, _, _⟩ := rPair_open hF
  exact h
theorem Sat.elPair {w0 w : World} {Γ : List Fact} {k i : Nat} {xs : List PairD} (A : Option Addr) (n c : Nat) (h : Sat w0 w Γ) [hi : RoIn Γ rPair.slice [.slice A n c] xs i] {x : PairD} (hx : xs[k]? = some x) :
    ∃ ad , A = some ad ∧ I64 x.1 ∧ I64 x.2 ∧ Sat w0 w (.at (ad.add (k * 2)) [.int .i64 x.1, .int .i64 x.2] :: Γ) := by
  obtain ⟨ad, ck, rfl, hl, h⟩ := h.el rPair A n c hx
  obtain ⟨rfl, b0, b1, h⟩ := Sat.openRoPair (Sat.swap h)
  refine ⟨ad, rfl, b0, b1, ?_⟩
  exact h

def oAccess : Rep AccessD := Rep.pair Rep.int (Rep.pair Rep.int (Rep.bool))
instance : Sub oAccess rAccess := inferInstanceAs (Sub (Rep.pair Rep.int (Rep.pair Rep.int (Rep.bool))) (Rep.pair Rep.int (Rep.pair Rep.int (Rep.bool))))
instance : Flat rAccess oAccess := inferInstanceAs (Flat (Rep.pair Rep.int (Rep.pair Rep.int (Rep.bool))) (Rep.pair Rep.int (Rep.pair Rep.int (Rep.bool))))
instance : Flat oAccess oAccess := inferInstanceAs (Flat (Rep.pair Rep.int (Rep.pair Rep.int (Rep.bool))) (Rep.pair Rep.int (Rep.pair Rep.int (Rep.bool))))
theorem Sat.openRoAccess {w0 w : World} {Γ : List Fact} {cs : List Value} {x : AccessD} (h : Sat w0 w (.ro rAccess cs x :: Γ)) :
    cs = [.int .i64 x.1, .int .i64 x.2.1, .bool x.2.2] ∧ I64 x.1 ∧ I64 x.2.1 ∧ Sat w0 w (Γ) := by
  have h_ := Sat.splitRo h; clear h; obtain ⟨ca0, cb0, rfl, -, h⟩ := h_
  have h_ := Sat.roInt h; clear h; obtain ⟨rfl, i0, h⟩ := h_
  have h_ := Sat.splitRo h; clear h; obtain ⟨ca1, cb1, rfl, -, h⟩ := h_
  have h_ := Sat.roInt h; clear h; obtain ⟨rfl, i1, h⟩ := h_
  have h_ := Sat.roBool h; clear h; obtain ⟨rfl, h⟩ := h_
  exact ⟨rfl, i0, i1, h⟩
theorem Sat.openOwnAccess {w0 w : World} {Γ : List Fact} {cs : List Value} {x : AccessD} (h : Sat w0 w (.own oAccess cs x :: Γ)) :
    cs = [.int .i64 x.1, .int .i64 x.2.1, .bool x.2.2] ∧ I64 x.1 ∧ I64 x.2.1 ∧ Sat w0 w (Γ) := by
  have h_ := Sat.split h; clear h; obtain ⟨ca0, cb0, rfl, -, h⟩ := h_
  have h_ := Sat.ownInt h; clear h; obtain ⟨rfl, i0, h⟩ := h_
  have h_ := Sat.split h; clear h; obtain ⟨ca1, cb1, rfl, -, h⟩ := h_
  have h_ := Sat.ownInt h; clear h; obtain ⟨rfl, i1, h⟩ := h_
  have h_ := Sat.ownBool h; clear h; obtain ⟨rfl, h⟩ := h_
  exact ⟨rfl, i0, i1, h⟩
theorem Sat.mkAccess {w0 w : World} {Γ : List Fact} {x0 : Int} (i0 : I64 x0) {x1 : Int} (i1 : I64 x1) (x2 : Bool) (h : Sat w0 w (Γ)) : Sat w0 w (.own oAccess [.int .i64 x0, .int .i64 x1, .bool x2] (x0, x1, x2) :: Γ) := by
  replace h := h.bool x2
  replace h := h.int i1
  replace h := Sat.pair h
  replace h := h.int i0
  replace h := Sat.pair h
  exact h
theorem Sat.cellsAccess {w0 w : World} {Γ : List Fact} {cs : List Value} {x : AccessD} (h : Sat w0 w Γ) (i : Nat) (hi : Γ[i]? = some (.own rAccess cs x)) : cs = [.int .i64 x.1, .int .i64 x.2.1, .bool x.2.2] := by
  obtain ⟨F, hF⟩ := (h.pull i hi).readOwn rAccess
  obtain ⟨h, _, _, _⟩ := rAccess_open hF
  exact h
theorem Sat.ocellsAccess {w0 w : World} {Γ : List Fact} {cs : List Value} {x : AccessD} (h : Sat w0 w Γ) (i : Nat) (hi : Γ[i]? = some (.own oAccess cs x)) : cs = [.int .i64 x.1, .int .i64 x.2.1, .bool x.2.2] := by
  obtain ⟨F, hF⟩ := (h.pull i hi).readOwn rAccess
  obtain ⟨h, _, _, _⟩ := rAccess_open hF
  exact h
theorem Sat.elAccess {w0 w : World} {Γ : List Fact} {k i : Nat} {xs : List AccessD} (A : Option Addr) (n c : Nat) (h : Sat w0 w Γ) [hi : RoIn Γ rAccess.slice [.slice A n c] xs i] {x : AccessD} (hx : xs[k]? = some x) :
    ∃ ad , A = some ad ∧ I64 x.1 ∧ I64 x.2.1 ∧ Sat w0 w (.at (ad.add (k * 3)) [.int .i64 x.1, .int .i64 x.2.1, .bool x.2.2] :: Γ) := by
  obtain ⟨ad, ck, rfl, hl, h⟩ := h.el rAccess A n c hx
  obtain ⟨rfl, b0, b1, h⟩ := Sat.openRoAccess (Sat.swap h)
  refine ⟨ad, rfl, b0, b1, ?_⟩
  exact h

def oBlock : Rep BlockD := Rep.pair Rep.int (Rep.pair Rep.int (Rep.int))
instance : Sub oBlock rBlock := inferInstanceAs (Sub (Rep.pair Rep.int (Rep.pair Rep.int (Rep.int))) (Rep.pair Rep.int (Rep.pair Rep.int (Rep.int))))
instance : Flat rBlock oBlock := inferInstanceAs (Flat (Rep.pair Rep.int (Rep.pair Rep.int (Rep.int))) (Rep.pair Rep.int (Rep.pair Rep.int (Rep.int))))
instance : Flat oBlock oBlock := inferInstanceAs (Flat (Rep.pair Rep.int (Rep.pair Rep.int (Rep.int))) (Rep.pair Rep.int (Rep.pair Rep.int (Rep.int))))
theorem Sat.openRoBlock {w0 w : World} {Γ : List Fact} {cs : List Value} {x : BlockD} (h : Sat w0 w (.ro rBlock cs x :: Γ)) :
    cs = [.int .i64 x.1, .int .i64 x.2.1, .int .i64 x.2.2] ∧ I64 x.1 ∧ I64 x.2.1 ∧ I64 x.2.2 ∧ Sat w0 w (Γ) := by
  have h_ := Sat.splitRo h; clear h; obtain ⟨ca0, cb0, rfl, -, h⟩ := h_
  have h_ := Sat.roInt h; clear h; obtain ⟨rfl, i0, h⟩ := h_
  have h_ := Sat.splitRo h; clear h; obtain ⟨ca1, cb1, rfl, -, h⟩ := h_
  have h_ := Sat.roInt h; clear h; obtain ⟨rfl, i1, h⟩ := h_
  have h_ := Sat.roInt h; clear h; obtain ⟨rfl, i2, h⟩ := h_
  exact ⟨rfl, i0, i1, i2, h⟩
theorem Sat.openOwnBlock {w0 w : World} {Γ : List Fact} {cs : List Value} {x : BlockD} (h : Sat w0 w (.own oBlock cs x :: Γ)) :
    cs = [.int .i64 x.1, .int .i64 x.2.1, .int .i64 x.2.2] ∧ I64 x.1 ∧ I64 x.2.1 ∧ I64 x.2.2 ∧ Sat w0 w (Γ) := by
  have h_ := Sat.split h; clear h; obtain ⟨ca0, cb0, rfl, -, h⟩ := h_
  have h_ := Sat.ownInt h; clear h; obtain ⟨rfl, i0, h⟩ := h_
  have h_ := Sat.split h; clear h; obtain ⟨ca1, cb1, rfl, -, h⟩ := h_
  have h_ := Sat.ownInt h; clear h; obtain ⟨rfl, i1, h⟩ := h_
  have h_ := Sat.ownInt h; clear h; obtain ⟨rfl, i2, h⟩ := h_
  exact ⟨rfl, i0, i1, i2, h⟩
theorem Sat.mkBlock {w0 w : World} {Γ : List Fact} {x0 : Int} (i0 : I64 x0) {x1 : Int} (i1 : I64 x1) {x2 : Int} (i2 : I64 x2) (h : Sat w0 w (Γ)) : Sat w0 w (.own oBlock [.int .i64 x0, .int .i64 x1, .int .i64 x2] (x0, x1, x2) :: Γ) := by
  replace h := h.int i2
  replace h := h.int i1
  replace h := Sat.pair h
  replace h := h.int i0
  replace h := Sat.pair h
  exact h
theorem Sat.cellsBlock {w0 w : World} {Γ : List Fact} {cs : List Value} {x : BlockD} (h : Sat w0 w Γ) (i : Nat) (hi : Γ[i]? = some (.own rBlock cs x)) : cs = [.int .i64 x.1, .int .i64 x.2.1, .int .i64 x.2.2] := by
  obtain ⟨F, hF⟩ := (h.pull i hi).readOwn rBlock
  obtain ⟨h, _, _, _, _⟩ := rBlock_open hF
  exact h
theorem Sat.ocellsBlock {w0 w : World} {Γ : List Fact} {cs : List Value} {x : BlockD} (h : Sat w0 w Γ) (i : Nat) (hi : Γ[i]? = some (.own oBlock cs x)) : cs = [.int .i64 x.1, .int .i64 x.2.1, .int .i64 x.2.2] := by
  obtain ⟨F, hF⟩ := (h.pull i hi).readOwn rBlock
  obtain ⟨h, _, _, _, _⟩ := rBlock_open hF
  exact h
theorem Sat.elBlock {w0 w : World} {Γ : List Fact} {k i : Nat} {xs : List BlockD} (A : Option Addr) (n c : Nat) (h : Sat w0 w Γ) [hi : RoIn Γ rBlock.slice [.slice A n c] xs i] {x : BlockD} (hx : xs[k]? = some x) :
    ∃ ad , A = some ad ∧ I64 x.1 ∧ I64 x.2.1 ∧ I64 x.2.2 ∧ Sat w0 w (.at (ad.add (k * 3)) [.int .i64 x.1, .int .i64 x.2.1, .int .i64 x.2.2] :: Γ) := by
  obtain ⟨ad, ck, rfl, hl, h⟩ := h.el rBlock A n c hx
  obtain ⟨rfl, b0, b1, b2, h⟩ := Sat.openRoBlock (Sat.swap h)
  refine ⟨ad, rfl, b0, b1, b2, ?_⟩
  exact h

def oUse : Rep UseD := Rep.pair Rep.int (Rep.pair Rep.bool (Rep.pair Rep.int (Rep.int)))
instance : Sub oUse rUse := inferInstanceAs (Sub (Rep.pair Rep.int (Rep.pair Rep.bool (Rep.pair Rep.int (Rep.int)))) (Rep.pair Rep.int (Rep.pair Rep.bool (Rep.pair Rep.int (Rep.int)))))
instance : Flat rUse oUse := inferInstanceAs (Flat (Rep.pair Rep.int (Rep.pair Rep.bool (Rep.pair Rep.int (Rep.int)))) (Rep.pair Rep.int (Rep.pair Rep.bool (Rep.pair Rep.int (Rep.int)))))
instance : Flat oUse oUse := inferInstanceAs (Flat (Rep.pair Rep.int (Rep.pair Rep.bool (Rep.pair Rep.int (Rep.int)))) (Rep.pair Rep.int (Rep.pair Rep.bool (Rep.pair Rep.int (Rep.int)))))
theorem Sat.openRoUse {w0 w : World} {Γ : List Fact} {cs : List Value} {x : UseD} (h : Sat w0 w (.ro rUse cs x :: Γ)) :
    cs = [.int .i64 x.1, .bool x.2.1, .int .i64 x.2.2.1, .int .i64 x.2.2.2] ∧ I64 x.1 ∧ I64 x.2.2.1 ∧ I64 x.2.2.2 ∧ Sat w0 w (Γ) := by
  have h_ := Sat.splitRo h; clear h; obtain ⟨ca0, cb0, rfl, -, h⟩ := h_
  have h_ := Sat.roInt h; clear h; obtain ⟨rfl, i0, h⟩ := h_
  have h_ := Sat.splitRo h; clear h; obtain ⟨ca1, cb1, rfl, -, h⟩ := h_
  have h_ := Sat.roBool h; clear h; obtain ⟨rfl, h⟩ := h_
  have h_ := Sat.splitRo h; clear h; obtain ⟨ca2, cb2, rfl, -, h⟩ := h_
  have h_ := Sat.roInt h; clear h; obtain ⟨rfl, i2, h⟩ := h_
  have h_ := Sat.roInt h; clear h; obtain ⟨rfl, i3, h⟩ := h_
  exact ⟨rfl, i0, i2, i3, h⟩
theorem Sat.openOwnUse {w0 w : World} {Γ : List Fact} {cs : List Value} {x : UseD} (h : Sat w0 w (.own oUse cs x :: Γ)) :
    cs = [.int .i64 x.1, .bool x.2.1, .int .i64 x.2.2.1, .int .i64 x.2.2.2] ∧ I64 x.1 ∧ I64 x.2.2.1 ∧ I64 x.2.2.2 ∧ Sat w0 w (Γ) := by
  have h_ := Sat.split h; clear h; obtain ⟨ca0, cb0, rfl, -, h⟩ := h_
  have h_ := Sat.ownInt h; clear h; obtain ⟨rfl, i0, h⟩ := h_
  have h_ := Sat.split h; clear h; obtain ⟨ca1, cb1, rfl, -, h⟩ := h_
  have h_ := Sat.ownBool h; clear h; obtain ⟨rfl, h⟩ := h_
  have h_ := Sat.split h; clear h; obtain ⟨ca2, cb2, rfl, -, h⟩ := h_
  have h_ := Sat.ownInt h; clear h; obtain ⟨rfl, i2, h⟩ := h_
  have h_ := Sat.ownInt h; clear h; obtain ⟨rfl, i3, h⟩ := h_
  exact ⟨rfl, i0, i2, i3, h⟩
theorem Sat.mkUse {w0 w : World} {Γ : List Fact} {x0 : Int} (i0 : I64 x0) (x1 : Bool) {x2 : Int} (i2 : I64 x2) {x3 : Int} (i3 : I64 x3) (h : Sat w0 w (Γ)) : Sat w0 w (.own oUse [.int .i64 x0, .bool x1, .int .i64 x2, .int .i64 x3] (x0, x1, x2, x3) :: Γ) := by
  replace h := h.int i3
  replace h := h.int i2
  replace h := Sat.pair h
  replace h := h.bool x1
  replace h := Sat.pair h
  replace h := h.int i0
  replace h := Sat.pair h
  exact h
theorem Sat.cellsUse {w0 w : World} {Γ : List Fact} {cs : List Value} {x : UseD} (h : Sat w0 w Γ) (i : Nat) (hi : Γ[i]? = some (.own rUse cs x)) : cs = [.int .i64 x.1, .bool x.2.1, .int .i64 x.2.2.1, .int .i64 x.2.2.2] := by
  obtain ⟨F, hF⟩ := (h.pull i hi).readOwn rUse
  obtain ⟨h, _, _, _, _⟩ := rUse_open hF
  exact h
theorem Sat.ocellsUse {w0 w : World} {Γ : List Fact} {cs : List Value} {x : UseD} (h : Sat w0 w Γ) (i : Nat) (hi : Γ[i]? = some (.own oUse cs x)) : cs = [.int .i64 x.1, .bool x.2.1, .int .i64 x.2.2.1, .int .i64 x.2.2.2] := by
  obtain ⟨F, hF⟩ := (h.pull i hi).readOwn rUse
  obtain ⟨h, _, _, _, _⟩ := rUse_open hF
  exact h
theorem Sat.elUse {w0 w : World} {Γ : List Fact} {k i : Nat} {xs : List UseD} (A : Option Addr) (n c : Nat) (h : Sat w0 w Γ) [hi : RoIn Γ rUse.slice [.slice A n c] xs i] {x : UseD} (hx : xs[k]? = some x) :
    ∃ ad , A = some ad ∧ I64 x.1 ∧ I64 x.2.2.1 ∧ I64 x.2.2.2 ∧ Sat w0 w (.at (ad.add (k * 4)) [.int .i64 x.1, .bool x.2.1, .int .i64 x.2.2.1, .int .i64 x.2.2.2] :: Γ) := by
  obtain ⟨ad, ck, rfl, hl, h⟩ := h.el rUse A n c hx
  obtain ⟨rfl, b0, b2, b3, h⟩ := Sat.openRoUse (Sat.swap h)
  refine ⟨ad, rfl, b0, b2, b3, ?_⟩
  exact h

def oTest : Rep TestD := Rep.pair Rep.str (Rep.pair Rep.str (Rep.pair Rep.int (Rep.str)))
instance : Sub oTest rTest := inferInstanceAs (Sub (Rep.pair Rep.str (Rep.pair Rep.str (Rep.pair Rep.int (Rep.str)))) (Rep.pair Rep.str (Rep.pair Rep.str (Rep.pair Rep.int (Rep.str)))))
instance : Flat rTest oTest := inferInstanceAs (Flat (Rep.pair Rep.str (Rep.pair Rep.str (Rep.pair Rep.int (Rep.str)))) (Rep.pair Rep.str (Rep.pair Rep.str (Rep.pair Rep.int (Rep.str)))))
instance : Flat oTest oTest := inferInstanceAs (Flat (Rep.pair Rep.str (Rep.pair Rep.str (Rep.pair Rep.int (Rep.str)))) (Rep.pair Rep.str (Rep.pair Rep.str (Rep.pair Rep.int (Rep.str)))))
theorem Sat.openRoTest {w0 w : World} {Γ : List Fact} {cs : List Value} {x : TestD} (h : Sat w0 w (.ro rTest cs x :: Γ)) :
    cs = [.string x.1, .string x.2.1, .int .i64 x.2.2.1, .string x.2.2.2] ∧ x.1.size ≤ maxLen ∧ x.2.1.size ≤ maxLen ∧ I64 x.2.2.1 ∧ x.2.2.2.size ≤ maxLen ∧ Sat w0 w (Γ) := by
  have h_ := Sat.splitRo h; clear h; obtain ⟨ca0, cb0, rfl, -, h⟩ := h_
  have h_ := Sat.roStr h; clear h; obtain ⟨rfl, i0, h⟩ := h_
  have h_ := Sat.splitRo h; clear h; obtain ⟨ca1, cb1, rfl, -, h⟩ := h_
  have h_ := Sat.roStr h; clear h; obtain ⟨rfl, i1, h⟩ := h_
  have h_ := Sat.splitRo h; clear h; obtain ⟨ca2, cb2, rfl, -, h⟩ := h_
  have h_ := Sat.roInt h; clear h; obtain ⟨rfl, i2, h⟩ := h_
  have h_ := Sat.roStr h; clear h; obtain ⟨rfl, i3, h⟩ := h_
  exact ⟨rfl, i0, i1, i2, i3, h⟩
theorem Sat.openOwnTest {w0 w : World} {Γ : List Fact} {cs : List Value} {x : TestD} (h : Sat w0 w (.own oTest cs x :: Γ)) :
    cs = [.string x.1, .string x.2.1, .int .i64 x.2.2.1, .string x.2.2.2] ∧ x.1.size ≤ maxLen ∧ x.2.1.size ≤ maxLen ∧ I64 x.2.2.1 ∧ x.2.2.2.size ≤ maxLen ∧ Sat w0 w (Γ) := by
  have h_ := Sat.split h; clear h; obtain ⟨ca0, cb0, rfl, -, h⟩ := h_
  have h_ := Sat.ownStr h; clear h; obtain ⟨rfl, i0, h⟩ := h_
  have h_ := Sat.split h; clear h; obtain ⟨ca1, cb1, rfl, -, h⟩ := h_
  have h_ := Sat.ownStr h; clear h; obtain ⟨rfl, i1, h⟩ := h_
  have h_ := Sat.split h; clear h; obtain ⟨ca2, cb2, rfl, -, h⟩ := h_
  have h_ := Sat.ownInt h; clear h; obtain ⟨rfl, i2, h⟩ := h_
  have h_ := Sat.ownStr h; clear h; obtain ⟨rfl, i3, h⟩ := h_
  exact ⟨rfl, i0, i1, i2, i3, h⟩
theorem Sat.mkTest {w0 w : World} {Γ : List Fact} {x0 : ByteArray} (i0 : x0.size ≤ maxLen) {x1 : ByteArray} (i1 : x1.size ≤ maxLen) {x2 : Int} (i2 : I64 x2) {x3 : ByteArray} (i3 : x3.size ≤ maxLen) (h : Sat w0 w (Γ)) : Sat w0 w (.own oTest [.string x0, .string x1, .int .i64 x2, .string x3] (x0, x1, x2, x3) :: Γ) := by
  replace h := h.str i3
  replace h := h.int i2
  replace h := Sat.pair h
  replace h := h.str i1
  replace h := Sat.pair h
  replace h := h.str i0
  replace h := Sat.pair h
  exact h
theorem Sat.cellsTest {w0 w : World} {Γ : List Fact} {cs : List Value} {x : TestD} (h : Sat w0 w Γ) (i : Nat) (hi : Γ[i]? = some (.own rTest cs x)) : cs = [.string x.1, .string x.2.1, .int .i64 x.2.2.1, .string x.2.2.2] := by
  obtain ⟨F, hF⟩ := (h.pull i hi).readOwn rTest
  obtain ⟨h, _, _, _, _, _⟩ := rTest_open hF
  exact h
theorem Sat.ocellsTest {w0 w : World} {Γ : List Fact} {cs : List Value} {x : TestD} (h : Sat w0 w Γ) (i : Nat) (hi : Γ[i]? = some (.own oTest cs x)) : cs = [.string x.1, .string x.2.1, .int .i64 x.2.2.1, .string x.2.2.2] := by
  obtain ⟨F, hF⟩ := (h.pull i hi).readOwn rTest
  obtain ⟨h, _, _, _, _, _⟩ := rTest_open hF
  exact h
theorem Sat.elTest {w0 w : World} {Γ : List Fact} {k i : Nat} {xs : List TestD} (A : Option Addr) (n c : Nat) (h : Sat w0 w Γ) [hi : RoIn Γ rTest.slice [.slice A n c] xs i] {x : TestD} (hx : xs[k]? = some x) :
    ∃ ad , A = some ad ∧ x.1.size ≤ maxLen ∧ x.2.1.size ≤ maxLen ∧ I64 x.2.2.1 ∧ x.2.2.2.size ≤ maxLen ∧ Sat w0 w (.at (ad.add (k * 4)) [.string x.1, .string x.2.1, .int .i64 x.2.2.1, .string x.2.2.2] :: Γ) := by
  obtain ⟨ad, ck, rfl, hl, h⟩ := h.el rTest A n c hx
  obtain ⟨rfl, b0, b1, b2, b3, h⟩ := Sat.openRoTest (Sat.swap h)
  refine ⟨ad, rfl, b0, b1, b2, b3, ?_⟩
  exact h

def oSealed : Rep SealedD := Rep.pair Rep.int (Rep.pair (Rep.int.rows) (Rep.int))
instance : Sub oSealed rSealed := inferInstanceAs (Sub (Rep.pair Rep.int (Rep.pair (Rep.int.rows) (Rep.int))) (Rep.pair Rep.int (Rep.pair (Rep.int.slice) (Rep.int))))
theorem Sat.openRoSealed {w0 w : World} {Γ : List Fact} {cs : List Value} {x : SealedD} (h : Sat w0 w (.ro rSealed cs x :: Γ)) :
    ∃ A1 c1, cs = [.int .i64 x.1, .slice A1 x.2.1.length c1, .int .i64 x.2.2] ∧ I64 x.1 ∧ I64 x.2.2 ∧ Sat w0 w (.ro Rep.int.slice [.slice A1 x.2.1.length c1] x.2.1 :: Γ) := by
  have h_ := Sat.splitRo h; clear h; obtain ⟨ca0, cb0, rfl, -, h⟩ := h_
  have h_ := Sat.roInt h; clear h; obtain ⟨rfl, i0, h⟩ := h_
  have h_ := Sat.splitRo h; clear h; obtain ⟨ca1, cb1, rfl, -, h⟩ := h_
  have h_ := Sat.roSl h; clear h; obtain ⟨A1, c1, rfl, h⟩ := h_
  replace h := Sat.swap h
  have h_ := Sat.roInt h; clear h; obtain ⟨rfl, i2, h⟩ := h_
  exact ⟨A1, c1, rfl, i0, i2, h⟩
theorem Sat.openOwnSealed {w0 w : World} {Γ : List Fact} {cs : List Value} {x : SealedD} (h : Sat w0 w (.own oSealed cs x :: Γ)) :
    ∃ A1 c1, cs = [.int .i64 x.1, .slice A1 x.2.1.length c1, .int .i64 x.2.2] ∧ I64 x.1 ∧ I64 x.2.2 ∧ Sat w0 w (.own Rep.int.rows [.slice A1 x.2.1.length c1] x.2.1 :: Γ) := by
  have h_ := Sat.split h; clear h; obtain ⟨ca0, cb0, rfl, -, h⟩ := h_
  have h_ := Sat.ownInt h; clear h; obtain ⟨rfl, i0, h⟩ := h_
  have h_ := Sat.split h; clear h; obtain ⟨ca1, cb1, rfl, -, h⟩ := h_
  have h_ := Sat.ownSl h; clear h; obtain ⟨A1, c1, rfl, h⟩ := h_
  replace h := Sat.swap h
  have h_ := Sat.ownInt h; clear h; obtain ⟨rfl, i2, h⟩ := h_
  exact ⟨A1, c1, rfl, i0, i2, h⟩
theorem Sat.mkSealed {w0 w : World} {Γ : List Fact} {x0 : Int} (i0 : I64 x0) {x1 : (List Int)} {v1 : Value} {x2 : Int} (i2 : I64 x2) (h : Sat w0 w (.own Rep.int.rows [v1] x1 :: Γ)) : Sat w0 w (.own oSealed [.int .i64 x0, v1, .int .i64 x2] (x0, x1, x2) :: Γ) := by
  replace h := h.int i2
  replace h := Sat.swap h
  replace h := Sat.pair h
  replace h := h.int i0
  replace h := Sat.pair h
  exact h
theorem Sat.cellsSealed {w0 w : World} {Γ : List Fact} {cs : List Value} {x : SealedD} (h : Sat w0 w Γ) (i : Nat) (hi : Γ[i]? = some (.own rSealed cs x)) : ∃ A1 c1 , cs = [.int .i64 x.1, .slice A1 x.2.1.length c1, .int .i64 x.2.2] := by
  obtain ⟨F, hF⟩ := (h.pull i hi).readOwn rSealed
  obtain ⟨A1, c1, _, h, _, _, _, _⟩ := rSealed_open hF
  exact ⟨A1, c1, h⟩
theorem Sat.ocellsSealed {w0 w : World} {Γ : List Fact} {cs : List Value} {x : SealedD} (h : Sat w0 w Γ) (i : Nat) (hi : Γ[i]? = some (.own oSealed cs x)) : ∃ A1 c1 , cs = [.int .i64 x.1, .slice A1 x.2.1.length c1, .int .i64 x.2.2] := by
  obtain ⟨F, hF⟩ := (h.pull i hi).readOwn rSealed
  obtain ⟨A1, c1, _, h, _, _, _, _⟩ := rSealed_open hF
  exact ⟨A1, c1, h⟩
theorem Sat.elSealed {w0 w : World} {Γ : List Fact} {k i : Nat} {xs : List SealedD} (A : Option Addr) (n c : Nat) (h : Sat w0 w Γ) [hi : RoIn Γ rSealed.slice [.slice A n c] xs i] {x : SealedD} (hx : xs[k]? = some x) :
    ∃ ad A1 c1, A = some ad ∧ I64 x.1 ∧ I64 x.2.2 ∧ Sat w0 w (.at (ad.add (k * 3)) [.int .i64 x.1, .slice A1 x.2.1.length c1, .int .i64 x.2.2] :: .ro Rep.int.slice [.slice A1 x.2.1.length c1] x.2.1 :: Γ) := by
  obtain ⟨ad, ck, rfl, hl, h⟩ := h.el rSealed A n c hx
  obtain ⟨A1, c1, rfl, b0, b2, h⟩ := Sat.openRoSealed (Sat.swap h)
  refine ⟨ad, A1, c1, rfl, b0, b2, ?_⟩
  exact h.pull 1 rfl

def oShape : Rep ShapeD := Rep.pair Rep.str (Rep.pair (Rep.str.rows) (Rep.int))
instance : Sub oShape rShape := inferInstanceAs (Sub (Rep.pair Rep.str (Rep.pair (Rep.str.rows) (Rep.int))) (Rep.pair Rep.str (Rep.pair (Rep.str.slice) (Rep.int))))
theorem Sat.openRoShape {w0 w : World} {Γ : List Fact} {cs : List Value} {x : ShapeD} (h : Sat w0 w (.ro rShape cs x :: Γ)) :
    ∃ A1 c1, cs = [.string x.1, .slice A1 x.2.1.length c1, .int .i64 x.2.2] ∧ x.1.size ≤ maxLen ∧ I64 x.2.2 ∧ Sat w0 w (.ro Rep.str.slice [.slice A1 x.2.1.length c1] x.2.1 :: Γ) := by
  have h_ := Sat.splitRo h; clear h; obtain ⟨ca0, cb0, rfl, -, h⟩ := h_
  have h_ := Sat.roStr h; clear h; obtain ⟨rfl, i0, h⟩ := h_
  have h_ := Sat.splitRo h; clear h; obtain ⟨ca1, cb1, rfl, -, h⟩ := h_
  have h_ := Sat.roSl h; clear h; obtain ⟨A1, c1, rfl, h⟩ := h_
  replace h := Sat.swap h
  have h_ := Sat.roInt h; clear h; obtain ⟨rfl, i2, h⟩ := h_
  exact ⟨A1, c1, rfl, i0, i2, h⟩
theorem Sat.openOwnShape {w0 w : World} {Γ : List Fact} {cs : List Value} {x : ShapeD} (h : Sat w0 w (.own oShape cs x :: Γ)) :
    ∃ A1 c1, cs = [.string x.1, .slice A1 x.2.1.length c1, .int .i64 x.2.2] ∧ x.1.size ≤ maxLen ∧ I64 x.2.2 ∧ Sat w0 w (.own Rep.str.rows [.slice A1 x.2.1.length c1] x.2.1 :: Γ) := by
  have h_ := Sat.split h; clear h; obtain ⟨ca0, cb0, rfl, -, h⟩ := h_
  have h_ := Sat.ownStr h; clear h; obtain ⟨rfl, i0, h⟩ := h_
  have h_ := Sat.split h; clear h; obtain ⟨ca1, cb1, rfl, -, h⟩ := h_
  have h_ := Sat.ownSl h; clear h; obtain ⟨A1, c1, rfl, h⟩ := h_
  replace h := Sat.swap h
  have h_ := Sat.ownInt h; clear h; obtain ⟨rfl, i2, h⟩ := h_
  exact ⟨A1, c1, rfl, i0, i2, h⟩
theorem Sat.mkShape {w0 w : World} {Γ : List Fact} {x0 : ByteArray} (i0 : x0.size ≤ maxLen) {x1 : (List ByteArray)} {v1 : Value} {x2 : Int} (i2 : I64 x2) (h : Sat w0 w (.own Rep.str.rows [v1] x1 :: Γ)) : Sat w0 w (.own oShape [.string x0, v1, .int .i64 x2] (x0, x1, x2) :: Γ) := by
  replace h := h.int i2
  replace h := Sat.swap h
  replace h := Sat.pair h
  replace h := h.str i0
  replace h := Sat.pair h
  exact h
theorem Sat.cellsShape {w0 w : World} {Γ : List Fact} {cs : List Value} {x : ShapeD} (h : Sat w0 w Γ) (i : Nat) (hi : Γ[i]? = some (.own rShape cs x)) : ∃ A1 c1 , cs = [.string x.1, .slice A1 x.2.1.length c1, .int .i64 x.2.2] := by
  obtain ⟨F, hF⟩ := (h.pull i hi).readOwn rShape
  obtain ⟨A1, c1, _, h, _, _, _, _⟩ := rShape_open hF
  exact ⟨A1, c1, h⟩
theorem Sat.ocellsShape {w0 w : World} {Γ : List Fact} {cs : List Value} {x : ShapeD} (h : Sat w0 w Γ) (i : Nat) (hi : Γ[i]? = some (.own oShape cs x)) : ∃ A1 c1 , cs = [.string x.1, .slice A1 x.2.1.length c1, .int .i64 x.2.2] := by
  obtain ⟨F, hF⟩ := (h.pull i hi).readOwn rShape
  obtain ⟨A1, c1, _, h, _, _, _, _⟩ := rShape_open hF
  exact ⟨A1, c1, h⟩
theorem Sat.elShape {w0 w : World} {Γ : List Fact} {k i : Nat} {xs : List ShapeD} (A : Option Addr) (n c : Nat) (h : Sat w0 w Γ) [hi : RoIn Γ rShape.slice [.slice A n c] xs i] {x : ShapeD} (hx : xs[k]? = some x) :
    ∃ ad A1 c1, A = some ad ∧ x.1.size ≤ maxLen ∧ I64 x.2.2 ∧ Sat w0 w (.at (ad.add (k * 3)) [.string x.1, .slice A1 x.2.1.length c1, .int .i64 x.2.2] :: .ro Rep.str.slice [.slice A1 x.2.1.length c1] x.2.1 :: Γ) := by
  obtain ⟨ad, ck, rfl, hl, h⟩ := h.el rShape A n c hx
  obtain ⟨A1, c1, rfl, b0, b2, h⟩ := Sat.openRoShape (Sat.swap h)
  refine ⟨ad, A1, c1, rfl, b0, b2, ?_⟩
  exact h.pull 1 rfl

def oMemory : Rep MemoryD := Rep.pair ((oBlock.rows).rows) ((oBlock.rows))
instance : Sub oMemory rMemory := inferInstanceAs (Sub (Rep.pair ((oBlock.rows).rows) ((oBlock.rows))) (Rep.pair ((rBlock.slice).slice) ((rBlock.slice))))
theorem Sat.openRoMemory {w0 w : World} {Γ : List Fact} {cs : List Value} {x : MemoryD} (h : Sat w0 w (.ro rMemory cs x :: Γ)) :
    ∃ A0 c0 A1 c1, cs = [.slice A0 x.1.length c0, .slice A1 x.2.length c1] ∧ Sat w0 w (.ro rBlock.slice [.slice A1 x.2.length c1] x.2 :: .ro (rBlock.slice).slice [.slice A0 x.1.length c0] x.1 :: Γ) := by
  have h_ := Sat.splitRo h; clear h; obtain ⟨ca0, cb0, rfl, -, h⟩ := h_
  have h_ := Sat.roSl h; clear h; obtain ⟨A0, c0, rfl, h⟩ := h_
  replace h := Sat.swap h
  have h_ := Sat.roSl h; clear h; obtain ⟨A1, c1, rfl, h⟩ := h_
  exact ⟨A0, c0, A1, c1, rfl, h⟩
theorem Sat.openOwnMemory {w0 w : World} {Γ : List Fact} {cs : List Value} {x : MemoryD} (h : Sat w0 w (.own oMemory cs x :: Γ)) :
    ∃ A0 c0 A1 c1, cs = [.slice A0 x.1.length c0, .slice A1 x.2.length c1] ∧ Sat w0 w (.own oBlock.rows [.slice A1 x.2.length c1] x.2 :: .own (oBlock.rows).rows [.slice A0 x.1.length c0] x.1 :: Γ) := by
  have h_ := Sat.split h; clear h; obtain ⟨ca0, cb0, rfl, -, h⟩ := h_
  have h_ := Sat.ownSl h; clear h; obtain ⟨A0, c0, rfl, h⟩ := h_
  replace h := Sat.swap h
  have h_ := Sat.ownSl h; clear h; obtain ⟨A1, c1, rfl, h⟩ := h_
  exact ⟨A0, c0, A1, c1, rfl, h⟩
theorem Sat.mkMemory {w0 w : World} {Γ : List Fact} {x0 : (List (List BlockD))} {v0 : Value} {x1 : (List BlockD)} {v1 : Value} (h : Sat w0 w (.own oBlock.rows [v1] x1 :: .own (oBlock.rows).rows [v0] x0 :: Γ)) : Sat w0 w (.own oMemory [v0, v1] (x0, x1) :: Γ) := by
  replace h := Sat.swap h
  replace h := Sat.pair h
  exact h
theorem Sat.cellsMemory {w0 w : World} {Γ : List Fact} {cs : List Value} {x : MemoryD} (h : Sat w0 w Γ) (i : Nat) (hi : Γ[i]? = some (.own rMemory cs x)) : ∃ A0 c0 A1 c1 , cs = [.slice A0 x.1.length c0, .slice A1 x.2.length c1] := by
  obtain ⟨F, hF⟩ := (h.pull i hi).readOwn rMemory
  obtain ⟨A0, c0, _, A1, c1, _, h, _, _, _⟩ := rMemory_open hF
  exact ⟨A0, c0, A1, c1, h⟩
theorem Sat.ocellsMemory {w0 w : World} {Γ : List Fact} {cs : List Value} {x : MemoryD} (h : Sat w0 w Γ) (i : Nat) (hi : Γ[i]? = some (.own oMemory cs x)) : ∃ A0 c0 A1 c1 , cs = [.slice A0 x.1.length c0, .slice A1 x.2.length c1] := by
  obtain ⟨F, hF⟩ := (h.pull i hi).readOwn rMemory
  obtain ⟨A0, c0, _, A1, c1, _, h, _, _, _⟩ := rMemory_open hF
  exact ⟨A0, c0, A1, c1, h⟩
theorem Sat.elMemory {w0 w : World} {Γ : List Fact} {k i : Nat} {xs : List MemoryD} (A : Option Addr) (n c : Nat) (h : Sat w0 w Γ) [hi : RoIn Γ rMemory.slice [.slice A n c] xs i] {x : MemoryD} (hx : xs[k]? = some x) :
    ∃ ad A0 c0 A1 c1, A = some ad ∧ Sat w0 w (.at (ad.add (k * 2)) [.slice A0 x.1.length c0, .slice A1 x.2.length c1] :: .ro rBlock.slice [.slice A1 x.2.length c1] x.2 :: .ro (rBlock.slice).slice [.slice A0 x.1.length c0] x.1 :: Γ) := by
  obtain ⟨ad, ck, rfl, hl, h⟩ := h.el rMemory A n c hx
  obtain ⟨A0, c0, A1, c1, rfl, h⟩ := Sat.openRoMemory (Sat.swap h)
  refine ⟨ad, A0, c0, A1, c1, rfl, ?_⟩
  exact h.pull 2 rfl

def oTable : Rep TableD := Rep.pair (Rep.str.rows) (((Rep.int.rows).rows))
instance : Sub oTable rTable := inferInstanceAs (Sub (Rep.pair (Rep.str.rows) (((Rep.int.rows).rows))) (Rep.pair (Rep.str.slice) (((Rep.int.slice).slice))))
theorem Sat.openRoTable {w0 w : World} {Γ : List Fact} {cs : List Value} {x : TableD} (h : Sat w0 w (.ro rTable cs x :: Γ)) :
    ∃ A0 c0 A1 c1, cs = [.slice A0 x.1.length c0, .slice A1 x.2.length c1] ∧ Sat w0 w (.ro (Rep.int.slice).slice [.slice A1 x.2.length c1] x.2 :: .ro Rep.str.slice [.slice A0 x.1.length c0] x.1 :: Γ) := by
  have h_ := Sat.splitRo h; clear h; obtain ⟨ca0, cb0, rfl, -, h⟩ := h_
  have h_ := Sat.roSl h; clear h; obtain ⟨A0, c0, rfl, h⟩ := h_
  replace h := Sat.swap h
  have h_ := Sat.roSl h; clear h; obtain ⟨A1, c1, rfl, h⟩ := h_
  exact ⟨A0, c0, A1, c1, rfl, h⟩
theorem Sat.openOwnTable {w0 w : World} {Γ : List Fact} {cs : List Value} {x : TableD} (h : Sat w0 w (.own oTable cs x :: Γ)) :
    ∃ A0 c0 A1 c1, cs = [.slice A0 x.1.length c0, .slice A1 x.2.length c1] ∧ Sat w0 w (.own (Rep.int.rows).rows [.slice A1 x.2.length c1] x.2 :: .own Rep.str.rows [.slice A0 x.1.length c0] x.1 :: Γ) := by
  have h_ := Sat.split h; clear h; obtain ⟨ca0, cb0, rfl, -, h⟩ := h_
  have h_ := Sat.ownSl h; clear h; obtain ⟨A0, c0, rfl, h⟩ := h_
  replace h := Sat.swap h
  have h_ := Sat.ownSl h; clear h; obtain ⟨A1, c1, rfl, h⟩ := h_
  exact ⟨A0, c0, A1, c1, rfl, h⟩
theorem Sat.mkTable {w0 w : World} {Γ : List Fact} {x0 : (List ByteArray)} {v0 : Value} {x1 : (List (List Int))} {v1 : Value} (h : Sat w0 w (.own (Rep.int.rows).rows [v1] x1 :: .own Rep.str.rows [v0] x0 :: Γ)) : Sat w0 w (.own oTable [v0, v1] (x0, x1) :: Γ) := by
  replace h := Sat.swap h
  replace h := Sat.pair h
  exact h
theorem Sat.cellsTable {w0 w : World} {Γ : List Fact} {cs : List Value} {x : TableD} (h : Sat w0 w Γ) (i : Nat) (hi : Γ[i]? = some (.own rTable cs x)) : ∃ A0 c0 A1 c1 , cs = [.slice A0 x.1.length c0, .slice A1 x.2.length c1] := by
  obtain ⟨F, hF⟩ := (h.pull i hi).readOwn rTable
  obtain ⟨A0, c0, _, A1, c1, _, h, _, _, _⟩ := rTable_open hF
  exact ⟨A0, c0, A1, c1, h⟩
theorem Sat.ocellsTable {w0 w : World} {Γ : List Fact} {cs : List Value} {x : TableD} (h : Sat w0 w Γ) (i : Nat) (hi : Γ[i]? = some (.own oTable cs x)) : ∃ A0 c0 A1 c1 , cs = [.slice A0 x.1.length c0, .slice A1 x.2.length c1] := by
  obtain ⟨F, hF⟩ := (h.pull i hi).readOwn rTable
  obtain ⟨A0, c0, _, A1, c1, _, h, _, _, _⟩ := rTable_open hF
  exact ⟨A0, c0, A1, c1, h⟩
theorem Sat.elTable {w0 w : World} {Γ : List Fact} {k i : Nat} {xs : List TableD} (A : Option Addr) (n c : Nat) (h : Sat w0 w Γ) [hi : RoIn Γ rTable.slice [.slice A n c] xs i] {x : TableD} (hx : xs[k]? = some x) :
    ∃ ad A0 c0 A1 c1, A = some ad ∧ Sat w0 w (.at (ad.add (k * 2)) [.slice A0 x.1.length c0, .slice A1 x.2.length c1] :: .ro (Rep.int.slice).slice [.slice A1 x.2.length c1] x.2 :: .ro Rep.str.slice [.slice A0 x.1.length c0] x.1 :: Γ) := by
  obtain ⟨ad, ck, rfl, hl, h⟩ := h.el rTable A n c hx
  obtain ⟨A0, c0, A1, c1, rfl, h⟩ := Sat.openRoTable (Sat.swap h)
  refine ⟨ad, A0, c0, A1, c1, rfl, ?_⟩
  exact h.pull 2 rfl

def oNamed : Rep NamedD := Rep.pair Rep.str (oTable)
instance : Sub oNamed rNamed := inferInstanceAs (Sub (Rep.pair Rep.str (oTable)) (Rep.pair Rep.str (rTable)))
theorem Sat.openRoNamed {w0 w : World} {Γ : List Fact} {cs : List Value} {x : NamedD} (h : Sat w0 w (.ro rNamed cs x :: Γ)) :
    ∃ A1 c1 A2 c2, cs = [.string x.1, .slice A1 x.2.1.length c1, .slice A2 x.2.2.length c2] ∧ x.1.size ≤ maxLen ∧ Sat w0 w (.ro (Rep.int.slice).slice [.slice A2 x.2.2.length c2] x.2.2 :: .ro Rep.str.slice [.slice A1 x.2.1.length c1] x.2.1 :: Γ) := by
  have h_ := Sat.splitRo h; clear h; obtain ⟨ca0, cb0, rfl, -, h⟩ := h_
  have h_ := Sat.roStr h; clear h; obtain ⟨rfl, i0, h⟩ := h_
  have h_ := Sat.splitRo h; clear h; obtain ⟨ca1, cb1, rfl, -, h⟩ := h_
  have h_ := Sat.roSl h; clear h; obtain ⟨A1, c1, rfl, h⟩ := h_
  replace h := Sat.swap h
  have h_ := Sat.roSl h; clear h; obtain ⟨A2, c2, rfl, h⟩ := h_
  exact ⟨A1, c1, A2, c2, rfl, i0, h⟩
theorem Sat.openOwnNamed {w0 w : World} {Γ : List Fact} {cs : List Value} {x : NamedD} (h : Sat w0 w (.own oNamed cs x :: Γ)) :
    ∃ A1 c1 A2 c2, cs = [.string x.1, .slice A1 x.2.1.length c1, .slice A2 x.2.2.length c2] ∧ x.1.size ≤ maxLen ∧ Sat w0 w (.own (Rep.int.rows).rows [.slice A2 x.2.2.length c2] x.2.2 :: .own Rep.str.rows [.slice A1 x.2.1.length c1] x.2.1 :: Γ) := by
  have h_ := Sat.split h; clear h; obtain ⟨ca0, cb0, rfl, -, h⟩ := h_
  have h_ := Sat.ownStr h; clear h; obtain ⟨rfl, i0, h⟩ := h_
  have h_ := Sat.split h; clear h; obtain ⟨ca1, cb1, rfl, -, h⟩ := h_
  have h_ := Sat.ownSl h; clear h; obtain ⟨A1, c1, rfl, h⟩ := h_
  replace h := Sat.swap h
  have h_ := Sat.ownSl h; clear h; obtain ⟨A2, c2, rfl, h⟩ := h_
  exact ⟨A1, c1, A2, c2, rfl, i0, h⟩
theorem Sat.mkNamed {w0 w : World} {Γ : List Fact} {x0 : ByteArray} (i0 : x0.size ≤ maxLen) {x1 : (List ByteArray)} {v1 : Value} {x2 : (List (List Int))} {v2 : Value} (h : Sat w0 w (.own (Rep.int.rows).rows [v2] x2 :: .own Rep.str.rows [v1] x1 :: Γ)) : Sat w0 w (.own oNamed [.string x0, v1, v2] (x0, (x1, x2)) :: Γ) := by
  replace h := Sat.swap h
  replace h := Sat.pair h
  replace h := h.str i0
  replace h := Sat.pair h
  exact h
theorem Sat.cellsNamed {w0 w : World} {Γ : List Fact} {cs : List Value} {x : NamedD} (h : Sat w0 w Γ) (i : Nat) (hi : Γ[i]? = some (.own rNamed cs x)) : ∃ A1 c1 A2 c2 , cs = [.string x.1, .slice A1 x.2.1.length c1, .slice A2 x.2.2.length c2] := by
  obtain ⟨F, hF⟩ := (h.pull i hi).readOwn rNamed
  obtain ⟨A1, c1, _, A2, c2, _, h, _, _, _, _⟩ := rNamed_open hF
  exact ⟨A1, c1, A2, c2, h⟩
theorem Sat.ocellsNamed {w0 w : World} {Γ : List Fact} {cs : List Value} {x : NamedD} (h : Sat w0 w Γ) (i : Nat) (hi : Γ[i]? = some (.own oNamed cs x)) : ∃ A1 c1 A2 c2 , cs = [.string x.1, .slice A1 x.2.1.length c1, .slice A2 x.2.2.length c2] := by
  obtain ⟨F, hF⟩ := (h.pull i hi).readOwn rNamed
  obtain ⟨A1, c1, _, A2, c2, _, h, _, _, _, _⟩ := rNamed_open hF
  exact ⟨A1, c1, A2, c2, h⟩
theorem Sat.elNamed {w0 w : World} {Γ : List Fact} {k i : Nat} {xs : List NamedD} (A : Option Addr) (n c : Nat) (h : Sat w0 w Γ) [hi : RoIn Γ rNamed.slice [.slice A n c] xs i] {x : NamedD} (hx : xs[k]? = some x) :
    ∃ ad A1 c1 A2 c2, A = some ad ∧ x.1.size ≤ maxLen ∧ Sat w0 w (.at (ad.add (k * 3)) [.string x.1, .slice A1 x.2.1.length c1, .slice A2 x.2.2.length c2] :: .ro (Rep.int.slice).slice [.slice A2 x.2.2.length c2] x.2.2 :: .ro Rep.str.slice [.slice A1 x.2.1.length c1] x.2.1 :: Γ) := by
  obtain ⟨ad, ck, rfl, hl, h⟩ := h.el rNamed A n c hx
  obtain ⟨A1, c1, A2, c2, rfl, b0, h⟩ := Sat.openRoNamed (Sat.swap h)
  refine ⟨ad, A1, c1, A2, c2, rfl, b0, ?_⟩
  exact h.pull 2 rfl

def oPadded : Rep PaddedD := Rep.pair (Rep.str.rows) (Rep.pair ((Rep.int.rows).rows) ((Rep.bool.rows)))
instance : Sub oPadded rPadded := inferInstanceAs (Sub (Rep.pair (Rep.str.rows) (Rep.pair ((Rep.int.rows).rows) ((Rep.bool.rows)))) (Rep.pair (Rep.str.slice) (Rep.pair ((Rep.int.slice).slice) ((Rep.bool.slice)))))
theorem Sat.openRoPadded {w0 w : World} {Γ : List Fact} {cs : List Value} {x : PaddedD} (h : Sat w0 w (.ro rPadded cs x :: Γ)) :
    ∃ A0 c0 A1 c1 A2 c2, cs = [.slice A0 x.1.length c0, .slice A1 x.2.1.length c1, .slice A2 x.2.2.length c2] ∧ Sat w0 w (.ro Rep.bool.slice [.slice A2 x.2.2.length c2] x.2.2 :: .ro (Rep.int.slice).slice [.slice A1 x.2.1.length c1] x.2.1 :: .ro Rep.str.slice [.slice A0 x.1.length c0] x.1 :: Γ) := by
  have h_ := Sat.splitRo h; clear h; obtain ⟨ca0, cb0, rfl, -, h⟩ := h_
  have h_ := Sat.roSl h; clear h; obtain ⟨A0, c0, rfl, h⟩ := h_
  replace h := Sat.swap h
  have h_ := Sat.splitRo h; clear h; obtain ⟨ca1, cb1, rfl, -, h⟩ := h_
  have h_ := Sat.roSl h; clear h; obtain ⟨A1, c1, rfl, h⟩ := h_
  replace h := Sat.swap h
  have h_ := Sat.roSl h; clear h; obtain ⟨A2, c2, rfl, h⟩ := h_
  exact ⟨A0, c0, A1, c1, A2, c2, rfl, h⟩
theorem Sat.openOwnPadded {w0 w : World} {Γ : List Fact} {cs : List Value} {x : PaddedD} (h : Sat w0 w (.own oPadded cs x :: Γ)) :
    ∃ A0 c0 A1 c1 A2 c2, cs = [.slice A0 x.1.length c0, .slice A1 x.2.1.length c1, .slice A2 x.2.2.length c2] ∧ Sat w0 w (.own Rep.bool.rows [.slice A2 x.2.2.length c2] x.2.2 :: .own (Rep.int.rows).rows [.slice A1 x.2.1.length c1] x.2.1 :: .own Rep.str.rows [.slice A0 x.1.length c0] x.1 :: Γ) := by
  have h_ := Sat.split h; clear h; obtain ⟨ca0, cb0, rfl, -, h⟩ := h_
  have h_ := Sat.ownSl h; clear h; obtain ⟨A0, c0, rfl, h⟩ := h_
  replace h := Sat.swap h
  have h_ := Sat.split h; clear h; obtain ⟨ca1, cb1, rfl, -, h⟩ := h_
  have h_ := Sat.ownSl h; clear h; obtain ⟨A1, c1, rfl, h⟩ := h_
  replace h := Sat.swap h
  have h_ := Sat.ownSl h; clear h; obtain ⟨A2, c2, rfl, h⟩ := h_
  exact ⟨A0, c0, A1, c1, A2, c2, rfl, h⟩
theorem Sat.mkPadded {w0 w : World} {Γ : List Fact} {x0 : (List ByteArray)} {v0 : Value} {x1 : (List (List Int))} {v1 : Value} {x2 : (List Bool)} {v2 : Value} (h : Sat w0 w (.own Rep.bool.rows [v2] x2 :: .own (Rep.int.rows).rows [v1] x1 :: .own Rep.str.rows [v0] x0 :: Γ)) : Sat w0 w (.own oPadded [v0, v1, v2] (x0, x1, x2) :: Γ) := by
  replace h := Sat.swap h
  replace h := Sat.pair h
  replace h := Sat.swap h
  replace h := Sat.pair h
  exact h
theorem Sat.cellsPadded {w0 w : World} {Γ : List Fact} {cs : List Value} {x : PaddedD} (h : Sat w0 w Γ) (i : Nat) (hi : Γ[i]? = some (.own rPadded cs x)) : ∃ A0 c0 A1 c1 A2 c2 , cs = [.slice A0 x.1.length c0, .slice A1 x.2.1.length c1, .slice A2 x.2.2.length c2] := by
  obtain ⟨F, hF⟩ := (h.pull i hi).readOwn rPadded
  obtain ⟨A0, c0, _, A1, c1, _, A2, c2, _, h, _, _, _, _⟩ := rPadded_open hF
  exact ⟨A0, c0, A1, c1, A2, c2, h⟩
theorem Sat.ocellsPadded {w0 w : World} {Γ : List Fact} {cs : List Value} {x : PaddedD} (h : Sat w0 w Γ) (i : Nat) (hi : Γ[i]? = some (.own oPadded cs x)) : ∃ A0 c0 A1 c1 A2 c2 , cs = [.slice A0 x.1.length c0, .slice A1 x.2.1.length c1, .slice A2 x.2.2.length c2] := by
  obtain ⟨F, hF⟩ := (h.pull i hi).readOwn rPadded
  obtain ⟨A0, c0, _, A1, c1, _, A2, c2, _, h, _, _, _, _⟩ := rPadded_open hF
  exact ⟨A0, c0, A1, c1, A2, c2, h⟩
theorem Sat.elPadded {w0 w : World} {Γ : List Fact} {k i : Nat} {xs : List PaddedD} (A : Option Addr) (n c : Nat) (h : Sat w0 w Γ) [hi : RoIn Γ rPadded.slice [.slice A n c] xs i] {x : PaddedD} (hx : xs[k]? = some x) :
    ∃ ad A0 c0 A1 c1 A2 c2, A = some ad ∧ Sat w0 w (.at (ad.add (k * 3)) [.slice A0 x.1.length c0, .slice A1 x.2.1.length c1, .slice A2 x.2.2.length c2] :: .ro Rep.bool.slice [.slice A2 x.2.2.length c2] x.2.2 :: .ro (Rep.int.slice).slice [.slice A1 x.2.1.length c1] x.2.1 :: .ro Rep.str.slice [.slice A0 x.1.length c0] x.1 :: Γ) := by
  obtain ⟨ad, ck, rfl, hl, h⟩ := h.el rPadded A n c hx
  obtain ⟨A0, c0, A1, c1, A2, c2, rfl, h⟩ := Sat.openRoPadded (Sat.swap h)
  refine ⟨ad, A0, c0, A1, c1, A2, c2, rfl, ?_⟩
  exact h.pull 3 rfl

def oStep : Rep StepD := Rep.pair Rep.int (Rep.pair Rep.str (Rep.pair Rep.str (Rep.pair Rep.str (Rep.pair ((oTest.rows).rows) (Rep.pair (Rep.str.rows) (Rep.pair Rep.bool (Rep.int)))))))
instance : Sub oStep rStep := inferInstanceAs (Sub (Rep.pair Rep.int (Rep.pair Rep.str (Rep.pair Rep.str (Rep.pair Rep.str (Rep.pair ((oTest.rows).rows) (Rep.pair (Rep.str.rows) (Rep.pair Rep.bool (Rep.int)))))))) (Rep.pair Rep.int (Rep.pair Rep.str (Rep.pair Rep.str (Rep.pair Rep.str (Rep.pair ((rTest.slice).slice) (Rep.pair (Rep.str.slice) (Rep.pair Rep.bool (Rep.int)))))))))
theorem Sat.openRoStep {w0 w : World} {Γ : List Fact} {cs : List Value} {x : StepD} (h : Sat w0 w (.ro rStep cs x :: Γ)) :
    ∃ A4 c4 A5 c5, cs = [.int .i64 x.1, .string x.2.1, .string x.2.2.1, .string x.2.2.2.1, .slice A4 x.2.2.2.2.1.length c4, .slice A5 x.2.2.2.2.2.1.length c5, .bool x.2.2.2.2.2.2.1, .int .i64 x.2.2.2.2.2.2.2] ∧ I64 x.1 ∧ x.2.1.size ≤ maxLen ∧ x.2.2.1.size ≤ maxLen ∧ x.2.2.2.1.size ≤ maxLen ∧ I64 x.2.2.2.2.2.2.2 ∧ Sat w0 w (.ro Rep.str.slice [.slice A5 x.2.2.2.2.2.1.length c5] x.2.2.2.2.2.1 :: .ro (rTest.slice).slice [.slice A4 x.2.2.2.2.1.length c4] x.2.2.2.2.1 :: Γ) := by
  have h_ := Sat.splitRo h; clear h; obtain ⟨ca0, cb0, rfl, -, h⟩ := h_
  have h_ := Sat.roInt h; clear h; obtain ⟨rfl, i0, h⟩ := h_
  have h_ := Sat.splitRo h; clear h; obtain ⟨ca1, cb1, rfl, -, h⟩ := h_
  have h_ := Sat.roStr h; clear h; obtain ⟨rfl, i1, h⟩ := h_
  have h_ := Sat.splitRo h; clear h; obtain ⟨ca2, cb2, rfl, -, h⟩ := h_
  have h_ := Sat.roStr h; clear h; obtain ⟨rfl, i2, h⟩ := h_
  have h_ := Sat.splitRo h; clear h; obtain ⟨ca3, cb3, rfl, -, h⟩ := h_
  have h_ := Sat.roStr h; clear h; obtain ⟨rfl, i3, h⟩ := h_
  have h_ := Sat.splitRo h; clear h; obtain ⟨ca4, cb4, rfl, -, h⟩ := h_
  have h_ := Sat.roSl h; clear h; obtain ⟨A4, c4, rfl, h⟩ := h_
  replace h := Sat.swap h
  have h_ := Sat.splitRo h; clear h; obtain ⟨ca5, cb5, rfl, -, h⟩ := h_
  have h_ := Sat.roSl h; clear h; obtain ⟨A5, c5, rfl, h⟩ := h_
  replace h := Sat.swap h
  have h_ := Sat.splitRo h; clear h; obtain ⟨ca6, cb6, rfl, -, h⟩ := h_
  have h_ := Sat.roBool h; clear h; obtain ⟨rfl, h⟩ := h_
  have h_ := Sat.roInt h; clear h; obtain ⟨rfl, i7, h⟩ := h_
  exact ⟨A4, c4, A5, c5, rfl, i0, i1, i2, i3, i7, h⟩
theorem Sat.openOwnStep {w0 w : World} {Γ : List Fact} {cs : List Value} {x : StepD} (h : Sat w0 w (.own oStep cs x :: Γ)) :
    ∃ A4 c4 A5 c5, cs = [.int .i64 x.1, .string x.2.1, .string x.2.2.1, .string x.2.2.2.1, .slice A4 x.2.2.2.2.1.length c4, .slice A5 x.2.2.2.2.2.1.length c5, .bool x.2.2.2.2.2.2.1, .int .i64 x.2.2.2.2.2.2.2] ∧ I64 x.1 ∧ x.2.1.size ≤ maxLen ∧ x.2.2.1.size ≤ maxLen ∧ x.2.2.2.1.size ≤ maxLen ∧ I64 x.2.2.2.2.2.2.2 ∧ Sat w0 w (.own Rep.str.rows [.slice A5 x.2.2.2.2.2.1.length c5] x.2.2.2.2.2.1 :: .own (oTest.rows).rows [.slice A4 x.2.2.2.2.1.length c4] x.2.2.2.2.1 :: Γ) := by
  have h_ := Sat.split h; clear h; obtain ⟨ca0, cb0, rfl, -, h⟩ := h_
  have h_ := Sat.ownInt h; clear h; obtain ⟨rfl, i0, h⟩ := h_
  have h_ := Sat.split h; clear h; obtain ⟨ca1, cb1, rfl, -, h⟩ := h_
  have h_ := Sat.ownStr h; clear h; obtain ⟨rfl, i1, h⟩ := h_
  have h_ := Sat.split h; clear h; obtain ⟨ca2, cb2, rfl, -, h⟩ := h_
  have h_ := Sat.ownStr h; clear h; obtain ⟨rfl, i2, h⟩ := h_
  have h_ := Sat.split h; clear h; obtain ⟨ca3, cb3, rfl, -, h⟩ := h_
  have h_ := Sat.ownStr h; clear h; obtain ⟨rfl, i3, h⟩ := h_
  have h_ := Sat.split h; clear h; obtain ⟨ca4, cb4, rfl, -, h⟩ := h_
  have h_ := Sat.ownSl h; clear h; obtain ⟨A4, c4, rfl, h⟩ := h_
  replace h := Sat.swap h
  have h_ := Sat.split h; clear h; obtain ⟨ca5, cb5, rfl, -, h⟩ := h_
  have h_ := Sat.ownSl h; clear h; obtain ⟨A5, c5, rfl, h⟩ := h_
  replace h := Sat.swap h
  have h_ := Sat.split h; clear h; obtain ⟨ca6, cb6, rfl, -, h⟩ := h_
  have h_ := Sat.ownBool h; clear h; obtain ⟨rfl, h⟩ := h_
  have h_ := Sat.ownInt h; clear h; obtain ⟨rfl, i7, h⟩ := h_
  exact ⟨A4, c4, A5, c5, rfl, i0, i1, i2, i3, i7, h⟩
theorem Sat.mkStep {w0 w : World} {Γ : List Fact} {x0 : Int} (i0 : I64 x0) {x1 : ByteArray} (i1 : x1.size ≤ maxLen) {x2 : ByteArray} (i2 : x2.size ≤ maxLen) {x3 : ByteArray} (i3 : x3.size ≤ maxLen) {x4 : (List (List TestD))} {v4 : Value} {x5 : (List ByteArray)} {v5 : Value} (x6 : Bool) {x7 : Int} (i7 : I64 x7) (h : Sat w0 w (.own Rep.str.rows [v5] x5 :: .own (oTest.rows).rows [v4] x4 :: Γ)) : Sat w0 w (.own oStep [.int .i64 x0, .string x1, .string x2, .string x3, v4, v5, .bool x6, .int .i64 x7] (x0, x1, x2, x3, x4, x5, x6, x7) :: Γ) := by
  replace h := h.int i7
  replace h := h.bool x6
  replace h := Sat.pair h
  replace h := Sat.swap h
  replace h := Sat.pair h
  replace h := Sat.swap h
  replace h := Sat.pair h
  replace h := h.str i3
  replace h := Sat.pair h
  replace h := h.str i2
  replace h := Sat.pair h
  replace h := h.str i1
  replace h := Sat.pair h
  replace h := h.int i0
  replace h := Sat.pair h
  exact h
theorem Sat.cellsStep {w0 w : World} {Γ : List Fact} {cs : List Value} {x : StepD} (h : Sat w0 w Γ) (i : Nat) (hi : Γ[i]? = some (.own rStep cs x)) : ∃ A4 c4 A5 c5 , cs = [.int .i64 x.1, .string x.2.1, .string x.2.2.1, .string x.2.2.2.1, .slice A4 x.2.2.2.2.1.length c4, .slice A5 x.2.2.2.2.2.1.length c5, .bool x.2.2.2.2.2.2.1, .int .i64 x.2.2.2.2.2.2.2] := by
  obtain ⟨F, hF⟩ := (h.pull i hi).readOwn rStep
  obtain ⟨A4, c4, _, A5, c5, _, h, _, _, _, _, _, _, _, _⟩ := rStep_open hF
  exact ⟨A4, c4, A5, c5, h⟩
theorem Sat.ocellsStep {w0 w : World} {Γ : List Fact} {cs : List Value} {x : StepD} (h : Sat w0 w Γ) (i : Nat) (hi : Γ[i]? = some (.own oStep cs x)) : ∃ A4 c4 A5 c5 , cs = [.int .i64 x.1, .string x.2.1, .string x.2.2.1, .string x.2.2.2.1, .slice A4 x.2.2.2.2.1.length c4, .slice A5 x.2.2.2.2.2.1.length c5, .bool x.2.2.2.2.2.2.1, .int .i64 x.2.2.2.2.2.2.2] := by
  obtain ⟨F, hF⟩ := (h.pull i hi).readOwn rStep
  obtain ⟨A4, c4, _, A5, c5, _, h, _, _, _, _, _, _, _, _⟩ := rStep_open hF
  exact ⟨A4, c4, A5, c5, h⟩
theorem Sat.elStep {w0 w : World} {Γ : List Fact} {k i : Nat} {xs : List StepD} (A : Option Addr) (n c : Nat) (h : Sat w0 w Γ) [hi : RoIn Γ rStep.slice [.slice A n c] xs i] {x : StepD} (hx : xs[k]? = some x) :
    ∃ ad A4 c4 A5 c5, A = some ad ∧ I64 x.1 ∧ x.2.1.size ≤ maxLen ∧ x.2.2.1.size ≤ maxLen ∧ x.2.2.2.1.size ≤ maxLen ∧ I64 x.2.2.2.2.2.2.2 ∧ Sat w0 w (.at (ad.add (k * 8)) [.int .i64 x.1, .string x.2.1, .string x.2.2.1, .string x.2.2.2.1, .slice A4 x.2.2.2.2.1.length c4, .slice A5 x.2.2.2.2.2.1.length c5, .bool x.2.2.2.2.2.2.1, .int .i64 x.2.2.2.2.2.2.2] :: .ro Rep.str.slice [.slice A5 x.2.2.2.2.2.1.length c5] x.2.2.2.2.2.1 :: .ro (rTest.slice).slice [.slice A4 x.2.2.2.2.1.length c4] x.2.2.2.2.1 :: Γ) := by
  obtain ⟨ad, ck, rfl, hl, h⟩ := h.el rStep A n c hx
  obtain ⟨A4, c4, A5, c5, rfl, b0, b1, b2, b3, b7, h⟩ := Sat.openRoStep (Sat.swap h)
  refine ⟨ad, A4, c4, A5, c5, rfl, b0, b1, b2, b3, b7, ?_⟩
  exact h.pull 2 rfl

def oQuery : Rep QueryD := Rep.pair (Rep.str.rows) (Rep.pair Rep.str (Rep.pair Rep.str (Rep.pair Rep.str (Rep.pair Rep.str (Rep.pair ((oTest.rows).rows) (Rep.pair Rep.str (Rep.pair Rep.str (Rep.pair Rep.str (Rep.pair Rep.bool (Rep.int))))))))))
instance : Sub oQuery rQuery := inferInstanceAs (Sub (Rep.pair (Rep.str.rows) (Rep.pair Rep.str (Rep.pair Rep.str (Rep.pair Rep.str (Rep.pair Rep.str (Rep.pair ((oTest.rows).rows) (Rep.pair Rep.str (Rep.pair Rep.str (Rep.pair Rep.str (Rep.pair Rep.bool (Rep.int))))))))))) (Rep.pair (Rep.str.slice) (Rep.pair Rep.str (Rep.pair Rep.str (Rep.pair Rep.str (Rep.pair Rep.str (Rep.pair ((rTest.slice).slice) (Rep.pair Rep.str (Rep.pair Rep.str (Rep.pair Rep.str (Rep.pair Rep.bool (Rep.int))))))))))))
theorem Sat.openRoQuery {w0 w : World} {Γ : List Fact} {cs : List Value} {x : QueryD} (h : Sat w0 w (.ro rQuery cs x :: Γ)) :
    ∃ A0 c0 A5 c5, cs = [.slice A0 x.1.length c0, .string x.2.1, .string x.2.2.1, .string x.2.2.2.1, .string x.2.2.2.2.1, .slice A5 x.2.2.2.2.2.1.length c5, .string x.2.2.2.2.2.2.1, .string x.2.2.2.2.2.2.2.1, .string x.2.2.2.2.2.2.2.2.1, .bool x.2.2.2.2.2.2.2.2.2.1, .int .i64 x.2.2.2.2.2.2.2.2.2.2] ∧ x.2.1.size ≤ maxLen ∧ x.2.2.1.size ≤ maxLen ∧ x.2.2.2.1.size ≤ maxLen ∧ x.2.2.2.2.1.size ≤ maxLen ∧ x.2.2.2.2.2.2.1.size ≤ maxLen ∧ x.2.2.2.2.2.2.2.1.size ≤ maxLen ∧ x.2.2.2.2.2.2.2.2.1.size ≤ maxLen ∧ I64 x.2.2.2.2.2.2.2.2.2.2 ∧ Sat w0 w (.ro (rTest.slice).slice [.slice A5 x.2.2.2.2.2.1.length c5] x.2.2.2.2.2.1 :: .ro Rep.str.slice [.slice A0 x.1.length c0] x.1 :: Γ) := by
  have h_ := Sat.splitRo h; clear h; obtain ⟨ca0, cb0, rfl, -, h⟩ := h_
  have h_ := Sat.roSl h; clear h; obtain ⟨A0, c0, rfl, h⟩ := h_
  replace h := Sat.swap h
  have h_ := Sat.splitRo h; clear h; obtain ⟨ca1, cb1, rfl, -, h⟩ := h_
  have h_ := Sat.roStr h; clear h; obtain ⟨rfl, i1, h⟩ := h_
  have h_ := Sat.splitRo h; clear h; obtain ⟨ca2, cb2, rfl, -, h⟩ := h_
  have h_ := Sat.roStr h; clear h; obtain ⟨rfl, i2, h⟩ := h_
  have h_ := Sat.splitRo h; clear h; obtain ⟨ca3, cb3, rfl, -, h⟩ := h_
  have h_ := Sat.roStr h; clear h; obtain ⟨rfl, i3, h⟩ := h_
  have h_ := Sat.splitRo h; clear h; obtain ⟨ca4, cb4, rfl, -, h⟩ := h_
  have h_ := Sat.roStr h; clear h; obtain ⟨rfl, i4, h⟩ := h_
  have h_ := Sat.splitRo h; clear h; obtain ⟨ca5, cb5, rfl, -, h⟩ := h_
  have h_ := Sat.roSl h; clear h; obtain ⟨A5, c5, rfl, h⟩ := h_
  replace h := Sat.swap h
  have h_ := Sat.splitRo h; clear h; obtain ⟨ca6, cb6, rfl, -, h⟩ := h_
  have h_ := Sat.roStr h; clear h; obtain ⟨rfl, i6, h⟩ := h_
  have h_ := Sat.splitRo h; clear h; obtain ⟨ca7, cb7, rfl, -, h⟩ := h_
  have h_ := Sat.roStr h; clear h; obtain ⟨rfl, i7, h⟩ := h_
  have h_ := Sat.splitRo h; clear h; obtain ⟨ca8, cb8, rfl, -, h⟩ := h_
  have h_ := Sat.roStr h; clear h; obtain ⟨rfl, i8, h⟩ := h_
  have h_ := Sat.splitRo h; clear h; obtain ⟨ca9, cb9, rfl, -, h⟩ := h_
  have h_ := Sat.roBool h; clear h; obtain ⟨rfl, h⟩ := h_
  have h_ := Sat.roInt h; clear h; obtain ⟨rfl, i10, h⟩ := h_
  exact ⟨A0, c0, A5, c5, rfl, i1, i2, i3, i4, i6, i7, i8, i10, h⟩
theorem Sat.openOwnQuery {w0 w : World} {Γ : List Fact} {cs : List Value} {x : QueryD} (h : Sat w0 w (.own oQuery cs x :: Γ)) :
    ∃ A0 c0 A5 c5, cs = [.slice A0 x.1.length c0, .string x.2.1, .string x.2.2.1, .string x.2.2.2.1, .string x.2.2.2.2.1, .slice A5 x.2.2.2.2.2.1.length c5, .string x.2.2.2.2.2.2.1, .string x.2.2.2.2.2.2.2.1, .string x.2.2.2.2.2.2.2.2.1, .bool x.2.2.2.2.2.2.2.2.2.1, .int .i64 x.2.2.2.2.2.2.2.2.2.2] ∧ x.2.1.size ≤ maxLen ∧ x.2.2.1.size ≤ maxLen ∧ x.2.2.2.1.size ≤ maxLen ∧ x.2.2.2.2.1.size ≤ maxLen ∧ x.2.2.2.2.2.2.1.size ≤ maxLen ∧ x.2.2.2.2.2.2.2.1.size ≤ maxLen ∧ x.2.2.2.2.2.2.2.2.1.size ≤ maxLen ∧ I64 x.2.2.2.2.2.2.2.2.2.2 ∧ Sat w0 w (.own (oTest.rows).rows [.slice A5 x.2.2.2.2.2.1.length c5] x.2.2.2.2.2.1 :: .own Rep.str.rows [.slice A0 x.1.length c0] x.1 :: Γ) := by
  have h_ := Sat.split h; clear h; obtain ⟨ca0, cb0, rfl, -, h⟩ := h_
  have h_ := Sat.ownSl h; clear h; obtain ⟨A0, c0, rfl, h⟩ := h_
  replace h := Sat.swap h
  have h_ := Sat.split h; clear h; obtain ⟨ca1, cb1, rfl, -, h⟩ := h_
  have h_ := Sat.ownStr h; clear h; obtain ⟨rfl, i1, h⟩ := h_
  have h_ := Sat.split h; clear h; obtain ⟨ca2, cb2, rfl, -, h⟩ := h_
  have h_ := Sat.ownStr h; clear h; obtain ⟨rfl, i2, h⟩ := h_
  have h_ := Sat.split h; clear h; obtain ⟨ca3, cb3, rfl, -, h⟩ := h_
  have h_ := Sat.ownStr h; clear h; obtain ⟨rfl, i3, h⟩ := h_
  have h_ := Sat.split h; clear h; obtain ⟨ca4, cb4, rfl, -, h⟩ := h_
  have h_ := Sat.ownStr h; clear h; obtain ⟨rfl, i4, h⟩ := h_
  have h_ := Sat.split h; clear h; obtain ⟨ca5, cb5, rfl, -, h⟩ := h_
  have h_ := Sat.ownSl h; clear h; obtain ⟨A5, c5, rfl, h⟩ := h_
  replace h := Sat.swap h
  have h_ := Sat.split h; clear h; obtain ⟨ca6, cb6, rfl, -, h⟩ := h_
  have h_ := Sat.ownStr h; clear h; obtain ⟨rfl, i6, h⟩ := h_
  have h_ := Sat.split h; clear h; obtain ⟨ca7, cb7, rfl, -, h⟩ := h_
  have h_ := Sat.ownStr h; clear h; obtain ⟨rfl, i7, h⟩ := h_
  have h_ := Sat.split h; clear h; obtain ⟨ca8, cb8, rfl, -, h⟩ := h_
  have h_ := Sat.ownStr h; clear h; obtain ⟨rfl, i8, h⟩ := h_
  have h_ := Sat.split h; clear h; obtain ⟨ca9, cb9, rfl, -, h⟩ := h_
  have h_ := Sat.ownBool h; clear h; obtain ⟨rfl, h⟩ := h_
  have h_ := Sat.ownInt h; clear h; obtain ⟨rfl, i10, h⟩ := h_
  exact ⟨A0, c0, A5, c5, rfl, i1, i2, i3, i4, i6, i7, i8, i10, h⟩
theorem Sat.mkQuery {w0 w : World} {Γ : List Fact} {x0 : (List ByteArray)} {v0 : Value} {x1 : ByteArray} (i1 : x1.size ≤ maxLen) {x2 : ByteArray} (i2 : x2.size ≤ maxLen) {x3 : ByteArray} (i3 : x3.size ≤ maxLen) {x4 : ByteArray} (i4 : x4.size ≤ maxLen) {x5 : (List (List TestD))} {v5 : Value} {x6 : ByteArray} (i6 : x6.size ≤ maxLen) {x7 : ByteArray} (i7 : x7.size ≤ maxLen) {x8 : ByteArray} (i8 : x8.size ≤ maxLen) (x9 : Bool) {x10 : Int} (i10 : I64 x10) (h : Sat w0 w (.own (oTest.rows).rows [v5] x5 :: .own Rep.str.rows [v0] x0 :: Γ)) : Sat w0 w (.own oQuery [v0, .string x1, .string x2, .string x3, .string x4, v5, .string x6, .string x7, .string x8, .bool x9, .int .i64 x10] (x0, x1, x2, x3, x4, x5, x6, x7, x8, x9, x10) :: Γ) := by
  replace h := h.int i10
  replace h := h.bool x9
  replace h := Sat.pair h
  replace h := h.str i8
  replace h := Sat.pair h
  replace h := h.str i7
  replace h := Sat.pair h
  replace h := h.str i6
  replace h := Sat.pair h
  replace h := Sat.swap h
  replace h := Sat.pair h
  replace h := h.str i4
  replace h := Sat.pair h
  replace h := h.str i3
  replace h := Sat.pair h
  replace h := h.str i2
  replace h := Sat.pair h
  replace h := h.str i1
  replace h := Sat.pair h
  replace h := Sat.swap h
  replace h := Sat.pair h
  exact h
theorem Sat.cellsQuery {w0 w : World} {Γ : List Fact} {cs : List Value} {x : QueryD} (h : Sat w0 w Γ) (i : Nat) (hi : Γ[i]? = some (.own rQuery cs x)) : ∃ A0 c0 A5 c5 , cs = [.slice A0 x.1.length c0, .string x.2.1, .string x.2.2.1, .string x.2.2.2.1, .string x.2.2.2.2.1, .slice A5 x.2.2.2.2.2.1.length c5, .string x.2.2.2.2.2.2.1, .string x.2.2.2.2.2.2.2.1, .string x.2.2.2.2.2.2.2.2.1, .bool x.2.2.2.2.2.2.2.2.2.1, .int .i64 x.2.2.2.2.2.2.2.2.2.2] := by
  obtain ⟨F, hF⟩ := (h.pull i hi).readOwn rQuery
  obtain ⟨A0, c0, _, A5, c5, _, h, _, _, _, _, _, _, _, _, _, _, _⟩ := rQuery_open hF
  exact ⟨A0, c0, A5, c5, h⟩
theorem Sat.ocellsQuery {w0 w : World} {Γ : List Fact} {cs : List Value} {x : QueryD} (h : Sat w0 w Γ) (i : Nat) (hi : Γ[i]? = some (.own oQuery cs x)) : ∃ A0 c0 A5 c5 , cs = [.slice A0 x.1.length c0, .string x.2.1, .string x.2.2.1, .string x.2.2.2.1, .string x.2.2.2.2.1, .slice A5 x.2.2.2.2.2.1.length c5, .string x.2.2.2.2.2.2.1, .string x.2.2.2.2.2.2.2.1, .string x.2.2.2.2.2.2.2.2.1, .bool x.2.2.2.2.2.2.2.2.2.1, .int .i64 x.2.2.2.2.2.2.2.2.2.2] := by
  obtain ⟨F, hF⟩ := (h.pull i hi).readOwn rQuery
  obtain ⟨A0, c0, _, A5, c5, _, h, _, _, _, _, _, _, _, _, _, _, _⟩ := rQuery_open hF
  exact ⟨A0, c0, A5, c5, h⟩
theorem Sat.elQuery {w0 w : World} {Γ : List Fact} {k i : Nat} {xs : List QueryD} (A : Option Addr) (n c : Nat) (h : Sat w0 w Γ) [hi : RoIn Γ rQuery.slice [.slice A n c] xs i] {x : QueryD} (hx : xs[k]? = some x) :
    ∃ ad A0 c0 A5 c5, A = some ad ∧ x.2.1.size ≤ maxLen ∧ x.2.2.1.size ≤ maxLen ∧ x.2.2.2.1.size ≤ maxLen ∧ x.2.2.2.2.1.size ≤ maxLen ∧ x.2.2.2.2.2.2.1.size ≤ maxLen ∧ x.2.2.2.2.2.2.2.1.size ≤ maxLen ∧ x.2.2.2.2.2.2.2.2.1.size ≤ maxLen ∧ I64 x.2.2.2.2.2.2.2.2.2.2 ∧ Sat w0 w (.at (ad.add (k * 11)) [.slice A0 x.1.length c0, .string x.2.1, .string x.2.2.1, .string x.2.2.2.1, .string x.2.2.2.2.1, .slice A5 x.2.2.2.2.2.1.length c5, .string x.2.2.2.2.2.2.1, .string x.2.2.2.2.2.2.2.1, .string x.2.2.2.2.2.2.2.2.1, .bool x.2.2.2.2.2.2.2.2.2.1, .int .i64 x.2.2.2.2.2.2.2.2.2.2] :: .ro (rTest.slice).slice [.slice A5 x.2.2.2.2.2.1.length c5] x.2.2.2.2.2.1 :: .ro Rep.str.slice [.slice A0 x.1.length c0] x.1 :: Γ) := by
  obtain ⟨ad, ck, rfl, hl, h⟩ := h.el rQuery A n c hx
  obtain ⟨A0, c0, A5, c5, rfl, b1, b2, b3, b4, b6, b7, b8, b10, h⟩ := Sat.openRoQuery (Sat.swap h)
  refine ⟨ad, A0, c0, A5, c5, rfl, b1, b2, b3, b4, b6, b7, b8, b10, ?_⟩
  exact h.pull 2 rfl

end Go.Proofs.YtnbaekjednmfjaaDoor
