/- The program's struct types among a call's facts: opened into their fields, and made of them. -/
import Derived.Test.YtldknaajnnohiaaDoorFind
import Derived.Test.YtldknaajnnohiaaDoorShapes
namespace Go.Proofs.YtldknaajnnohiaaDoor
open Go.RowKit

def oPair : Rep PairD := Rep.pair Rep.int (Rep.int)
instance : Sub oPair rPair := inferInstanceAs (Sub (Rep.pair Rep.int (Rep.int)) (Rep.pair Rep.int (Rep.int)))
instance : Flat rPair oPair := inferInstanceAs (Flat (Rep.pair Rep.int (Rep.int)) (Rep.pair Rep.int (Rep.int)))
instance : Flat oPair oPair := inferInstanceAs (Flat (Rep.pair Rep.int (Rep.int)) (Rep.pair Rep.int (Rep.int)))
theorem Sat.openRoPair {w0 w : World} {Γ : List Fact} {cs : List Value} {x : PairD} (h : Sat w0 w (.ro rPair cs x :: Γ)) :
    cs = [.int .i64 x.1, .int .i64 x.2] ∧ I64 x.1 ∧ I64 x.2 ∧ Sat w0 w (Γ) := by
  have h_ := Sat.splitRo h; clear h; obtain ⟨ca0, cb0, rfl, -, h⟩ := h_
  have h_ := Sat.roInt h; clear h; obtain ⟨rfl, i0, h⟩ := h_
  have h_ := Sat.roInt h; clear h; obtain ⟨rfl, i1, h⟩ := h_
  exact ⟨rfl, i0, i1, h⟩
theorem Sat.mkPair {w0 w : World} {Γ : List Fact} {x0 : Int} (i0 : I64 x0) {x1 : Int} (i1 : I64 x1) (h : Sat w0 w (Γ)) : Sat w0 w (.own oPair [.int .i64 x0, .int .i64 x1] (x0, x1) :: Γ) := by
  replace h := h.int i1
  replace h := h.int i0
  replace h := Sat.pair h
  exact h
theorem Sat.elPair {w0 w : World} {Γ : List Fact} {k i : Nat} {xs : List PairD} (A : Option Addr) (n c : Nat) (h : Sat w0 w Γ) [hi : RoIn Γ rPair.slice [.slice A n c] xs i] {x : PairD} (hx : xs[k]? = some x) :
    ∃ ad , A = some ad ∧ I64 x.1 ∧ I64 x.2 ∧ Sat w0 w (.at (ad.add (k * 2)) [.int .i64 x.1, .int .i64 x.2] :: Γ) := by
  obtain ⟨ad, ck, rfl, hl, h⟩ := h.el rPair A n c hx
  obtain ⟨rfl, b0, b1, h⟩ := Sat.openRoPair (Sat.swap h)
  refine ⟨ad, rfl, b0, b1, ?_⟩
  exact h

def oAccess : Rep AccessD := Rep.pair Rep.int (Rep.pair Rep.int (Rep.bool))
instance : Sub oAccess rAccess := inferInstanceAs (Sub (Rep.pair Rep.int (Rep.pair Rep.int (Rep.bool))) (Rep.pair Rep.int (Rep.pair Rep.int (Rep.bool))))
instance : Flat rAccess oAccess := inferInstanceAs (Flat (Rep.pair Rep.int (Rep.pair Rep.int (Rep.bool))) (Rep.pair Rep.int (Rep.pair Rep.int (Rep.bool))))
instance : Flat oAccess oAccess := inferInstanceAs (Flat (Rep.pair Rep.int (Rep.pair Rep.int (Rep.bool))) (Rep.pair Rep.int (Rep.pair Rep.int (Rep.bool))))
theorem Sat.openRoAccess {w0 w : World} {Γ : List Fact} {cs : List Value} {x : AccessD} (h : Sat w0 w (.ro rAccess cs x :: Γ)) :
    cs = [.int .i64 x.1, .int .i64 x.2.1, .bool x.2.2] ∧ I64 x.1 ∧ I64 x.2.1 ∧ Sat w0 w (Γ) := by
  have h_ := Sat.splitRo h; clear h; obtain ⟨ca0, cb0, rfl, -, h⟩ := h_
  have h_ := Sat.roInt h; clear h; obtain ⟨rfl, i0, h⟩ := h_
  have h_ := Sat.splitRo h; clear h; obtain ⟨ca1, cb1, rfl, -, h⟩ := h_
  have h_ := Sat.roInt h; clear h; obtain ⟨rfl, i1, h⟩ := h_
  have h_ := Sat.roBool h; clear h; obtain ⟨rfl, h⟩ := h_
  exact ⟨rfl, i0, i1, h⟩
theorem Sat.mkAccess {w0 w : World} {Γ : List Fact} {x0 : Int} (i0 : I64 x0) {x1 : Int} (i1 : I64 x1) (x2 : Bool) (h : Sat w0 w (Γ)) : Sat w0 w (.own oAccess [.int .i64 x0, .int .i64 x1, .bool x2] (x0, x1, x2) :: Γ) := by
  replace h := h.bool x2
  replace h := h.int i1
  replace h := Sat.pair h
  replace h := h.int i0
  replace h := Sat.pair h
  exact h
theorem Sat.elAccess {w0 w : World} {Γ : List Fact} {k i : Nat} {xs : List AccessD} (A : Option Addr) (n c : Nat) (h : Sat w0 w Γ) [hi : RoIn Γ rAccess.slice [.slice A n c] xs i] {x : AccessD} (hx : xs[k]? = some x) :
    ∃ ad , A = some ad ∧ I64 x.1 ∧ I64 x.2.1 ∧ Sat w0 w (.at (ad.add (k * 3)) [.int .i64 x.1, .int .i64 x.2.1, .bool x.2.2] :: Γ) := by
  obtain ⟨ad, ck, rfl, hl, h⟩ := h.el rAccess A n c hx
  obtain ⟨rfl, b0, b1, h⟩ := Sat.openRoAccess (Sat.swap h)
  refine ⟨ad, rfl, b0, b1, ?_⟩
  exact h

def oBlock : Rep BlockD := Rep.pair Rep.int (Rep.pair Rep.int (Rep.int))
instance : Sub oBlock rBlock := inferInstanceAs (Sub (Rep.pair Rep.int (Rep.pair Rep.int (Rep.int))) (Rep.pair Rep.int (Rep.pair Rep.int (Rep.int))))
instance : Flat rBlock oBlock := inferInstanceAs (Flat (Rep.pair Rep.int (Rep.pair Rep.int (Rep.int))) (Rep.pair Rep.int (Rep.pair Rep.int (Rep.int))))
instance : Flat oBlock oBlock := inferInstanceAs (Flat (Rep.pair Rep.int (Rep.pair Rep.int (Rep.int))) (Rep.pair Rep.int (Rep.pair Rep.int (Rep.int))))
theorem Sat.mkBlock {w0 w : World} {Γ : List Fact} {x0 : Int} (i0 : I64 x0) {x1 : Int} (i1 : I64 x1) {x2 : Int} (i2 : I64 x2) (h : Sat w0 w (Γ)) : Sat w0 w (.own oBlock [.int .i64 x0, .int .i64 x1, .int .i64 x2] (x0, x1, x2) :: Γ) := by
  replace h := h.int i2
  replace h := h.int i1
  replace h := Sat.pair h
  replace h := h.int i0
  replace h := Sat.pair h
  exact h
def oUse : Rep UseD := Rep.pair Rep.int (Rep.pair Rep.bool (Rep.pair Rep.int (Rep.int)))
instance : Sub oUse rUse := inferInstanceAs (Sub (Rep.pair Rep.int (Rep.pair Rep.bool (Rep.pair Rep.int (Rep.int)))) (Rep.pair Rep.int (Rep.pair Rep.bool (Rep.pair Rep.int (Rep.int)))))
instance : Flat rUse oUse := inferInstanceAs (Flat (Rep.pair Rep.int (Rep.pair Rep.bool (Rep.pair Rep.int (Rep.int)))) (Rep.pair Rep.int (Rep.pair Rep.bool (Rep.pair Rep.int (Rep.int)))))
instance : Flat oUse oUse := inferInstanceAs (Flat (Rep.pair Rep.int (Rep.pair Rep.bool (Rep.pair Rep.int (Rep.int)))) (Rep.pair Rep.int (Rep.pair Rep.bool (Rep.pair Rep.int (Rep.int)))))
theorem Sat.mkUse {w0 w : World} {Γ : List Fact} {x0 : Int} (i0 : I64 x0) (x1 : Bool) {x2 : Int} (i2 : I64 x2) {x3 : Int} (i3 : I64 x3) (h : Sat w0 w (Γ)) : Sat w0 w (.own oUse [.int .i64 x0, .bool x1, .int .i64 x2, .int .i64 x3] (x0, x1, x2, x3) :: Γ) := by
  replace h := h.int i3
  replace h := h.int i2
  replace h := Sat.pair h
  replace h := h.bool x1
  replace h := Sat.pair h
  replace h := h.int i0
  replace h := Sat.pair h
  exact h
def oTest : Rep TestD := Rep.pair Rep.str (Rep.pair Rep.str (Rep.pair Rep.int (Rep.str)))
instance : Sub oTest rTest := inferInstanceAs (Sub (Rep.pair Rep.str (Rep.pair Rep.str (Rep.pair Rep.int (Rep.str)))) (Rep.pair Rep.str (Rep.pair Rep.str (Rep.pair Rep.int (Rep.str)))))
instance : Flat rTest oTest := inferInstanceAs (Flat (Rep.pair Rep.str (Rep.pair Rep.str (Rep.pair Rep.int (Rep.str)))) (Rep.pair Rep.str (Rep.pair Rep.str (Rep.pair Rep.int (Rep.str)))))
instance : Flat oTest oTest := inferInstanceAs (Flat (Rep.pair Rep.str (Rep.pair Rep.str (Rep.pair Rep.int (Rep.str)))) (Rep.pair Rep.str (Rep.pair Rep.str (Rep.pair Rep.int (Rep.str)))))
theorem Sat.mkTest {w0 w : World} {Γ : List Fact} {x0 : ByteArray} (i0 : x0.size ≤ maxLen) {x1 : ByteArray} (i1 : x1.size ≤ maxLen) {x2 : Int} (i2 : I64 x2) {x3 : ByteArray} (i3 : x3.size ≤ maxLen) (h : Sat w0 w (Γ)) : Sat w0 w (.own oTest [.string x0, .string x1, .int .i64 x2, .string x3] (x0, x1, x2, x3) :: Γ) := by
  replace h := h.str i3
  replace h := h.int i2
  replace h := Sat.pair h
  replace h := h.str i1
  replace h := Sat.pair h
  replace h := h.str i0
  replace h := Sat.pair h
  exact h
def oSealed : Rep SealedD := Rep.pair Rep.int (Rep.pair (Rep.int.rows) (Rep.int))
instance : Sub oSealed rSealed := inferInstanceAs (Sub (Rep.pair Rep.int (Rep.pair (Rep.int.rows) (Rep.int))) (Rep.pair Rep.int (Rep.pair (Rep.int.slice) (Rep.int))))
theorem Sat.mkSealed {w0 w : World} {Γ : List Fact} {x0 : Int} (i0 : I64 x0) {x1 : (List Int)} {v1 : Value} {x2 : Int} (i2 : I64 x2) (h : Sat w0 w (.own Rep.int.rows [v1] x1 :: Γ)) : Sat w0 w (.own oSealed [.int .i64 x0, v1, .int .i64 x2] (x0, x1, x2) :: Γ) := by
  replace h := h.int i2
  replace h := Sat.swap h
  replace h := Sat.pair h
  replace h := h.int i0
  replace h := Sat.pair h
  exact h
def oShape : Rep ShapeD := Rep.pair Rep.str (Rep.pair (Rep.str.rows) (Rep.int))
instance : Sub oShape rShape := inferInstanceAs (Sub (Rep.pair Rep.str (Rep.pair (Rep.str.rows) (Rep.int))) (Rep.pair Rep.str (Rep.pair (Rep.str.slice) (Rep.int))))
theorem Sat.mkShape {w0 w : World} {Γ : List Fact} {x0 : ByteArray} (i0 : x0.size ≤ maxLen) {x1 : (List ByteArray)} {v1 : Value} {x2 : Int} (i2 : I64 x2) (h : Sat w0 w (.own Rep.str.rows [v1] x1 :: Γ)) : Sat w0 w (.own oShape [.string x0, v1, .int .i64 x2] (x0, x1, x2) :: Γ) := by
  replace h := h.int i2
  replace h := Sat.swap h
  replace h := Sat.pair h
  replace h := h.str i0
  replace h := Sat.pair h
  exact h
def oMemory : Rep MemoryD := Rep.pair ((oBlock.rows).rows) ((oBlock.rows))
instance : Sub oMemory rMemory := inferInstanceAs (Sub (Rep.pair ((oBlock.rows).rows) ((oBlock.rows))) (Rep.pair ((rBlock.slice).slice) ((rBlock.slice))))
theorem Sat.mkMemory {w0 w : World} {Γ : List Fact} {x0 : (List (List BlockD))} {v0 : Value} {x1 : (List BlockD)} {v1 : Value} (h : Sat w0 w (.own oBlock.rows [v1] x1 :: .own (oBlock.rows).rows [v0] x0 :: Γ)) : Sat w0 w (.own oMemory [v0, v1] (x0, x1) :: Γ) := by
  replace h := Sat.swap h
  replace h := Sat.pair h
  exact h
def oTable : Rep TableD := Rep.pair (Rep.str.rows) (((Rep.int.rows).rows))
instance : Sub oTable rTable := inferInstanceAs (Sub (Rep.pair (Rep.str.rows) (((Rep.int.rows).rows))) (Rep.pair (Rep.str.slice) (((Rep.int.slice).slice))))
theorem Sat.openOwnTable {w0 w : World} {Γ : List Fact} {cs : List Value} {x : TableD} (h : Sat w0 w (.own oTable cs x :: Γ)) :
    ∃ A0 c0 A1 c1, cs = [.slice A0 x.1.length c0, .slice A1 x.2.length c1] ∧ Sat w0 w (.own (Rep.int.rows).rows [.slice A1 x.2.length c1] x.2 :: .own Rep.str.rows [.slice A0 x.1.length c0] x.1 :: Γ) := by
  have h_ := Sat.split h; clear h; obtain ⟨ca0, cb0, rfl, -, h⟩ := h_
  have h_ := Sat.ownSl h; clear h; obtain ⟨A0, c0, rfl, h⟩ := h_
  replace h := Sat.swap h
  have h_ := Sat.ownSl h; clear h; obtain ⟨A1, c1, rfl, h⟩ := h_
  exact ⟨A0, c0, A1, c1, rfl, h⟩
theorem Sat.mkTable {w0 w : World} {Γ : List Fact} {x0 : (List ByteArray)} {v0 : Value} {x1 : (List (List Int))} {v1 : Value} (h : Sat w0 w (.own (Rep.int.rows).rows [v1] x1 :: .own Rep.str.rows [v0] x0 :: Γ)) : Sat w0 w (.own oTable [v0, v1] (x0, x1) :: Γ) := by
  replace h := Sat.swap h
  replace h := Sat.pair h
  exact h
def oNamed : Rep NamedD := Rep.pair Rep.str (oTable)
instance : Sub oNamed rNamed := inferInstanceAs (Sub (Rep.pair Rep.str (oTable)) (Rep.pair Rep.str (rTable)))
theorem Sat.mkNamed {w0 w : World} {Γ : List Fact} {x0 : ByteArray} (i0 : x0.size ≤ maxLen) {x1 : (List ByteArray)} {v1 : Value} {x2 : (List (List Int))} {v2 : Value} (h : Sat w0 w (.own (Rep.int.rows).rows [v2] x2 :: .own Rep.str.rows [v1] x1 :: Γ)) : Sat w0 w (.own oNamed [.string x0, v1, v2] (x0, (x1, x2)) :: Γ) := by
  replace h := Sat.swap h
  replace h := Sat.pair h
  replace h := h.str i0
  replace h := Sat.pair h
  exact h
def oPadded : Rep PaddedD := Rep.pair (Rep.str.rows) (Rep.pair ((Rep.int.rows).rows) ((Rep.bool.rows)))
instance : Sub oPadded rPadded := inferInstanceAs (Sub (Rep.pair (Rep.str.rows) (Rep.pair ((Rep.int.rows).rows) ((Rep.bool.rows)))) (Rep.pair (Rep.str.slice) (Rep.pair ((Rep.int.slice).slice) ((Rep.bool.slice)))))
theorem Sat.openOwnPadded {w0 w : World} {Γ : List Fact} {cs : List Value} {x : PaddedD} (h : Sat w0 w (.own oPadded cs x :: Γ)) :
    ∃ A0 c0 A1 c1 A2 c2, cs = [.slice A0 x.1.length c0, .slice A1 x.2.1.length c1, .slice A2 x.2.2.length c2] ∧ Sat w0 w (.own Rep.bool.rows [.slice A2 x.2.2.length c2] x.2.2 :: .own (Rep.int.rows).rows [.slice A1 x.2.1.length c1] x.2.1 :: .own Rep.str.rows [.slice A0 x.1.length c0] x.1 :: Γ) := by
  have h_ := Sat.split h; clear h; obtain ⟨ca0, cb0, rfl, -, h⟩ := h_
  have h_ := Sat.ownSl h; clear h; obtain ⟨A0, c0, rfl, h⟩ := h_
  replace h := Sat.swap h
  have h_ := Sat.split h; clear h; obtain ⟨ca1, cb1, rfl, -, h⟩ := h_
  have h_ := Sat.ownSl h; clear h; obtain ⟨A1, c1, rfl, h⟩ := h_
  replace h := Sat.swap h
  have h_ := Sat.ownSl h; clear h; obtain ⟨A2, c2, rfl, h⟩ := h_
  exact ⟨A0, c0, A1, c1, A2, c2, rfl, h⟩
theorem Sat.mkPadded {w0 w : World} {Γ : List Fact} {x0 : (List ByteArray)} {v0 : Value} {x1 : (List (List Int))} {v1 : Value} {x2 : (List Bool)} {v2 : Value} (h : Sat w0 w (.own Rep.bool.rows [v2] x2 :: .own (Rep.int.rows).rows [v1] x1 :: .own Rep.str.rows [v0] x0 :: Γ)) : Sat w0 w (.own oPadded [v0, v1, v2] (x0, x1, x2) :: Γ) := by
  replace h := Sat.swap h
  replace h := Sat.pair h
  replace h := Sat.swap h
  replace h := Sat.pair h
  exact h
def oStep : Rep StepD := Rep.pair Rep.int (Rep.pair Rep.str (Rep.pair Rep.str (Rep.pair Rep.str (Rep.pair ((oTest.rows).rows) (Rep.pair (Rep.str.rows) (Rep.pair Rep.bool (Rep.int)))))))
instance : Sub oStep rStep := inferInstanceAs (Sub (Rep.pair Rep.int (Rep.pair Rep.str (Rep.pair Rep.str (Rep.pair Rep.str (Rep.pair ((oTest.rows).rows) (Rep.pair (Rep.str.rows) (Rep.pair Rep.bool (Rep.int)))))))) (Rep.pair Rep.int (Rep.pair Rep.str (Rep.pair Rep.str (Rep.pair Rep.str (Rep.pair ((rTest.slice).slice) (Rep.pair (Rep.str.slice) (Rep.pair Rep.bool (Rep.int)))))))))
theorem Sat.mkStep {w0 w : World} {Γ : List Fact} {x0 : Int} (i0 : I64 x0) {x1 : ByteArray} (i1 : x1.size ≤ maxLen) {x2 : ByteArray} (i2 : x2.size ≤ maxLen) {x3 : ByteArray} (i3 : x3.size ≤ maxLen) {x4 : (List (List TestD))} {v4 : Value} {x5 : (List ByteArray)} {v5 : Value} (x6 : Bool) {x7 : Int} (i7 : I64 x7) (h : Sat w0 w (.own Rep.str.rows [v5] x5 :: .own (oTest.rows).rows [v4] x4 :: Γ)) : Sat w0 w (.own oStep [.int .i64 x0, .string x1, .string x2, .string x3, v4, v5, .bool x6, .int .i64 x7] (x0, x1, x2, x3, x4, x5, x6, x7) :: Γ) := by
  replace h := h.int i7
  replace h := h.bool x6
  replace h := Sat.pair h
  replace h := Sat.swap h
  replace h := Sat.pair h
  replace h := Sat.swap h
  replace h := Sat.pair h
  replace h := h.str i3
  replace h := Sat.pair h
  replace h := h.str i2
  replace h := Sat.pair h
  replace h := h.str i1
  replace h := Sat.pair h
  replace h := h.int i0
  replace h := Sat.pair h
  exact h
def oQuery : Rep QueryD := Rep.pair (Rep.str.rows) (Rep.pair Rep.str (Rep.pair Rep.str (Rep.pair Rep.str (Rep.pair Rep.str (Rep.pair ((oTest.rows).rows) (Rep.pair Rep.str (Rep.pair Rep.str (Rep.pair Rep.str (Rep.pair Rep.bool (Rep.int))))))))))
instance : Sub oQuery rQuery := inferInstanceAs (Sub (Rep.pair (Rep.str.rows) (Rep.pair Rep.str (Rep.pair Rep.str (Rep.pair Rep.str (Rep.pair Rep.str (Rep.pair ((oTest.rows).rows) (Rep.pair Rep.str (Rep.pair Rep.str (Rep.pair Rep.str (Rep.pair Rep.bool (Rep.int))))))))))) (Rep.pair (Rep.str.slice) (Rep.pair Rep.str (Rep.pair Rep.str (Rep.pair Rep.str (Rep.pair Rep.str (Rep.pair ((rTest.slice).slice) (Rep.pair Rep.str (Rep.pair Rep.str (Rep.pair Rep.str (Rep.pair Rep.bool (Rep.int))))))))))))
theorem Sat.mkQuery {w0 w : World} {Γ : List Fact} {x0 : (List ByteArray)} {v0 : Value} {x1 : ByteArray} (i1 : x1.size ≤ maxLen) {x2 : ByteArray} (i2 : x2.size ≤ maxLen) {x3 : ByteArray} (i3 : x3.size ≤ maxLen) {x4 : ByteArray} (i4 : x4.size ≤ maxLen) {x5 : (List (List TestD))} {v5 : Value} {x6 : ByteArray} (i6 : x6.size ≤ maxLen) {x7 : ByteArray} (i7 : x7.size ≤ maxLen) {x8 : ByteArray} (i8 : x8.size ≤ maxLen) (x9 : Bool) {x10 : Int} (i10 : I64 x10) (h : Sat w0 w (.own (oTest.rows).rows [v5] x5 :: .own Rep.str.rows [v0] x0 :: Γ)) : Sat w0 w (.own oQuery [v0, .string x1, .string x2, .string x3, .string x4, v5, .string x6, .string x7, .string x8, .bool x9, .int .i64 x10] (x0, x1, x2, x3, x4, x5, x6, x7, x8, x9, x10) :: Γ) := by
  replace h := h.int i10
  replace h := h.bool x9
  replace h := Sat.pair h
  replace h := h.str i8
  replace h := Sat.pair h
  replace h := h.str i7
  replace h := Sat.pair h
  replace h := h.str i6
  replace h := Sat.pair h
  replace h := Sat.swap h
  replace h := Sat.pair h
  replace h := h.str i4
  replace h := Sat.pair h
  replace h := h.str i3
  replace h := Sat.pair h
  replace h := h.str i2
  replace h := Sat.pair h
  replace h := h.str i1
  replace h := Sat.pair h
  replace h := Sat.swap h
  replace h := Sat.pair h
  exact h
end Go.Proofs.YtldknaajnnohiaaDoor
