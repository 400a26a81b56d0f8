/- The shapes of the data of the program's types. -/
import Derived.Test.YtnbaekjednmfjaaDoorMem
namespace Go.Proofs.YtnbaekjednmfjaaDoor
open Go.RowKit
attribute [local go_sem] ext_cell

abbrev PairD := Int × Int
def rPair : Rep PairD := Rep.pair Rep.int Rep.int
theorem rPair_open {w : World} {F : List Nat} {cs : List Value} {x : PairD} (h : rPair.has w F cs x) :
    cs = [.int .i64 x.1, .int .i64 x.2] ∧ F = [] ∧ I64 x.1 ∧ I64 x.2 := by
  obtain ⟨Fa0, Fb0, ca0, cb0, rfl, rfl, ⟨rfl, rfl, i0⟩, ⟨rfl, rfl, i1⟩⟩ := h
  exact ⟨rfl, by simp, i0, i1⟩
theorem rPair_mk {w : World} {x0 : Int} {x1 : Int} (i0 : I64 x0) (i1 : I64 x1) :
    rPair.has w ([]) [.int .i64 x0, .int .i64 x1] (x0, x1) := by
  have h := (Rep.mk2 (show Rep.int.has w [] [.int .i64 x0] x0 from ⟨rfl, rfl, i0⟩) (show Rep.int.has w [] [.int .i64 x1] x1 from ⟨rfl, rfl, i1⟩))
  simp only [List.nil_append, List.append_nil, List.cons_append, List.append_assoc] at h ⊢
  exact h

abbrev AccessD := Int × Int × Bool
def rAccess : Rep AccessD := Rep.pair Rep.int (Rep.pair Rep.int Rep.bool)
theorem rAccess_open {w : World} {F : List Nat} {cs : List Value} {x : AccessD} (h : rAccess.has w F cs x) :
    cs = [.int .i64 x.1, .int .i64 x.2.1, .bool x.2.2] ∧ F = [] ∧ I64 x.1 ∧ I64 x.2.1 := by
  obtain ⟨Fa0, Fb0, ca0, cb0, rfl, rfl, ⟨rfl, rfl, i0⟩, ⟨Fa1, Fb1, ca1, cb1, rfl, rfl, ⟨rfl, rfl, i1⟩, ⟨rfl, rfl⟩⟩⟩ := h
  exact ⟨rfl, by simp, i0, i1⟩
theorem rAccess_mk {w : World} {x0 : Int} {x1 : Int} {x2 : Bool} (i0 : I64 x0) (i1 : I64 x1) :
    rAccess.has w ([]) [.int .i64 x0, .int .i64 x1, .bool x2] (x0, x1, x2) := by
  have h := (Rep.mk2 (show Rep.int.has w [] [.int .i64 x0] x0 from ⟨rfl, rfl, i0⟩) (Rep.mk2 (show Rep.int.has w [] [.int .i64 x1] x1 from ⟨rfl, rfl, i1⟩) (show Rep.bool.has w [] [.bool x2] x2 from ⟨rfl, rfl⟩)))
  simp only [List.nil_append, List.append_nil, List.cons_append, List.append_assoc] at h ⊢
  exact h

abbrev BlockD := Int × Int × Int
def rBlock : Rep BlockD := Rep.pair Rep.int (Rep.pair Rep.int Rep.int)
theorem rBlock_open {w : World} {F : List Nat} {cs : List Value} {x : BlockD} (h : rBlock.has w F cs x) :
    cs = [.int .i64 x.1, .int .i64 x.2.1, .int .i64 x.2.2] ∧ F = [] ∧ I64 x.1 ∧ I64 x.2.1 ∧ I64 x.2.2 := by
  obtain ⟨Fa0, Fb0, ca0, cb0, rfl, rfl, ⟨rfl, rfl, i0⟩, ⟨Fa1, Fb1, ca1, cb1, rfl, rfl, ⟨rfl, rfl, i1⟩, ⟨rfl, rfl, i2⟩⟩⟩ := h
  exact ⟨rfl, by simp, i0, i1, i2⟩
theorem rBlock_mk {w : World} {x0 : Int} {x1 : Int} {x2 : Int} (i0 : I64 x0) (i1 : I64 x1) (i2 : I64 x2) :
    rBlock.has w ([]) [.int .i64 x0, .int .i64 x1, .int .i64 x2] (x0, x1, x2) := by
  have h := (Rep.mk2 (show Rep.int.has w [] [.int .i64 x0] x0 from ⟨rfl, rfl, i0⟩) (Rep.mk2 (show Rep.int.has w [] [.int .i64 x1] x1 from ⟨rfl, rfl, i1⟩) (show Rep.int.has w [] [.int .i64 x2] x2 from ⟨rfl, rfl, i2⟩)))
  simp only [List.nil_append, List.append_nil, List.cons_append, List.append_assoc] at h ⊢
  exact h

abbrev UseD := Int × Bool × Int × Int
def rUse : Rep UseD := Rep.pair Rep.int (Rep.pair Rep.bool (Rep.pair Rep.int Rep.int))
theorem rUse_open {w : World} {F : List Nat} {cs : List Value} {x : UseD} (h : rUse.has w F cs x) :
    cs = [.int .i64 x.1, .bool x.2.1, .int .i64 x.2.2.1, .int .i64 x.2.2.2] ∧ F = [] ∧ I64 x.1 ∧ I64 x.2.2.1 ∧ I64 x.2.2.2 := by
  obtain ⟨Fa0, Fb0, ca0, cb0, rfl, rfl, ⟨rfl, rfl, i0⟩, ⟨Fa1, Fb1, ca1, cb1, rfl, rfl, ⟨rfl, rfl⟩, ⟨Fa2, Fb2, ca2, cb2, rfl, rfl, ⟨rfl, rfl, i2⟩, ⟨rfl, rfl, i3⟩⟩⟩⟩ := h
  exact ⟨rfl, by simp, i0, i2, i3⟩
theorem rUse_mk {w : World} {x0 : Int} {x1 : Bool} {x2 : Int} {x3 : Int} (i0 : I64 x0) (i2 : I64 x2) (i3 : I64 x3) :
    rUse.has w ([]) [.int .i64 x0, .bool x1, .int .i64 x2, .int .i64 x3] (x0, x1, x2, x3) := by
  have h := (Rep.mk2 (show Rep.int.has w [] [.int .i64 x0] x0 from ⟨rfl, rfl, i0⟩) (Rep.mk2 (show Rep.bool.has w [] [.bool x1] x1 from ⟨rfl, rfl⟩) (Rep.mk2 (show Rep.int.has w [] [.int .i64 x2] x2 from ⟨rfl, rfl, i2⟩) (show Rep.int.has w [] [.int .i64 x3] x3 from ⟨rfl, rfl, i3⟩))))
  simp only [List.nil_append, List.append_nil, List.cons_append, List.append_assoc] at h ⊢
  exact h

abbrev TestD := ByteArray × ByteArray × Int × ByteArray
def rTest : Rep TestD := Rep.pair Rep.str (Rep.pair Rep.str (Rep.pair Rep.int Rep.str))
theorem rTest_open {w : World} {F : List Nat} {cs : List Value} {x : TestD} (h : rTest.has w F cs x) :
    cs = [.string x.1, .string x.2.1, .int .i64 x.2.2.1, .string x.2.2.2] ∧ F = [] ∧ x.1.size ≤ maxLen ∧ x.2.1.size ≤ maxLen ∧ I64 x.2.2.1 ∧ x.2.2.2.size ≤ maxLen := by
  obtain ⟨Fa0, Fb0, ca0, cb0, rfl, rfl, ⟨rfl, rfl, i0⟩, ⟨Fa1, Fb1, ca1, cb1, rfl, rfl, ⟨rfl, rfl, i1⟩, ⟨Fa2, Fb2, ca2, cb2, rfl, rfl, ⟨rfl, rfl, i2⟩, ⟨rfl, rfl, i3⟩⟩⟩⟩ := h
  exact ⟨rfl, by simp, i0, i1, i2, i3⟩
theorem rTest_mk {w : World} {x0 : ByteArray} {x1 : ByteArray} {x2 : Int} {x3 : ByteArray} (i0 : x0.size ≤ maxLen) (i1 : x1.size ≤ maxLen) (i2 : I64 x2) (i3 : x3.size ≤ maxLen) :
    rTest.has w ([]) [.string x0, .string x1, .int .i64 x2, .string x3] (x0, x1, x2, x3) := by
  have h := (Rep.mk2 (show Rep.str.has w [] [.string x0] x0 from ⟨rfl, rfl, i0⟩) (Rep.mk2 (show Rep.str.has w [] [.string x1] x1 from ⟨rfl, rfl, i1⟩) (Rep.mk2 (show Rep.int.has w [] [.int .i64 x2] x2 from ⟨rfl, rfl, i2⟩) (show Rep.str.has w [] [.string x3] x3 from ⟨rfl, rfl, i3⟩))))
  simp only [List.nil_append, List.append_nil, List.cons_append, List.append_assoc] at h ⊢
  exact h

abbrev SealedD := Int × (List Int) × Int
def rSealed : Rep SealedD := Rep.pair Rep.int (Rep.pair (Rep.int.slice) Rep.int)
theorem rSealed_open {w : World} {F : List Nat} {cs : List Value} {x : SealedD} (h : rSealed.has w F cs x) :
    ∃ A1 c1 F1, cs = [.int .i64 x.1, .slice A1 x.2.1.length c1, .int .i64 x.2.2] ∧ F = F1 ∧ I64 x.1 ∧ SliceHas Rep.int w F1 [.slice A1 x.2.1.length c1] x.2.1 ∧ I64 x.2.2 := by
  obtain ⟨Fa0, Fb0, ca0, cb0, rfl, rfl, ⟨rfl, rfl, i0⟩, ⟨Fa1, Fb1, ca1, cb1, rfl, rfl, s1, ⟨rfl, rfl, i2⟩⟩⟩ := h
  obtain ⟨u1, rfl⟩ := Rep.one_cell rfl s1
  obtain ⟨A1, c1, rfl, _⟩ := SliceHas.form' s1
  exact ⟨A1, c1, _, rfl, by simp, i0, s1, i2⟩
theorem rSealed_mk {w : World} {x0 : Int} {x1 : (List Int)} {x2 : Int} {F1 : List Nat} {v1 : Value} (i0 : I64 x0) (s1 : SliceHas Rep.int w F1 [v1] x1) (i2 : I64 x2) :
    rSealed.has w (F1) [.int .i64 x0, v1, .int .i64 x2] (x0, x1, x2) := by
  have h := (Rep.mk2 (show Rep.int.has w [] [.int .i64 x0] x0 from ⟨rfl, rfl, i0⟩) (Rep.mk2 (show (Rep.int.slice).has w F1 [v1] x1 from s1) (show Rep.int.has w [] [.int .i64 x2] x2 from ⟨rfl, rfl, i2⟩)))
  simp only [List.nil_append, List.append_nil, List.cons_append, List.append_assoc] at h ⊢
  exact h

abbrev ShapeD := ByteArray × (List ByteArray) × Int
def rShape : Rep ShapeD := Rep.pair Rep.str (Rep.pair (Rep.str.slice) Rep.int)
theorem rShape_open {w : World} {F : List Nat} {cs : List Value} {x : ShapeD} (h : rShape.has w F cs x) :
    ∃ A1 c1 F1, cs = [.string x.1, .slice A1 x.2.1.length c1, .int .i64 x.2.2] ∧ F = F1 ∧ x.1.size ≤ maxLen ∧ SliceHas Rep.str w F1 [.slice A1 x.2.1.length c1] x.2.1 ∧ I64 x.2.2 := by
  obtain ⟨Fa0, Fb0, ca0, cb0, rfl, rfl, ⟨rfl, rfl, i0⟩, ⟨Fa1, Fb1, ca1, cb1, rfl, rfl, s1, ⟨rfl, rfl, i2⟩⟩⟩ := h
  obtain ⟨u1, rfl⟩ := Rep.one_cell rfl s1
  obtain ⟨A1, c1, rfl, _⟩ := SliceHas.form' s1
  exact ⟨A1, c1, _, rfl, by simp, i0, s1, i2⟩
theorem rShape_mk {w : World} {x0 : ByteArray} {x1 : (List ByteArray)} {x2 : Int} {F1 : List Nat} {v1 : Value} (i0 : x0.size ≤ maxLen) (s1 : SliceHas Rep.str w F1 [v1] x1) (i2 : I64 x2) :
    rShape.has w (F1) [.string x0, v1, .int .i64 x2] (x0, x1, x2) := by
  have h := (Rep.mk2 (show Rep.str.has w [] [.string x0] x0 from ⟨rfl, rfl, i0⟩) (Rep.mk2 (show (Rep.str.slice).has w F1 [v1] x1 from s1) (show Rep.int.has w [] [.int .i64 x2] x2 from ⟨rfl, rfl, i2⟩)))
  simp only [List.nil_append, List.append_nil, List.cons_append, List.append_assoc] at h ⊢
  exact h

abbrev MemoryD := (List (List BlockD)) × (List BlockD)
def rMemory : Rep MemoryD := Rep.pair ((rBlock.slice).slice) ((rBlock.slice))
theorem rMemory_open {w : World} {F : List Nat} {cs : List Value} {x : MemoryD} (h : rMemory.has w F cs x) :
    ∃ A0 c0 F0 A1 c1 F1, cs = [.slice A0 x.1.length c0, .slice A1 x.2.length c1] ∧ F = F0 ++ F1 ∧ SliceHas (rBlock.slice) w F0 [.slice A0 x.1.length c0] x.1 ∧ SliceHas rBlock w F1 [.slice A1 x.2.length c1] x.2 := by
  obtain ⟨Fa0, Fb0, ca0, cb0, rfl, rfl, s0, s1⟩ := h
  obtain ⟨u0, rfl⟩ := Rep.one_cell rfl s0
  obtain ⟨A0, c0, rfl, _⟩ := SliceHas.form' s0
  obtain ⟨u1, rfl⟩ := Rep.one_cell rfl s1
  obtain ⟨A1, c1, rfl, _⟩ := SliceHas.form' s1
  exact ⟨A0, c0, _, A1, c1, _, rfl, by simp, s0, s1⟩
theorem rMemory_mk {w : World} {x0 : (List (List BlockD))} {x1 : (List BlockD)} {F0 : List Nat} {v0 : Value} {F1 : List Nat} {v1 : Value} (s0 : SliceHas (rBlock.slice) w F0 [v0] x0) (s1 : SliceHas rBlock w F1 [v1] x1) :
    rMemory.has w (F0 ++ F1) [v0, v1] (x0, x1) := by
  have h := (Rep.mk2 (show ((rBlock.slice).slice).has w F0 [v0] x0 from s0) (show (rBlock.slice).has w F1 [v1] x1 from s1))
  simp only [List.nil_append, List.append_nil, List.cons_append, List.append_assoc] at h ⊢
  exact h

abbrev TableD := (List ByteArray) × (List (List Int))
def rTable : Rep TableD := Rep.pair (Rep.str.slice) (((Rep.int.slice).slice))
theorem rTable_open {w : World} {F : List Nat} {cs : List Value} {x : TableD} (h : rTable.has w F cs x) :
    ∃ A0 c0 F0 A1 c1 F1, cs = [.slice A0 x.1.length c0, .slice A1 x.2.length c1] ∧ F = F0 ++ F1 ∧ SliceHas Rep.str w F0 [.slice A0 x.1.length c0] x.1 ∧ SliceHas (Rep.int.slice) w F1 [.slice A1 x.2.length c1] x.2 := by
  obtain ⟨Fa0, Fb0, ca0, cb0, rfl, rfl, s0, s1⟩ := h
  obtain ⟨u0, rfl⟩ := Rep.one_cell rfl s0
  obtain ⟨A0, c0, rfl, _⟩ := SliceHas.form' s0
  obtain ⟨u1, rfl⟩ := Rep.one_cell rfl s1
  obtain ⟨A1, c1, rfl, _⟩ := SliceHas.form' s1
  exact ⟨A0, c0, _, A1, c1, _, rfl, by simp, s0, s1⟩
theorem rTable_mk {w : World} {x0 : (List ByteArray)} {x1 : (List (List Int))} {F0 : List Nat} {v0 : Value} {F1 : List Nat} {v1 : Value} (s0 : SliceHas Rep.str w F0 [v0] x0) (s1 : SliceHas (Rep.int.slice) w F1 [v1] x1) :
    rTable.has w (F0 ++ F1) [v0, v1] (x0, x1) := by
  have h := (Rep.mk2 (show (Rep.str.slice).has w F0 [v0] x0 from s0) (show ((Rep.int.slice).slice).has w F1 [v1] x1 from s1))
  simp only [List.nil_append, List.append_nil, List.cons_append, List.append_assoc] at h ⊢
  exact h

abbrev NamedD := ByteArray × TableD
def rNamed : Rep NamedD := Rep.pair Rep.str (rTable)
theorem rNamed_open {w : World} {F : List Nat} {cs : List Value} {x : NamedD} (h : rNamed.has w F cs x) :
    ∃ A1 c1 F1 A2 c2 F2, cs = [.string x.1, .slice A1 x.2.1.length c1, .slice A2 x.2.2.length c2] ∧ F = F1 ++ F2 ∧ x.1.size ≤ maxLen ∧ SliceHas Rep.str w F1 [.slice A1 x.2.1.length c1] x.2.1 ∧ SliceHas (Rep.int.slice) w F2 [.slice A2 x.2.2.length c2] x.2.2 := by
  obtain ⟨Fa0, Fb0, ca0, cb0, rfl, rfl, ⟨rfl, rfl, i0⟩, ⟨Fa1, Fb1, ca1, cb1, rfl, rfl, s1, s2⟩⟩ := h
  obtain ⟨u1, rfl⟩ := Rep.one_cell rfl s1
  obtain ⟨A1, c1, rfl, _⟩ := SliceHas.form' s1
  obtain ⟨u2, rfl⟩ := Rep.one_cell rfl s2
  obtain ⟨A2, c2, rfl, _⟩ := SliceHas.form' s2
  exact ⟨A1, c1, _, A2, c2, _, rfl, by simp, i0, s1, s2⟩
theorem rNamed_mk {w : World} {x0 : ByteArray} {x1 : (List ByteArray)} {x2 : (List (List Int))} {F1 : List Nat} {v1 : Value} {F2 : List Nat} {v2 : Value} (i0 : x0.size ≤ maxLen) (s1 : SliceHas Rep.str w F1 [v1] x1) (s2 : SliceHas (Rep.int.slice) w F2 [v2] x2) :
    rNamed.has w (F1 ++ F2) [.string x0, v1, v2] (x0, (x1, x2)) := by
  have h := (Rep.mk2 (show Rep.str.has w [] [.string x0] x0 from ⟨rfl, rfl, i0⟩) (Rep.mk2 (show (Rep.str.slice).has w F1 [v1] x1 from s1) (show ((Rep.int.slice).slice).has w F2 [v2] x2 from s2)))
  simp only [List.nil_append, List.append_nil, List.cons_append, List.append_assoc] at h ⊢
  exact h

abbrev PaddedD := (List ByteArray) × (List (List Int)) × (List Bool)
def rPadded : Rep PaddedD := Rep.pair (Rep.str.slice) (Rep.pair ((Rep.int.slice).slice) ((Rep.bool.slice)))
theorem rPadded_open {w : World} {F : List Nat} {cs : List Value} {x : PaddedD} (h : rPadded.has w F cs x) :
    ∃ A0 c0 F0 A1 c1 F1 A2 c2 F2, cs = [.slice A0 x.1.length c0, .slice A1 x.2.1.length c1, .slice A2 x.2.2.length c2] ∧ F = F0 ++ F1 ++ F2 ∧ SliceHas Rep.str w F0 [.slice A0 x.1.length c0] x.1 ∧ SliceHas (Rep.int.slice) w F1 [.slice A1 x.2.1.length c1] x.2.1 ∧ SliceHas Rep.bool w F2 [.slice A2 x.2.2.length c2] x.2.2 := by
  obtain ⟨Fa0, Fb0, ca0, cb0, rfl, rfl, s0, ⟨Fa1, Fb1, ca1, cb1, rfl, rfl, s1, s2⟩⟩ := h
  obtain ⟨u0, rfl⟩ := Rep.one_cell rfl s0
  obtain ⟨A0, c0, rfl, _⟩ := SliceHas.form' s0
  obtain ⟨u1, rfl⟩ := Rep.one_cell rfl s1
  obtain ⟨A1, c1, rfl, _⟩ := SliceHas.form' s1
  obtain ⟨u2, rfl⟩ := Rep.one_cell rfl s2
  obtain ⟨A2, c2, rfl, _⟩ := SliceHas.form' s2
  exact ⟨A0, c0, _, A1, c1, _, A2, c2, _, rfl, by simp, s0, s1, s2⟩
theorem rPadded_mk {w : World} {x0 : (List ByteArray)} {x1 : (List (List Int))} {x2 : (List Bool)} {F0 : List Nat} {v0 : Value} {F1 : List Nat} {v1 : Value} {F2 : List Nat} {v2 : Value} (s0 : SliceHas Rep.str w F0 [v0] x0) (s1 : SliceHas (Rep.int.slice) w F1 [v1] x1) (s2 : SliceHas Rep.bool w F2 [v2] x2) :
    rPadded.has w (F0 ++ F1 ++ F2) [v0, v1, v2] (x0, x1, x2) := by
  have h := (Rep.mk2 (show (Rep.str.slice).has w F0 [v0] x0 from s0) (Rep.mk2 (show ((Rep.int.slice).slice).has w F1 [v1] x1 from s1) (show (Rep.bool.slice).has w F2 [v2] x2 from s2)))
  simp only [List.nil_append, List.append_nil, List.cons_append, List.append_assoc] at h ⊢
  exact h

abbrev StepD := Int × ByteArray × ByteArray × ByteArray × (List (List TestD)) × (List ByteArray) × Bool × Int
def rStep : Rep StepD := Rep.pair Rep.int (Rep.pair Rep.str (Rep.pair Rep.str (Rep.pair Rep.str (Rep.pair ((rTest.slice).slice) (Rep.pair (Rep.str.slice) (Rep.pair Rep.bool Rep.int))))))
theorem rStep_open {w : World} {F : List Nat} {cs : List Value} {x : StepD} (h : rStep.has w F cs x) :
    ∃ A4 c4 F4 A5 c5 F5, cs = [.int .i64 x.1, .string x.2.1, .string x.2.2.1, .string x.2.2.2.1, .slice A4 x.2.2.2.2.1.length c4, .slice A5 x.2.2.2.2.2.1.length c5, .bool x.2.2.2.2.2.2.1, .int .i64 x.2.2.2.2.2.2.2] ∧ F = F4 ++ F5 ∧ I64 x.1 ∧ x.2.1.size ≤ maxLen ∧ x.2.2.1.size ≤ maxLen ∧ x.2.2.2.1.size ≤ maxLen ∧ SliceHas (rTest.slice) w F4 [.slice A4 x.2.2.2.2.1.length c4] x.2.2.2.2.1 ∧ SliceHas Rep.str w F5 [.slice A5 x.2.2.2.2.2.1.length c5] x.2.2.2.2.2.1 ∧ I64 x.2.2.2.2.2.2.2 := by
  obtain ⟨Fa0, Fb0, ca0, cb0, rfl, rfl, ⟨rfl, rfl, i0⟩, ⟨Fa1, Fb1, ca1, cb1, rfl, rfl, ⟨rfl, rfl, i1⟩, ⟨Fa2, Fb2, ca2, cb2, rfl, rfl, ⟨rfl, rfl, i2⟩, ⟨Fa3, Fb3, ca3, cb3, rfl, rfl, ⟨rfl, rfl, i3⟩, ⟨Fa4, Fb4, ca4, cb4, rfl, rfl, s4, ⟨Fa5, Fb5, ca5, cb5, rfl, rfl, s5, ⟨Fa6, Fb6, ca6, cb6, rfl, rfl, ⟨rfl, rfl⟩, ⟨rfl, rfl, i7⟩⟩⟩⟩⟩⟩⟩⟩ := h
  obtain ⟨u4, rfl⟩ := Rep.one_cell rfl s4
  obtain ⟨A4, c4, rfl, _⟩ := SliceHas.form' s4
  obtain ⟨u5, rfl⟩ := Rep.one_cell rfl s5
  obtain ⟨A5, c5, rfl, _⟩ := SliceHas.form' s5
  exact ⟨A4, c4, _, A5, c5, _, rfl, by simp, i0, i1, i2, i3, s4, s5, i7⟩
theorem rStep_mk {w : World} {x0 : Int} {x1 : ByteArray} {x2 : ByteArray} {x3 : ByteArray} {x4 : (List (List TestD))} {x5 : (List ByteArray)} {x6 : Bool} {x7 : Int} {F4 : List Nat} {v4 : Value} {F5 : List Nat} {v5 : Value} (i0 : I64 x0) (i1 : x1.size ≤ maxLen) (i2 : x2.size ≤ maxLen) (i3 : x3.size ≤ maxLen) (s4 : SliceHas (rTest.slice) w F4 [v4] x4) (s5 : SliceHas Rep.str w F5 [v5] x5) (i7 : I64 x7) :
    rStep.has w (F4 ++ F5) [.int .i64 x0, .string x1, .string x2, .string x3, v4, v5, .bool x6, .int .i64 x7] (x0, x1, x2, x3, x4, x5, x6, x7) := by
  have h := (Rep.mk2 (show Rep.int.has w [] [.int .i64 x0] x0 from ⟨rfl, rfl, i0⟩) (Rep.mk2 (show Rep.str.has w [] [.string x1] x1 from ⟨rfl, rfl, i1⟩) (Rep.mk2 (show Rep.str.has w [] [.string x2] x2 from ⟨rfl, rfl, i2⟩) (Rep.mk2 (show Rep.str.has w [] [.string x3] x3 from ⟨rfl, rfl, i3⟩) (Rep.mk2 (show ((rTest.slice).slice).has w F4 [v4] x4 from s4) (Rep.mk2 (show (Rep.str.slice).has w F5 [v5] x5 from s5) (Rep.mk2 (show Rep.bool.has w [] [.bool x6] x6 from ⟨rfl, rfl⟩) (show Rep.int.has w [] [.int .i64 x7] x7 from ⟨rfl, rfl, i7⟩))))))))
  simp only [List.nil_append, List.append_nil, List.cons_append, List.append_assoc] at h ⊢
  exact h

abbrev QueryD := (List ByteArray) × ByteArray × ByteArray × ByteArray × ByteArray × (List (List TestD)) × ByteArray × ByteArray × ByteArray × Bool × Int
def rQuery : Rep QueryD := Rep.pair (Rep.str.slice) (Rep.pair Rep.str (Rep.pair Rep.str (Rep.pair Rep.str (Rep.pair Rep.str (Rep.pair ((rTest.slice).slice) (Rep.pair Rep.str (Rep.pair Rep.str (Rep.pair Rep.str (Rep.pair Rep.bool Rep.int)))))))))
theorem rQuery_open {w : World} {F : List Nat} {cs : List Value} {x : QueryD} (h : rQuery.has w F cs x) :
    ∃ A0 c0 F0 A5 c5 F5, cs = [.slice A0 x.1.length c0, .string x.2.1, .string x.2.2.1, .string x.2.2.2.1, .string x.2.2.2.2.1, .slice A5 x.2.2.2.2.2.1.length c5, .string x.2.2.2.2.2.2.1, .string x.2.2.2.2.2.2.2.1, .string x.2.2.2.2.2.2.2.2.1, .bool x.2.2.2.2.2.2.2.2.2.1, .int .i64 x.2.2.2.2.2.2.2.2.2.2] ∧ F = F0 ++ F5 ∧ SliceHas Rep.str w F0 [.slice A0 x.1.length c0] x.1 ∧ x.2.1.size ≤ maxLen ∧ x.2.2.1.size ≤ maxLen ∧ x.2.2.2.1.size ≤ maxLen ∧ x.2.2.2.2.1.size ≤ maxLen ∧ SliceHas (rTest.slice) w F5 [.slice A5 x.2.2.2.2.2.1.length c5] x.2.2.2.2.2.1 ∧ x.2.2.2.2.2.2.1.size ≤ maxLen ∧ x.2.2.2.2.2.2.2.1.size ≤ maxLen ∧ x.2.2.2.2.2.2.2.2.1.size ≤ maxLen ∧ I64 x.2.2.2.2.2.2.2.2.2.2 := by
  obtain ⟨Fa0, Fb0, ca0, cb0, rfl, rfl, s0, ⟨Fa1, Fb1, ca1, cb1, rfl, rfl, ⟨rfl, rfl, i1⟩, ⟨Fa2, Fb2, ca2, cb2, rfl, rfl, ⟨rfl, rfl, i2⟩, ⟨Fa3, Fb3, ca3, cb3, rfl, rfl, ⟨rfl, rfl, i3⟩, ⟨Fa4, Fb4, ca4, cb4, rfl, rfl, ⟨rfl, rfl, i4⟩, ⟨Fa5, Fb5, ca5, cb5, rfl, rfl, s5, ⟨Fa6, Fb6, ca6, cb6, rfl, rfl, ⟨rfl, rfl, i6⟩, ⟨Fa7, Fb7, ca7, cb7, rfl, rfl, ⟨rfl, rfl, i7⟩, ⟨Fa8, Fb8, ca8, cb8, rfl, rfl, ⟨rfl, rfl, i8⟩, ⟨Fa9, Fb9, ca9, cb9, rfl, rfl, ⟨rfl, rfl⟩, ⟨rfl, rfl, i10⟩⟩⟩⟩⟩⟩⟩⟩⟩⟩⟩ := h
  obtain ⟨u0, rfl⟩ := Rep.one_cell rfl s0
  obtain ⟨A0, c0, rfl, _⟩ := SliceHas.form' s0
  obtain ⟨u5, rfl⟩ := Rep.one_cell rfl s5
  obtain ⟨A5, c5, rfl, _⟩ := SliceHas.form' s5
  exact ⟨A0, c0, _, A5, c5, _, rfl, by simp, s0, i1, i2, i3, i4, s5, i6, i7, i8, i10⟩
theorem rQuery_mk {w : World} {x0 : (List ByteArray)} {x1 : ByteArray} {x2 : ByteArray} {x3 : ByteArray} {x4 : ByteArray} {x5 : (List (List TestD))} {x6 : ByteArray} {x7 : ByteArray} {x8 : ByteArray} {x9 : Bool} {x10 : Int} {F0 : List Nat} {v0 : Value} {F5 : List Nat} {v5 : Value} (s0 : SliceHas Rep.str w F0 [v0] x0) (i1 : x1.size ≤ maxLen) (i2 : x2.size ≤ maxLen) (i3 : x3.size ≤ maxLen) (i4 : x4.size ≤ maxLen) (s5 : SliceHas (rTest.slice) w F5 [v5] x5) (i6 : x6.size ≤ maxLen) (i7 : x7.size ≤ maxLen) (i8 : x8.size ≤ maxLen) (i10 : I64 x10) :
    rQuery.has w (F0 ++ F5) [v0, .string x1, .string x2, .string x3, .string x4, v5, .string x6, .string x7, .string x8, .bool x9, .int .i64 x10] (x0, x1, x2, x3, x4, x5, x6, x7, x8, x9, x10) := by
  have h := (Rep.mk2 (show (Rep.str.slice).has w F0 [v0] x0 from s0) (Rep.mk2 (show Rep.str.has w [] [.string x1] x1 from ⟨rfl, rfl, i1⟩) (Rep.mk2 (show Rep.str.has w [] [.string x2] x2 from ⟨rfl, rfl, i2⟩) (Rep.mk2 (show Rep.str.has w [] [.string x3] x3 from ⟨rfl, rfl, i3⟩) (Rep.mk2 (show Rep.str.has w [] [.string x4] x4 from ⟨rfl, rfl, i4⟩) (Rep.mk2 (show ((rTest.slice).slice).has w F5 [v5] x5 from s5) (Rep.mk2 (show Rep.str.has w [] [.string x6] x6 from ⟨rfl, rfl, i6⟩) (Rep.mk2 (show Rep.str.has w [] [.string x7] x7 from ⟨rfl, rfl, i7⟩) (Rep.mk2 (show Rep.str.has w [] [.string x8] x8 from ⟨rfl, rfl, i8⟩) (Rep.mk2 (show Rep.bool.has w [] [.bool x9] x9 from ⟨rfl, rfl⟩) (show Rep.int.has w [] [.int .i64 x10] x10 from ⟨rfl, rfl, i10⟩)))))))))))
  simp only [List.nil_append, List.append_nil, List.cons_append, List.append_assoc] at h ⊢
  exact h


end Go.Proofs.YtnbaekjednmfjaaDoor
