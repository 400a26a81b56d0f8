/- The shapes of the data of the program's types. -/
import Derived.Test.YtldknaajnnohiaaDoorMem
namespace Go.Proofs.YtldknaajnnohiaaDoor
open Go.RowKit
attribute [local go_sem] ext_cell

abbrev PairD := Int × Int
def rPair : Rep PairD := Rep.pair Rep.int Rep.int
theorem rPair_mk {w : World} {x0 : Int} {x1 : Int} (i0 : I64 x0) (i1 : I64 x1) :
    rPair.has w ([]) [.int .i64 x0, .int .i64 x1] (x0, x1) := by
  have h := (Rep.mk2 (show Rep.int.has w [] [.int .i64 x0] x0 from ⟨rfl, rfl, i0⟩) (show Rep.int.has w [] [.int .i64 x1] x1 from ⟨rfl, rfl, i1⟩))
  simp only [List.nil_append, List.append_nil, List.cons_append, List.append_assoc] at h ⊢
  exact h

abbrev AccessD := Int × Int × Bool
def rAccess : Rep AccessD := Rep.pair Rep.int (Rep.pair Rep.int Rep.bool)
theorem rAccess_mk {w : World} {x0 : Int} {x1 : Int} {x2 : Bool} (i0 : I64 x0) (i1 : I64 x1) :
    rAccess.has w ([]) [.int .i64 x0, .int .i64 x1, .bool x2] (x0, x1, x2) := by
  have h := (Rep.mk2 (show Rep.int.has w [] [.int .i64 x0] x0 from ⟨rfl, rfl, i0⟩) (Rep.mk2 (show Rep.int.has w [] [.int .i64 x1] x1 from ⟨rfl, rfl, i1⟩) (show Rep.bool.has w [] [.bool x2] x2 from ⟨rfl, rfl⟩)))
  simp only [List.nil_append, List.append_nil, List.cons_append, List.append_assoc] at h ⊢
  exact h

abbrev BlockD := Int × Int × Int
def rBlock : Rep BlockD := Rep.pair Rep.int (Rep.pair Rep.int Rep.int)
abbrev UseD := Int × Bool × Int × Int
def rUse : Rep UseD := Rep.pair Rep.int (Rep.pair Rep.bool (Rep.pair Rep.int Rep.int))
abbrev TestD := ByteArray × ByteArray × Int × ByteArray
def rTest : Rep TestD := Rep.pair Rep.str (Rep.pair Rep.str (Rep.pair Rep.int Rep.str))
abbrev SealedD := Int × (List Int) × Int
def rSealed : Rep SealedD := Rep.pair Rep.int (Rep.pair (Rep.int.slice) Rep.int)
abbrev ShapeD := ByteArray × (List ByteArray) × Int
def rShape : Rep ShapeD := Rep.pair Rep.str (Rep.pair (Rep.str.slice) Rep.int)
abbrev MemoryD := (List (List BlockD)) × (List BlockD)
def rMemory : Rep MemoryD := Rep.pair ((rBlock.slice).slice) ((rBlock.slice))
abbrev TableD := (List ByteArray) × (List (List Int))
def rTable : Rep TableD := Rep.pair (Rep.str.slice) (((Rep.int.slice).slice))
abbrev NamedD := ByteArray × TableD
def rNamed : Rep NamedD := Rep.pair Rep.str (rTable)
abbrev PaddedD := (List ByteArray) × (List (List Int)) × (List Bool)
def rPadded : Rep PaddedD := Rep.pair (Rep.str.slice) (Rep.pair ((Rep.int.slice).slice) ((Rep.bool.slice)))
theorem rPadded_open {w : World} {F : List Nat} {cs : List Value} {x : PaddedD} (h : rPadded.has w F cs x) :
    ∃ A0 c0 F0 A1 c1 F1 A2 c2 F2, cs = [.slice A0 x.1.length c0, .slice A1 x.2.1.length c1, .slice A2 x.2.2.length c2] ∧ F = F0 ++ F1 ++ F2 ∧ SliceHas Rep.str w F0 [.slice A0 x.1.length c0] x.1 ∧ SliceHas (Rep.int.slice) w F1 [.slice A1 x.2.1.length c1] x.2.1 ∧ SliceHas Rep.bool w F2 [.slice A2 x.2.2.length c2] x.2.2 := by
  obtain ⟨Fa0, Fb0, ca0, cb0, rfl, rfl, s0, ⟨Fa1, Fb1, ca1, cb1, rfl, rfl, s1, s2⟩⟩ := h
  obtain ⟨u0, rfl⟩ := Rep.one_cell rfl s0
  obtain ⟨A0, c0, rfl, _⟩ := SliceHas.form' s0
  obtain ⟨u1, rfl⟩ := Rep.one_cell rfl s1
  obtain ⟨A1, c1, rfl, _⟩ := SliceHas.form' s1
  obtain ⟨u2, rfl⟩ := Rep.one_cell rfl s2
  obtain ⟨A2, c2, rfl, _⟩ := SliceHas.form' s2
  exact ⟨A0, c0, _, A1, c1, _, A2, c2, _, rfl, by simp, s0, s1, s2⟩
theorem rPadded_mk {w : World} {x0 : (List ByteArray)} {x1 : (List (List Int))} {x2 : (List Bool)} {F0 : List Nat} {v0 : Value} {F1 : List Nat} {v1 : Value} {F2 : List Nat} {v2 : Value} (s0 : SliceHas Rep.str w F0 [v0] x0) (s1 : SliceHas (Rep.int.slice) w F1 [v1] x1) (s2 : SliceHas Rep.bool w F2 [v2] x2) :
    rPadded.has w (F0 ++ F1 ++ F2) [v0, v1, v2] (x0, x1, x2) := by
  have h := (Rep.mk2 (show (Rep.str.slice).has w F0 [v0] x0 from s0) (Rep.mk2 (show ((Rep.int.slice).slice).has w F1 [v1] x1 from s1) (show (Rep.bool.slice).has w F2 [v2] x2 from s2)))
  simp only [List.nil_append, List.append_nil, List.cons_append, List.append_assoc] at h ⊢
  exact h

abbrev StepD := Int × ByteArray × ByteArray × ByteArray × (List (List TestD)) × (List ByteArray) × Bool × Int
def rStep : Rep StepD := Rep.pair Rep.int (Rep.pair Rep.str (Rep.pair Rep.str (Rep.pair Rep.str (Rep.pair ((rTest.slice).slice) (Rep.pair (Rep.str.slice) (Rep.pair Rep.bool Rep.int))))))
abbrev QueryD := (List ByteArray) × ByteArray × ByteArray × ByteArray × ByteArray × (List (List TestD)) × ByteArray × ByteArray × ByteArray × Bool × Int
def rQuery : Rep QueryD := Rep.pair (Rep.str.slice) (Rep.pair Rep.str (Rep.pair Rep.str (Rep.pair Rep.str (Rep.pair Rep.str (Rep.pair ((rTest.slice).slice) (Rep.pair Rep.str (Rep.pair Rep.str (Rep.pair Rep.str (Rep.pair Rep.bool Rep.int)))))))))
end Go.Proofs.YtldknaajnnohiaaDoor
