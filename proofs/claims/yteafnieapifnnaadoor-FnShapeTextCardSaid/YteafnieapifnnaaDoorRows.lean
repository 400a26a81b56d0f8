/-
  NARROWER THAN 'FOR EVERY INPUT', by the rows' own cells (each row's printed sentence says how): FnShapesOf: laid · FnShapeRows: laid · FnExactRowText: laid · FnExactShapeText: laid · FnExactTableText: laid · FnShapeText: laid.
  DERIVED. THE GIVEN ROWS OF THIS SEAT. 6 by the template 'for every input the law returns true; each argument reads behind the call as it read before'; 0 by the template 'total and deterministic' (their statements: YteafnieapifnnaaDoorTotals.lean).
  GIVEN WITH THE SEED: the statements are not yours to turn. If you find one false, say at which input.
  Laid BY PROGRAM, IN A SANDBOX (cutbox-rows.mjs): the forced cells as the released guide's own fill.sh prints them over the translation 1a23246525d3177d… (all of the seat's roots in one cut). By AI agents, Wed Nov 11 2026. No macro, syntax, notation, axiom, sorry.
-/
import Derived.Test.YteafnieapifnnaaDoorChecked
import GoSem.Claim
import GoSem.ClaimJoined
import GoSem.ClaimMapViews
import Derived.JoinedTies
import Derived.KernelRfl
namespace Go.Proofs.YteafnieapifnnaaDoor
/- THE CELL 'sum', in the pinned program and in every row, IS THE sha256 OF THE DUMP (.gsa) THAT YteafnieapifnnaaDoorProg.lean LOADS. Nothing in Lean hashes anything: it is a label: what it is worth is what the hold of that sum in a sandbox is worth. -/
noncomputable def Tryd.pinned : Pinned := { name := "yteafnieapifnnaadoor", sum := "1a23246525d3177d5805ec437c0fffc2955f29a81afc9dff03d5506bf6424150", checked := Tryd.checked }
namespace Rows
def none {H : Type} : Left H := { results := [], args := [] }

/- WHAT THE LISTED PACKAGE-LEVEL VARIABLES READ AS WHEN THE CALL BEGINS. Each datum BY PROGRAM (the guide's laid-datum.mjs) off the statement by which the dump's own 'gosem.cut.vars' lays the variable. In a bare row this is a premise. The card (YteafnieapifnnaaDoorCards.lean) ties it to the program's text. -/
def laid_loop_example_obliviousqueries_impl_reserved {H : Type} : DataW H := .slice [.lit (.string [115, 101, 108, 101, 99, 116]), .lit (.string [102, 114, 111, 109]), .lit (.string [106, 111, 105, 110]), .lit (.string [111, 110]), .lit (.string [119, 104, 101, 114, 101]), .lit (.string [97, 110, 100]), .lit (.string [111, 114]), .lit (.string [103, 114, 111, 117, 112]), .lit (.string [98, 121]), .lit (.string [115, 117, 109]), .lit (.string [111, 114, 100, 101, 114]), .lit (.string [100, 111, 119, 110]), .lit (.string [108, 105, 109, 105, 116])] []
def laid_math_bits_deBruijn32tab {H : Type} : DataW H := .agg [.lit (.int .u8 0), .lit (.int .u8 1), .lit (.int .u8 28), .lit (.int .u8 2), .lit (.int .u8 29), .lit (.int .u8 14), .lit (.int .u8 24), .lit (.int .u8 3), .lit (.int .u8 30), .lit (.int .u8 22), .lit (.int .u8 20), .lit (.int .u8 15), .lit (.int .u8 25), .lit (.int .u8 17), .lit (.int .u8 4), .lit (.int .u8 8), .lit (.int .u8 31), .lit (.int .u8 27), .lit (.int .u8 13), .lit (.int .u8 23), .lit (.int .u8 21), .lit (.int .u8 19), .lit (.int .u8 16), .lit (.int .u8 7), .lit (.int .u8 26), .lit (.int .u8 12), .lit (.int .u8 18), .lit (.int .u8 6), .lit (.int .u8 11), .lit (.int .u8 5), .lit (.int .u8 10), .lit (.int .u8 9)]
def laid_math_bits_deBruijn64tab {H : Type} : DataW H := .agg [.lit (.int .u8 0), .lit (.int .u8 1), .lit (.int .u8 56), .lit (.int .u8 2), .lit (.int .u8 57), .lit (.int .u8 49), .lit (.int .u8 28), .lit (.int .u8 3), .lit (.int .u8 61), .lit (.int .u8 58), .lit (.int .u8 42), .lit (.int .u8 50), .lit (.int .u8 38), .lit (.int .u8 29), .lit (.int .u8 17), .lit (.int .u8 4), .lit (.int .u8 62), .lit (.int .u8 47), .lit (.int .u8 59), .lit (.int .u8 36), .lit (.int .u8 45), .lit (.int .u8 43), .lit (.int .u8 51), .lit (.int .u8 22), .lit (.int .u8 53), .lit (.int .u8 39), .lit (.int .u8 33), .lit (.int .u8 30), .lit (.int .u8 24), .lit (.int .u8 18), .lit (.int .u8 12), .lit (.int .u8 5), .lit (.int .u8 63), .lit (.int .u8 55), .lit (.int .u8 48), .lit (.int .u8 27), .lit (.int .u8 60), .lit (.int .u8 41), .lit (.int .u8 37), .lit (.int .u8 16), .lit (.int .u8 46), .lit (.int .u8 35), .lit (.int .u8 44), .lit (.int .u8 21), .lit (.int .u8 52), .lit (.int .u8 32), .lit (.int .u8 23), .lit (.int .u8 11), .lit (.int .u8 54), .lit (.int .u8 26), .lit (.int .u8 40), .lit (.int .u8 15), .lit (.int .u8 34), .lit (.int .u8 20), .lit (.int .u8 31), .lit (.int .u8 10), .lit (.int .u8 25), .lit (.int .u8 14), .lit (.int .u8 19), .lit (.int .u8 9), .lit (.int .u8 13), .lit (.int .u8 8), .lit (.int .u8 7), .lit (.int .u8 6)]
def laid_internal_strconv_uint64pow10 {H : Type} : DataW H := .agg [.lit (.int .u64 1), .lit (.int .u64 10), .lit (.int .u64 100), .lit (.int .u64 1000), .lit (.int .u64 10000), .lit (.int .u64 100000), .lit (.int .u64 1000000), .lit (.int .u64 10000000), .lit (.int .u64 100000000), .lit (.int .u64 1000000000), .lit (.int .u64 10000000000), .lit (.int .u64 100000000000), .lit (.int .u64 1000000000000), .lit (.int .u64 10000000000000), .lit (.int .u64 100000000000000), .lit (.int .u64 1000000000000000), .lit (.int .u64 10000000000000000), .lit (.int .u64 100000000000000000), .lit (.int .u64 1000000000000000000), .lit (.int .u64 10000000000000000000)]

/-- 'laws.FnShapesOf': WHATEVER THE INPUT: true; the input reads as it did. -/
def fnShapesOfSpec : ChangeSpec := { name := "fnShapesOf", vars := ["loop.example/obliviousqueries/impl.reserved"], fn := fun _ => fun
  | [d, g1] => { results := [.lit (.bool true)], args := [d], vars := [g1] }
  | _ => none }
def fnShapesOfRow : OpenClaim := { program := "yteafnieapifnnaadoor", sum := "1a23246525d3177d5805ec437c0fffc2955f29a81afc9dff03d5506bf6424150", func := "loop.example/obliviousqueries/laws.FnShapesOf", spec := "fnShapesOf", unfollowed := true, recurses := true, named := ["loop.example/obliviousqueries/impl.reserved"], apart := false, laid := [("loop.example/obliviousqueries/impl.reserved", laid_loop_example_obliviousqueries_impl_reserved)] }
def FnShapesOfSaid : Prop := fnShapesOfRow.holds Tryd.pinned (OpenSpec.ofChange fnShapesOfSpec)

/-- ITS FALSE NEIGHBOUR: 'it returns false'. Refute it at one input. -/
def fnShapesOfWrong : ChangeSpec := { name := "fnShapesOf", vars := ["loop.example/obliviousqueries/impl.reserved"], fn := fun _ => fun
  | [d, g1] => { results := [.lit (.bool false)], args := [d], vars := [g1] }
  | _ => none }
def FnShapesOfWrongFalsely : Prop := fnShapesOfRow.holds Tryd.pinned (OpenSpec.ofChange fnShapesOfWrong)

/-- 'laws.FnShapeRows': WHATEVER THE INPUT: true; the input reads as it did. -/
def fnShapeRowsSpec : ChangeSpec := { name := "fnShapeRows", vars := ["loop.example/obliviousqueries/impl.reserved"], fn := fun _ => fun
  | [d, g1] => { results := [.lit (.bool true)], args := [d], vars := [g1] }
  | _ => none }
def fnShapeRowsRow : OpenClaim := { program := "yteafnieapifnnaadoor", sum := "1a23246525d3177d5805ec437c0fffc2955f29a81afc9dff03d5506bf6424150", func := "loop.example/obliviousqueries/laws.FnShapeRows", spec := "fnShapeRows", unfollowed := true, recurses := true, named := ["loop.example/obliviousqueries/impl.reserved"], apart := false, laid := [("loop.example/obliviousqueries/impl.reserved", laid_loop_example_obliviousqueries_impl_reserved)] }
def FnShapeRowsSaid : Prop := fnShapeRowsRow.holds Tryd.pinned (OpenSpec.ofChange fnShapeRowsSpec)

/-- ITS FALSE NEIGHBOUR: 'it returns false'. Refute it at one input. -/
def fnShapeRowsWrong : ChangeSpec := { name := "fnShapeRows", vars := ["loop.example/obliviousqueries/impl.reserved"], fn := fun _ => fun
  | [d, g1] => { results := [.lit (.bool false)], args := [d], vars := [g1] }
  | _ => none }
def FnShapeRowsWrongFalsely : Prop := fnShapeRowsRow.holds Tryd.pinned (OpenSpec.ofChange fnShapeRowsWrong)

/-- 'laws.FnExactRowText': WHATEVER THE INPUT: true; the input reads as it did. -/
def fnExactRowTextSpec : ChangeSpec := { name := "fnExactRowText", fn := fun _ => fun
  | [d] => { results := [.lit (.bool true)], args := [d] }
  | _ => none }
def fnExactRowTextRow : OpenClaim := { program := "yteafnieapifnnaadoor", sum := "1a23246525d3177d5805ec437c0fffc2955f29a81afc9dff03d5506bf6424150", func := "loop.example/obliviousqueries/laws.FnExactRowText", spec := "fnExactRowText", inPlace := ["internal/abi.NoEscape", "internal/bytealg.MakeNoZero"], named := ["internal/strconv.uint64pow10", "math/bits.deBruijn32tab", "math/bits.deBruijn64tab"], apart := false, laid := [("math/bits.deBruijn32tab", laid_math_bits_deBruijn32tab), ("math/bits.deBruijn64tab", laid_math_bits_deBruijn64tab), ("internal/strconv.uint64pow10", laid_internal_strconv_uint64pow10)] }
def FnExactRowTextSaid : Prop := fnExactRowTextRow.holds Tryd.pinned (OpenSpec.ofChange fnExactRowTextSpec)

/-- ITS FALSE NEIGHBOUR: 'it returns false'. Refute it at one input. -/
def fnExactRowTextWrong : ChangeSpec := { name := "fnExactRowText", fn := fun _ => fun
  | [d] => { results := [.lit (.bool false)], args := [d] }
  | _ => none }
def FnExactRowTextWrongFalsely : Prop := fnExactRowTextRow.holds Tryd.pinned (OpenSpec.ofChange fnExactRowTextWrong)

/-- 'laws.FnExactShapeText': WHATEVER THE INPUT: true; the input reads as it did. -/
def fnExactShapeTextSpec : ChangeSpec := { name := "fnExactShapeText", vars := ["loop.example/obliviousqueries/impl.reserved"], fn := fun _ => fun
  | [d, g1] => { results := [.lit (.bool true)], args := [d], vars := [g1] }
  | _ => none }
def fnExactShapeTextRow : OpenClaim := { program := "yteafnieapifnnaadoor", sum := "1a23246525d3177d5805ec437c0fffc2955f29a81afc9dff03d5506bf6424150", func := "loop.example/obliviousqueries/laws.FnExactShapeText", spec := "fnExactShapeText", inPlace := ["internal/abi.NoEscape", "internal/bytealg.MakeNoZero"], unfollowed := true, recurses := true, named := ["loop.example/obliviousqueries/impl.reserved", "internal/strconv.uint64pow10", "math/bits.deBruijn32tab", "math/bits.deBruijn64tab"], apart := false, laid := [("math/bits.deBruijn32tab", laid_math_bits_deBruijn32tab), ("math/bits.deBruijn64tab", laid_math_bits_deBruijn64tab), ("internal/strconv.uint64pow10", laid_internal_strconv_uint64pow10), ("loop.example/obliviousqueries/impl.reserved", laid_loop_example_obliviousqueries_impl_reserved)] }
def FnExactShapeTextSaid : Prop := fnExactShapeTextRow.holds Tryd.pinned (OpenSpec.ofChange fnExactShapeTextSpec)

/-- ITS FALSE NEIGHBOUR: 'it returns false'. Refute it at one input. -/
def fnExactShapeTextWrong : ChangeSpec := { name := "fnExactShapeText", vars := ["loop.example/obliviousqueries/impl.reserved"], fn := fun _ => fun
  | [d, g1] => { results := [.lit (.bool false)], args := [d], vars := [g1] }
  | _ => none }
def FnExactShapeTextWrongFalsely : Prop := fnExactShapeTextRow.holds Tryd.pinned (OpenSpec.ofChange fnExactShapeTextWrong)

/-- 'laws.FnExactTableText': WHATEVER THE INPUT: true; the input reads as it did. -/
def fnExactTableTextSpec : ChangeSpec := { name := "fnExactTableText", vars := ["loop.example/obliviousqueries/impl.reserved"], fn := fun _ => fun
  | [d, g1] => { results := [.lit (.bool true)], args := [d], vars := [g1] }
  | _ => none }
def fnExactTableTextRow : OpenClaim := { program := "yteafnieapifnnaadoor", sum := "1a23246525d3177d5805ec437c0fffc2955f29a81afc9dff03d5506bf6424150", func := "loop.example/obliviousqueries/laws.FnExactTableText", spec := "fnExactTableText", inPlace := ["internal/abi.NoEscape", "internal/bytealg.MakeNoZero"], unfollowed := true, recurses := true, named := ["loop.example/obliviousqueries/impl.reserved", "internal/strconv.uint64pow10", "math/bits.deBruijn32tab", "math/bits.deBruijn64tab"], apart := false, laid := [("math/bits.deBruijn32tab", laid_math_bits_deBruijn32tab), ("math/bits.deBruijn64tab", laid_math_bits_deBruijn64tab), ("internal/strconv.uint64pow10", laid_internal_strconv_uint64pow10), ("loop.example/obliviousqueries/impl.reserved", laid_loop_example_obliviousqueries_impl_reserved)] }
def FnExactTableTextSaid : Prop := fnExactTableTextRow.holds Tryd.pinned (OpenSpec.ofChange fnExactTableTextSpec)

/-- ITS FALSE NEIGHBOUR: 'it returns false'. Refute it at one input. -/
def fnExactTableTextWrong : ChangeSpec := { name := "fnExactTableText", vars := ["loop.example/obliviousqueries/impl.reserved"], fn := fun _ => fun
  | [d, g1] => { results := [.lit (.bool false)], args := [d], vars := [g1] }
  | _ => none }
def FnExactTableTextWrongFalsely : Prop := fnExactTableTextRow.holds Tryd.pinned (OpenSpec.ofChange fnExactTableTextWrong)

/-- 'laws.FnShapeText': WHATEVER THE INPUT: true; the input reads as it did. -/
def fnShapeTextSpec : ChangeSpec := { name := "fnShapeText", vars := ["loop.example/obliviousqueries/impl.reserved"], fn := fun _ => fun
  | [d, g1] => { results := [.lit (.bool true)], args := [d], vars := [g1] }
  | _ => none }
def fnShapeTextRow : OpenClaim := { program := "yteafnieapifnnaadoor", sum := "1a23246525d3177d5805ec437c0fffc2955f29a81afc9dff03d5506bf6424150", func := "loop.example/obliviousqueries/laws.FnShapeText", spec := "fnShapeText", inPlace := ["internal/abi.NoEscape", "internal/bytealg.MakeNoZero"], unfollowed := true, recurses := true, named := ["loop.example/obliviousqueries/impl.reserved", "internal/strconv.uint64pow10", "math/bits.deBruijn32tab", "math/bits.deBruijn64tab"], apart := false, laid := [("math/bits.deBruijn32tab", laid_math_bits_deBruijn32tab), ("math/bits.deBruijn64tab", laid_math_bits_deBruijn64tab), ("internal/strconv.uint64pow10", laid_internal_strconv_uint64pow10), ("loop.example/obliviousqueries/impl.reserved", laid_loop_example_obliviousqueries_impl_reserved)] }
def FnShapeTextSaid : Prop := fnShapeTextRow.holds Tryd.pinned (OpenSpec.ofChange fnShapeTextSpec)

/-- ITS FALSE NEIGHBOUR: 'it returns false'. Refute it at one input. -/
def fnShapeTextWrong : ChangeSpec := { name := "fnShapeText", vars := ["loop.example/obliviousqueries/impl.reserved"], fn := fun _ => fun
  | [d, g1] => { results := [.lit (.bool false)], args := [d], vars := [g1] }
  | _ => none }
def FnShapeTextWrongFalsely : Prop := fnShapeTextRow.holds Tryd.pinned (OpenSpec.ofChange fnShapeTextWrong)

/- THE SECOND FORM. 'bulk': how many values and letters a reading holds, each counted each time it is reached (what is shared counts as often as it is met; a slice's spare places count too). A statement '..UptoSaid' is the law's where the arguments, and the package variables that the reading takes, are together of bulk at most 1048576: NARROWER than '..Said'. Prove '..Said' where nothing that the law and all that it calls make is longer than what came in: it says more and counts as full. Else prove '..UptoSaid'. A law counts once. -/
mutual
def uptoBulk {H : Type} : DataW H → Nat
  | .lit (.string bytes) => bytes.length + 1
  | .lit _ => 1
  | .nil => 1
  | .ptr d => uptoBulk d + 1
  | .slice elems spare => uptoBulkAll elems + uptoBulkAll spare + 1
  | .agg parts => uptoBulkAll parts + 1
  | .iface _ d => uptoBulk d + 1
  | .map entries => uptoBulkEntries entries + 1
  | .held _ => 1
def uptoBulkAll {H : Type} : List (DataW H) → Nat
  | [] => 0
  | d :: r => uptoBulk d + uptoBulkAll r
def uptoBulkEntries {H : Type} : List (Lit × DataW H) → Nat
  | [] => 0
  | x :: r => uptoBulkEntry x + uptoBulkEntries r
def uptoBulkEntry {H : Type} : Lit × DataW H → Nat
  | (.string bytes, d) => bytes.length + uptoBulk d + 1
  | (_, d) => uptoBulk d + 1
 end
def uptoSmall : (H : Type) → List (DataW H) → Bool := fun _ ds => decide (uptoBulkAll ds ≤ 1048576)
def OpenSpec.upto (s : _root_.Go.ChangeSpec) : _root_.Go.OpenSpec := { _root_.Go.OpenSpec.ofChange s with cond := some uptoSmall }

/-- 'laws.FnShapesOf', WHERE WHAT IT READS IS OF BULK AT MOST 1048576: true; the input reads as it did. -/
def fnShapesOfUptoRow : OpenClaim := { program := "yteafnieapifnnaadoor", sum := "1a23246525d3177d5805ec437c0fffc2955f29a81afc9dff03d5506bf6424150", func := "loop.example/obliviousqueries/laws.FnShapesOf", spec := "fnShapesOf", unfollowed := true, recurses := true, named := ["loop.example/obliviousqueries/impl.reserved"], apart := false, laid := [("loop.example/obliviousqueries/impl.reserved", laid_loop_example_obliviousqueries_impl_reserved)], narrowed := true }
def FnShapesOfUptoSaid : Prop := fnShapesOfUptoRow.holds Tryd.pinned (OpenSpec.upto fnShapesOfSpec)

/-- 'laws.FnShapeRows', WHERE WHAT IT READS IS OF BULK AT MOST 1048576: true; the input reads as it did. -/
def fnShapeRowsUptoRow : OpenClaim := { program := "yteafnieapifnnaadoor", sum := "1a23246525d3177d5805ec437c0fffc2955f29a81afc9dff03d5506bf6424150", func := "loop.example/obliviousqueries/laws.FnShapeRows", spec := "fnShapeRows", unfollowed := true, recurses := true, named := ["loop.example/obliviousqueries/impl.reserved"], apart := false, laid := [("loop.example/obliviousqueries/impl.reserved", laid_loop_example_obliviousqueries_impl_reserved)], narrowed := true }
def FnShapeRowsUptoSaid : Prop := fnShapeRowsUptoRow.holds Tryd.pinned (OpenSpec.upto fnShapeRowsSpec)

/-- 'laws.FnExactRowText', WHERE WHAT IT READS IS OF BULK AT MOST 1048576: true; the input reads as it did. -/
def fnExactRowTextUptoRow : OpenClaim := { program := "yteafnieapifnnaadoor", sum := "1a23246525d3177d5805ec437c0fffc2955f29a81afc9dff03d5506bf6424150", func := "loop.example/obliviousqueries/laws.FnExactRowText", spec := "fnExactRowText", inPlace := ["internal/abi.NoEscape", "internal/bytealg.MakeNoZero"], named := ["internal/strconv.uint64pow10", "math/bits.deBruijn32tab", "math/bits.deBruijn64tab"], apart := false, laid := [("math/bits.deBruijn32tab", laid_math_bits_deBruijn32tab), ("math/bits.deBruijn64tab", laid_math_bits_deBruijn64tab), ("internal/strconv.uint64pow10", laid_internal_strconv_uint64pow10)], narrowed := true }
def FnExactRowTextUptoSaid : Prop := fnExactRowTextUptoRow.holds Tryd.pinned (OpenSpec.upto fnExactRowTextSpec)

/-- 'laws.FnExactShapeText', WHERE WHAT IT READS IS OF BULK AT MOST 1048576: true; the input reads as it did. -/
def fnExactShapeTextUptoRow : OpenClaim := { program := "yteafnieapifnnaadoor", sum := "1a23246525d3177d5805ec437c0fffc2955f29a81afc9dff03d5506bf6424150", func := "loop.example/obliviousqueries/laws.FnExactShapeText", spec := "fnExactShapeText", inPlace := ["internal/abi.NoEscape", "internal/bytealg.MakeNoZero"], unfollowed := true, recurses := true, named := ["loop.example/obliviousqueries/impl.reserved", "internal/strconv.uint64pow10", "math/bits.deBruijn32tab", "math/bits.deBruijn64tab"], apart := false, laid := [("math/bits.deBruijn32tab", laid_math_bits_deBruijn32tab), ("math/bits.deBruijn64tab", laid_math_bits_deBruijn64tab), ("internal/strconv.uint64pow10", laid_internal_strconv_uint64pow10), ("loop.example/obliviousqueries/impl.reserved", laid_loop_example_obliviousqueries_impl_reserved)], narrowed := true }
def FnExactShapeTextUptoSaid : Prop := fnExactShapeTextUptoRow.holds Tryd.pinned (OpenSpec.upto fnExactShapeTextSpec)

/-- 'laws.FnExactTableText', WHERE WHAT IT READS IS OF BULK AT MOST 1048576: true; the input reads as it did. -/
def fnExactTableTextUptoRow : OpenClaim := { program := "yteafnieapifnnaadoor", sum := "1a23246525d3177d5805ec437c0fffc2955f29a81afc9dff03d5506bf6424150", func := "loop.example/obliviousqueries/laws.FnExactTableText", spec := "fnExactTableText", inPlace := ["internal/abi.NoEscape", "internal/bytealg.MakeNoZero"], unfollowed := true, recurses := true, named := ["loop.example/obliviousqueries/impl.reserved", "internal/strconv.uint64pow10", "math/bits.deBruijn32tab", "math/bits.deBruijn64tab"], apart := false, laid := [("math/bits.deBruijn32tab", laid_math_bits_deBruijn32tab), ("math/bits.deBruijn64tab", laid_math_bits_deBruijn64tab), ("internal/strconv.uint64pow10", laid_internal_strconv_uint64pow10), ("loop.example/obliviousqueries/impl.reserved", laid_loop_example_obliviousqueries_impl_reserved)], narrowed := true }
def FnExactTableTextUptoSaid : Prop := fnExactTableTextUptoRow.holds Tryd.pinned (OpenSpec.upto fnExactTableTextSpec)

/-- 'laws.FnShapeText', WHERE WHAT IT READS IS OF BULK AT MOST 1048576: true; the input reads as it did. -/
def fnShapeTextUptoRow : OpenClaim := { program := "yteafnieapifnnaadoor", sum := "1a23246525d3177d5805ec437c0fffc2955f29a81afc9dff03d5506bf6424150", func := "loop.example/obliviousqueries/laws.FnShapeText", spec := "fnShapeText", inPlace := ["internal/abi.NoEscape", "internal/bytealg.MakeNoZero"], unfollowed := true, recurses := true, named := ["loop.example/obliviousqueries/impl.reserved", "internal/strconv.uint64pow10", "math/bits.deBruijn32tab", "math/bits.deBruijn64tab"], apart := false, laid := [("math/bits.deBruijn32tab", laid_math_bits_deBruijn32tab), ("math/bits.deBruijn64tab", laid_math_bits_deBruijn64tab), ("internal/strconv.uint64pow10", laid_internal_strconv_uint64pow10), ("loop.example/obliviousqueries/impl.reserved", laid_loop_example_obliviousqueries_impl_reserved)], narrowed := true }
def FnShapeTextUptoSaid : Prop := fnShapeTextUptoRow.holds Tryd.pinned (OpenSpec.upto fnShapeTextSpec)

end Rows
end Go.Proofs.YteafnieapifnnaaDoor
