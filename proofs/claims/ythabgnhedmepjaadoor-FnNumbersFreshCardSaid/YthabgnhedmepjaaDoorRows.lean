/-
  NARROWER THAN 'FOR EVERY INPUT', by the rows' own cells (each row's printed sentence says how): FnPairTrace: laid · FnSealKey: laid · FnSealRow: laid · FnNumbersFresh: laid · FnMemoryValid: laid · FnOpenRow: laid · FnExactRowText: laid.
  DERIVED. THE GIVEN ROWS OF THIS SEAT. 7 by the template 'for every input the law returns true; each argument reads behind the call as it read before'; 0 by the template 'total and deterministic' (their statements: YthabgnhedmepjaaDoorTotals.lean).
  GIVEN WITH THE SEED: the statements are not yours to turn. If you find one false, say at which input.
  Laid BY PROGRAM, IN A SANDBOX (cutbox-rows.mjs): the forced cells as the released guide's own fill.sh prints them over the translation 3c51f73a180eb259… (all of the seat's roots in one cut). By AI agents, Wed Nov 11 2026. No macro, syntax, notation, axiom, sorry.
-/
import Derived.Test.YthabgnhedmepjaaDoorChecked
import GoSem.Claim
import GoSem.ClaimJoined
import GoSem.ClaimMapViews
import Derived.JoinedTies
import Derived.KernelRfl
namespace Go.Proofs.YthabgnhedmepjaaDoor
/- THE CELL 'sum', in the pinned program and in every row, IS THE sha256 OF THE DUMP (.gsa) THAT YthabgnhedmepjaaDoorProg.lean LOADS. Nothing in Lean hashes anything: it is a label: what it is worth is what the hold of that sum in a sandbox is worth. -/
noncomputable def Tryd.pinned : Pinned := { name := "ythabgnhedmepjaadoor", sum := "3c51f73a180eb25901c615efef43a3ca4357463a5e3763a126acf618774d418c", checked := Tryd.checked }
namespace Rows
def none {H : Type} : Left H := { results := [], args := [] }

/- WHAT THE LISTED PACKAGE-LEVEL VARIABLES READ AS WHEN THE CALL BEGINS. Each datum BY PROGRAM (the guide's laid-datum.mjs) off the statement by which the dump's own 'gosem.cut.vars' lays the variable. In a bare row this is a premise. The card (YthabgnhedmepjaaDoorCards.lean) ties it to the program's text. -/
def laid_loop_example_obliviousqueries_impl_reserved {H : Type} : DataW H := .slice [.lit (.string [115, 101, 108, 101, 99, 116]), .lit (.string [102, 114, 111, 109]), .lit (.string [106, 111, 105, 110]), .lit (.string [111, 110]), .lit (.string [119, 104, 101, 114, 101]), .lit (.string [97, 110, 100]), .lit (.string [111, 114]), .lit (.string [103, 114, 111, 117, 112]), .lit (.string [98, 121]), .lit (.string [115, 117, 109]), .lit (.string [111, 114, 100, 101, 114]), .lit (.string [100, 111, 119, 110]), .lit (.string [108, 105, 109, 105, 116])] []
def laid_math_bits_deBruijn32tab {H : Type} : DataW H := .agg [.lit (.int .u8 0), .lit (.int .u8 1), .lit (.int .u8 28), .lit (.int .u8 2), .lit (.int .u8 29), .lit (.int .u8 14), .lit (.int .u8 24), .lit (.int .u8 3), .lit (.int .u8 30), .lit (.int .u8 22), .lit (.int .u8 20), .lit (.int .u8 15), .lit (.int .u8 25), .lit (.int .u8 17), .lit (.int .u8 4), .lit (.int .u8 8), .lit (.int .u8 31), .lit (.int .u8 27), .lit (.int .u8 13), .lit (.int .u8 23), .lit (.int .u8 21), .lit (.int .u8 19), .lit (.int .u8 16), .lit (.int .u8 7), .lit (.int .u8 26), .lit (.int .u8 12), .lit (.int .u8 18), .lit (.int .u8 6), .lit (.int .u8 11), .lit (.int .u8 5), .lit (.int .u8 10), .lit (.int .u8 9)]
def laid_math_bits_deBruijn64tab {H : Type} : DataW H := .agg [.lit (.int .u8 0), .lit (.int .u8 1), .lit (.int .u8 56), .lit (.int .u8 2), .lit (.int .u8 57), .lit (.int .u8 49), .lit (.int .u8 28), .lit (.int .u8 3), .lit (.int .u8 61), .lit (.int .u8 58), .lit (.int .u8 42), .lit (.int .u8 50), .lit (.int .u8 38), .lit (.int .u8 29), .lit (.int .u8 17), .lit (.int .u8 4), .lit (.int .u8 62), .lit (.int .u8 47), .lit (.int .u8 59), .lit (.int .u8 36), .lit (.int .u8 45), .lit (.int .u8 43), .lit (.int .u8 51), .lit (.int .u8 22), .lit (.int .u8 53), .lit (.int .u8 39), .lit (.int .u8 33), .lit (.int .u8 30), .lit (.int .u8 24), .lit (.int .u8 18), .lit (.int .u8 12), .lit (.int .u8 5), .lit (.int .u8 63), .lit (.int .u8 55), .lit (.int .u8 48), .lit (.int .u8 27), .lit (.int .u8 60), .lit (.int .u8 41), .lit (.int .u8 37), .lit (.int .u8 16), .lit (.int .u8 46), .lit (.int .u8 35), .lit (.int .u8 44), .lit (.int .u8 21), .lit (.int .u8 52), .lit (.int .u8 32), .lit (.int .u8 23), .lit (.int .u8 11), .lit (.int .u8 54), .lit (.int .u8 26), .lit (.int .u8 40), .lit (.int .u8 15), .lit (.int .u8 34), .lit (.int .u8 20), .lit (.int .u8 31), .lit (.int .u8 10), .lit (.int .u8 25), .lit (.int .u8 14), .lit (.int .u8 19), .lit (.int .u8 9), .lit (.int .u8 13), .lit (.int .u8 8), .lit (.int .u8 7), .lit (.int .u8 6)]
def laid_internal_strconv_uint64pow10 {H : Type} : DataW H := .agg [.lit (.int .u64 1), .lit (.int .u64 10), .lit (.int .u64 100), .lit (.int .u64 1000), .lit (.int .u64 10000), .lit (.int .u64 100000), .lit (.int .u64 1000000), .lit (.int .u64 10000000), .lit (.int .u64 100000000), .lit (.int .u64 1000000000), .lit (.int .u64 10000000000), .lit (.int .u64 100000000000), .lit (.int .u64 1000000000000), .lit (.int .u64 10000000000000), .lit (.int .u64 100000000000000), .lit (.int .u64 1000000000000000), .lit (.int .u64 10000000000000000), .lit (.int .u64 100000000000000000), .lit (.int .u64 1000000000000000000), .lit (.int .u64 10000000000000000000)]

/-- 'laws.FnPairTrace': WHATEVER THE INPUT: true; the input reads as it did. -/
def fnPairTraceSpec : ChangeSpec := { name := "fnPairTrace", vars := ["loop.example/obliviousqueries/impl.reserved"], fn := fun _ => fun
  | [d, g1] => { results := [.lit (.bool true)], args := [d], vars := [g1] }
  | _ => none }
def fnPairTraceRow : OpenClaim := { program := "ythabgnhedmepjaadoor", sum := "3c51f73a180eb25901c615efef43a3ca4357463a5e3763a126acf618774d418c", func := "loop.example/obliviousqueries/laws.FnPairTrace", spec := "fnPairTrace", named := ["loop.example/obliviousqueries/impl.reserved"], apart := false, laid := [("loop.example/obliviousqueries/impl.reserved", laid_loop_example_obliviousqueries_impl_reserved)] }
def FnPairTraceSaid : Prop := fnPairTraceRow.holds Tryd.pinned (OpenSpec.ofChange fnPairTraceSpec)

/-- ITS FALSE NEIGHBOUR: 'it returns false'. Refute it at one input. -/
def fnPairTraceWrong : ChangeSpec := { name := "fnPairTrace", vars := ["loop.example/obliviousqueries/impl.reserved"], fn := fun _ => fun
  | [d, g1] => { results := [.lit (.bool false)], args := [d], vars := [g1] }
  | _ => none }
def FnPairTraceWrongFalsely : Prop := fnPairTraceRow.holds Tryd.pinned (OpenSpec.ofChange fnPairTraceWrong)

/-- 'laws.FnSealKey': WHATEVER THE INPUT: true; the input reads as it did. -/
def fnSealKeySpec : ChangeSpec := { name := "fnSealKey", vars := ["loop.example/obliviousqueries/impl.reserved"], fn := fun _ => fun
  | [d1, d2, g1] => { results := [.lit (.bool true)], args := [d1, d2], vars := [g1] }
  | _ => none }
def fnSealKeyRow : OpenClaim := { program := "ythabgnhedmepjaadoor", sum := "3c51f73a180eb25901c615efef43a3ca4357463a5e3763a126acf618774d418c", func := "loop.example/obliviousqueries/laws.FnSealKey", spec := "fnSealKey", unfollowed := true, recurses := true, named := ["loop.example/obliviousqueries/impl.reserved"], apart := false, laid := [("loop.example/obliviousqueries/impl.reserved", laid_loop_example_obliviousqueries_impl_reserved)] }
def FnSealKeySaid : Prop := fnSealKeyRow.holds Tryd.pinned (OpenSpec.ofChange fnSealKeySpec)

/-- ITS FALSE NEIGHBOUR: 'it returns false'. Refute it at one input. -/
def fnSealKeyWrong : ChangeSpec := { name := "fnSealKey", vars := ["loop.example/obliviousqueries/impl.reserved"], fn := fun _ => fun
  | [d1, d2, g1] => { results := [.lit (.bool false)], args := [d1, d2], vars := [g1] }
  | _ => none }
def FnSealKeyWrongFalsely : Prop := fnSealKeyRow.holds Tryd.pinned (OpenSpec.ofChange fnSealKeyWrong)

/-- 'laws.FnSealRow': WHATEVER THE INPUT: true; the input reads as it did. -/
def fnSealRowSpec : ChangeSpec := { name := "fnSealRow", vars := ["loop.example/obliviousqueries/impl.reserved"], fn := fun _ => fun
  | [d, g1] => { results := [.lit (.bool true)], args := [d], vars := [g1] }
  | _ => none }
def fnSealRowRow : OpenClaim := { program := "ythabgnhedmepjaadoor", sum := "3c51f73a180eb25901c615efef43a3ca4357463a5e3763a126acf618774d418c", func := "loop.example/obliviousqueries/laws.FnSealRow", spec := "fnSealRow", unfollowed := true, recurses := true, named := ["loop.example/obliviousqueries/impl.reserved"], apart := false, laid := [("loop.example/obliviousqueries/impl.reserved", laid_loop_example_obliviousqueries_impl_reserved)] }
def FnSealRowSaid : Prop := fnSealRowRow.holds Tryd.pinned (OpenSpec.ofChange fnSealRowSpec)

/-- ITS FALSE NEIGHBOUR: 'it returns false'. Refute it at one input. -/
def fnSealRowWrong : ChangeSpec := { name := "fnSealRow", vars := ["loop.example/obliviousqueries/impl.reserved"], fn := fun _ => fun
  | [d, g1] => { results := [.lit (.bool false)], args := [d], vars := [g1] }
  | _ => none }
def FnSealRowWrongFalsely : Prop := fnSealRowRow.holds Tryd.pinned (OpenSpec.ofChange fnSealRowWrong)

/-- 'laws.FnNumbersFresh': WHATEVER THE INPUT: true; the input reads as it did. -/
def fnNumbersFreshSpec : ChangeSpec := { name := "fnNumbersFresh", vars := ["loop.example/obliviousqueries/impl.reserved"], fn := fun _ => fun
  | [d, g1] => { results := [.lit (.bool true)], args := [d], vars := [g1] }
  | _ => none }
def fnNumbersFreshRow : OpenClaim := { program := "ythabgnhedmepjaadoor", sum := "3c51f73a180eb25901c615efef43a3ca4357463a5e3763a126acf618774d418c", func := "loop.example/obliviousqueries/laws.FnNumbersFresh", spec := "fnNumbersFresh", named := ["loop.example/obliviousqueries/impl.reserved"], apart := false, laid := [("loop.example/obliviousqueries/impl.reserved", laid_loop_example_obliviousqueries_impl_reserved)] }
def FnNumbersFreshSaid : Prop := fnNumbersFreshRow.holds Tryd.pinned (OpenSpec.ofChange fnNumbersFreshSpec)

/-- ITS FALSE NEIGHBOUR: 'it returns false'. Refute it at one input. -/
def fnNumbersFreshWrong : ChangeSpec := { name := "fnNumbersFresh", vars := ["loop.example/obliviousqueries/impl.reserved"], fn := fun _ => fun
  | [d, g1] => { results := [.lit (.bool false)], args := [d], vars := [g1] }
  | _ => none }
def FnNumbersFreshWrongFalsely : Prop := fnNumbersFreshRow.holds Tryd.pinned (OpenSpec.ofChange fnNumbersFreshWrong)

/-- 'laws.FnMemoryValid': WHATEVER THE INPUT: true; the input reads as it did. -/
def fnMemoryValidSpec : ChangeSpec := { name := "fnMemoryValid", vars := ["loop.example/obliviousqueries/impl.reserved"], fn := fun _ => fun
  | [d, g1] => { results := [.lit (.bool true)], args := [d], vars := [g1] }
  | _ => none }
def fnMemoryValidRow : OpenClaim := { program := "ythabgnhedmepjaadoor", sum := "3c51f73a180eb25901c615efef43a3ca4357463a5e3763a126acf618774d418c", func := "loop.example/obliviousqueries/laws.FnMemoryValid", spec := "fnMemoryValid", unfollowed := true, recurses := true, named := ["loop.example/obliviousqueries/impl.reserved"], apart := false, laid := [("loop.example/obliviousqueries/impl.reserved", laid_loop_example_obliviousqueries_impl_reserved)] }
def FnMemoryValidSaid : Prop := fnMemoryValidRow.holds Tryd.pinned (OpenSpec.ofChange fnMemoryValidSpec)

/-- ITS FALSE NEIGHBOUR: 'it returns false'. Refute it at one input. -/
def fnMemoryValidWrong : ChangeSpec := { name := "fnMemoryValid", vars := ["loop.example/obliviousqueries/impl.reserved"], fn := fun _ => fun
  | [d, g1] => { results := [.lit (.bool false)], args := [d], vars := [g1] }
  | _ => none }
def FnMemoryValidWrongFalsely : Prop := fnMemoryValidRow.holds Tryd.pinned (OpenSpec.ofChange fnMemoryValidWrong)

/-- 'laws.FnOpenRow': WHATEVER THE INPUT: true; the input reads as it did. -/
def fnOpenRowSpec : ChangeSpec := { name := "fnOpenRow", vars := ["loop.example/obliviousqueries/impl.reserved"], fn := fun _ => fun
  | [d, g1] => { results := [.lit (.bool true)], args := [d], vars := [g1] }
  | _ => none }
def fnOpenRowRow : OpenClaim := { program := "ythabgnhedmepjaadoor", sum := "3c51f73a180eb25901c615efef43a3ca4357463a5e3763a126acf618774d418c", func := "loop.example/obliviousqueries/laws.FnOpenRow", spec := "fnOpenRow", unfollowed := true, recurses := true, named := ["loop.example/obliviousqueries/impl.reserved"], apart := false, laid := [("loop.example/obliviousqueries/impl.reserved", laid_loop_example_obliviousqueries_impl_reserved)] }
def FnOpenRowSaid : Prop := fnOpenRowRow.holds Tryd.pinned (OpenSpec.ofChange fnOpenRowSpec)

/-- ITS FALSE NEIGHBOUR: 'it returns false'. Refute it at one input. -/
def fnOpenRowWrong : ChangeSpec := { name := "fnOpenRow", vars := ["loop.example/obliviousqueries/impl.reserved"], fn := fun _ => fun
  | [d, g1] => { results := [.lit (.bool false)], args := [d], vars := [g1] }
  | _ => none }
def FnOpenRowWrongFalsely : Prop := fnOpenRowRow.holds Tryd.pinned (OpenSpec.ofChange fnOpenRowWrong)

/-- 'laws.FnExactRowText': WHATEVER THE INPUT: true; the input reads as it did. -/
def fnExactRowTextSpec : ChangeSpec := { name := "fnExactRowText", fn := fun _ => fun
  | [d] => { results := [.lit (.bool true)], args := [d] }
  | _ => none }
def fnExactRowTextRow : OpenClaim := { program := "ythabgnhedmepjaadoor", sum := "3c51f73a180eb25901c615efef43a3ca4357463a5e3763a126acf618774d418c", func := "loop.example/obliviousqueries/laws.FnExactRowText", spec := "fnExactRowText", inPlace := ["internal/abi.NoEscape", "internal/bytealg.MakeNoZero"], named := ["internal/strconv.uint64pow10", "math/bits.deBruijn32tab", "math/bits.deBruijn64tab"], apart := false, laid := [("math/bits.deBruijn32tab", laid_math_bits_deBruijn32tab), ("math/bits.deBruijn64tab", laid_math_bits_deBruijn64tab), ("internal/strconv.uint64pow10", laid_internal_strconv_uint64pow10)] }
def FnExactRowTextSaid : Prop := fnExactRowTextRow.holds Tryd.pinned (OpenSpec.ofChange fnExactRowTextSpec)

/-- ITS FALSE NEIGHBOUR: 'it returns false'. Refute it at one input. -/
def fnExactRowTextWrong : ChangeSpec := { name := "fnExactRowText", fn := fun _ => fun
  | [d] => { results := [.lit (.bool false)], args := [d] }
  | _ => none }
def FnExactRowTextWrongFalsely : Prop := fnExactRowTextRow.holds Tryd.pinned (OpenSpec.ofChange fnExactRowTextWrong)

/- THE SECOND FORM. 'bulk': how many values and letters a reading holds, each counted each time it is reached (what is shared counts as often as it is met; a slice's spare places count too). A statement '..UptoSaid' is the law's where the arguments, and the package variables that the reading takes, are together of bulk at most 1048576: NARROWER than '..Said'. Prove '..Said' where nothing that the law and all that it calls make is longer than what came in: it says more and counts as full. Else prove '..UptoSaid'. A law counts once. -/
mutual
def uptoBulk {H : Type} : DataW H → Nat
  | .lit (.string bytes) => bytes.length + 1
  | .lit _ => 1
  | .nil => 1
  | .ptr d => uptoBulk d + 1
  | .slice elems spare => uptoBulkAll elems + uptoBulkAll spare + 1
  | .agg parts => uptoBulkAll parts + 1
  | .iface _ d => uptoBulk d + 1
  | .map entries => uptoBulkEntries entries + 1
  | .held _ => 1
def uptoBulkAll {H : Type} : List (DataW H) → Nat
  | [] => 0
  | d :: r => uptoBulk d + uptoBulkAll r
def uptoBulkEntries {H : Type} : List (Lit × DataW H) → Nat
  | [] => 0
  | x :: r => uptoBulkEntry x + uptoBulkEntries r
def uptoBulkEntry {H : Type} : Lit × DataW H → Nat
  | (.string bytes, d) => bytes.length + uptoBulk d + 1
  | (_, d) => uptoBulk d + 1
 end
def uptoSmall : (H : Type) → List (DataW H) → Bool := fun _ ds => decide (uptoBulkAll ds ≤ 1048576)
def OpenSpec.upto (s : _root_.Go.ChangeSpec) : _root_.Go.OpenSpec := { _root_.Go.OpenSpec.ofChange s with cond := some uptoSmall }

/-- 'laws.FnPairTrace', WHERE WHAT IT READS IS OF BULK AT MOST 1048576: true; the input reads as it did. -/
def fnPairTraceUptoRow : OpenClaim := { program := "ythabgnhedmepjaadoor", sum := "3c51f73a180eb25901c615efef43a3ca4357463a5e3763a126acf618774d418c", func := "loop.example/obliviousqueries/laws.FnPairTrace", spec := "fnPairTrace", named := ["loop.example/obliviousqueries/impl.reserved"], apart := false, laid := [("loop.example/obliviousqueries/impl.reserved", laid_loop_example_obliviousqueries_impl_reserved)], narrowed := true }
def FnPairTraceUptoSaid : Prop := fnPairTraceUptoRow.holds Tryd.pinned (OpenSpec.upto fnPairTraceSpec)

/-- 'laws.FnSealKey', WHERE WHAT IT READS IS OF BULK AT MOST 1048576: true; the input reads as it did. -/
def fnSealKeyUptoRow : OpenClaim := { program := "ythabgnhedmepjaadoor", sum := "3c51f73a180eb25901c615efef43a3ca4357463a5e3763a126acf618774d418c", func := "loop.example/obliviousqueries/laws.FnSealKey", spec := "fnSealKey", unfollowed := true, recurses := true, named := ["loop.example/obliviousqueries/impl.reserved"], apart := false, laid := [("loop.example/obliviousqueries/impl.reserved", laid_loop_example_obliviousqueries_impl_reserved)], narrowed := true }
def FnSealKeyUptoSaid : Prop := fnSealKeyUptoRow.holds Tryd.pinned (OpenSpec.upto fnSealKeySpec)

/-- 'laws.FnSealRow', WHERE WHAT IT READS IS OF BULK AT MOST 1048576: true; the input reads as it did. -/
def fnSealRowUptoRow : OpenClaim := { program := "ythabgnhedmepjaadoor", sum := "3c51f73a180eb25901c615efef43a3ca4357463a5e3763a126acf618774d418c", func := "loop.example/obliviousqueries/laws.FnSealRow", spec := "fnSealRow", unfollowed := true, recurses := true, named := ["loop.example/obliviousqueries/impl.reserved"], apart := false, laid := [("loop.example/obliviousqueries/impl.reserved", laid_loop_example_obliviousqueries_impl_reserved)], narrowed := true }
def FnSealRowUptoSaid : Prop := fnSealRowUptoRow.holds Tryd.pinned (OpenSpec.upto fnSealRowSpec)

/-- 'laws.FnNumbersFresh', WHERE WHAT IT READS IS OF BULK AT MOST 1048576: true; the input reads as it did. -/
def fnNumbersFreshUptoRow : OpenClaim := { program := "ythabgnhedmepjaadoor", sum := "3c51f73a180eb25901c615efef43a3ca4357463a5e3763a126acf618774d418c", func := "loop.example/obliviousqueries/laws.FnNumbersFresh", spec := "fnNumbersFresh", named := ["loop.example/obliviousqueries/impl.reserved"], apart := false, laid := [("loop.example/obliviousqueries/impl.reserved", laid_loop_example_obliviousqueries_impl_reserved)], narrowed := true }
def FnNumbersFreshUptoSaid : Prop := fnNumbersFreshUptoRow.holds Tryd.pinned (OpenSpec.upto fnNumbersFreshSpec)

/-- 'laws.FnMemoryValid', WHERE WHAT IT READS IS OF BULK AT MOST 1048576: true; the input reads as it did. -/
def fnMemoryValidUptoRow : OpenClaim := { program := "ythabgnhedmepjaadoor", sum := "3c51f73a180eb25901c615efef43a3ca4357463a5e3763a126acf618774d418c", func := "loop.example/obliviousqueries/laws.FnMemoryValid", spec := "fnMemoryValid", unfollowed := true, recurses := true, named := ["loop.example/obliviousqueries/impl.reserved"], apart := false, laid := [("loop.example/obliviousqueries/impl.reserved", laid_loop_example_obliviousqueries_impl_reserved)], narrowed := true }
def FnMemoryValidUptoSaid : Prop := fnMemoryValidUptoRow.holds Tryd.pinned (OpenSpec.upto fnMemoryValidSpec)

/-- 'laws.FnOpenRow', WHERE WHAT IT READS IS OF BULK AT MOST 1048576: true; the input reads as it did. -/
def fnOpenRowUptoRow : OpenClaim := { program := "ythabgnhedmepjaadoor", sum := "3c51f73a180eb25901c615efef43a3ca4357463a5e3763a126acf618774d418c", func := "loop.example/obliviousqueries/laws.FnOpenRow", spec := "fnOpenRow", unfollowed := true, recurses := true, named := ["loop.example/obliviousqueries/impl.reserved"], apart := false, laid := [("loop.example/obliviousqueries/impl.reserved", laid_loop_example_obliviousqueries_impl_reserved)], narrowed := true }
def FnOpenRowUptoSaid : Prop := fnOpenRowUptoRow.holds Tryd.pinned (OpenSpec.upto fnOpenRowSpec)

/-- 'laws.FnExactRowText', WHERE WHAT IT READS IS OF BULK AT MOST 1048576: true; the input reads as it did. -/
def fnExactRowTextUptoRow : OpenClaim := { program := "ythabgnhedmepjaadoor", sum := "3c51f73a180eb25901c615efef43a3ca4357463a5e3763a126acf618774d418c", func := "loop.example/obliviousqueries/laws.FnExactRowText", spec := "fnExactRowText", inPlace := ["internal/abi.NoEscape", "internal/bytealg.MakeNoZero"], named := ["internal/strconv.uint64pow10", "math/bits.deBruijn32tab", "math/bits.deBruijn64tab"], apart := false, laid := [("math/bits.deBruijn32tab", laid_math_bits_deBruijn32tab), ("math/bits.deBruijn64tab", laid_math_bits_deBruijn64tab), ("internal/strconv.uint64pow10", laid_internal_strconv_uint64pow10)], narrowed := true }
def FnExactRowTextUptoSaid : Prop := fnExactRowTextUptoRow.holds Tryd.pinned (OpenSpec.upto fnExactRowTextSpec)

end Rows
end Go.Proofs.YthabgnhedmepjaaDoor
