/-
  NARROWER THAN 'FOR EVERY INPUT', by the rows' own cells (each row's printed sentence says how): FnOpenTable: laid · FnSealAgain: laid · FnTakePadded: laid · FnCutPadded: laid · FnSortTwice: laid · FnSortCut: laid · FnExactSortPadded: laid · FnExactGroupPadded: laid · FnGroupPadded: laid · FnExactJoinPadded: laid · FnPairTrace: laid · FnMemoryValid: laid.
  DERIVED. THE GIVEN ROWS OF THIS SEAT. 12 by the template 'for every input the law returns true; each argument reads behind the call as it read before'; 0 by the template 'total and deterministic' (their statements: YtldknaajnnohiaaDoorTotals.lean).
  GIVEN WITH THE SEED: the statements are not yours to turn. If you find one false, say at which input.
  Laid BY PROGRAM, IN A SANDBOX (cutbox-rows.mjs): the forced cells as the released guide's own fill.sh prints them over the translation 82788be7c56a1afd… (all of the seat's roots in one cut). By AI agents, Wed Nov 11 2026. No macro, syntax, notation, axiom, sorry.
-/
import Derived.Test.YtldknaajnnohiaaDoorChecked
import GoSem.Claim
import GoSem.ClaimJoined
import GoSem.ClaimMapViews
import Derived.JoinedTies
import Derived.KernelRfl
namespace Go.Proofs.YtldknaajnnohiaaDoor
/- THE CELL 'sum', in the pinned program and in every row, IS THE sha256 OF THE DUMP (.gsa) THAT YtldknaajnnohiaaDoorProg.lean LOADS. Nothing in Lean hashes anything: it is a label: what it is worth is what the hold of that sum in a sandbox is worth. -/
noncomputable def Tryd.pinned : Pinned := { name := "ytldknaajnnohiaadoor", sum := "82788be7c56a1afda429d865a6aa4588329ffaf99d993b7d65e23ee60663087e", checked := Tryd.checked }
namespace Rows
def none {H : Type} : Left H := { results := [], args := [] }

/- WHAT THE LISTED PACKAGE-LEVEL VARIABLES READ AS WHEN THE CALL BEGINS. Each datum BY PROGRAM (the guide's laid-datum.mjs) off the statement by which the dump's own 'gosem.cut.vars' lays the variable. In a bare row this is a premise. The card (YtldknaajnnohiaaDoorCards.lean) ties it to the program's text. -/
def laid_loop_example_obliviousqueries_impl_reserved {H : Type} : DataW H := .slice [.lit (.string [115, 101, 108, 101, 99, 116]), .lit (.string [102, 114, 111, 109]), .lit (.string [106, 111, 105, 110]), .lit (.string [111, 110]), .lit (.string [119, 104, 101, 114, 101]), .lit (.string [97, 110, 100]), .lit (.string [111, 114]), .lit (.string [103, 114, 111, 117, 112]), .lit (.string [98, 121]), .lit (.string [115, 117, 109]), .lit (.string [111, 114, 100, 101, 114]), .lit (.string [100, 111, 119, 110]), .lit (.string [108, 105, 109, 105, 116])] []

/-- 'laws.FnOpenTable': WHATEVER THE INPUT: true; the input reads as it did. -/
def fnOpenTableSpec : ChangeSpec := { name := "fnOpenTable", vars := ["loop.example/obliviousqueries/impl.reserved"], fn := fun _ => fun
  | [d, g1] => { results := [.lit (.bool true)], args := [d], vars := [g1] }
  | _ => none }
def fnOpenTableRow : OpenClaim := { program := "ytldknaajnnohiaadoor", sum := "82788be7c56a1afda429d865a6aa4588329ffaf99d993b7d65e23ee60663087e", func := "loop.example/obliviousqueries/laws.FnOpenTable", spec := "fnOpenTable", unfollowed := true, recurses := true, named := ["loop.example/obliviousqueries/impl.reserved"], apart := false, laid := [("loop.example/obliviousqueries/impl.reserved", laid_loop_example_obliviousqueries_impl_reserved)] }
def FnOpenTableSaid : Prop := fnOpenTableRow.holds Tryd.pinned (OpenSpec.ofChange fnOpenTableSpec)

/-- ITS FALSE NEIGHBOUR: 'it returns false'. Refute it at one input. -/
def fnOpenTableWrong : ChangeSpec := { name := "fnOpenTable", vars := ["loop.example/obliviousqueries/impl.reserved"], fn := fun _ => fun
  | [d, g1] => { results := [.lit (.bool false)], args := [d], vars := [g1] }
  | _ => none }
def FnOpenTableWrongFalsely : Prop := fnOpenTableRow.holds Tryd.pinned (OpenSpec.ofChange fnOpenTableWrong)

/-- 'laws.FnSealAgain': WHATEVER THE INPUT: true; the input reads as it did. -/
def fnSealAgainSpec : ChangeSpec := { name := "fnSealAgain", vars := ["loop.example/obliviousqueries/impl.reserved"], fn := fun _ => fun
  | [d, g1] => { results := [.lit (.bool true)], args := [d], vars := [g1] }
  | _ => none }
def fnSealAgainRow : OpenClaim := { program := "ytldknaajnnohiaadoor", sum := "82788be7c56a1afda429d865a6aa4588329ffaf99d993b7d65e23ee60663087e", func := "loop.example/obliviousqueries/laws.FnSealAgain", spec := "fnSealAgain", unfollowed := true, recurses := true, named := ["loop.example/obliviousqueries/impl.reserved"], apart := false, laid := [("loop.example/obliviousqueries/impl.reserved", laid_loop_example_obliviousqueries_impl_reserved)] }
def FnSealAgainSaid : Prop := fnSealAgainRow.holds Tryd.pinned (OpenSpec.ofChange fnSealAgainSpec)

/-- ITS FALSE NEIGHBOUR: 'it returns false'. Refute it at one input. -/
def fnSealAgainWrong : ChangeSpec := { name := "fnSealAgain", vars := ["loop.example/obliviousqueries/impl.reserved"], fn := fun _ => fun
  | [d, g1] => { results := [.lit (.bool false)], args := [d], vars := [g1] }
  | _ => none }
def FnSealAgainWrongFalsely : Prop := fnSealAgainRow.holds Tryd.pinned (OpenSpec.ofChange fnSealAgainWrong)

/-- 'laws.FnTakePadded': WHATEVER THE INPUT: true; the input reads as it did. -/
def fnTakePaddedSpec : ChangeSpec := { name := "fnTakePadded", vars := ["loop.example/obliviousqueries/impl.reserved"], fn := fun _ => fun
  | [d, g1] => { results := [.lit (.bool true)], args := [d], vars := [g1] }
  | _ => none }
def fnTakePaddedRow : OpenClaim := { program := "ytldknaajnnohiaadoor", sum := "82788be7c56a1afda429d865a6aa4588329ffaf99d993b7d65e23ee60663087e", func := "loop.example/obliviousqueries/laws.FnTakePadded", spec := "fnTakePadded", unfollowed := true, recurses := true, named := ["loop.example/obliviousqueries/impl.reserved"], apart := false, laid := [("loop.example/obliviousqueries/impl.reserved", laid_loop_example_obliviousqueries_impl_reserved)] }
def FnTakePaddedSaid : Prop := fnTakePaddedRow.holds Tryd.pinned (OpenSpec.ofChange fnTakePaddedSpec)

/-- ITS FALSE NEIGHBOUR: 'it returns false'. Refute it at one input. -/
def fnTakePaddedWrong : ChangeSpec := { name := "fnTakePadded", vars := ["loop.example/obliviousqueries/impl.reserved"], fn := fun _ => fun
  | [d, g1] => { results := [.lit (.bool false)], args := [d], vars := [g1] }
  | _ => none }
def FnTakePaddedWrongFalsely : Prop := fnTakePaddedRow.holds Tryd.pinned (OpenSpec.ofChange fnTakePaddedWrong)

/-- 'laws.FnCutPadded': WHATEVER THE INPUT: true; the input reads as it did. -/
def fnCutPaddedSpec : ChangeSpec := { name := "fnCutPadded", vars := ["loop.example/obliviousqueries/impl.reserved"], fn := fun _ => fun
  | [d, g1] => { results := [.lit (.bool true)], args := [d], vars := [g1] }
  | _ => none }
def fnCutPaddedRow : OpenClaim := { program := "ytldknaajnnohiaadoor", sum := "82788be7c56a1afda429d865a6aa4588329ffaf99d993b7d65e23ee60663087e", func := "loop.example/obliviousqueries/laws.FnCutPadded", spec := "fnCutPadded", unfollowed := true, recurses := true, named := ["loop.example/obliviousqueries/impl.reserved"], apart := false, laid := [("loop.example/obliviousqueries/impl.reserved", laid_loop_example_obliviousqueries_impl_reserved)] }
def FnCutPaddedSaid : Prop := fnCutPaddedRow.holds Tryd.pinned (OpenSpec.ofChange fnCutPaddedSpec)

/-- ITS FALSE NEIGHBOUR: 'it returns false'. Refute it at one input. -/
def fnCutPaddedWrong : ChangeSpec := { name := "fnCutPadded", vars := ["loop.example/obliviousqueries/impl.reserved"], fn := fun _ => fun
  | [d, g1] => { results := [.lit (.bool false)], args := [d], vars := [g1] }
  | _ => none }
def FnCutPaddedWrongFalsely : Prop := fnCutPaddedRow.holds Tryd.pinned (OpenSpec.ofChange fnCutPaddedWrong)

/-- 'laws.FnSortTwice': WHATEVER THE INPUT: true; the input reads as it did. -/
def fnSortTwiceSpec : ChangeSpec := { name := "fnSortTwice", vars := ["loop.example/obliviousqueries/impl.reserved"], fn := fun _ => fun
  | [d, g1] => { results := [.lit (.bool true)], args := [d], vars := [g1] }
  | _ => none }
def fnSortTwiceRow : OpenClaim := { program := "ytldknaajnnohiaadoor", sum := "82788be7c56a1afda429d865a6aa4588329ffaf99d993b7d65e23ee60663087e", func := "loop.example/obliviousqueries/laws.FnSortTwice", spec := "fnSortTwice", unfollowed := true, recurses := true, named := ["loop.example/obliviousqueries/impl.reserved"], apart := false, laid := [("loop.example/obliviousqueries/impl.reserved", laid_loop_example_obliviousqueries_impl_reserved)] }
def FnSortTwiceSaid : Prop := fnSortTwiceRow.holds Tryd.pinned (OpenSpec.ofChange fnSortTwiceSpec)

/-- ITS FALSE NEIGHBOUR: 'it returns false'. Refute it at one input. -/
def fnSortTwiceWrong : ChangeSpec := { name := "fnSortTwice", vars := ["loop.example/obliviousqueries/impl.reserved"], fn := fun _ => fun
  | [d, g1] => { results := [.lit (.bool false)], args := [d], vars := [g1] }
  | _ => none }
def FnSortTwiceWrongFalsely : Prop := fnSortTwiceRow.holds Tryd.pinned (OpenSpec.ofChange fnSortTwiceWrong)

/-- 'laws.FnSortCut': WHATEVER THE INPUT: true; the input reads as it did. -/
def fnSortCutSpec : ChangeSpec := { name := "fnSortCut", vars := ["loop.example/obliviousqueries/impl.reserved"], fn := fun _ => fun
  | [d, g1] => { results := [.lit (.bool true)], args := [d], vars := [g1] }
  | _ => none }
def fnSortCutRow : OpenClaim := { program := "ytldknaajnnohiaadoor", sum := "82788be7c56a1afda429d865a6aa4588329ffaf99d993b7d65e23ee60663087e", func := "loop.example/obliviousqueries/laws.FnSortCut", spec := "fnSortCut", unfollowed := true, recurses := true, named := ["loop.example/obliviousqueries/impl.reserved"], apart := false, laid := [("loop.example/obliviousqueries/impl.reserved", laid_loop_example_obliviousqueries_impl_reserved)] }
def FnSortCutSaid : Prop := fnSortCutRow.holds Tryd.pinned (OpenSpec.ofChange fnSortCutSpec)

/-- ITS FALSE NEIGHBOUR: 'it returns false'. Refute it at one input. -/
def fnSortCutWrong : ChangeSpec := { name := "fnSortCut", vars := ["loop.example/obliviousqueries/impl.reserved"], fn := fun _ => fun
  | [d, g1] => { results := [.lit (.bool false)], args := [d], vars := [g1] }
  | _ => none }
def FnSortCutWrongFalsely : Prop := fnSortCutRow.holds Tryd.pinned (OpenSpec.ofChange fnSortCutWrong)

/-- 'laws.FnExactSortPadded': WHATEVER THE INPUT: true; the input reads as it did. -/
def fnExactSortPaddedSpec : ChangeSpec := { name := "fnExactSortPadded", vars := ["loop.example/obliviousqueries/impl.reserved"], fn := fun _ => fun
  | [d1, d2, d3, g1] => { results := [.lit (.bool true)], args := [d1, d2, d3], vars := [g1] }
  | _ => none }
def fnExactSortPaddedRow : OpenClaim := { program := "ytldknaajnnohiaadoor", sum := "82788be7c56a1afda429d865a6aa4588329ffaf99d993b7d65e23ee60663087e", func := "loop.example/obliviousqueries/laws.FnExactSortPadded", spec := "fnExactSortPadded", unfollowed := true, recurses := true, named := ["loop.example/obliviousqueries/impl.reserved"], apart := false, laid := [("loop.example/obliviousqueries/impl.reserved", laid_loop_example_obliviousqueries_impl_reserved)] }
def FnExactSortPaddedSaid : Prop := fnExactSortPaddedRow.holds Tryd.pinned (OpenSpec.ofChange fnExactSortPaddedSpec)

/-- ITS FALSE NEIGHBOUR: 'it returns false'. Refute it at one input. -/
def fnExactSortPaddedWrong : ChangeSpec := { name := "fnExactSortPadded", vars := ["loop.example/obliviousqueries/impl.reserved"], fn := fun _ => fun
  | [d1, d2, d3, g1] => { results := [.lit (.bool false)], args := [d1, d2, d3], vars := [g1] }
  | _ => none }
def FnExactSortPaddedWrongFalsely : Prop := fnExactSortPaddedRow.holds Tryd.pinned (OpenSpec.ofChange fnExactSortPaddedWrong)

/-- 'laws.FnExactGroupPadded': WHATEVER THE INPUT: true; the input reads as it did. -/
def fnExactGroupPaddedSpec : ChangeSpec := { name := "fnExactGroupPadded", vars := ["loop.example/obliviousqueries/impl.reserved"], fn := fun _ => fun
  | [d1, d2, d3, g1] => { results := [.lit (.bool true)], args := [d1, d2, d3], vars := [g1] }
  | _ => none }
def fnExactGroupPaddedRow : OpenClaim := { program := "ytldknaajnnohiaadoor", sum := "82788be7c56a1afda429d865a6aa4588329ffaf99d993b7d65e23ee60663087e", func := "loop.example/obliviousqueries/laws.FnExactGroupPadded", spec := "fnExactGroupPadded", unfollowed := true, recurses := true, named := ["loop.example/obliviousqueries/impl.reserved"], apart := false, laid := [("loop.example/obliviousqueries/impl.reserved", laid_loop_example_obliviousqueries_impl_reserved)] }
def FnExactGroupPaddedSaid : Prop := fnExactGroupPaddedRow.holds Tryd.pinned (OpenSpec.ofChange fnExactGroupPaddedSpec)

/-- ITS FALSE NEIGHBOUR: 'it returns false'. Refute it at one input. -/
def fnExactGroupPaddedWrong : ChangeSpec := { name := "fnExactGroupPadded", vars := ["loop.example/obliviousqueries/impl.reserved"], fn := fun _ => fun
  | [d1, d2, d3, g1] => { results := [.lit (.bool false)], args := [d1, d2, d3], vars := [g1] }
  | _ => none }
def FnExactGroupPaddedWrongFalsely : Prop := fnExactGroupPaddedRow.holds Tryd.pinned (OpenSpec.ofChange fnExactGroupPaddedWrong)

/-- 'laws.FnGroupPadded': WHATEVER THE INPUT: true; the input reads as it did. -/
def fnGroupPaddedSpec : ChangeSpec := { name := "fnGroupPadded", vars := ["loop.example/obliviousqueries/impl.reserved"], fn := fun _ => fun
  | [d, g1] => { results := [.lit (.bool true)], args := [d], vars := [g1] }
  | _ => none }
def fnGroupPaddedRow : OpenClaim := { program := "ytldknaajnnohiaadoor", sum := "82788be7c56a1afda429d865a6aa4588329ffaf99d993b7d65e23ee60663087e", func := "loop.example/obliviousqueries/laws.FnGroupPadded", spec := "fnGroupPadded", unfollowed := true, recurses := true, named := ["loop.example/obliviousqueries/impl.reserved"], apart := false, laid := [("loop.example/obliviousqueries/impl.reserved", laid_loop_example_obliviousqueries_impl_reserved)] }
def FnGroupPaddedSaid : Prop := fnGroupPaddedRow.holds Tryd.pinned (OpenSpec.ofChange fnGroupPaddedSpec)

/-- ITS FALSE NEIGHBOUR: 'it returns false'. Refute it at one input. -/
def fnGroupPaddedWrong : ChangeSpec := { name := "fnGroupPadded", vars := ["loop.example/obliviousqueries/impl.reserved"], fn := fun _ => fun
  | [d, g1] => { results := [.lit (.bool false)], args := [d], vars := [g1] }
  | _ => none }
def FnGroupPaddedWrongFalsely : Prop := fnGroupPaddedRow.holds Tryd.pinned (OpenSpec.ofChange fnGroupPaddedWrong)

/-- 'laws.FnExactJoinPadded': WHATEVER THE INPUT: true; the input reads as it did. -/
def fnExactJoinPaddedSpec : ChangeSpec := { name := "fnExactJoinPadded", vars := ["loop.example/obliviousqueries/impl.reserved"], fn := fun _ => fun
  | [d1, d2, d3, d4, d5, g1] => { results := [.lit (.bool true)], args := [d1, d2, d3, d4, d5], vars := [g1] }
  | _ => none }
def fnExactJoinPaddedRow : OpenClaim := { program := "ytldknaajnnohiaadoor", sum := "82788be7c56a1afda429d865a6aa4588329ffaf99d993b7d65e23ee60663087e", func := "loop.example/obliviousqueries/laws.FnExactJoinPadded", spec := "fnExactJoinPadded", unfollowed := true, recurses := true, named := ["loop.example/obliviousqueries/impl.reserved"], apart := false, laid := [("loop.example/obliviousqueries/impl.reserved", laid_loop_example_obliviousqueries_impl_reserved)] }
def FnExactJoinPaddedSaid : Prop := fnExactJoinPaddedRow.holds Tryd.pinned (OpenSpec.ofChange fnExactJoinPaddedSpec)

/-- ITS FALSE NEIGHBOUR: 'it returns false'. Refute it at one input. -/
def fnExactJoinPaddedWrong : ChangeSpec := { name := "fnExactJoinPadded", vars := ["loop.example/obliviousqueries/impl.reserved"], fn := fun _ => fun
  | [d1, d2, d3, d4, d5, g1] => { results := [.lit (.bool false)], args := [d1, d2, d3, d4, d5], vars := [g1] }
  | _ => none }
def FnExactJoinPaddedWrongFalsely : Prop := fnExactJoinPaddedRow.holds Tryd.pinned (OpenSpec.ofChange fnExactJoinPaddedWrong)

/-- 'laws.FnPairTrace': WHATEVER THE INPUT: true; the input reads as it did. -/
def fnPairTraceSpec : ChangeSpec := { name := "fnPairTrace", vars := ["loop.example/obliviousqueries/impl.reserved"], fn := fun _ => fun
  | [d, g1] => { results := [.lit (.bool true)], args := [d], vars := [g1] }
  | _ => none }
def fnPairTraceRow : OpenClaim := { program := "ytldknaajnnohiaadoor", sum := "82788be7c56a1afda429d865a6aa4588329ffaf99d993b7d65e23ee60663087e", func := "loop.example/obliviousqueries/laws.FnPairTrace", spec := "fnPairTrace", named := ["loop.example/obliviousqueries/impl.reserved"], apart := false, laid := [("loop.example/obliviousqueries/impl.reserved", laid_loop_example_obliviousqueries_impl_reserved)] }
def FnPairTraceSaid : Prop := fnPairTraceRow.holds Tryd.pinned (OpenSpec.ofChange fnPairTraceSpec)

/-- ITS FALSE NEIGHBOUR: 'it returns false'. Refute it at one input. -/
def fnPairTraceWrong : ChangeSpec := { name := "fnPairTrace", vars := ["loop.example/obliviousqueries/impl.reserved"], fn := fun _ => fun
  | [d, g1] => { results := [.lit (.bool false)], args := [d], vars := [g1] }
  | _ => none }
def FnPairTraceWrongFalsely : Prop := fnPairTraceRow.holds Tryd.pinned (OpenSpec.ofChange fnPairTraceWrong)

/-- 'laws.FnMemoryValid': WHATEVER THE INPUT: true; the input reads as it did. -/
def fnMemoryValidSpec : ChangeSpec := { name := "fnMemoryValid", vars := ["loop.example/obliviousqueries/impl.reserved"], fn := fun _ => fun
  | [d, g1] => { results := [.lit (.bool true)], args := [d], vars := [g1] }
  | _ => none }
def fnMemoryValidRow : OpenClaim := { program := "ytldknaajnnohiaadoor", sum := "82788be7c56a1afda429d865a6aa4588329ffaf99d993b7d65e23ee60663087e", func := "loop.example/obliviousqueries/laws.FnMemoryValid", spec := "fnMemoryValid", unfollowed := true, recurses := true, named := ["loop.example/obliviousqueries/impl.reserved"], apart := false, laid := [("loop.example/obliviousqueries/impl.reserved", laid_loop_example_obliviousqueries_impl_reserved)] }
def FnMemoryValidSaid : Prop := fnMemoryValidRow.holds Tryd.pinned (OpenSpec.ofChange fnMemoryValidSpec)

/-- ITS FALSE NEIGHBOUR: 'it returns false'. Refute it at one input. -/
def fnMemoryValidWrong : ChangeSpec := { name := "fnMemoryValid", vars := ["loop.example/obliviousqueries/impl.reserved"], fn := fun _ => fun
  | [d, g1] => { results := [.lit (.bool false)], args := [d], vars := [g1] }
  | _ => none }
def FnMemoryValidWrongFalsely : Prop := fnMemoryValidRow.holds Tryd.pinned (OpenSpec.ofChange fnMemoryValidWrong)

/- THE SECOND FORM. 'bulk': how many values and letters a reading holds, each counted each time it is reached (what is shared counts as often as it is met; a slice's spare places count too). A statement '..UptoSaid' is the law's where the arguments, and the package variables that the reading takes, are together of bulk at most 1048576: NARROWER than '..Said'. Prove '..Said' where nothing that the law and all that it calls make is longer than what came in: it says more and counts as full. Else prove '..UptoSaid'. A law counts once. -/
mutual
def uptoBulk {H : Type} : DataW H → Nat
  | .lit (.string bytes) => bytes.length + 1
  | .lit _ => 1
  | .nil => 1
  | .ptr d => uptoBulk d + 1
  | .slice elems spare => uptoBulkAll elems + uptoBulkAll spare + 1
  | .agg parts => uptoBulkAll parts + 1
  | .iface _ d => uptoBulk d + 1
  | .map entries => uptoBulkEntries entries + 1
  | .held _ => 1
def uptoBulkAll {H : Type} : List (DataW H) → Nat
  | [] => 0
  | d :: r => uptoBulk d + uptoBulkAll r
def uptoBulkEntries {H : Type} : List (Lit × DataW H) → Nat
  | [] => 0
  | x :: r => uptoBulkEntry x + uptoBulkEntries r
def uptoBulkEntry {H : Type} : Lit × DataW H → Nat
  | (.string bytes, d) => bytes.length + uptoBulk d + 1
  | (_, d) => uptoBulk d + 1
 end
def uptoSmall : (H : Type) → List (DataW H) → Bool := fun _ ds => decide (uptoBulkAll ds ≤ 1048576)
def OpenSpec.upto (s : _root_.Go.ChangeSpec) : _root_.Go.OpenSpec := { _root_.Go.OpenSpec.ofChange s with cond := some uptoSmall }

/-- 'laws.FnOpenTable', WHERE WHAT IT READS IS OF BULK AT MOST 1048576: true; the input reads as it did. -/
def fnOpenTableUptoRow : OpenClaim := { program := "ytldknaajnnohiaadoor", sum := "82788be7c56a1afda429d865a6aa4588329ffaf99d993b7d65e23ee60663087e", func := "loop.example/obliviousqueries/laws.FnOpenTable", spec := "fnOpenTable", unfollowed := true, recurses := true, named := ["loop.example/obliviousqueries/impl.reserved"], apart := false, laid := [("loop.example/obliviousqueries/impl.reserved", laid_loop_example_obliviousqueries_impl_reserved)], narrowed := true }
def FnOpenTableUptoSaid : Prop := fnOpenTableUptoRow.holds Tryd.pinned (OpenSpec.upto fnOpenTableSpec)

/-- 'laws.FnSealAgain', WHERE WHAT IT READS IS OF BULK AT MOST 1048576: true; the input reads as it did. -/
def fnSealAgainUptoRow : OpenClaim := { program := "ytldknaajnnohiaadoor", sum := "82788be7c56a1afda429d865a6aa4588329ffaf99d993b7d65e23ee60663087e", func := "loop.example/obliviousqueries/laws.FnSealAgain", spec := "fnSealAgain", unfollowed := true, recurses := true, named := ["loop.example/obliviousqueries/impl.reserved"], apart := false, laid := [("loop.example/obliviousqueries/impl.reserved", laid_loop_example_obliviousqueries_impl_reserved)], narrowed := true }
def FnSealAgainUptoSaid : Prop := fnSealAgainUptoRow.holds Tryd.pinned (OpenSpec.upto fnSealAgainSpec)

/-- 'laws.FnTakePadded', WHERE WHAT IT READS IS OF BULK AT MOST 1048576: true; the input reads as it did. -/
def fnTakePaddedUptoRow : OpenClaim := { program := "ytldknaajnnohiaadoor", sum := "82788be7c56a1afda429d865a6aa4588329ffaf99d993b7d65e23ee60663087e", func := "loop.example/obliviousqueries/laws.FnTakePadded", spec := "fnTakePadded", unfollowed := true, recurses := true, named := ["loop.example/obliviousqueries/impl.reserved"], apart := false, laid := [("loop.example/obliviousqueries/impl.reserved", laid_loop_example_obliviousqueries_impl_reserved)], narrowed := true }
def FnTakePaddedUptoSaid : Prop := fnTakePaddedUptoRow.holds Tryd.pinned (OpenSpec.upto fnTakePaddedSpec)

/-- 'laws.FnCutPadded', WHERE WHAT IT READS IS OF BULK AT MOST 1048576: true; the input reads as it did. -/
def fnCutPaddedUptoRow : OpenClaim := { program := "ytldknaajnnohiaadoor", sum := "82788be7c56a1afda429d865a6aa4588329ffaf99d993b7d65e23ee60663087e", func := "loop.example/obliviousqueries/laws.FnCutPadded", spec := "fnCutPadded", unfollowed := true, recurses := true, named := ["loop.example/obliviousqueries/impl.reserved"], apart := false, laid := [("loop.example/obliviousqueries/impl.reserved", laid_loop_example_obliviousqueries_impl_reserved)], narrowed := true }
def FnCutPaddedUptoSaid : Prop := fnCutPaddedUptoRow.holds Tryd.pinned (OpenSpec.upto fnCutPaddedSpec)

/-- 'laws.FnSortTwice', WHERE WHAT IT READS IS OF BULK AT MOST 1048576: true; the input reads as it did. -/
def fnSortTwiceUptoRow : OpenClaim := { program := "ytldknaajnnohiaadoor", sum := "82788be7c56a1afda429d865a6aa4588329ffaf99d993b7d65e23ee60663087e", func := "loop.example/obliviousqueries/laws.FnSortTwice", spec := "fnSortTwice", unfollowed := true, recurses := true, named := ["loop.example/obliviousqueries/impl.reserved"], apart := false, laid := [("loop.example/obliviousqueries/impl.reserved", laid_loop_example_obliviousqueries_impl_reserved)], narrowed := true }
def FnSortTwiceUptoSaid : Prop := fnSortTwiceUptoRow.holds Tryd.pinned (OpenSpec.upto fnSortTwiceSpec)

/-- 'laws.FnSortCut', WHERE WHAT IT READS IS OF BULK AT MOST 1048576: true; the input reads as it did. -/
def fnSortCutUptoRow : OpenClaim := { program := "ytldknaajnnohiaadoor", sum := "82788be7c56a1afda429d865a6aa4588329ffaf99d993b7d65e23ee60663087e", func := "loop.example/obliviousqueries/laws.FnSortCut", spec := "fnSortCut", unfollowed := true, recurses := true, named := ["loop.example/obliviousqueries/impl.reserved"], apart := false, laid := [("loop.example/obliviousqueries/impl.reserved", laid_loop_example_obliviousqueries_impl_reserved)], narrowed := true }
def FnSortCutUptoSaid : Prop := fnSortCutUptoRow.holds Tryd.pinned (OpenSpec.upto fnSortCutSpec)

/-- 'laws.FnExactSortPadded', WHERE WHAT IT READS IS OF BULK AT MOST 1048576: true; the input reads as it did. -/
def fnExactSortPaddedUptoRow : OpenClaim := { program := "ytldknaajnnohiaadoor", sum := "82788be7c56a1afda429d865a6aa4588329ffaf99d993b7d65e23ee60663087e", func := "loop.example/obliviousqueries/laws.FnExactSortPadded", spec := "fnExactSortPadded", unfollowed := true, recurses := true, named := ["loop.example/obliviousqueries/impl.reserved"], apart := false, laid := [("loop.example/obliviousqueries/impl.reserved", laid_loop_example_obliviousqueries_impl_reserved)], narrowed := true }
def FnExactSortPaddedUptoSaid : Prop := fnExactSortPaddedUptoRow.holds Tryd.pinned (OpenSpec.upto fnExactSortPaddedSpec)

/-- 'laws.FnExactGroupPadded', WHERE WHAT IT READS IS OF BULK AT MOST 1048576: true; the input reads as it did. -/
def fnExactGroupPaddedUptoRow : OpenClaim := { program := "ytldknaajnnohiaadoor", sum := "82788be7c56a1afda429d865a6aa4588329ffaf99d993b7d65e23ee60663087e", func := "loop.example/obliviousqueries/laws.FnExactGroupPadded", spec := "fnExactGroupPadded", unfollowed := true, recurses := true, named := ["loop.example/obliviousqueries/impl.reserved"], apart := false, laid := [("loop.example/obliviousqueries/impl.reserved", laid_loop_example_obliviousqueries_impl_reserved)], narrowed := true }
def FnExactGroupPaddedUptoSaid : Prop := fnExactGroupPaddedUptoRow.holds Tryd.pinned (OpenSpec.upto fnExactGroupPaddedSpec)

/-- 'laws.FnGroupPadded', WHERE WHAT IT READS IS OF BULK AT MOST 1048576: true; the input reads as it did. -/
def fnGroupPaddedUptoRow : OpenClaim := { program := "ytldknaajnnohiaadoor", sum := "82788be7c56a1afda429d865a6aa4588329ffaf99d993b7d65e23ee60663087e", func := "loop.example/obliviousqueries/laws.FnGroupPadded", spec := "fnGroupPadded", unfollowed := true, recurses := true, named := ["loop.example/obliviousqueries/impl.reserved"], apart := false, laid := [("loop.example/obliviousqueries/impl.reserved", laid_loop_example_obliviousqueries_impl_reserved)], narrowed := true }
def FnGroupPaddedUptoSaid : Prop := fnGroupPaddedUptoRow.holds Tryd.pinned (OpenSpec.upto fnGroupPaddedSpec)

/-- 'laws.FnExactJoinPadded', WHERE WHAT IT READS IS OF BULK AT MOST 1048576: true; the input reads as it did. -/
def fnExactJoinPaddedUptoRow : OpenClaim := { program := "ytldknaajnnohiaadoor", sum := "82788be7c56a1afda429d865a6aa4588329ffaf99d993b7d65e23ee60663087e", func := "loop.example/obliviousqueries/laws.FnExactJoinPadded", spec := "fnExactJoinPadded", unfollowed := true, recurses := true, named := ["loop.example/obliviousqueries/impl.reserved"], apart := false, laid := [("loop.example/obliviousqueries/impl.reserved", laid_loop_example_obliviousqueries_impl_reserved)], narrowed := true }
def FnExactJoinPaddedUptoSaid : Prop := fnExactJoinPaddedUptoRow.holds Tryd.pinned (OpenSpec.upto fnExactJoinPaddedSpec)

/-- 'laws.FnPairTrace', WHERE WHAT IT READS IS OF BULK AT MOST 1048576: true; the input reads as it did. -/
def fnPairTraceUptoRow : OpenClaim := { program := "ytldknaajnnohiaadoor", sum := "82788be7c56a1afda429d865a6aa4588329ffaf99d993b7d65e23ee60663087e", func := "loop.example/obliviousqueries/laws.FnPairTrace", spec := "fnPairTrace", named := ["loop.example/obliviousqueries/impl.reserved"], apart := false, laid := [("loop.example/obliviousqueries/impl.reserved", laid_loop_example_obliviousqueries_impl_reserved)], narrowed := true }
def FnPairTraceUptoSaid : Prop := fnPairTraceUptoRow.holds Tryd.pinned (OpenSpec.upto fnPairTraceSpec)

/-- 'laws.FnMemoryValid', WHERE WHAT IT READS IS OF BULK AT MOST 1048576: true; the input reads as it did. -/
def fnMemoryValidUptoRow : OpenClaim := { program := "ytldknaajnnohiaadoor", sum := "82788be7c56a1afda429d865a6aa4588329ffaf99d993b7d65e23ee60663087e", func := "loop.example/obliviousqueries/laws.FnMemoryValid", spec := "fnMemoryValid", unfollowed := true, recurses := true, named := ["loop.example/obliviousqueries/impl.reserved"], apart := false, laid := [("loop.example/obliviousqueries/impl.reserved", laid_loop_example_obliviousqueries_impl_reserved)], narrowed := true }
def FnMemoryValidUptoSaid : Prop := fnMemoryValidUptoRow.holds Tryd.pinned (OpenSpec.upto fnMemoryValidSpec)

end Rows
end Go.Proofs.YtldknaajnnohiaaDoor
