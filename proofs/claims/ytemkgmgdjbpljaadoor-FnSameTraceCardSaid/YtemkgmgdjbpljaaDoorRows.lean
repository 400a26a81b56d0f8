/-
  NARROWER THAN 'FOR EVERY INPUT', by the rows' own cells (each row's printed sentence says how): FnPadSize: laid · FnPathOf: laid · FnStreamAt: laid · FnSameTrace: laid.
  DERIVED. THE GIVEN ROWS OF THIS SEAT. 4 by the template 'for every input the law returns true; each argument reads behind the call as it read before'; 0 by the template 'total and deterministic' (their statements: YtemkgmgdjbpljaaDoorTotals.lean).
  GIVEN WITH THE SEED: the statements are not yours to turn. If you find one false, say at which input.
  Laid BY PROGRAM, IN A SANDBOX (cutbox-rows.mjs): the forced cells as the released guide's own fill.sh prints them over the translation 5e09fef0976d6185… (all of the seat's roots in one cut). By AI agents, Wed Nov 11 2026. No macro, syntax, notation, axiom, sorry.
-/
import Derived.Test.YtemkgmgdjbpljaaDoorChecked
import GoSem.Claim
import GoSem.ClaimJoined
import GoSem.ClaimMapViews
import Derived.JoinedTies
import Derived.KernelRfl
namespace Go.Proofs.YtemkgmgdjbpljaaDoor
/- THE CELL 'sum', in the pinned program and in every row, IS THE sha256 OF THE DUMP (.gsa) THAT YtemkgmgdjbpljaaDoorProg.lean LOADS. Nothing in Lean hashes anything: it is a label: what it is worth is what the hold of that sum in a sandbox is worth. -/
noncomputable def Tryd.pinned : Pinned := { name := "ytemkgmgdjbpljaadoor", sum := "5e09fef0976d61854c4b789f02279a6e29bab4d0294aa158e9ef59894b94e524", checked := Tryd.checked }
namespace Rows
def none {H : Type} : Left H := { results := [], args := [] }

/- WHAT THE LISTED PACKAGE-LEVEL VARIABLES READ AS WHEN THE CALL BEGINS. Each datum BY PROGRAM (the guide's laid-datum.mjs) off the statement by which the dump's own 'gosem.cut.vars' lays the variable. In a bare row this is a premise. The card (YtemkgmgdjbpljaaDoorCards.lean) ties it to the program's text. -/
def laid_loop_example_obliviousqueries_impl_reserved {H : Type} : DataW H := .slice [.lit (.string [115, 101, 108, 101, 99, 116]), .lit (.string [102, 114, 111, 109]), .lit (.string [106, 111, 105, 110]), .lit (.string [111, 110]), .lit (.string [119, 104, 101, 114, 101]), .lit (.string [97, 110, 100]), .lit (.string [111, 114]), .lit (.string [103, 114, 111, 117, 112]), .lit (.string [98, 121]), .lit (.string [115, 117, 109]), .lit (.string [111, 114, 100, 101, 114]), .lit (.string [100, 111, 119, 110]), .lit (.string [108, 105, 109, 105, 116])] []

/-- 'laws.FnPadSize': WHATEVER THE INPUT: true; the input reads as it did. -/
def fnPadSizeSpec : ChangeSpec := { name := "fnPadSize", vars := ["loop.example/obliviousqueries/impl.reserved"], fn := fun _ => fun
  | [d, g1] => { results := [.lit (.bool true)], args := [d], vars := [g1] }
  | _ => none }
def fnPadSizeRow : OpenClaim := { program := "ytemkgmgdjbpljaadoor", sum := "5e09fef0976d61854c4b789f02279a6e29bab4d0294aa158e9ef59894b94e524", func := "loop.example/obliviousqueries/laws.FnPadSize", spec := "fnPadSize", named := ["loop.example/obliviousqueries/impl.reserved"], apart := false, laid := [("loop.example/obliviousqueries/impl.reserved", laid_loop_example_obliviousqueries_impl_reserved)] }
def FnPadSizeSaid : Prop := fnPadSizeRow.holds Tryd.pinned (OpenSpec.ofChange fnPadSizeSpec)

/-- ITS FALSE NEIGHBOUR: 'it returns false'. Refute it at one input. -/
def fnPadSizeWrong : ChangeSpec := { name := "fnPadSize", vars := ["loop.example/obliviousqueries/impl.reserved"], fn := fun _ => fun
  | [d, g1] => { results := [.lit (.bool false)], args := [d], vars := [g1] }
  | _ => none }
def FnPadSizeWrongFalsely : Prop := fnPadSizeRow.holds Tryd.pinned (OpenSpec.ofChange fnPadSizeWrong)

/-- 'laws.FnPathOf': WHATEVER THE INPUT: true; the input reads as it did. -/
def fnPathOfSpec : ChangeSpec := { name := "fnPathOf", vars := ["loop.example/obliviousqueries/impl.reserved"], fn := fun _ => fun
  | [d, g1] => { results := [.lit (.bool true)], args := [d], vars := [g1] }
  | _ => none }
def fnPathOfRow : OpenClaim := { program := "ytemkgmgdjbpljaadoor", sum := "5e09fef0976d61854c4b789f02279a6e29bab4d0294aa158e9ef59894b94e524", func := "loop.example/obliviousqueries/laws.FnPathOf", spec := "fnPathOf", named := ["loop.example/obliviousqueries/impl.reserved"], apart := false, laid := [("loop.example/obliviousqueries/impl.reserved", laid_loop_example_obliviousqueries_impl_reserved)] }
def FnPathOfSaid : Prop := fnPathOfRow.holds Tryd.pinned (OpenSpec.ofChange fnPathOfSpec)

/-- ITS FALSE NEIGHBOUR: 'it returns false'. Refute it at one input. -/
def fnPathOfWrong : ChangeSpec := { name := "fnPathOf", vars := ["loop.example/obliviousqueries/impl.reserved"], fn := fun _ => fun
  | [d, g1] => { results := [.lit (.bool false)], args := [d], vars := [g1] }
  | _ => none }
def FnPathOfWrongFalsely : Prop := fnPathOfRow.holds Tryd.pinned (OpenSpec.ofChange fnPathOfWrong)

/-- 'laws.FnStreamAt': WHATEVER THE INPUT: true; the input reads as it did. -/
def fnStreamAtSpec : ChangeSpec := { name := "fnStreamAt", vars := ["loop.example/obliviousqueries/impl.reserved"], fn := fun _ => fun
  | [d, g1] => { results := [.lit (.bool true)], args := [d], vars := [g1] }
  | _ => none }
def fnStreamAtRow : OpenClaim := { program := "ytemkgmgdjbpljaadoor", sum := "5e09fef0976d61854c4b789f02279a6e29bab4d0294aa158e9ef59894b94e524", func := "loop.example/obliviousqueries/laws.FnStreamAt", spec := "fnStreamAt", named := ["loop.example/obliviousqueries/impl.reserved"], apart := false, laid := [("loop.example/obliviousqueries/impl.reserved", laid_loop_example_obliviousqueries_impl_reserved)] }
def FnStreamAtSaid : Prop := fnStreamAtRow.holds Tryd.pinned (OpenSpec.ofChange fnStreamAtSpec)

/-- ITS FALSE NEIGHBOUR: 'it returns false'. Refute it at one input. -/
def fnStreamAtWrong : ChangeSpec := { name := "fnStreamAt", vars := ["loop.example/obliviousqueries/impl.reserved"], fn := fun _ => fun
  | [d, g1] => { results := [.lit (.bool false)], args := [d], vars := [g1] }
  | _ => none }
def FnStreamAtWrongFalsely : Prop := fnStreamAtRow.holds Tryd.pinned (OpenSpec.ofChange fnStreamAtWrong)

/-- 'laws.FnSameTrace': WHATEVER THE INPUT: true; the input reads as it did. -/
def fnSameTraceSpec : ChangeSpec := { name := "fnSameTrace", vars := ["loop.example/obliviousqueries/impl.reserved"], fn := fun _ => fun
  | [d, g1] => { results := [.lit (.bool true)], args := [d], vars := [g1] }
  | _ => none }
def fnSameTraceRow : OpenClaim := { program := "ytemkgmgdjbpljaadoor", sum := "5e09fef0976d61854c4b789f02279a6e29bab4d0294aa158e9ef59894b94e524", func := "loop.example/obliviousqueries/laws.FnSameTrace", spec := "fnSameTrace", named := ["loop.example/obliviousqueries/impl.reserved"], apart := false, laid := [("loop.example/obliviousqueries/impl.reserved", laid_loop_example_obliviousqueries_impl_reserved)] }
def FnSameTraceSaid : Prop := fnSameTraceRow.holds Tryd.pinned (OpenSpec.ofChange fnSameTraceSpec)

/-- ITS FALSE NEIGHBOUR: 'it returns false'. Refute it at one input. -/
def fnSameTraceWrong : ChangeSpec := { name := "fnSameTrace", vars := ["loop.example/obliviousqueries/impl.reserved"], fn := fun _ => fun
  | [d, g1] => { results := [.lit (.bool false)], args := [d], vars := [g1] }
  | _ => none }
def FnSameTraceWrongFalsely : Prop := fnSameTraceRow.holds Tryd.pinned (OpenSpec.ofChange fnSameTraceWrong)

/- THE SECOND FORM. 'bulk': how many values and letters a reading holds, each counted each time it is reached (what is shared counts as often as it is met; a slice's spare places count too). A statement '..UptoSaid' is the law's where the arguments, and the package variables that the reading takes, are together of bulk at most 1048576: NARROWER than '..Said'. Prove '..Said' where nothing that the law and all that it calls make is longer than what came in: it says more and counts as full. Else prove '..UptoSaid'. A law counts once. -/
mutual
def uptoBulk {H : Type} : DataW H → Nat
  | .lit (.string bytes) => bytes.length + 1
  | .lit _ => 1
  | .nil => 1
  | .ptr d => uptoBulk d + 1
  | .slice elems spare => uptoBulkAll elems + uptoBulkAll spare + 1
  | .agg parts => uptoBulkAll parts + 1
  | .iface _ d => uptoBulk d + 1
  | .map entries => uptoBulkEntries entries + 1
  | .held _ => 1
def uptoBulkAll {H : Type} : List (DataW H) → Nat
  | [] => 0
  | d :: r => uptoBulk d + uptoBulkAll r
def uptoBulkEntries {H : Type} : List (Lit × DataW H) → Nat
  | [] => 0
  | x :: r => uptoBulkEntry x + uptoBulkEntries r
def uptoBulkEntry {H : Type} : Lit × DataW H → Nat
  | (.string bytes, d) => bytes.length + uptoBulk d + 1
  | (_, d) => uptoBulk d + 1
 end
def uptoSmall : (H : Type) → List (DataW H) → Bool := fun _ ds => decide (uptoBulkAll ds ≤ 1048576)
def OpenSpec.upto (s : _root_.Go.ChangeSpec) : _root_.Go.OpenSpec := { _root_.Go.OpenSpec.ofChange s with cond := some uptoSmall }

/-- 'laws.FnPadSize', WHERE WHAT IT READS IS OF BULK AT MOST 1048576: true; the input reads as it did. -/
def fnPadSizeUptoRow : OpenClaim := { program := "ytemkgmgdjbpljaadoor", sum := "5e09fef0976d61854c4b789f02279a6e29bab4d0294aa158e9ef59894b94e524", func := "loop.example/obliviousqueries/laws.FnPadSize", spec := "fnPadSize", named := ["loop.example/obliviousqueries/impl.reserved"], apart := false, laid := [("loop.example/obliviousqueries/impl.reserved", laid_loop_example_obliviousqueries_impl_reserved)], narrowed := true }
def FnPadSizeUptoSaid : Prop := fnPadSizeUptoRow.holds Tryd.pinned (OpenSpec.upto fnPadSizeSpec)

/-- 'laws.FnPathOf', WHERE WHAT IT READS IS OF BULK AT MOST 1048576: true; the input reads as it did. -/
def fnPathOfUptoRow : OpenClaim := { program := "ytemkgmgdjbpljaadoor", sum := "5e09fef0976d61854c4b789f02279a6e29bab4d0294aa158e9ef59894b94e524", func := "loop.example/obliviousqueries/laws.FnPathOf", spec := "fnPathOf", named := ["loop.example/obliviousqueries/impl.reserved"], apart := false, laid := [("loop.example/obliviousqueries/impl.reserved", laid_loop_example_obliviousqueries_impl_reserved)], narrowed := true }
def FnPathOfUptoSaid : Prop := fnPathOfUptoRow.holds Tryd.pinned (OpenSpec.upto fnPathOfSpec)

/-- 'laws.FnStreamAt', WHERE WHAT IT READS IS OF BULK AT MOST 1048576: true; the input reads as it did. -/
def fnStreamAtUptoRow : OpenClaim := { program := "ytemkgmgdjbpljaadoor", sum := "5e09fef0976d61854c4b789f02279a6e29bab4d0294aa158e9ef59894b94e524", func := "loop.example/obliviousqueries/laws.FnStreamAt", spec := "fnStreamAt", named := ["loop.example/obliviousqueries/impl.reserved"], apart := false, laid := [("loop.example/obliviousqueries/impl.reserved", laid_loop_example_obliviousqueries_impl_reserved)], narrowed := true }
def FnStreamAtUptoSaid : Prop := fnStreamAtUptoRow.holds Tryd.pinned (OpenSpec.upto fnStreamAtSpec)

/-- 'laws.FnSameTrace', WHERE WHAT IT READS IS OF BULK AT MOST 1048576: true; the input reads as it did. -/
def fnSameTraceUptoRow : OpenClaim := { program := "ytemkgmgdjbpljaadoor", sum := "5e09fef0976d61854c4b789f02279a6e29bab4d0294aa158e9ef59894b94e524", func := "loop.example/obliviousqueries/laws.FnSameTrace", spec := "fnSameTrace", named := ["loop.example/obliviousqueries/impl.reserved"], apart := false, laid := [("loop.example/obliviousqueries/impl.reserved", laid_loop_example_obliviousqueries_impl_reserved)], narrowed := true }
def FnSameTraceUptoSaid : Prop := fnSameTraceUptoRow.holds Tryd.pinned (OpenSpec.upto fnSameTraceSpec)

end Rows
end Go.Proofs.YtemkgmgdjbpljaaDoor
