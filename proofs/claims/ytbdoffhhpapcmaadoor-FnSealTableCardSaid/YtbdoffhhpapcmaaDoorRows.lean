/-
  NARROWER THAN 'FOR EVERY INPUT', by the rows' own cells (each row's printed sentence says how): FnSealTable: laid · FnExactSealTable: laid · FnOpenTable: laid · FnSealAgain: laid · FnExactSealAgain: laid · FnExactOpenTable: laid.
  DERIVED. THE GIVEN ROWS OF THIS SEAT. 6 by the template 'for every input the law returns true; each argument reads behind the call as it read before'; 0 by the template 'total and deterministic' (their statements: YtbdoffhhpapcmaaDoorTotals.lean).
  GIVEN WITH THE SEED: the statements are not yours to turn. If you find one false, say at which input.
  Laid BY PROGRAM, IN A SANDBOX (cutbox-rows.mjs): the forced cells as the released guide's own fill.sh prints them over the translation 2b145281409305e2… (all of the seat's roots in one cut). By AI agents, Wed Nov 11 2026. No macro, syntax, notation, axiom, sorry.
-/
import Derived.Test.YtbdoffhhpapcmaaDoorChecked
import GoSem.Claim
import GoSem.ClaimJoined
import GoSem.ClaimMapViews
import Derived.JoinedTies
import Derived.KernelRfl
namespace Go.Proofs.YtbdoffhhpapcmaaDoor
/- THE CELL 'sum', in the pinned program and in every row, IS THE sha256 OF THE DUMP (.gsa) THAT YtbdoffhhpapcmaaDoorProg.lean LOADS. Nothing in Lean hashes anything: it is a label: what it is worth is what the hold of that sum in a sandbox is worth. -/
noncomputable def Tryd.pinned : Pinned := { name := "ytbdoffhhpapcmaadoor", sum := "2b145281409305e2da00f614e3363380ea290d55efb1b0f35de29406fe6ecce9", checked := Tryd.checked }
namespace Rows
def none {H : Type} : Left H := { results := [], args := [] }

/- WHAT THE LISTED PACKAGE-LEVEL VARIABLES READ AS WHEN THE CALL BEGINS. Each datum BY PROGRAM (the guide's laid-datum.mjs) off the statement by which the dump's own 'gosem.cut.vars' lays the variable. In a bare row this is a premise. The card (YtbdoffhhpapcmaaDoorCards.lean) ties it to the program's text. -/
def laid_loop_example_obliviousqueries_impl_reserved {H : Type} : DataW H := .slice [.lit (.string [115, 101, 108, 101, 99, 116]), .lit (.string [102, 114, 111, 109]), .lit (.string [106, 111, 105, 110]), .lit (.string [111, 110]), .lit (.string [119, 104, 101, 114, 101]), .lit (.string [97, 110, 100]), .lit (.string [111, 114]), .lit (.string [103, 114, 111, 117, 112]), .lit (.string [98, 121]), .lit (.string [115, 117, 109]), .lit (.string [111, 114, 100, 101, 114]), .lit (.string [100, 111, 119, 110]), .lit (.string [108, 105, 109, 105, 116])] []

/-- 'laws.FnSealTable': WHATEVER THE INPUT: true; the input reads as it did. -/
def fnSealTableSpec : ChangeSpec := { name := "fnSealTable", vars := ["loop.example/obliviousqueries/impl.reserved"], fn := fun _ => fun
  | [d, g1] => { results := [.lit (.bool true)], args := [d], vars := [g1] }
  | _ => none }
def fnSealTableRow : OpenClaim := { program := "ytbdoffhhpapcmaadoor", sum := "2b145281409305e2da00f614e3363380ea290d55efb1b0f35de29406fe6ecce9", func := "loop.example/obliviousqueries/laws.FnSealTable", spec := "fnSealTable", unfollowed := true, recurses := true, named := ["loop.example/obliviousqueries/impl.reserved"], apart := false, laid := [("loop.example/obliviousqueries/impl.reserved", laid_loop_example_obliviousqueries_impl_reserved)] }
def FnSealTableSaid : Prop := fnSealTableRow.holds Tryd.pinned (OpenSpec.ofChange fnSealTableSpec)

/-- ITS FALSE NEIGHBOUR: 'it returns false'. Refute it at one input. -/
def fnSealTableWrong : ChangeSpec := { name := "fnSealTable", vars := ["loop.example/obliviousqueries/impl.reserved"], fn := fun _ => fun
  | [d, g1] => { results := [.lit (.bool false)], args := [d], vars := [g1] }
  | _ => none }
def FnSealTableWrongFalsely : Prop := fnSealTableRow.holds Tryd.pinned (OpenSpec.ofChange fnSealTableWrong)

/-- 'laws.FnExactSealTable': WHATEVER THE INPUT: true; the input reads as it did. -/
def fnExactSealTableSpec : ChangeSpec := { name := "fnExactSealTable", vars := ["loop.example/obliviousqueries/impl.reserved"], fn := fun _ => fun
  | [d1, d2, d3, g1] => { results := [.lit (.bool true)], args := [d1, d2, d3], vars := [g1] }
  | _ => none }
def fnExactSealTableRow : OpenClaim := { program := "ytbdoffhhpapcmaadoor", sum := "2b145281409305e2da00f614e3363380ea290d55efb1b0f35de29406fe6ecce9", func := "loop.example/obliviousqueries/laws.FnExactSealTable", spec := "fnExactSealTable", unfollowed := true, recurses := true, named := ["loop.example/obliviousqueries/impl.reserved"], apart := false, laid := [("loop.example/obliviousqueries/impl.reserved", laid_loop_example_obliviousqueries_impl_reserved)] }
def FnExactSealTableSaid : Prop := fnExactSealTableRow.holds Tryd.pinned (OpenSpec.ofChange fnExactSealTableSpec)

/-- ITS FALSE NEIGHBOUR: 'it returns false'. Refute it at one input. -/
def fnExactSealTableWrong : ChangeSpec := { name := "fnExactSealTable", vars := ["loop.example/obliviousqueries/impl.reserved"], fn := fun _ => fun
  | [d1, d2, d3, g1] => { results := [.lit (.bool false)], args := [d1, d2, d3], vars := [g1] }
  | _ => none }
def FnExactSealTableWrongFalsely : Prop := fnExactSealTableRow.holds Tryd.pinned (OpenSpec.ofChange fnExactSealTableWrong)

/-- 'laws.FnOpenTable': WHATEVER THE INPUT: true; the input reads as it did. -/
def fnOpenTableSpec : ChangeSpec := { name := "fnOpenTable", vars := ["loop.example/obliviousqueries/impl.reserved"], fn := fun _ => fun
  | [d, g1] => { results := [.lit (.bool true)], args := [d], vars := [g1] }
  | _ => none }
def fnOpenTableRow : OpenClaim := { program := "ytbdoffhhpapcmaadoor", sum := "2b145281409305e2da00f614e3363380ea290d55efb1b0f35de29406fe6ecce9", func := "loop.example/obliviousqueries/laws.FnOpenTable", spec := "fnOpenTable", unfollowed := true, recurses := true, named := ["loop.example/obliviousqueries/impl.reserved"], apart := false, laid := [("loop.example/obliviousqueries/impl.reserved", laid_loop_example_obliviousqueries_impl_reserved)] }
def FnOpenTableSaid : Prop := fnOpenTableRow.holds Tryd.pinned (OpenSpec.ofChange fnOpenTableSpec)

/-- ITS FALSE NEIGHBOUR: 'it returns false'. Refute it at one input. -/
def fnOpenTableWrong : ChangeSpec := { name := "fnOpenTable", vars := ["loop.example/obliviousqueries/impl.reserved"], fn := fun _ => fun
  | [d, g1] => { results := [.lit (.bool false)], args := [d], vars := [g1] }
  | _ => none }
def FnOpenTableWrongFalsely : Prop := fnOpenTableRow.holds Tryd.pinned (OpenSpec.ofChange fnOpenTableWrong)

/-- 'laws.FnSealAgain': WHATEVER THE INPUT: true; the input reads as it did. -/
def fnSealAgainSpec : ChangeSpec := { name := "fnSealAgain", vars := ["loop.example/obliviousqueries/impl.reserved"], fn := fun _ => fun
  | [d, g1] => { results := [.lit (.bool true)], args := [d], vars := [g1] }
  | _ => none }
def fnSealAgainRow : OpenClaim := { program := "ytbdoffhhpapcmaadoor", sum := "2b145281409305e2da00f614e3363380ea290d55efb1b0f35de29406fe6ecce9", func := "loop.example/obliviousqueries/laws.FnSealAgain", spec := "fnSealAgain", unfollowed := true, recurses := true, named := ["loop.example/obliviousqueries/impl.reserved"], apart := false, laid := [("loop.example/obliviousqueries/impl.reserved", laid_loop_example_obliviousqueries_impl_reserved)] }
def FnSealAgainSaid : Prop := fnSealAgainRow.holds Tryd.pinned (OpenSpec.ofChange fnSealAgainSpec)

/-- ITS FALSE NEIGHBOUR: 'it returns false'. Refute it at one input. -/
def fnSealAgainWrong : ChangeSpec := { name := "fnSealAgain", vars := ["loop.example/obliviousqueries/impl.reserved"], fn := fun _ => fun
  | [d, g1] => { results := [.lit (.bool false)], args := [d], vars := [g1] }
  | _ => none }
def FnSealAgainWrongFalsely : Prop := fnSealAgainRow.holds Tryd.pinned (OpenSpec.ofChange fnSealAgainWrong)

/-- 'laws.FnExactSealAgain': WHATEVER THE INPUT: true; the input reads as it did. -/
def fnExactSealAgainSpec : ChangeSpec := { name := "fnExactSealAgain", vars := ["loop.example/obliviousqueries/impl.reserved"], fn := fun _ => fun
  | [d1, d2, d3, d4, g1] => { results := [.lit (.bool true)], args := [d1, d2, d3, d4], vars := [g1] }
  | _ => none }
def fnExactSealAgainRow : OpenClaim := { program := "ytbdoffhhpapcmaadoor", sum := "2b145281409305e2da00f614e3363380ea290d55efb1b0f35de29406fe6ecce9", func := "loop.example/obliviousqueries/laws.FnExactSealAgain", spec := "fnExactSealAgain", unfollowed := true, recurses := true, named := ["loop.example/obliviousqueries/impl.reserved"], apart := false, laid := [("loop.example/obliviousqueries/impl.reserved", laid_loop_example_obliviousqueries_impl_reserved)] }
def FnExactSealAgainSaid : Prop := fnExactSealAgainRow.holds Tryd.pinned (OpenSpec.ofChange fnExactSealAgainSpec)

/-- ITS FALSE NEIGHBOUR: 'it returns false'. Refute it at one input. -/
def fnExactSealAgainWrong : ChangeSpec := { name := "fnExactSealAgain", vars := ["loop.example/obliviousqueries/impl.reserved"], fn := fun _ => fun
  | [d1, d2, d3, d4, g1] => { results := [.lit (.bool false)], args := [d1, d2, d3, d4], vars := [g1] }
  | _ => none }
def FnExactSealAgainWrongFalsely : Prop := fnExactSealAgainRow.holds Tryd.pinned (OpenSpec.ofChange fnExactSealAgainWrong)

/-- 'laws.FnExactOpenTable': WHATEVER THE INPUT: true; the input reads as it did. -/
def fnExactOpenTableSpec : ChangeSpec := { name := "fnExactOpenTable", vars := ["loop.example/obliviousqueries/impl.reserved"], fn := fun _ => fun
  | [d1, d2, d3, g1] => { results := [.lit (.bool true)], args := [d1, d2, d3], vars := [g1] }
  | _ => none }
def fnExactOpenTableRow : OpenClaim := { program := "ytbdoffhhpapcmaadoor", sum := "2b145281409305e2da00f614e3363380ea290d55efb1b0f35de29406fe6ecce9", func := "loop.example/obliviousqueries/laws.FnExactOpenTable", spec := "fnExactOpenTable", unfollowed := true, recurses := true, named := ["loop.example/obliviousqueries/impl.reserved"], apart := false, laid := [("loop.example/obliviousqueries/impl.reserved", laid_loop_example_obliviousqueries_impl_reserved)] }
def FnExactOpenTableSaid : Prop := fnExactOpenTableRow.holds Tryd.pinned (OpenSpec.ofChange fnExactOpenTableSpec)

/-- ITS FALSE NEIGHBOUR: 'it returns false'. Refute it at one input. -/
def fnExactOpenTableWrong : ChangeSpec := { name := "fnExactOpenTable", vars := ["loop.example/obliviousqueries/impl.reserved"], fn := fun _ => fun
  | [d1, d2, d3, g1] => { results := [.lit (.bool false)], args := [d1, d2, d3], vars := [g1] }
  | _ => none }
def FnExactOpenTableWrongFalsely : Prop := fnExactOpenTableRow.holds Tryd.pinned (OpenSpec.ofChange fnExactOpenTableWrong)

/- THE SECOND FORM. 'bulk': how many values and letters a reading holds, each counted each time it is reached (what is shared counts as often as it is met; a slice's spare places count too). A statement '..UptoSaid' is the law's where the arguments, and the package variables that the reading takes, are together of bulk at most 1048576: NARROWER than '..Said'. Prove '..Said' where nothing that the law and all that it calls make is longer than what came in: it says more and counts as full. Else prove '..UptoSaid'. A law counts once. -/
mutual
def uptoBulk {H : Type} : DataW H → Nat
  | .lit (.string bytes) => bytes.length + 1
  | .lit _ => 1
  | .nil => 1
  | .ptr d => uptoBulk d + 1
  | .slice elems spare => uptoBulkAll elems + uptoBulkAll spare + 1
  | .agg parts => uptoBulkAll parts + 1
  | .iface _ d => uptoBulk d + 1
  | .map entries => uptoBulkEntries entries + 1
  | .held _ => 1
def uptoBulkAll {H : Type} : List (DataW H) → Nat
  | [] => 0
  | d :: r => uptoBulk d + uptoBulkAll r
def uptoBulkEntries {H : Type} : List (Lit × DataW H) → Nat
  | [] => 0
  | x :: r => uptoBulkEntry x + uptoBulkEntries r
def uptoBulkEntry {H : Type} : Lit × DataW H → Nat
  | (.string bytes, d) => bytes.length + uptoBulk d + 1
  | (_, d) => uptoBulk d + 1
 end
def uptoSmall : (H : Type) → List (DataW H) → Bool := fun _ ds => decide (uptoBulkAll ds ≤ 1048576)
def OpenSpec.upto (s : _root_.Go.ChangeSpec) : _root_.Go.OpenSpec := { _root_.Go.OpenSpec.ofChange s with cond := some uptoSmall }

/-- 'laws.FnSealTable', WHERE WHAT IT READS IS OF BULK AT MOST 1048576: true; the input reads as it did. -/
def fnSealTableUptoRow : OpenClaim := { program := "ytbdoffhhpapcmaadoor", sum := "2b145281409305e2da00f614e3363380ea290d55efb1b0f35de29406fe6ecce9", func := "loop.example/obliviousqueries/laws.FnSealTable", spec := "fnSealTable", unfollowed := true, recurses := true, named := ["loop.example/obliviousqueries/impl.reserved"], apart := false, laid := [("loop.example/obliviousqueries/impl.reserved", laid_loop_example_obliviousqueries_impl_reserved)], narrowed := true }
def FnSealTableUptoSaid : Prop := fnSealTableUptoRow.holds Tryd.pinned (OpenSpec.upto fnSealTableSpec)

/-- 'laws.FnExactSealTable', WHERE WHAT IT READS IS OF BULK AT MOST 1048576: true; the input reads as it did. -/
def fnExactSealTableUptoRow : OpenClaim := { program := "ytbdoffhhpapcmaadoor", sum := "2b145281409305e2da00f614e3363380ea290d55efb1b0f35de29406fe6ecce9", func := "loop.example/obliviousqueries/laws.FnExactSealTable", spec := "fnExactSealTable", unfollowed := true, recurses := true, named := ["loop.example/obliviousqueries/impl.reserved"], apart := false, laid := [("loop.example/obliviousqueries/impl.reserved", laid_loop_example_obliviousqueries_impl_reserved)], narrowed := true }
def FnExactSealTableUptoSaid : Prop := fnExactSealTableUptoRow.holds Tryd.pinned (OpenSpec.upto fnExactSealTableSpec)

/-- 'laws.FnOpenTable', WHERE WHAT IT READS IS OF BULK AT MOST 1048576: true; the input reads as it did. -/
def fnOpenTableUptoRow : OpenClaim := { program := "ytbdoffhhpapcmaadoor", sum := "2b145281409305e2da00f614e3363380ea290d55efb1b0f35de29406fe6ecce9", func := "loop.example/obliviousqueries/laws.FnOpenTable", spec := "fnOpenTable", unfollowed := true, recurses := true, named := ["loop.example/obliviousqueries/impl.reserved"], apart := false, laid := [("loop.example/obliviousqueries/impl.reserved", laid_loop_example_obliviousqueries_impl_reserved)], narrowed := true }
def FnOpenTableUptoSaid : Prop := fnOpenTableUptoRow.holds Tryd.pinned (OpenSpec.upto fnOpenTableSpec)

/-- 'laws.FnSealAgain', WHERE WHAT IT READS IS OF BULK AT MOST 1048576: true; the input reads as it did. -/
def fnSealAgainUptoRow : OpenClaim := { program := "ytbdoffhhpapcmaadoor", sum := "2b145281409305e2da00f614e3363380ea290d55efb1b0f35de29406fe6ecce9", func := "loop.example/obliviousqueries/laws.FnSealAgain", spec := "fnSealAgain", unfollowed := true, recurses := true, named := ["loop.example/obliviousqueries/impl.reserved"], apart := false, laid := [("loop.example/obliviousqueries/impl.reserved", laid_loop_example_obliviousqueries_impl_reserved)], narrowed := true }
def FnSealAgainUptoSaid : Prop := fnSealAgainUptoRow.holds Tryd.pinned (OpenSpec.upto fnSealAgainSpec)

/-- 'laws.FnExactSealAgain', WHERE WHAT IT READS IS OF BULK AT MOST 1048576: true; the input reads as it did. -/
def fnExactSealAgainUptoRow : OpenClaim := { program := "ytbdoffhhpapcmaadoor", sum := "2b145281409305e2da00f614e3363380ea290d55efb1b0f35de29406fe6ecce9", func := "loop.example/obliviousqueries/laws.FnExactSealAgain", spec := "fnExactSealAgain", unfollowed := true, recurses := true, named := ["loop.example/obliviousqueries/impl.reserved"], apart := false, laid := [("loop.example/obliviousqueries/impl.reserved", laid_loop_example_obliviousqueries_impl_reserved)], narrowed := true }
def FnExactSealAgainUptoSaid : Prop := fnExactSealAgainUptoRow.holds Tryd.pinned (OpenSpec.upto fnExactSealAgainSpec)

/-- 'laws.FnExactOpenTable', WHERE WHAT IT READS IS OF BULK AT MOST 1048576: true; the input reads as it did. -/
def fnExactOpenTableUptoRow : OpenClaim := { program := "ytbdoffhhpapcmaadoor", sum := "2b145281409305e2da00f614e3363380ea290d55efb1b0f35de29406fe6ecce9", func := "loop.example/obliviousqueries/laws.FnExactOpenTable", spec := "fnExactOpenTable", unfollowed := true, recurses := true, named := ["loop.example/obliviousqueries/impl.reserved"], apart := false, laid := [("loop.example/obliviousqueries/impl.reserved", laid_loop_example_obliviousqueries_impl_reserved)], narrowed := true }
def FnExactOpenTableUptoSaid : Prop := fnExactOpenTableUptoRow.holds Tryd.pinned (OpenSpec.upto fnExactOpenTableSpec)

end Rows
end Go.Proofs.YtbdoffhhpapcmaaDoor
