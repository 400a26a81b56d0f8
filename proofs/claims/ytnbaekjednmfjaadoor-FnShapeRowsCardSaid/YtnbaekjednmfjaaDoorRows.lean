/-
  NARROWER THAN 'FOR EVERY INPUT', by the rows' own cells (each row's printed sentence says how): FnShapesOf: laid · FnShapeRows: laid.
  DERIVED. THE GIVEN ROWS OF THIS SEAT. 2 by the template 'for every input the law returns true; each argument reads behind the call as it read before'; 0 by the template 'total and deterministic' (their statements: YtnbaekjednmfjaaDoorTotals.lean).
  GIVEN WITH THE SEED: the statements are not yours to turn. If you find one false, say at which input.
  Laid BY PROGRAM, IN A SANDBOX (cutbox-rows.mjs): the forced cells as the released guide's own fill.sh prints them over the translation 4fbaeec5f2e805d3… (all of the seat's roots in one cut). By AI agents, Wed Nov 11 2026. No macro, syntax, notation, axiom, sorry.
-/
import Derived.Test.YtnbaekjednmfjaaDoorChecked
import GoSem.Claim
import GoSem.ClaimJoined
import GoSem.ClaimMapViews
import Derived.JoinedTies
import Derived.KernelRfl
namespace Go.Proofs.YtnbaekjednmfjaaDoor
/- THE CELL 'sum', in the pinned program and in every row, IS THE sha256 OF THE DUMP (.gsa) THAT YtnbaekjednmfjaaDoorProg.lean LOADS. Nothing in Lean hashes anything: it is a label: what it is worth is what the hold of that sum in a sandbox is worth. -/
noncomputable def Tryd.pinned : Pinned := { name := "ytnbaekjednmfjaadoor", sum := "4fbaeec5f2e805d31a939966f30cf4b662cc1d76dc9bc5a04eadda3cfdd926c9", checked := Tryd.checked }
namespace Rows
def none {H : Type} : Left H := { results := [], args := [] }

/- WHAT THE LISTED PACKAGE-LEVEL VARIABLES READ AS WHEN THE CALL BEGINS. Each datum BY PROGRAM (the guide's laid-datum.mjs) off the statement by which the dump's own 'gosem.cut.vars' lays the variable. In a bare row this is a premise. The card (YtnbaekjednmfjaaDoorCards.lean) ties it to the program's text. -/
def laid_loop_example_obliviousqueries_impl_reserved {H : Type} : DataW H := .slice [.lit (.string [115, 101, 108, 101, 99, 116]), .lit (.string [102, 114, 111, 109]), .lit (.string [106, 111, 105, 110]), .lit (.string [111, 110]), .lit (.string [119, 104, 101, 114, 101]), .lit (.string [97, 110, 100]), .lit (.string [111, 114]), .lit (.string [103, 114, 111, 117, 112]), .lit (.string [98, 121]), .lit (.string [115, 117, 109]), .lit (.string [111, 114, 100, 101, 114]), .lit (.string [100, 111, 119, 110]), .lit (.string [108, 105, 109, 105, 116])] []

/-- 'laws.FnShapesOf': WHATEVER THE INPUT: true; the input reads as it did. -/
def fnShapesOfSpec : ChangeSpec := { name := "fnShapesOf", vars := ["loop.example/obliviousqueries/impl.reserved"], fn := fun _ => fun
  | [d, g1] => { results := [.lit (.bool true)], args := [d], vars := [g1] }
  | _ => none }
def fnShapesOfRow : OpenClaim := { program := "ytnbaekjednmfjaadoor", sum := "4fbaeec5f2e805d31a939966f30cf4b662cc1d76dc9bc5a04eadda3cfdd926c9", func := "loop.example/obliviousqueries/laws.FnShapesOf", spec := "fnShapesOf", unfollowed := true, recurses := true, named := ["loop.example/obliviousqueries/impl.reserved"], apart := false, laid := [("loop.example/obliviousqueries/impl.reserved", laid_loop_example_obliviousqueries_impl_reserved)] }
def FnShapesOfSaid : Prop := fnShapesOfRow.holds Tryd.pinned (OpenSpec.ofChange fnShapesOfSpec)

/-- ITS FALSE NEIGHBOUR: 'it returns false'. Refute it at one input. -/
def fnShapesOfWrong : ChangeSpec := { name := "fnShapesOf", vars := ["loop.example/obliviousqueries/impl.reserved"], fn := fun _ => fun
  | [d, g1] => { results := [.lit (.bool false)], args := [d], vars := [g1] }
  | _ => none }
def FnShapesOfWrongFalsely : Prop := fnShapesOfRow.holds Tryd.pinned (OpenSpec.ofChange fnShapesOfWrong)

/-- 'laws.FnShapeRows': WHATEVER THE INPUT: true; the input reads as it did. -/
def fnShapeRowsSpec : ChangeSpec := { name := "fnShapeRows", vars := ["loop.example/obliviousqueries/impl.reserved"], fn := fun _ => fun
  | [d, g1] => { results := [.lit (.bool true)], args := [d], vars := [g1] }
  | _ => none }
def fnShapeRowsRow : OpenClaim := { program := "ytnbaekjednmfjaadoor", sum := "4fbaeec5f2e805d31a939966f30cf4b662cc1d76dc9bc5a04eadda3cfdd926c9", func := "loop.example/obliviousqueries/laws.FnShapeRows", spec := "fnShapeRows", unfollowed := true, recurses := true, named := ["loop.example/obliviousqueries/impl.reserved"], apart := false, laid := [("loop.example/obliviousqueries/impl.reserved", laid_loop_example_obliviousqueries_impl_reserved)] }
def FnShapeRowsSaid : Prop := fnShapeRowsRow.holds Tryd.pinned (OpenSpec.ofChange fnShapeRowsSpec)

/-- ITS FALSE NEIGHBOUR: 'it returns false'. Refute it at one input. -/
def fnShapeRowsWrong : ChangeSpec := { name := "fnShapeRows", vars := ["loop.example/obliviousqueries/impl.reserved"], fn := fun _ => fun
  | [d, g1] => { results := [.lit (.bool false)], args := [d], vars := [g1] }
  | _ => none }
def FnShapeRowsWrongFalsely : Prop := fnShapeRowsRow.holds Tryd.pinned (OpenSpec.ofChange fnShapeRowsWrong)

/- THE SECOND FORM. 'bulk': how many values and letters a reading holds, each counted each time it is reached (what is shared counts as often as it is met; a slice's spare places count too). A statement '..UptoSaid' is the law's where the arguments, and the package variables that the reading takes, are together of bulk at most 1048576: NARROWER than '..Said'. Prove '..Said' where nothing that the law and all that it calls make is longer than what came in: it says more and counts as full. Else prove '..UptoSaid'. A law counts once. -/
mutual
def uptoBulk {H : Type} : DataW H → Nat
  | .lit (.string bytes) => bytes.length + 1
  | .lit _ => 1
  | .nil => 1
  | .ptr d => uptoBulk d + 1
  | .slice elems spare => uptoBulkAll elems + uptoBulkAll spare + 1
  | .agg parts => uptoBulkAll parts + 1
  | .iface _ d => uptoBulk d + 1
  | .map entries => uptoBulkEntries entries + 1
  | .held _ => 1
def uptoBulkAll {H : Type} : List (DataW H) → Nat
  | [] => 0
  | d :: r => uptoBulk d + uptoBulkAll r
def uptoBulkEntries {H : Type} : List (Lit × DataW H) → Nat
  | [] => 0
  | x :: r => uptoBulkEntry x + uptoBulkEntries r
def uptoBulkEntry {H : Type} : Lit × DataW H → Nat
  | (.string bytes, d) => bytes.length + uptoBulk d + 1
  | (_, d) => uptoBulk d + 1
 end
def uptoSmall : (H : Type) → List (DataW H) → Bool := fun _ ds => decide (uptoBulkAll ds ≤ 1048576)
def OpenSpec.upto (s : _root_.Go.ChangeSpec) : _root_.Go.OpenSpec := { _root_.Go.OpenSpec.ofChange s with cond := some uptoSmall }

/-- 'laws.FnShapesOf', WHERE WHAT IT READS IS OF BULK AT MOST 1048576: true; the input reads as it did. -/
def fnShapesOfUptoRow : OpenClaim := { program := "ytnbaekjednmfjaadoor", sum := "4fbaeec5f2e805d31a939966f30cf4b662cc1d76dc9bc5a04eadda3cfdd926c9", func := "loop.example/obliviousqueries/laws.FnShapesOf", spec := "fnShapesOf", unfollowed := true, recurses := true, named := ["loop.example/obliviousqueries/impl.reserved"], apart := false, laid := [("loop.example/obliviousqueries/impl.reserved", laid_loop_example_obliviousqueries_impl_reserved)], narrowed := true }
def FnShapesOfUptoSaid : Prop := fnShapesOfUptoRow.holds Tryd.pinned (OpenSpec.upto fnShapesOfSpec)

/-- 'laws.FnShapeRows', WHERE WHAT IT READS IS OF BULK AT MOST 1048576: true; the input reads as it did. -/
def fnShapeRowsUptoRow : OpenClaim := { program := "ytnbaekjednmfjaadoor", sum := "4fbaeec5f2e805d31a939966f30cf4b662cc1d76dc9bc5a04eadda3cfdd926c9", func := "loop.example/obliviousqueries/laws.FnShapeRows", spec := "fnShapeRows", unfollowed := true, recurses := true, named := ["loop.example/obliviousqueries/impl.reserved"], apart := false, laid := [("loop.example/obliviousqueries/impl.reserved", laid_loop_example_obliviousqueries_impl_reserved)], narrowed := true }
def FnShapeRowsUptoSaid : Prop := fnShapeRowsUptoRow.holds Tryd.pinned (OpenSpec.upto fnShapeRowsSpec)

end Rows
end Go.Proofs.YtnbaekjednmfjaaDoor
